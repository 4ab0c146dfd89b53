/- Contracts of chapter 15: the document's answer; ShootPlays. -/
import Derived.Test.YtfngkeegfjihlaaC3
namespace Go.SF.C15
open Go Go.SF Go.Proofs
set_option linter.unusedVariables false

def K3 : List CK := [.i .i64, .i .i64, .i .i64]
def n9 : SI := .v 9
def xC (Q : SL) (n : SI) : AObj := .cells [.vs 1 (.c 0) (.len Q) none, .i .i64 n] 46
def xL (Q : SL) : AObj := .lists 1 K3 38 59 Q none
def rO (Q : SL) (n : SI) : List AObj := [xC Q n, .dead, xL Q]
def rO' (Q : SL) (n : SI) : List AObj := [xC Q n, .dead, .dead, xL Q]
def rw3 (Q : SL) (i : SI) : SL := .app 18 (.i (.c 3) (.l Q (.i i .nil)))
def rF : List SB := [.le (.c 1) (.len Q1), .le (.len Q1) (.c 8), .le (.c 0) n9, .le n9 (.c 1000)]
def rq (Q : SL) (n : SI) : SB := .app 139 (.l Q (.i n .nil))
def rNew : FnC := FnC.mk 9 [ii x0] [] []
  [TOut.mk [.or (.lt x0 (.c 1)) (.lt (.c 8) x0)] .norm [(0, tup (.p (some ⟨0, .c 0, 0⟩)) (.i .i64 (.c 1)))] [.dead] [],
   TOut.mk [.le (.c 1) x0, .le x0 (.c 8), .eq (.len (nilq x0)) x0] .norm [(0, tup (.p (some ⟨0, .c 0, 0⟩)) (.i .i64 (.c 0)))] (rO (nilq x0) (.c 0)) []]
/-- Post. -/
def fulG (i : SI) : SB := aB 143 Q1 [x0, i]
def rp6 : LpC := LpC.mk 11 6 105
  (Tm.mk [(0, pt 0), (1, ii x0), (2, ii x1), (3, ii x2), (10, ii x3)] (rO Q1 n9) (rF ++ [.le (.c 0) x3, .le x3 (.len Q1)]))
  [TOut.mk [.not (fulG x3)] (.exit 0) [(0, pt 0), (1, ii x0), (2, ii x1), (3, ii x2)] (rO' Q1 n9) [2],
   TOut.mk [fulG x3] .ret [(8, ii (.c 0)), (9, ii (.c 3))] (rO' Q1 n9) [2]]
def kr1 : SI := .sub (.len Q1) x3
noncomputable def v1 : Tbl := addLp Φ noTbl rp6
def pG (i : SI) : SL := aL 119 Q1 [x0, n9, x1, x2, i]
def low (Q : SL) (i : SI) : SB := aB 145 Q [i]
def rp12 : LpC := LpC.mk 11 12 105
  (Tm.mk [(0, pt 0), (1, ii x0), (2, ii x1), (3, ii x2), (11, ii x3)] (rO Q1 n9) (rF ++ [.le (.c 0) x3, .le x3 (.len Q1), .c true, .le (.len (rw3 Q1 x3)) (.c 40), low Q1 x3]))
  [TOut.mk [.eq (.len (pG x3)) (.len Q1)] (.exit 2) [(0, pt 0)] (rO' (pG x3) n9) [0, 2]]
noncomputable def v2 : Tbl := addLp Φ v1 rp12
def m9 : SI := .add n9 (.c 1)
def qP : SL := aL 110 Q1 [x0, m9, x1, x2]
def hasQ : SB := .and (.le (.c 0) x0) (.lt x0 (.len Q1))
def fulQ : SB := aB 131 Q1 [x0]
def rA : List SB := [.c true, rq Q1 n9]
def rPost : FnC := FnC.mk 11 [pt 0, ii x0, ii x1, ii x2] (rO Q1 n9) (rF ++ [.lt n9 (.c 900)] ++ rA)
  [TOut.mk [.not hasQ] .norm [(0, tup (.i .i64 (.c 0)) (.i .i64 (.c 2)))] (rO Q1 n9) [],
   TOut.mk [.le (.c 0) x0, .lt x0 (.len Q1), badA] .norm [(0, tup (.i .i64 (.c 0)) (.i .i64 (.c 1)))] (rO Q1 n9) [],
   TOut.mk [.le (.c 0) x0, .lt x0 (.len Q1), .not badA, fulQ] .norm [(0, tup (.i .i64 (.c 0)) (.i .i64 (.c 3)))] (rO' Q1 n9) [2],
   TOut.mk [.le (.c 0) x0, .lt x0 (.len Q1), .not badA, .not fulQ, .eq (.len qP) (.len Q1)] .norm [(0, tup (.i .i64 m9) (.i .i64 (.c 0)))] (rO' qP m9) [0, 2]]
/-- Take, Waits. -/
def rTake : FnC := FnC.mk 13 [pt 0, ii x0] (rO Q1 n9) (rF ++ rA)
  [TOut.mk [.not hasQ] .norm [(0, .tup [ask0, .inl (.b (.c false))])] (rO Q1 n9) [],
   TOut.mk [.le (.c 0) x0, .lt x0 (.len Q1), .eq qL (.c 0)] .norm [(0, .tup [ask0, .inl (.b (.c false))])] (rO' Q1 n9) [2],
   TOut.mk [.le (.c 0) x0, .lt x0 (.len Q1), .lt (.c 0) qL, .eq (.len tM) (.len Q1)] .norm [(0, .tup [.inr [.i .i64 (mg 0), .i .i64 (mg 1), .i .i64 (mg 2)], .inl (.b (.c true))])] (rO' tM n9) [2]]
def rWaits : FnC := FnC.mk 16 [pt 0, ii x0] (rO Q1 n9) (rF ++ rA)
  [TOut.mk [.not hasQ] .norm [(0, ii (.c 0))] (rO Q1 n9) [],
   TOut.mk [.le (.c 0) x0, .lt x0 (.len Q1), .le (.c 0) qL, .le qL (.c 16)] .norm [(0, ii qL)] (rO' Q1 n9) [2]]
/-- Done. -/
def inRe (i k : SI) : SB := aB 140 Q1 [i, k, x0]
def inAe (i : SI) : SB := aB 141 Q1 [i, x0]
def rd5 : LpC := LpC.mk 18 5 51
  (Tm.mk [(0, pt 0), (1, ii x0), (5, ii x1), (6, ii x2)] (rO Q1 n9) (rF ++ [.le (.c 0) x1, .lt x1 (.len Q1), .le (.c 0) x2, .c true, .le x2 (.len (rw3 Q1 x1)), .le (.len (rw3 Q1 x1)) (.c 40)]))
  [TOut.mk [.not (inRe x1 x2)] (.exit 2) [(0, pt 0), (1, ii x0), (5, ii x1)] (rO' Q1 n9) [2], TOut.mk [inRe x1 x2] .ret [(4, bb (.c false))] (rO' Q1 n9) [2]]
def kd5 : SI := .sub (.len (rw3 Q1 x1)) x2
noncomputable def v3 : Tbl := addLp Φ noTbl rd5
def rd2 : LpC := LpC.mk 18 2 51
  (Tm.mk [(0, pt 0), (1, ii x0), (5, ii x1)] (rO Q1 n9) (rF ++ [.le (.c 0) x1, .le x1 (.len Q1), .c true, low Q1 (.c 0)]))
  [TOut.mk [.not (inAe x1)] (.exit 0) [(0, pt 0), (1, ii x0)] (rO' Q1 n9) [2], TOut.mk [inAe x1] .ret [(4, bb (.c false))] (rO' Q1 n9) [2]]
def kd2 : SI := .sub (.len Q1) x1
noncomputable def v4 : Tbl := addLp Φ v3 rd2
def dnE (i : SI) : SB := aB 144 Q1 [n9, i]
def rDone : FnC := FnC.mk 18 [pt 0, ii x0] (rO Q1 n9) (rF ++ [.c true, low Q1 (.c 0)]) [TOut.mk [] .norm [(0, bb (dnE x0))] (rO' Q1 n9) [2]]
/-- Open. -/
noncomputable def v5 : Tbl := addFn Φ v4 rDone
def opE (i : SI) : SL := aL 120 Q1 [n9, i]
def opC (i : SI) : SL := .app 0 (.l L4 (.l (opE i) .nil))
def ro3 : LpC := LpC.mk 21 3 22
  (Tm.mk [(0, pt 0), (3, vs 3 L4), (4, ii x1)] (rO Q1 n9 ++ [vecI L4]) (rF ++ [.le (.c 1) x1, .le x1 (.add n9 (.c 1)), .le (.len L4) x1, .c true, low Q1 (.c 0)]))
  [TOut.mk [.le (.len (opC x1)) (.add n9 (.c 1))] (.exit 0) [(3, vs 4 (opC x1))] [xC Q1 n9, .dead, .dead, .dead, vecI (opC x1), xL Q1] [2, 3]]
def ko3 : SI := .sub (.add n9 (.c 1)) x1
noncomputable def v6 : Tbl := addLp Φ v5 ro3
def rOpen : FnC := FnC.mk 21 [pt 0] (rO Q1 n9) (rF ++ [.c true, low Q1 (.c 0)])
  [TOut.mk [.le (.len (opE (.c 1))) (.add n9 (.c 1))] .norm [(0, vs 3 (opE (.c 1)))] [xC Q1 n9, .dead, .dead, vecI (opE (.c 1)), xL Q1] [2]]
/-- Ints. -/
def A5 : SL := .v 5
def A6 : SL := .v 6
def in4 : LpC := LpC.mk 19 4 26
  (Tm.mk [(0, vs 0 A5), (1, vs 1 A6), (5, ii x1)] [vecI A5, vecI A6] [.le (.c 0) x1, .le x1 (.len A5), .eq (.len A5) (.len A6), .le (.len A5) (.c 2000), .c true, .app 142 (.l A5 (.l A6 (.i x1 .nil)))])
  [TOut.mk [.eqL A5 A6] (.exit 0) [] [vecI A5, vecI A6] [], TOut.mk [.not (.eqL A5 A6)] .ret [(4, bb (.c false))] [vecI A5, vecI A6] []]
def ki4 : SI := .sub (.len A5) x1
noncomputable def v7 : Tbl := addLp Φ noTbl in4
def cInts : FnC := FnC.mk 19 [vs 0 A5, vs 1 A6] [vecI A5, vecI A6] [.le (.len A5) (.c 2000), .le (.len A6) (.c 2000)]
  [TOut.mk [.eqL A5 A6] .norm [(0, bb (.c true))] [vecI A5, vecI A6] [], TOut.mk [.not (.eqL A5 A6)] .norm [(0, bb (.c false))] [vecI A5, vecI A6] []]
/-- What both answer, told alike. -/
def wtE : SI := aI 102 Q1 [x0]
def cWt : FnC := FnC.mk 15 [pt 0, ii x0] (bxO T0 Q1 O2) (there ++ inv0) [TOut.mk [] .norm [(0, ii wtE)] (bxO T0 Q1 O2) []]
def rWt : FnC := FnC.mk 16 [pt 0, ii x0] (rO Q1 n9) (rF ++ rA) [TOut.mk [] .norm [(0, ii wtE)] (rO' Q1 n9) [2]]
def cDn : FnC := FnC.mk 17 [pt 0, ii x0] (bxO T0 Q1 O2) (there ++ inv0) [TOut.mk [] .norm [(0, bb (aB 144 Q1 [.len O2, x0]))] (bxO T0 Q1 O2) []]
def opX : SL := aL 120 Q1 [.len O2, .c 1]
def cOp : FnC := FnC.mk 20 [pt 0] (bxO T0 Q1 O2) (there ++ inv0) [TOut.mk [.le (.len opX) (.c 1000)] .norm [(0, vs 4 opX)] (bxO T0 Q1 O2 ++ [vecI opX]) []]
/-- The law. -/
noncomputable def v8 : Tbl := addFn Φ (addFn Φ (addFn Φ (addFn Φ (addFn Φ (addFn Φ (addFn Φ (addFn Φ (addFn Φ t7 rPost) rTake) rWt) rDone) rOpen) cInts) cWt) cDn) cOp
def xC' (k : Nat) (Q : SL) (n : SI) : AObj := .cells [.vs k (.c 0) (.len Q) none, .i .i64 n] 46
def pyO (Q O : SL) : List AObj := bxO T0 Q O ++ [scrO, .cells [.vs 6 (.c 0) (.len Q) none, .i .i64 (.len O)] 46, .dead, .lists 6 K3 38 59 Q none]
def op4 : AObj := .cells [.i .i64 (.v 10), .i .i64 (.v 11), .i .i64 (.v 12), .i .i64 (.v 13)] 31
def zQ : SL := .v 1001
def zO : SL := .v 1002
def pyS : List (Nat × AV) := [(1, scrV 4), (2, ii x0), (7, pt 0), (9, pt 5), (11, ii x1)]
def pyF : List SB := there ++ [.le (.c 0) x1, .lt x1 (.c 120), .le (.len O2) x1]
def more (Q O : SL) : List SB := [rq Q (.len O), low Q (.c 0)]
def pyC : LpC := LpC.mk 3 2000010 157
  (Tm.mk (pyS ++ [(12, pt 8), (61, bb (.v 0))]) (pyO Q1 O2 ++ [op4]) (pyF ++ inv0 ++ more Q1 O2))
  [TOut.mk ([.eq (.len zQ) (.len T0), .le (.len zO) (.add x1 (.c 1)), st zQ zO] ++ more zQ zO) .norm (pyS ++ [(12, pt 8)])
    [bxC 9 T0 zO, vecC T0, .dead, chO (lay T0 zQ), scrO, xC' 6 zQ (.len zO), .dead, .dead, op4, vecI zO, .lists 6 K3 38 59 zQ none] [0, 2, 3, 5, 7],
   TOut.mk [.app 199 .nil] .ret [(6, bb (.c false))] [.dead, .dead, .dead, .dead, scrO, .dead, .dead, .dead, .dead] [0, 2, 3, 5, 7]]
noncomputable def v8a : Tbl := addLp Φ v8 pyC
def pyD : List AObj := [.dead, .dead, .dead, .dead, scrO, .dead, .dead, .dead]
def py6 : LpC := LpC.mk 3 6 157
  (Tm.mk [(1, scrV 4), (2, ii x0), (7, pt 0), (9, pt 5), (11, ii x1)] (pyO Q1 O2) (there ++ [.le (.c 0) x1, .le x1 (.c 120), .le (.len O2) x1] ++ inv0 ++ more Q1 O2))
  [TOut.mk [] (.exit 0) [] pyD [0, 2, 3, 5, 7], TOut.mk [.app 199 .nil] .ret [(6, bb (.c false))] pyD [0, 2, 3, 5, 7]]
def kp6 : SI := .sub (.c 120) x1
noncomputable def v9 : Tbl := addLp Φ (addFn Φ t7 rNew) py6
def lPlays0 : FnC := FnC.mk 3 [ii x0, scrV 0, ii x1] [scrO] [] [yes [scrO], noF [scrO]]
def lPlays : FnC := FnC.mk 3 [ii x0, scrV 0, ii x1] [scrO] [] [yes [scrO]]
end Go.SF.C15
