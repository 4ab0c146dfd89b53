/- Contracts of chapter 15: what must come of fixed calls; ShootNil. -/
import Derived.Test.YtfngkeegfjihlaaC1
namespace Go.SF.C15
open Go Go.SF Go.Proofs
set_option linter.unusedVariables false

def yes (o : List AObj) : TOut := TOut.mk [] .norm [(0, bb (.c true))] o []
def noF (o : List AObj) : TOut := TOut.mk [.app 199 .nil] .norm [(0, bb (.c false))] o []
def cKnown : FnC := FnC.mk 22 [] [] [] [yes []]
noncomputable def t7 : Tbl := addFn Φ t6 cKnown
def lNil : FnC := FnC.mk 6 [ii x0] [] [] [yes []]
def D1 : SL := .v 1001
/-- ShootFull: the posts. -/
def eqQ (A : SL) : SB := .eqL Q1 A
def fu1 : LpC := LpC.mk 7 7 131
  (Tm.mk [(5, ii x0), (6, pt 0), (8, ii x2), (9, ii x1)] (bxO T0 Q1 O2) [.le (.c 2) x0, .le x0 (.c 8), .eq (.len T0) x0, .eq (.len Q1) x0, .le (.c 0) x1, .le x1 (.c 16), .eq (.len O2) x1, .le (.c 1) x2, .le x2 (.c 16),
    .c true, ok T0, st Q1 O2, .eqL Q1 (.app 116 (saI [x0, x1, x2])), .eqL O2 (.app 5 (saI [x1, .sub x0 (.c 1)]))])
  [TOut.mk [.eq (.len D0) x0, .eq (.len D1) (.c 16), st D0 D1, .eqL D0 (.app 116 (saI [x0, .c 16, x2])), .eqL D1 (.app 5 (saI [.c 16, .sub x0 (.c 1)]))] (.exit 0) [(5, ii x0), (6, pt 0), (8, ii x2)] (bxO' T0 D0 D1) [0, 2, 3],
   TOut.mk [.app 199 .nil] .ret [(4, bb (.c false))] [.dead, .dead, .dead, .dead] [0, 2, 3]]
def k3 : SI := .sub (.c 16) x1
def fu2 : LpC := LpC.mk 7 13 131
  (Tm.mk [(5, ii x0), (6, pt 0), (8, ii x2), (12, ii x1)] (bxO T0 Q1 O2) [.le (.c 2) x0, .le x0 (.c 8), .eq (.len T0) x0, .eq (.len Q1) x0, .le (.c 1) x1, .le x1 x0, .eq (.len O2) (.c 16), .le (.c 1) x2, .le x2 (.c 16),
    .c true, ok T0, st Q1 O2, .eqL Q1 (.app 117 (saI [x0, x1, x2])), .eqL O2 (.app 118 (saI [x0, x1]))])
  [TOut.mk [.eq (.len D0) x0, .eq (.len D1) (.c 16), st D0 D1, .eqL D0 (.app 117 (saI [x0, x0, x2])), .eqL D1 (.app 118 (saI [x0, x0]))] (.exit 2) [(5, ii x0), (6, pt 0), (8, ii x2)] (bxO T0 D0 D1) [2, 3],
   TOut.mk [.app 199 .nil] .ret [(4, bb (.c false))] [.dead, .dead, .dead, .dead] [0, 2, 3]]
def k4 : SI := .sub x0 x1
noncomputable def t8 : Tbl := addLp Φ (addLp Φ t7 fu1) fu2
def isU8 (x : SI) : List SB := [.le (.c 0) x, .le x (.c 255)]
def lFull0 : FnC := FnC.mk 7 [.cv (.i .u8 x0), .cv (.i .u8 x1)] [] (isU8 x0 ++ isU8 x1) [yes [], noF []]
def lFull : FnC := FnC.mk 7 [.cv (.i .u8 x0), .cv (.i .u8 x1)] [] (isU8 x0 ++ isU8 x1) [yes []]
/-- ShootEnds: whatever is posted; all is taken. -/
def scr : SL := .v 9
def scrO : AObj := .ext scr [.i .i64, .i .i64, .i .i64, .i .i64]
def scrV (j : Nat) : AV := .cv (.vs j (.c 0) (.len scr) none)
def en1 : LpC := LpC.mk 5 6 82
  (Tm.mk [(1, scrV 4), (5, ii x0), (6, pt 0), (8, ii x1)] (bxO T0 Q1 O2 ++ [scrO]) [.le (.c 1) x0, .le x0 (.c 8), .eq (.len T0) x0, .eq (.len Q1) x0, .le (.c 0) x1, .le x1 (.c 120), .le x1 (.len scr), .le (.len O2) x1,
    .c true, ok T0, st Q1 O2])
  [TOut.mk [.eq (.len D0) x0, .le (.len D1) (.c 120), st D0 D1] (.exit 0) [(5, ii x0), (6, pt 0)] ([bxC 5 T0 D1, vecC T0, .dead, chO (lay T0 D0), scrO, vecI D1]) [0, 2, 3]]
def k5 : SI := .sub (.c 120) x1
def emp (Q : SL) (c : SI) : SB := .app 137 (.l Q (.i c .nil))
def lq (Q : SL) (c : SI) : SI := .app 100 (.l Q (.i c .nil))
def en3 : LpC := LpC.mk 5 14 82
  (Tm.mk [(5, ii x0), (6, pt 0), (9, ii x2), (10, ii x1)] (bxO T0 Q1 O2) [.le (.c 1) x0, .le x0 (.c 8), .eq (.len T0) x0, .eq (.len Q1) x0, .le (.len O2) (.c 120), .le (.c 0) x1, .le x1 (.c 20), .le (.c 0) x2, .lt x2 x0,
    .c true, ok T0, st Q1 O2, emp Q1 x2, .le (lq Q1 x2) (.sub (.c 20) x1)])
  [TOut.mk [.eq (.len D0) x0, .le (.len D1) (.c 120), st D0 D1, emp D0 x2, .eq (lq D0 x2) (.c 0)] (.exit 4) [(5, ii x0), (6, pt 0), (9, ii x2)] (bxO T0 D0 D1) [2, 3]]
def k6 : SI := .sub (.c 20) x1
noncomputable def t9 : Tbl := addLp Φ t7 en3
def en2 : LpC := LpC.mk 5 11 82
  (Tm.mk [(5, ii x0), (6, pt 0), (9, ii x2)] (bxO T0 Q1 O2) [.le (.c 1) x0, .le x0 (.c 8), .eq (.len T0) x0, .eq (.len Q1) x0, .le (.len O2) (.c 120), .le (.c 0) x2, .le x2 x0, .c true, ok T0, st Q1 O2, emp Q1 x2])
  [TOut.mk [.eq (.len D0) x0, .le (.len D1) (.c 120), st D0 D1, emp D0 x0] (.exit 2) [(5, ii x0), (6, pt 0)] (bxO T0 D0 D1) [2, 3],
   TOut.mk [.app 199 .nil] .ret [(4, bb (.c false))] [.dead, .dead, .dead, .dead] [2, 3]]
def k7 : SI := .sub x0 x2
noncomputable def t10 : Tbl := addLp Φ (addLp Φ t9 en1) en2
def lEnds0 : FnC := FnC.mk 5 [.cv (.i .u8 x0), scrV 0] [scrO] (isU8 x0) [yes [scrO], noF [scrO]]
def lEnds : FnC := FnC.mk 5 [.cv (.i .u8 x0), scrV 0] [scrO] (isU8 x0) [yes [scrO]]
end Go.SF.C15
