/- Contracts of chapter 15: ShootOnce. -/
import Derived.Test.YtfngkeegfjihlaaC2
namespace Go.SF.C15
open Go Go.SF Go.Proofs
set_option linter.unusedVariables false

def F5 : SL := .v 5
def K6 : SL := .v 6
def L7 : SL := .v 7
def onc (Q O F K L : SL) (n : SI) : SB := .app 138 (.l Q (.l O (.l F (.l K (.l L (.i n .nil))))))
def onO (Q O : SL) : List AObj := bxO T0 Q O ++ [scrO, vecI F5, vecI K6, vecI L7]
def onF : List SB := [.le (.c 1) x0, .le x0 (.c 8), .eq (.len T0) x0, .eq (.len Q1) x0, .eq (.len O2) (.len F5), .eq (.len K6) (.c 200)]
def onA : List SB := [.c true, .eq (.len L7) x0, ok T0, st Q1 O2, onc Q1 O2 F5 K6 L7 x0]
def on2 : LpC := LpC.mk 4 25 158
  (Tm.mk [(1, scrV 4), (5, ii x0), (6, pt 0), (8, vs 5 F5), (9, vs 6 K6), (10, vs 7 L7), (11, ii x1), (17, ii x2)] (onO Q1 O2) (onF ++ [.le (.len F5) (.c 120), .le (.c 1) x2, .le x2 (.add (.len F5) (.c 1))] ++ onA))
  [TOut.mk [] (.exit 2) [(1, scrV 4), (5, ii x0), (6, pt 0), (8, vs 5 F5), (9, vs 6 K6), (10, vs 7 L7), (11, ii x1)] (onO Q1 O2) [],
   TOut.mk [.app 199 .nil] .ret [(4, bb (.c false))] ([.dead, .dead, .dead, .dead] ++ [scrO, .dead, .dead, .dead]) []]
def k8 : SI := .sub (.add (.len F5) (.c 1)) x2
noncomputable def t11 : Tbl := addLp Φ t7 on2
def on1 : LpC := LpC.mk 4 9 158
  (Tm.mk [(1, scrV 4), (5, ii x0), (6, pt 0), (8, vs 5 F5), (9, vs 6 K6), (10, vs 7 L7), (11, ii x1)] (onO Q1 O2) (onF ++ [.le (.c 0) x1, .le x1 (.c 120), .le x1 (.len scr), .le (.len F5) x1] ++ onA))
  [TOut.mk [] (.exit 0) [] ([.dead, .dead, .dead, .dead] ++ [scrO, .dead, .dead, .dead]) [0, 2, 3, 5, 6, 7],
   TOut.mk [.app 199 .nil] .ret [(4, bb (.c false))] ([.dead, .dead, .dead, .dead] ++ [scrO, .dead, .dead, .dead]) [0, 2, 3, 5, 6, 7]]
def k9 : SI := .sub (.c 120) x1
noncomputable def t12 : Tbl := addLp Φ t7 on1
def lOnce0 : FnC := FnC.mk 4 [.cv (.i .u8 x0), scrV 0] [scrO] (isU8 x0) [yes [scrO], noF [scrO]]
def lOnce : FnC := FnC.mk 4 [.cv (.i .u8 x0), scrV 0] [scrO] (isU8 x0) [yes [scrO]]
end Go.SF.C15
