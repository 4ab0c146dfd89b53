/- Contracts of chapter 19: the laws of what is in use, and of Drop. -/
import Derived.Test.YtjeafkeofbmgcaaC1
namespace Go.SF.C19
open Go Go.SF Go.Proofs
set_option linter.unusedVariables false

def scr : AV := .cv (.vs 0 (.c 0) (.len (.v 9)) none)
def scrO : AObj := .ext (.v 9) [.i .i64, .i .i64, .i .i64, .i .i64, .i .i64, .b]
def ta1 (T : SL) : List AObj := [scrO, taC 2 T, grO T]
def d2 : List AObj := [scrO, .dead, .dead]
def u8 (x : SI) : List SB := [.le (.c 0) x, .le x (.c 255)]
/-- Drop. -/
def g3 : SI := .v 3
def dp1 : LpC := LpC.mk 7 6 149
  (Tm.mk [(0, scr), (5, pt 1), (7, ii g3), (8, ii x0)] (ta1 T0) [.le (.c 0) x0, .le x0 (.c 60), .eq (.len T0) (.c 20)])
  [TOut.mk [.eq (.len (.v 1000)) (.c 20)] (.exit 0) [(5, pt 1), (7, ii g3)] (ta1 (.v 1000)) [1, 2]]
def takeT (A : SL) (n : SI) : SL := .app 1 (.l A (.i n .nil))
def dp2 : LpC := LpC.mk 7 13 149
  (Tm.mk [(5, pt 0), (7, ii g3), (9, vs 2 L1), (10, ii x0)] (taO T0 ++ [grO L1]) [.le (.c 0) x0, .le x0 (.c 20), .eq (.len T0) (.c 20), .le (.len L1) x0, .c true, .eqL L1 (takeT T0 x0)])
  [TOut.mk [] (.exit 2) [(5, pt 0), (7, ii g3), (9, vs 3 T0)] (taO T0 ++ [.dead, grO T0]) [2]]
def w1 : SI := .len (aL 102 L1 [x0, g3])
def dp3 : LpC := LpC.mk 7 19 149
  (Tm.mk [(5, pt 0), (7, ii g3), (9, vs 2 L1), (13, ii x1), (14, ii x0)] (taO T0 ++ [grO L1])
    [.le (.c 0) x0, .le x0 (.c 20), .eq (.len T0) (.c 20), .eq (.len L1) (.c 20), .le (.c 1) g3, .le g3 (.c 16), .c true, .eqL T0 (aL 116 L1 [g3]), .eq x1 w1])
  [TOut.mk [] (.exit 4) [(5, pt 0), (7, ii g3), (13, ii (.c 0))] (taO T0 ++ [grO L1]) [], never 4 (taO T0 ++ [grO L1]) []]
noncomputable def t9 : Tbl := addLp Φ (addLp Φ (addLp Φ t6 dp1) dp2) dp3
def lDrops0 : FnC := FnC.mk 7 [scr, .cv (.i .u8 x0)] [scrO] (u8 x0) [yes [scrO], noF [scrO]]
def lDrops : FnC := FnC.mk 7 [scr, .cv (.i .u8 x0)] [scrO] (u8 x0) [yes [scrO]]
def k3 : SI := .sub (.c 60) x0
def k4 : SI := .sub (.c 20) x0
end Go.SF.C19
