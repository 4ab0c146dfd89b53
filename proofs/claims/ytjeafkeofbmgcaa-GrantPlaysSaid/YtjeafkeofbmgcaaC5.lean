/- Contracts of chapter 19: Linked, and the law of who is linked. -/
import Derived.Test.YtjeafkeofbmgcaaC4
namespace Go.SF.C19
open Go Go.SF Go.Proofs
set_option linter.unusedVariables false

def lk (T : SL) (a b : SI) : SB := aB 141 T [a, b]
def cLinked : FnC := FnC.mk 20 [pt 0, ii x0, ii x1] (taO T0) (there ++ [.c true, okg]) [TOut.mk [] .norm [(0, bb (lk T0 x0 x1))] (taO T0) []]
noncomputable def r0 : Tbl := addFn Φ t6 cLinked
/-- The law. -/
def xbO : AObj := .cells [.i .u8 (.v 20), .i .u8 (.v 21), .i .u8 (.v 22)] 49
def u83 : List SB := u8 (.v 20) ++ u8 (.v 21) ++ u8 (.v 22)
def gl0 : LpC := LpC.mk 4 5 126
  (Tm.mk [(0, scr), (3, pt 3), (5, pt 1), (7, ii x0)] (ta1 T0 ++ [xbO]) [.le (.c 0) x0, .le x0 (.c 60), .eq (.len T0) (.c 64), .c true, okg])
  [TOut.mk [.eq (.len (.v 1000)) (.c 64), .app 140 (.l (.v 1000) .nil)] (.exit 0) [(3, pt 3), (5, pt 1)] (ta1 (.v 1000) ++ [xbO]) [1, 2]]
noncomputable def r1 : Tbl := addLp Φ r0 gl0
def xA : AV := .agg [.i .u8 (.v 20), .i .u8 (.v 21), .i .u8 (.v 22)]
def lLinks0 : FnC := FnC.mk 4 [scr, xA] [scrO] u83 [yes [scrO], noF [scrO]]
def lLinks : FnC := FnC.mk 4 [scr, xA] [scrO] u83 [yes [scrO]]
end Go.SF.C19
