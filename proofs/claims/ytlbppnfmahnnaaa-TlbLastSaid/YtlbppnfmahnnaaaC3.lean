/- Contracts of chapter 14: the laws. -/
import Derived.Test.YtlbppnfmahnnaaaC2
namespace Go.SF.C14
open Go Go.SF Go.Proofs
set_option linter.unusedVariables false

def cKnown : FnC := FnC.mk 14 [] [] [] [TOut.mk [] .norm [(0, .cv (.b (.c true)))] [] []]
noncomputable def t9 : Tbl := addFn Φ t8 cKnown
def u8 (x : SI) : CV := .i .u8 x
def isU8 (x : SI) : List SB := [.le (.c 0) x, .le x (.c 255)]
def lNil : FnC := FnC.mk 8 [line (.v 0) (.v 1) (.v 2) (.v 3)] [] [] [yesOut []]
def lRights : FnC := FnC.mk 6 [line (.v 0) (.v 1) (.v 2) (.v 3), .agg [u8 (.v 4), u8 (.v 5)]] [] (isU8 (.v 4) ++ isU8 (.v 5)) [yesOut []]
end Go.SF.C14
