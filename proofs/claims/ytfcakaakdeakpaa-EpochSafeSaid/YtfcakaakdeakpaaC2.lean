/- Contracts of chapter 10: Pin, Unpin, Retire, Pinned, Copy; the fixed calls. -/
import Derived.Test.YtfcakaakdeakpaaC1
namespace Go.SF.C10
open Go Go.SF Go.Proofs
set_option linter.unusedVariables false

def er (x : SI) : AV := .cv (.i .i64 x)
def c0 : SI := .v 0
def cPin : FnC := FnC.mk 9 [pt 0, ii c0] (epO (.v 9) P9 M0) (few P9 :: time (.v 9))
  [TOut.mk [.eq (.len (aL 140 P9 [c0, .v 9])) (.len P9)] .norm [(0, er (aI 140 P9 [c0]))] (epO (.v 9) (aL 140 P9 [c0, .v 9]) M0) [1]]
def cUnpin : FnC := FnC.mk 10 [pt 0, ii c0] (epO (.v 9) P9 M0) (few P9 :: time (.v 9))
  [TOut.mk [.eq (.len (aL 141 P9 [c0])) (.len P9)] .norm [(0, er (aI 141 P9 [c0]))] (epO (.v 9) (aL 141 P9 [c0]) M0) [1]]
def cRetire : FnC := FnC.mk 11 [pt 0, ii c0] (epO (.v 9) P9 M0) [less M0]
  [TOut.mk [.le (.len (aL 142 M0 [c0, .v 9])) (.add (.len M0) (.c 1))] .norm [(0, er (aI 142 M0 [c0]))] (epO (.v 9) P9 (aL 142 M0 [c0, .v 9])) [2]]
def cell0 (P : SL) (c : SI) : SI := .sel P c 0
def cPinned : FnC := FnC.mk 17 [pt 0, ii c0] (epO (.v 9) P9 M0) [few P9]
  [TOut.mk [.or (.or (.lt c0 (.c 0)) (.le (.len P9) c0)) (.eq (cell0 P9 c0) (.c (-1)))] .norm [(0, .tup [.inl (.i .i64 (.c 0)), .inl (.b (.c false))])] (epO (.v 9) P9 M0) [],
   TOut.mk [.le (.c 0) c0, .lt c0 (.len P9), .not (.eq (cell0 P9 c0) (.c (-1)))] .norm [(0, .tup [.inl (.i .i64 (cell0 P9 c0)), .inl (.b (.c true))])] (epO (.v 9) P9 M0) []]
def cNow : FnC := FnC.mk 18 [pt 0] (epO (.v 9) P9 M0) []
  [TOut.mk [] .norm [(0, ii (.v 9))] (epO (.v 9) P9 M0) []]
noncomputable def t8 : Tbl := addFn Φ (addFn Φ (addFn Φ (addFn Φ (addFn Φ t7 cPin) cUnpin) cRetire) cPinned) cNow
def cKnown : FnC := FnC.mk 14 [] [] []
  [TOut.mk [] .norm [(0, bb (.c true))] [] []]
def lNil : FnC := FnC.mk 7 [ii (.v 0)] [] [] [TOut.mk [] .norm [(0, bb (.c true))] [] []]
noncomputable def t9 : Tbl := addFn Φ noTbl cKnown
noncomputable def t10 : Tbl := addFn Φ t8 cKnown
end Go.SF.C10
