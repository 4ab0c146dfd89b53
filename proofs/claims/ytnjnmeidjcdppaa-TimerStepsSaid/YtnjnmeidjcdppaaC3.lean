/- Contracts of chapter 18: the law of the next time. -/
import Derived.Test.YtnjnmeidjcdppaaC2
namespace Go.SF.C18
open Go Go.SF Go.Proofs
set_option linter.unusedVariables false

def scj (j k : Nat) : AV := .cv (.vs j (.c 0) (.len (.v k)) none)
def good (T : SL) (n i : SI) : SB := aB 140 T [n, i]
def neO (now : SI) (T : SL) : List AObj := [s16 8, s16 9, tmC (.c 5) now 3 4, mapT T, mapC (.lit [])]
def neD : List AObj := [s16 8, s16 9, .dead, .dead, .dead]
def ne1 : LpC := LpC.mk 8 5 111
  (Tm.mk [(0, scj 0 8), (1, scj 1 9), (5, pt 2), (7, ii x0)] (neO (.c 0) T0) [.le (.c 0) x0, .le x0 (.len (.v 8)), .le (.len (.v 8)) (.c 20), .le (.len T0) x0, good T0 (.c 0) (.c 0)])
  [TOut.mk [good (.v 1000) (.c 0) (.c 0), .le (.len (.v 1000)) (.c 20)] (.exit 0) [(5, pt 2)] (neO (.c 0) (.v 1000)) [2, 3, 4]]
noncomputable def t12 : Tbl := addLp Φ t10 ne1
def d3 : List AObj := [.dead, .dead, .dead]
def ne2 : LpC := LpC.mk 8 12 111
  (Tm.mk [(5, pt 0), (9, ii x0)] (tmO (.c 5) n9 T0 (.lit [])) [.le (.c 0) x0, .le x0 (.c 30), .le (.c 0) n9, .le (.len T0) (.c 20), good T0 n9 x0])
  [TOut.mk [] (.exit 2) [] d3 [0, 1, 2], TOut.mk [] .ret [(4, bb (.c true))] d3 [0, 1, 2], never 4 d3 [0, 1, 2]]
noncomputable def t13 : Tbl := addLp Φ t12 ne2
def lNext : FnC := FnC.mk 8 [scj 0 8, scj 1 9] [s16 8, s16 9] [] [yes [s16 8, s16 9]]
def i7 : SI := .sub (.len (.v 8)) x0
def i8 : SI := .sub (.c 30) x0
end Go.SF.C18
