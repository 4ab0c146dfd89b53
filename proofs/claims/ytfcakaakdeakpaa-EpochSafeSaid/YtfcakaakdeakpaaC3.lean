/- Contracts of chapter 10: the laws of what is late, and of what ends. -/
import Derived.Test.YtfcakaakdeakpaaC2
namespace Go.SF.C10
open Go Go.SF Go.Proofs
set_option linter.unusedVariables false

def scrV : AV := .cv (.vs 0 (.c 0) (.len (.v 9)) none)
def scrO : AObj := .ext (.v 9) [.i .i64, .i .i64, .i .i64]
def never (s : Nat) (o : List AObj) (wr : List Nat) : TOut := TOut.mk [.app 199 .nil] .ret [(s, bb (.c false))] o wr
/-- An Epochs behind a script. -/
def ep1 (now : SI) (P A : SL) : List AObj := [scrO, epC now 2 3 P, vecO P, mapO A]
def dead4 : List AObj := [scrO, .dead, .dead, .dead]
def nw : SI := .v 1
def A1 : SL := .v 1
def near (P : SL) (n : SI) : SB := aB 151 P [n]
def past (A : SL) (n : SI) : SB := aB 152 A [n]
def flat (P : SL) : SB := aB 155 P []
def lawF (m : Int) : List SB := [.le (.c 0) (.v 0), .le (.v 0) (.c m), .le (.c 0) nw, .le nw (.v 0), .eq (.len M0) (.c 4), .le (.len A1) (.v 0)]
/-- EpochLate. -/
def ltS : List (Nat × AV) := [(0, scrV), (3, pt 1), (5, ii (.v 0))]
def opO : AObj := .cells [.i .i64 (.v 5), .i .i64 (.v 6), .i .i64 (.v 7)] 30
def ltO : List AObj := ep1 nw M0 A1 ++ [opO]
def lateC (c : SI) : SB := aB 130 M0 [c, nw]
def lt2 : LpC := LpC.mk 5 14 118
  (Tm.mk (ltS ++ [(6, pt 4), (7, bb (.v 0)), (8, ii (.v 2))]) ltO (lawF 120 ++ [near M0 nw, .le (.c 0) (.v 2), .le (.v 2) (.c 4)]))
  [TOut.mk [] (.exit 2) (ltS ++ [(6, pt 4), (7, bb (.or (.v 0) (lateC (.v 2))))]) ltO [], never 2 ltO []]
noncomputable def t11 : Tbl := addLp Φ t10 lt2
def lt1 : LpC := LpC.mk 5 5 118
  (Tm.mk ltS (ep1 nw M0 A1) (lawF 120 ++ [near M0 nw]))
  [TOut.mk [] (.exit 0) [] dead4 [1, 2, 3], never 2 dead4 [1, 2, 3]]
noncomputable def t12 : Tbl := addLp Φ t11 lt1
def lLate : FnC := FnC.mk 5 [scrV] [scrO] [] [TOut.mk [] .norm [(0, bb (.c true))] [scrO] []]
/-- EpochEnds. -/
def en1 : LpC := LpC.mk 4 5 96
  (Tm.mk ltS (ep1 nw M0 A1) (lawF 120 ++ [past A1 nw]))
  [TOut.mk [.le (.c 0) (.v 1001), .le (.v 1001) (.c 120), .eq (.len (.v 1000)) (.c 4), .le (.len (.v 1001)) (.c 120), past (.v 1001) (.v 1001), flat (.v 1000)] (.exit 0)
    [(3, pt 1)] (ep1 (.v 1001) (.v 1000) (.v 1001)) [1, 2, 3]]
noncomputable def t13 : Tbl := addLp Φ t10 en1
def lEnds0 : FnC := FnC.mk 4 [scrV] [scrO] [] [TOut.mk [] .norm [(0, bb (.c true))] [scrO] [], TOut.mk [.app 199 .nil] .norm [(0, bb (.c false))] [scrO] []]
def lEnds : FnC := FnC.mk 4 [scrV] [scrO] [] [TOut.mk [] .norm [(0, bb (.c true))] [scrO] []]
def i6 : SI := .sub (.c 4) (.v 2)
def i7 : SI := .sub (.c 120) (.v 0)
end Go.SF.C10
