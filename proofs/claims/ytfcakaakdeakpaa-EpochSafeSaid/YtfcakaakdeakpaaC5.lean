/- Contracts of chapter 10: the stage's theorem. -/
import Derived.Test.YtfcakaakdeakpaaC3
namespace Go.SF.C10
open Go Go.SF Go.Proofs
set_option linter.unusedVariables false

def S2 : SL := .v 2
def N3 : SL := .v 3
def L4 : SL := .v 4
def lsO (S : SL) : AObj := .lists 4 (.i .i64) 3 28 S none
def row (S : SL) (r : SI) : SL := .app 14 (.l S (.i r .nil))
def sfE (P A S N : SL) (now i : SI) : SB := .app 160 (.l P (.l A (.l S (.l N (.i now (.i i .nil))))))
def goE (A S N L : SL) (k : SI) : SB := .app 161 (.l A (.l S (.l N (.l L (.i k .nil)))))
def goR (S N : SL) (f : SI) : SB := .app 162 (.l S (.l N (.i f .nil)))
def sfS : List (Nat × AV) := [(0, scrV), (3, pt 1), (5, vs 4 S2), (6, vs 6 N3), (7, ii (.v 0))]
def sfO (S : SL) : List AObj := ep1 nw M0 A1 ++ [.dead, lsO S, vecO N3]
def sfM (S : SL) : List AObj := ep1 nw M0 A1 ++ [.dead, .dead, vecO N3]
def sfF : List SB := [.le (.c 0) (.v 0), .le (.v 0) (.c 120), .le (.c 0) nw, .le nw (.v 0), .eq (.len M0) (.c 4), .le (.len A1) (.v 0), .eq (.len S2) (.c 64), .eq (.len N3) (.c 4), .c true, near M0 nw]
def dead6 : List AObj := [scrO, .dead, .dead, .dead, .dead, .dead, .dead]
def fk : SI := .sel L4 (.v 2) 0
def sfS2 : List (Nat × AV) := sfS ++ [(11, vs 7 L4), (12, ii (.v 2))]
def sf3 : LpC := LpC.mk 3 28 168
  (Tm.mk (sfS2 ++ [(13, ii (.v 3))]) (sfO S2 ++ [vecO L4]) (sfF ++ [.le (.c 0) (.v 3), .le (.v 3) (.c 4), .le (.c 0) (.v 2), .lt (.v 2) (.len L4), few L4, .le (.c 0) fk, .le fk (.c 63), .eq (.len (row S2 fk)) (.c 4), goR S2 N3 fk]))
  [TOut.mk [] (.exit 4) sfS2 (sfM S2 ++ [vecO L4, lsO S2]) [5], never 2 (dead6 ++ [.dead]) [5]]
noncomputable def w1 : Tbl := addLp Φ t10 sf3
def sf2 : LpC := LpC.mk 3 23 168
  (Tm.mk sfS2 (sfO S2 ++ [vecO L4]) (sfF ++ [.le (.c 0) (.v 2), .le (.v 2) (.len L4), few L4, goE A1 S2 N3 L4 (.v 2), sfE M0 A1 S2 N3 nw (.v 0)]))
  [TOut.mk [.eq (.len (.v 1000)) (.c 64), sfE M0 A1 (.v 1000) N3 nw (.v 0)] (.exit 2) [(0, scrV), (3, pt 1), (5, vs 4 (.v 1000)), (6, vs 6 N3), (7, ii (.v 0))] (sfM S2 ++ [.dead, lsO (.v 1000)]) [5],
   never 2 (dead6 ++ [.dead]) [5]]
noncomputable def w2 : Tbl := addLp Φ t10 sf2
def sf1 : LpC := LpC.mk 3 7 168 (Tm.mk sfS (sfO S2) (sfF ++ [sfE M0 A1 S2 N3 nw (.v 0)]))
  [TOut.mk [] (.exit 0) [] dead6 [1, 2, 3, 5, 6], never 2 dead6 [1, 2, 3, 5, 6]]
noncomputable def w3 : Tbl := addLp Φ t10 sf1
def lSafe0 : FnC := FnC.mk 3 [scrV] [scrO] [] [TOut.mk [] .norm [(0, bb (.c true))] [scrO] [], TOut.mk [.app 199 .nil] .norm [(0, bb (.c false))] [scrO] []]
def lSafe : FnC := FnC.mk 3 [scrV] [scrO] [] [TOut.mk [] .norm [(0, bb (.c true))] [scrO] []]
def j7 : SI := .sub (.c 4) (.v 3)
def j8 : SI := .sub (.len L4) (.v 2)
end Go.SF.C10
