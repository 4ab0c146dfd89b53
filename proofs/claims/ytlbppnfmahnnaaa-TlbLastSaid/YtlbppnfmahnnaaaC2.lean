/- Contracts of chapter 14: the document's answer. -/
import Derived.Test.YtlbppnfmahnnaaaC1
namespace Go.SF.C14
open Go Go.SF Go.Proofs
set_option linter.unusedVariables false

/-- The document's Tlb: its struct; its lines are object j. -/
def refC (j : Nat) (A : SL) (size : SI) : AObj := .cells [.vs j (.c 0) (.len A) none, .i .i64 size] 56
def refL (A : SL) : AObj := .abs (.vec K4 49) A
def vs (j : Nat) (A : SL) : AV := .cv (.vs j (.c 0) (.len A) none)
def l1 : SL := .v 1
def cat (A B : SL) : SL := .app 0 (.l A (.l B .nil))
def drop (A : SL) (n : SI) : SL := .app 2 (.l A (.i n .nil))
/-- What without keeps, from line i on. -/
def wk (f : Nat) (xs : List SI) : SL := .app f (.l l0 (.l l1 (saI xs)))
def woPc : List SB := [.le (.c 0) (.v 3), .le (.v 3) (.len l0), few l0, .le (.len l1) (.v 3)]
def wo (f : Nat) (k : Int) (b : SI) (W : SL) : LpC := LpC.mk 35 3 83
  (Tm.mk [(0, p0), (1, ii (.c k)), (2, ii (.v 0)), (3, ii b), (9, vs 2 l1), (10, ii (.v 3))] [refC 1 l0 (.v 4), refL l0, refL l1] woPc)
  [TOut.mk [.le (.len W) (.len l0)] (.exit 0) [(0, p0), (9, vs 3 W)] [refC 1 l0 (.v 4), refL l0, .dead, refL W] [2]]
def wo0 : LpC := wo 140 0 (.v 1) (wk 140 [.v 3, .v 0, .v 1])
def wo1 : LpC := wo 141 1 (.c 0) (wk 141 [.v 3, .v 0])
def wo2 : LpC := wo 142 2 (.c 0) (wk 142 [.v 3, .v 0])
noncomputable def t5 : Tbl := addLp Φ (addLp Φ (addLp Φ t4 wo0) wo1) wo2
def refO (A : SL) (size : SI) : List AObj := [refC 1 A size, refL A]
def refO2 (A : SL) (size : SI) : List AObj := [refC 2 A size, .dead, refL A]
def rFlush : FnC := FnC.mk 21 [p0, ii (.v 0), ii (.v 1)] (refO l0 (.v 2)) [.lt (.c 0) (.v 2), few l0]
  [TOut.mk [.le (.len (aL 110 l0 [.v 0, .v 1])) (.len l0)] .norm [(0, .cv (.b (aB 100 l0 [.v 0, .v 1])))] (refO2 (aL 110 l0 [.v 0, .v 1]) (.v 2)) [0, 1]]
def rForget : FnC := FnC.mk 22 [p0, ii (.v 0)] (refO l0 (.v 2)) [.lt (.c 0) (.v 2), few l0]
  [TOut.mk [.le (.len (aL 111 l0 [.v 0])) (.len l0)] .norm [(0, ii (aI 111 l0 [.v 0]))] (refO2 (aL 111 l0 [.v 0]) (.v 2)) [0, 1]]
def rDrop : FnC := FnC.mk 23 [p0, ii (.v 0)] (refO l0 (.v 2)) [.lt (.c 0) (.v 2), few l0]
  [TOut.mk [.le (.len (aL 112 l0 [.v 0])) (.len l0)] .norm [(0, ii (aI 112 l0 [.v 0]))] (refO2 (aL 112 l0 [.v 0]) (.v 2)) [0, 1]]
def rFill : FnC := FnC.mk 18 [p0, line (.v 0) (.v 1) (.v 2) (.v 3)] (refO l0 (.v 4)) [.lt (.c 0) (.v 4), few l0]
  [TOut.mk [.le (.len fillT) (.add (.len l0) (.c 1))] .norm [(0, ii (.app 120 (saI [.v 0, .v 1, .v 2, .v 3])))] (refO2 fillT (.v 4)) [0, 1]]
/-- Look's loop: from line i (.v 3) on. -/
def rlk0 : LpC := LpC.mk 20 2 54
  (Tm.mk [(0, p0), (1, ii (.v 0)), (2, ii (.v 1)), (3, ii (.v 2)), (10, ii (.v 3))] [refC 1 l0 (.v 4), refL l0] [.le (.c 0) (.v 3), .le (.v 3) (.len l0), few l0])
  [TOut.mk [aB 130 l0 [.v 3, .v 0, .v 1]] .ret [(8, ii (aI 130 l0 [.v 3, .v 0, .v 1, .v 2])), (9, ii (aI 131 l0 [.v 3, .v 0, .v 1, .v 2]))] [refC 1 l0 (.v 4), refL l0] [],
   TOut.mk [.not (aB 130 l0 [.v 3, .v 0, .v 1])] (.exit 0) [] [refC 1 l0 (.v 4), refL l0] []]
noncomputable def t6 : Tbl := addLp Φ (addFn Φ (addFn Φ (addFn Φ (addFn Φ t5 rFlush) rForget) rDrop) rFill) rlk0
def rLook : FnC := FnC.mk 20 [p0, ii (.v 0), ii (.v 1), ii (.v 2)] (refO l0 (.v 4)) [few l0]
  [TOut.mk [] .norm [(0, .tup [.inl (.i .i64 (aI 130 l0 [.c 0, .v 0, .v 1, .v 2])), .inl (.i .i64 (aI 131 l0 [.c 0, .v 0, .v 1, .v 2]))])] (refO l0 (.v 4)) []]
/-- Same's loop; plain's loop. -/
def sm0 : LpC := LpC.mk 25 4 26
  (Tm.mk [(0, vs 0 l0), (1, vs 1 l1), (5, ii (.v 0))] [refL l0, refL l1] [.le (.c 0) (.v 0), .le (.v 0) (.len l0), .eq (.len l0) (.len l1), few l0])
  [TOut.mk [.not (.eqL (drop l0 (.v 0)) (drop l1 (.v 0)))] .ret [(4, .cv (.b (.c false)))] [refL l0, refL l1] [],
   TOut.mk [.eqL (drop l0 (.v 0)) (drop l1 (.v 0))] (.exit 0) [] [refL l0, refL l1] []]
def pl0 : LpC := LpC.mk 26 3 20
  (Tm.mk [(0, vs 0 l0), (3, vs 1 l1), (4, ii (.v 0))] [linesO l0, refL l1] [.le (.c 0) (.v 0), .le (.v 0) (.len l0), few l0, .le (.len l1) (.v 0)])
  [TOut.mk [] (.exit 0) [(3, vs 2 (cat l1 (drop l0 (.v 0))))] [linesO l0, .dead, refL (cat l1 (drop l0 (.v 0)))] [1]]
noncomputable def t7 : Tbl := addLp Φ (addLp Φ (addFn Φ t6 rLook) sm0) pl0
def rSame : FnC := FnC.mk 25 [vs 0 l0, vs 1 l1] [refL l0, refL l1] [few l0]
  [TOut.mk [] .norm [(0, .cv (.b (.eqL l0 l1)))] [refL l0, refL l1] []]
def rPlain : FnC := FnC.mk 26 [vs 0 l0] [linesO l0] [few l0]
  [TOut.mk [] .norm [(0, vs 1 l0)] [linesO l0, refL l0] []]
noncomputable def t8 : Tbl := addFn Φ (addFn Φ t7 rSame) rPlain
end Go.SF.C14
