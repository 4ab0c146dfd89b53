/- Contracts of chapter 14: how slots and objects look; the loops and the functions of the package tlb. -/
import Derived.Test.YtlbppnfmahnnaaaProg
import Derived.Test.YtlbppnfmahnnaaaP
namespace Go.SF.C14
open Go Go.SF Go.Proofs
set_option linter.unusedVariables false

abbrev K4 : List CK := [.i .i64, .i .i64, .i .i64, .i .i64]
def p0 : AV := .cv (.p (some ⟨0, .c 0, 0⟩))
def ii (x : SI) : AV := .cv (.i .i64 x)
def line (a b c d : SI) : AV := .agg [.i .i64 a, .i .i64 b, .i .i64 c, .i .i64 d]
/-- A Tlb: its struct; its lines are object j. -/
def tlbC (j : Nat) (A : SL) (size : SI) : AObj := .cells [.vs j (.c 0) (.len A) none, .i .i64 size] 59
def linesO (A : SL) : AObj := .abs (.vec K4 28) A
def boxI (x : SI) : AObj := .cells [.i .i64 x] 3
def l0 : SL := .v 0
def aI (f : Nat) (A : SL) (xs : List SI) : SI := .app f (.l A (saI xs))
def aL (f : Nat) (A : SL) (xs : List SI) : SL := .app f (.l A (saI xs))
def aB (f : Nat) (A : SL) (xs : List SI) : SB := .app f (.l A (saI xs))
def few (A : SL) : SB := .lt (.len A) (.c 100000)

/-- The sweep's loop: for the closures of Flush, Forget and Drop. -/
def swPc : List SB := [.le (.c (-1)) (.v 3), .lt (.v 3) (.len l0), few l0]
def sw0 : LpC := LpC.mk 31 5 35
  (Tm.mk [(0, p0), (1, .cv (.fn 32 [⟨2, .c 0, 0⟩, ⟨3, .c 0, 0⟩])), (5, ii (.v 2)), (6, ii (.v 3))]
         [tlbC 1 l0 (.v 4), linesO l0, boxI (.v 0), boxI (.v 1)] swPc)
  [TOut.mk [] (.exit 0) [(0, p0), (5, ii (aI 100 l0 [.v 3, .v 2, .v 0, .v 1]))] [tlbC 4 (aL 100 l0 [.v 3, .v 0, .v 1]) (.v 4), .dead, boxI (.v 0), boxI (.v 1), linesO (aL 100 l0 [.v 3, .v 0, .v 1])] [0, 1]]
def sw1 : LpC := LpC.mk 31 5 35
  (Tm.mk [(0, p0), (1, .cv (.fn 33 [⟨2, .c 0, 0⟩])), (5, ii (.v 2)), (6, ii (.v 3))]
         [tlbC 1 l0 (.v 4), linesO l0, boxI (.v 0)] swPc)
  [TOut.mk [] (.exit 0) [(0, p0), (5, ii (aI 101 l0 [.v 3, .v 2, .v 0]))] [tlbC 3 (aL 101 l0 [.v 3, .v 0]) (.v 4), .dead, boxI (.v 0), linesO (aL 101 l0 [.v 3, .v 0])] [0, 1]]
def sw2 : LpC := LpC.mk 31 5 35
  (Tm.mk [(0, p0), (1, .cv (.fn 34 [⟨2, .c 0, 0⟩])), (5, ii (.v 2)), (6, ii (.v 3))]
         [tlbC 1 l0 (.v 4), linesO l0, boxI (.v 0)] swPc)
  [TOut.mk [] (.exit 0) [(0, p0), (5, ii (aI 102 l0 [.v 3, .v 2, .v 0]))] [tlbC 3 (aL 102 l0 [.v 3, .v 0]) (.v 4), .dead, boxI (.v 0), linesO (aL 102 l0 [.v 3, .v 0])] [0, 1]]
noncomputable def t1 : Tbl := addLp Φ (addLp Φ (addLp Φ noTbl sw0) sw1) sw2

def tlbO (A : SL) (size : SI) : List AObj := [tlbC 1 A size, linesO A]
def tlbO2 (A : SL) (size : SI) : List AObj := [tlbC 2 A size, .dead, linesO A]
def cFlush : FnC := FnC.mk 12 [p0, ii (.v 0), ii (.v 1)] (tlbO l0 (.v 2)) [.lt (.c 0) (.v 2), few l0]
  [TOut.mk [.le (.len (aL 110 l0 [.v 0, .v 1])) (.len l0)] .norm [(0, .cv (.b (aB 100 l0 [.v 0, .v 1])))] (tlbO2 (aL 110 l0 [.v 0, .v 1]) (.v 2)) [0, 1]]
def cForget : FnC := FnC.mk 15 [p0, ii (.v 0)] (tlbO l0 (.v 2)) [.lt (.c 0) (.v 2), few l0]
  [TOut.mk [.le (.len (aL 111 l0 [.v 0])) (.len l0)] .norm [(0, ii (aI 111 l0 [.v 0]))] (tlbO2 (aL 111 l0 [.v 0]) (.v 2)) [0, 1]]
def cDrop : FnC := FnC.mk 16 [p0, ii (.v 0)] (tlbO l0 (.v 2)) [.lt (.c 0) (.v 2), few l0]
  [TOut.mk [.le (.len (aL 112 l0 [.v 0])) (.len l0)] .norm [(0, ii (aI 112 l0 [.v 0]))] (tlbO2 (aL 112 l0 [.v 0]) (.v 2)) [0, 1]]
noncomputable def t2 : Tbl := addFn Φ (addFn Φ (addFn Φ t1 cFlush) cForget) cDrop

def fillT : SL := aL 120 l0 [.v 4, .v 0, .v 1, .v 2, .v 3]
def cFill : FnC := FnC.mk 10 [p0, line (.v 0) (.v 1) (.v 2) (.v 3)] (tlbO l0 (.v 4)) [.lt (.c 0) (.v 4), few l0]
  [TOut.mk [.le (.len fillT) (.add (.len l0) (.c 1))] .norm [(0, ii (.app 120 (saI [.v 0, .v 1, .v 2, .v 3])))] (tlbO2 fillT (.v 4)) [0, 1]]
/-- Look's loop: from line i (.v 3) on. -/
def lk0 : LpC := LpC.mk 11 4 47
  (Tm.mk [(1, ii (.v 0)), (2, ii (.v 1)), (3, ii (.v 2)), (18, .cv (.vs 0 (.c 0) (.len l0) none)), (19, ii (.len l0)), (20, ii (.v 3))] [linesO l0] [.le (.c 0) (.v 3), .le (.v 3) (.len l0), few l0])
  [TOut.mk [aB 130 l0 [.v 3, .v 0, .v 1]] .ret [(8, ii (aI 130 l0 [.v 3, .v 0, .v 1, .v 2])), (9, ii (aI 131 l0 [.v 3, .v 0, .v 1, .v 2]))] [linesO l0] [],
   TOut.mk [.not (aB 130 l0 [.v 3, .v 0, .v 1])] (.exit 0) [] [linesO l0] []]
noncomputable def t3 : Tbl := addLp Φ (addFn Φ t2 cFill) lk0
def cLook : FnC := FnC.mk 11 [p0, ii (.v 0), ii (.v 1), ii (.v 2)] (tlbO l0 (.v 4)) [.lt (.c 0) (.v 4), few l0]
  [TOut.mk [] .norm [(0, .tup [.inl (.i .i64 (aI 130 l0 [.c 0, .v 0, .v 1, .v 2])), .inl (.i .i64 (aI 131 l0 [.c 0, .v 0, .v 1, .v 2]))])] (tlbO l0 (.v 4)) []]
noncomputable def t4 : Tbl := addFn Φ t3 cLook
def i1 : SI := .add (.v 3) (.c 1)
end Go.SF.C14
