/- Contracts of chapter 19: the document's answer, and the law that plays against it. -/
import Derived.Test.YtjeafkeofbmgcaaC5
import Derived.Test.YtjeafkeofbmgcaaC3
namespace Go.SF.C19
open Go Go.SF Go.Proofs
set_option linter.unusedVariables false

def x3 : SI := .v 3
def grR (A : SL) : AObj := .abs (.vec [.i .i64, .i .i64, .i .i64, .b, .i .i64] 43) A
def taR (j : Nat) (A : SL) : AObj := .cells [.vs j (.c 0) (.len A) none] 58
def rO (A : SL) : List AObj := [taR 1 A, grR A]
def n5 (n : SI) : SL := .app 5 (saI [n, .c 0, .c 0, .c 0, .c 0, .c 0])
def cRNew : FnC := FnC.mk 9 [ii x0] [] []
  [TOut.mk [.or (.lt x0 (.c 1)) (.lt (.c 64) x0)] .norm [(0, tup (.p (some ⟨0, .c 0, 0⟩)) (.i .i64 (.c 1)))] [.cells [.sl none (.c 0) (.c 0)] 58] [],
   TOut.mk [.le (.c 1) x0, .le x0 (.c 64), .eq (.len (n5 x0)) x0] .norm [(0, tup (.p (some ⟨0, .c 0, 0⟩)) (.i .i64 (.c 0)))] (rO (n5 x0)) []]
def okgs : List SB := [.c true, okg]
def cROf : FnC := FnC.mk 25 [pt 0, ii x0] (rO T0) (there ++ okgs)
  [TOut.mk [no x0] .norm [(0, .tup [.inr [.i .i64 (.c 0), .i .i64 (.c 0), .i .i64 (.c 0), .b (.c false), .i .i64 (.c 0)], .inl (.b (.c false))])] (rO T0) [],
   TOut.mk [.not (no x0), .le (.c 0) x0, .lt x0 (.len T0)] .norm [(0, .tup [.inr (rowA x0), .inl (.b (.c true))])] (rO T0) []]
noncomputable def s0 : Tbl := addFn Φ (addFn Φ noTbl cRNew) cROf
/-- Offer. -/
def plc (i p : SI) : SI := aI 150 T0 [i, p]
def anyE (i : SI) : SB := aB 150 T0 [i, o6, p7, t8]
def roE : List (Nat × AV) := [(0, pt 0), (1, ii o6), (2, ii p7), (3, ii t8), (4, bb (.v 0))]
def ro : LpC := LpC.mk 11 5 87 (Tm.mk (roE ++ [(12, ii x1), (13, ii x0)]) (rO T0) [.le (.c (-1)) x0, .lt x0 (.len T0), .le (.len T0) (.c 64), .le (.c (-1)) x1, .lt x1 (.len T0), .c true, okg])
  [TOut.mk [anyE x0] .ret [(10, ii (.c 0)), (11, ii (.c 5))] (rO T0) [],
   TOut.mk [.not (anyE x0), .le (.c (-1)) (plc x0 x1), .lt (plc x0 x1) (.len T0)] (.exit 0) (roE ++ [(12, ii (plc x0 x1))]) (rO T0) []]
noncomputable def s1 : Tbl := addLp Φ s0 ro
def cROffer : FnC := FnC.mk 11 [pt 0, ii o6, ii p7, ii t8, bb (.v 0)] (rO T0) (there ++ two ++ [okg])
  [TOut.mk [.v 0, .eq (.len (oT 1)) (.len T0)] .norm [(0, tup (.i .i64 oI) (.i .i64 oE))] (rO (oT 1)) [0, 1],
   TOut.mk [.not (.v 0), .eq (.len (oT 0)) (.len T0)] .norm [(0, tup (.i .i64 oI) (.i .i64 oE))] (rO (oT 0)) [0, 1]]
def cRTake : FnC := FnC.mk 13 [pt 0, ii x0, ii g5, bb (.v 0)] (rO T0) (there ++ two ++ [okg, uses T0])
  [TOut.mk [.v 0, .eq (.len (tT 1)) (.len T0)] .norm [(0, ii (tE 1))] (rO (tT 1)) [0, 1],
   TOut.mk [.not (.v 0), .eq (.len (tT 0)) (.len T0)] .norm [(0, ii (tE 0))] (rO (tT 0)) [0, 1]]
def cRBack : FnC := FnC.mk 15 [pt 0, ii x0, ii g5] (rO T0) (there ++ okgs)
  [TOut.mk [.eq (.len bT) (.len T0)] .norm [(0, ii (aI 113 T0 [x0, g5]))] (rO bT) [0, 1]]
def cRRevoke : FnC := FnC.mk 17 [pt 0, ii x0, ii o6] (rO T0) (there ++ okgs)
  [TOut.mk [.eq (.len rT) (.len T0)] .norm [(0, ii (aI 114 T0 [x0, o6]))] (rO rT) [0, 1]]
/-- Drop. -/
def cF (i : SI) : SL := aL 150 T0 [g5, i]
def rd : LpC := LpC.mk 19 3 59 (Tm.mk [(0, pt 0), (1, ii g5), (5, ii x1), (6, ii x0)] (rO T0) [.le (.c 0) x0, .le x0 (.len T0), .le (.len T0) (.c 64), .le (.c 0) x1, .le x1 x0, .c true, okg])
  [TOut.mk [.eq (.len (cF x0)) (.len T0), .le (.len (og x0)) (.sub (.len T0) x0)] (.exit 0) [(5, ii (.add x1 (.len (og x0))))] (rO (cF x0)) [0, 1]]
/-- Len. -/
def rn : LpC := LpC.mk 23 3 26 (Tm.mk [(0, pt 0), (3, ii x1), (4, ii x0)] (rO T0) [.le (.c 0) x0, .le x0 (.len T0), .le (.len T0) (.c 64), .le (.c 0) x1, .le x1 x0, .c true, okg])
  [TOut.mk [.le (.len (li x0)) (.sub (.len T0) x0)] (.exit 0) [(3, ii (.add x1 (.len (li x0))))] (rO T0) []]
/-- Linked. -/
def vecB (A : SL) : AObj := .abs (.vec [.b] 4) A
def foB (i : SI) : SL := .app 144 (.l T0 (.l S1 (.i i .nil)))
def rou (k : SI) : SL := .app 143 (.l T0 (.l S1 (.i k .nil)))
def lkE (S : SL) : List (Nat × AV) := [(0, pt 0), (1, ii x0), (2, ii x1), (7, vs 2 S)]
def lkP : List SB := there ++ [.eq (.len S1) (.c 17), .c true, okg]
def rk9 : LpC := LpC.mk 21 9 72 (Tm.mk (lkE S1 ++ [(8, ii x2), (9, ii x3)]) (rO T0 ++ [vecB S1]) ([.le (.c 0) x3, .le x3 (.len T0)] ++ lkP))
  [TOut.mk [.eq (.len (foB x3)) (.c 17)] (.exit 2) (lkE (foB x3) ++ [(8, ii x2)]) (rO T0 ++ [vecB (foB x3)]) [2]]
noncomputable def s2 : Tbl := addLp Φ s0 rk9
def rk6 : LpC := LpC.mk 21 6 72 (Tm.mk (lkE S1 ++ [(8, ii x2)]) (rO T0 ++ [vecB S1]) ([.le (.c 0) x2, .le x2 (.c 16)] ++ lkP))
  [TOut.mk [.eq (.len (rou (.sub (.c 16) x2))) (.c 17)] (.exit 0) (lkE (rou (.sub (.c 16) x2))) (rO T0 ++ [vecB (rou (.sub (.c 16) x2))]) [2]]
noncomputable def s3 : Tbl := addLp Φ s0 rk6
def cRDrop : FnC := FnC.mk 19 [pt 0, ii g5] (rO T0) (there ++ okgs)
  [TOut.mk [.eq (.len dT) (.len T0), .le (.len (og (.c 0))) (.len T0)] .norm [(0, ii (.len (og (.c 0))))] (rO dT) [0, 1]]
def cRLen : FnC := FnC.mk 23 [pt 0] (rO T0) (there ++ okgs)
  [TOut.mk [.le (.len (li (.c 0))) (.len T0)] .norm [(0, ii (.len (li (.c 0))))] (rO T0) []]
def cRLinked : FnC := FnC.mk 21 [pt 0, ii x0, ii x1] (rO T0) (there ++ okgs) [TOut.mk [] .norm [(0, bb (lk T0 x0 x1))] (rO T0) []]
noncomputable def s4 : Tbl := addLp Φ (addLp Φ s0 rd) rn
noncomputable def s5 : Tbl := addFn Φ (addFn Φ (addFn Φ (addFn Φ (addFn Φ (addFn Φ (addFn Φ (addFn Φ (addFn Φ r0 cRNew) cROf) cROffer) cRTake) cRBack) cRRevoke) cRDrop) cRLen) cRLinked
/-- The law. -/
def gpE : List (Nat × AV) := [(0, ii x2), (1, scr), (5, pt 1), (7, pt 3), (9, ii x0)]
def gpO (A : SL) : List AObj := [scrO, taC 2 A, grO A, taR 4 A, grR A]
def scr1 : AV := scr
def gp29 : LpC := LpC.mk 3 29 205 (Tm.mk (gpE ++ [(15, ii x1)]) (gpO T0) (there ++ [.eq (.len T0) x2, .le (.c (-1)) x1, .le x1 (.c 70), .c true, okg]))
  [TOut.mk [] (.exit 3) gpE (gpO T0) [], never 4 (gpO T0) []]
noncomputable def s6 : Tbl := addLp Φ s5 gp29
def dd4 : List AObj := [scrO, .dead, .dead, .dead, .dead]
def gp6 : LpC := LpC.mk 3 6 205 (Tm.mk gpE (gpO T0) (there ++ [.le (.c 0) x0, .le x0 (.c 100), .eq (.len T0) x2, .c true, okg, uses T0]))
  [TOut.mk [] (.exit 0) [] dd4 [1, 2, 3, 4], never 4 dd4 [1, 2, 3, 4]]
noncomputable def s7 : Tbl := addLp Φ s6 gp6
def lPlays0 : FnC := FnC.mk 3 [ii x0, scr] [scrO] [] [yes [scrO], noF [scrO]]
def lPlays : FnC := FnC.mk 3 [ii x0, scr] [scrO] [] [yes [scrO]]
def k5 : SI := .add x0 (.c 1)
def k6 : SI := .sub (.len T0) x3
def k7 : SI := .sub (.c 16) x2
def k8 : SI := .sub (.c 70) x1
end Go.SF.C19
