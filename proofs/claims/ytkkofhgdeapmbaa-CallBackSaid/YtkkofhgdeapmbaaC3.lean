/- Contracts of chapter 22: words' call, and the laws of what is read, and of arguments. -/
import Derived.Test.YtkkofhgdeapmbaaC2
namespace Go.SF.C22
open Go Go.SF Go.Proofs
set_option linter.unusedVariables false

/-- As it is, whatever it is. -/
def cPl2 : FnC := FnC.mk 10 [callV] [] [] [TOut.mk [] .norm [(0, callV)] [] []]
/-- Decode: of a slice that comes in; of a call's words; of four words. -/
def A9 : SL := .v 9
def dj (j : Int) : SI := .app 121 (.l A9 (.i (.c j) .nil))
def inV : AV := .cv (.vs 0 (.c 0) (.len A9) none)
def inO : AObj := .ext A9 [.i .u64]
def dcI (f : Nat) : FnC := FnC.mk f [inV] [inO] [.le (.len A9) (.c 20), .le (.c 0) (.sel A9 (.c 0) 0)]
  [TOut.mk (kF (dj 0) 0) .norm [(0, .tup [.inr [.i .i64 (dj 0), .i .u64 (dj 1), .i .u64 (dj 2), .i .u64 (dj 3)], .inl (.b (.eq (dj 4) (.c 1)))])] [inO] []]
def di1 : FnC := dcI 23
def di2 : FnC := dcI 24
def tup4 (a b c d : SI) (x : SB) : AV := .tup [.inr [.i .i64 a, .i .u64 b, .i .u64 c, .i .u64 d], .inl (.b x)]
def no4 : AV := tup4 (.c 0) (.c 0) (.c 0) (.c 0) (.c false)
def dc4 (t : TypeId) : FnC := FnC.mk 23 [s4 0] [o4 x0 x1 x2 x3 t] (u64 x0 ++ callF)
  [TOut.mk [rg, .le (.c 1) x0, .le x0 (.c 17)] .norm [(0, tup4 x0 x1 x2 x3 (.c true))] [o4 x0 x1 x2 x3 t] [],
   TOut.mk [.not rg] .norm [(0, no4)] [o4 x0 x1 x2 x3 t] []]
def d41 : FnC := dc4 22
def d42 : FnC := dc4 48
def dcN : FnC := FnC.mk 23 [s0] [] [] [TOut.mk [] .norm [(0, no4)] [] []]
noncomputable def q6 : Tbl := addFn Φ (addFn Φ (addFn Φ (addFn Φ (addFn Φ (addFn Φ q5 cPl2) di1) di2) d41) d42) dcN
/-- The blanks of a text. -/
def k1 : SI := .v 10
def n1 : SI := .v 11
def l1 : SI := .v 12
def cO4 (a b c d : SI) : AObj := .cells [.i .i64 a, .i .u64 b, .i .u64 c, .i .u64 d] 24
def ca0 : LpC := LpC.mk 6 15 83
  (Tm.mk [(5, ii k1), (6, ii n1), (7, pt 0), (8, ii l1), (10, ss x0), (11, ii (.v 2)), (12, ii (.v 3))] [cO4 k1 (.v 4) (.v 5) (.v 6)]
    (txt x0 ++ [.le (.c 0) (.v 3), .le (.v 3) (len x0), .le (.c 0) (.v 2), .le (.v 2) (.v 3), .c true, .eq (.v 2) (fi 123 [x0, .v 3])]))
  [TOut.mk [.le (.c 0) (fi 124 [x0]), .le (fi 124 [x0]) (len x0)] (.exit 2) [(5, ii k1), (6, ii n1), (7, pt 0), (8, ii l1), (10, ss x0), (11, ii (fi 124 [x0]))] [cO4 k1 (.v 4) (.v 5) (.v 6)] []]
def kB : SI := .sub (len x0) (.v 3)
noncomputable def q7 : Tbl := addLp Φ q6 ca0
/-- The laws. -/
def lReads : FnC := FnC.mk 4 [ss x0, .cv (.vs 0 (.c 0) (.len (.v 9)) none)] [.ext (.v 9) [.i .u64]] [.le (.c 0) x0, .le (.c 0) (.sel A9 (.c 0) 0)]
  [TOut.mk [] .norm [(0, bb (.c true))] [.ext (.v 9) [.i .u64]] [], TOut.mk [.app 199 .nil] .norm [(0, bb (.c false))] [.ext (.v 9) [.i .u64]] []]
def lBack : FnC := FnC.mk 5 [callV, ss (.v 8), .agg [.i .u64 y0, .i .u64 y1, .i .u64 y2, .i .u64 y3]] [] (callF ++ [.le (.c 0) (.v 8)] ++ u64 y0 ++ u64 y1 ++ u64 y2 ++ u64 y3) [yes, noF]
def lArgs : FnC := FnC.mk 6 [.cv (.i .u8 x0), .agg [.i .u64 x1, .i .u64 x2, .i .u64 x3]] [] ([.le (.c 0) x0, .le x0 (.c 255)] ++ callF) [yes, noF]
end Go.SF.C22

