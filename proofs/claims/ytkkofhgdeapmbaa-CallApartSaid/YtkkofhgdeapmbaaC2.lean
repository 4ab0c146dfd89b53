/- Contracts of chapter 22: words, the fixed calls, the laws. -/
import Derived.Test.YtkkofhgdeapmbaaC1
namespace Go.SF.C22
open Go Go.SF Go.Proofs
set_option linter.unusedVariables false

def cPlain : FnC := FnC.mk 10 [callV] [] callF [TOut.mk [] .norm [(0, callV)] [] []]
noncomputable def q0 : Tbl := addFn Φ (addFn Φ (addFn Φ t10 cParse) cParseR) cPlain
def cKnown : FnC := FnC.mk 20 [] [] [] [TOut.mk [] .norm [(0, bb (.c true))] [] []]
def kn1 : FnC := FnC.mk 16 [ii (.c 5)] [] [] [TOut.mk [] .norm [(0, ii (.c 1))] [] []]
noncomputable def q1 : Tbl := addFn Φ q0 cKnown
/-- Whether a call is right, with its kind's bounds. -/
def cRt (f : Nat) : FnC := FnC.mk f [callV] [] callF [TOut.mk [rg, .le (.c 1) x0, .le x0 (.c 17)] .norm [(0, bb (.c true))] [] [], TOut.mk [.not rg] .norm [(0, bb (.c false))] [] []]
def rt1 : FnC := cRt 8
def rt2 : FnC := cRt 9
noncomputable def q2 : Tbl := addFn Φ q1 rt1
/-- Encode. -/
def s4 (j : Nat) : AV := .cv (.sl (some ⟨j, .c 0, 0⟩) (.c 4) (.c 4))
def s0 : AV := .cv (.sl none (.c 0) (.c 0))
def o4 (a b c d : SI) (t : TypeId) : AObj := .cells [.i .u64 a, .i .u64 b, .i .u64 c, .i .u64 d] t
def cEn (f : Nat) : FnC := FnC.mk f [callV] [] callF
  [TOut.mk [rg, .le (.c 1) x0, .le x0 (.c 17)] .norm [(0, s4 0)] [o4 x0 x1 x2 x3 22] [], TOut.mk [.not rg] .norm [(0, s0)] [] []]
def en1 : FnC := cEn 14
def en2 : FnC := cEn 15
noncomputable def q3 : Tbl := addFn Φ (addFn Φ q2 en1) en2
/-- Words. -/
def y0 : SI := .v 4
def y1 : SI := .v 5
def y2 : SI := .v 6
def y3 : SI := .v 7
def eq4 : SB := .and (.eq x0 y0) (.and (.eq x1 y1) (.and (.eq x2 y2) (.eq x3 y3)))
def cW44 (t : TypeId) : FnC := FnC.mk 13 [s4 0, s4 1] [o4 x0 x1 x2 x3 22, o4 y0 y1 y2 y3 t] []
  [TOut.mk [.eq x0 y0, .eq x1 y1, .eq x2 y2, .eq x3 y3] .norm [(0, bb (.c true))] [o4 x0 x1 x2 x3 22, o4 y0 y1 y2 y3 t] [],
   TOut.mk [.not eq4] .norm [(0, bb (.c false))] [o4 x0 x1 x2 x3 22, o4 y0 y1 y2 y3 t] []]
def wq1 : FnC := cW44 22
def wq2 : FnC := cW44 48
def wq3 : FnC := FnC.mk 13 [s0, s0] [] [] [TOut.mk [] .norm [(0, bb (.c true))] [] []]
def wq4 : FnC := FnC.mk 13 [s0, s4 0] [o4 y0 y1 y2 y3 48] [] [TOut.mk [] .norm [(0, bb (.c false))] [o4 y0 y1 y2 y3 48] []]
noncomputable def q4 : Tbl := addFn Φ (addFn Φ (addFn Φ (addFn Φ q3 wq1) wq2) wq3) wq4
/-- Whether the monitor alone may ask for it. -/
def ctl : SB := .or (.eq x0 (.c 1)) (.or (.eq x0 (.c 2)) (.eq x0 (.c 17)))
def cCt (f : Nat) : FnC := FnC.mk f [ii x0] [] [] [TOut.mk [] .norm [(0, bb ctl)] [] []]
def ct1 : FnC := cCt 18
def ct2 : FnC := cCt 19
noncomputable def q5 : Tbl := addFn Φ (addFn Φ q4 ct1) ct2
/-- Decode: of a slice that comes in; of a call's words; of four words. -/
def A9 : SL := .v 9
def dj (j : Int) : SI := .app 121 (.l A9 (.i (.c j) .nil))
def inV : AV := .cv (.vs 0 (.c 0) (.len A9) none)
def inO : AObj := .ext A9 [.i .u64]
def dcI (f : Nat) : FnC := FnC.mk f [inV] [inO] [.le (.len A9) (.c 20)]
  [TOut.mk (u6 (dj 1) ++ u6 (dj 2) ++ u6 (dj 3) ++ kF (dj 0) 0) .norm [(0, .tup [.inr [.i .i64 (dj 0), .i .u64 (dj 1), .i .u64 (dj 2), .i .u64 (dj 3)], .inl (.b (.eq (dj 4) (.c 1)))])] [inO] []]
def di1 : FnC := dcI 23
def di2 : FnC := dcI 24
def tup4 (a b c d : SI) (x : SB) : AV := .tup [.inr [.i .i64 a, .i .u64 b, .i .u64 c, .i .u64 d], .inl (.b x)]
def no4 : AV := tup4 (.c 0) (.c 0) (.c 0) (.c 0) (.c false)
def dc4 (t : TypeId) : FnC := FnC.mk 23 [s4 0] [o4 x0 x1 x2 x3 t] (u64 x0 ++ callF)
  [TOut.mk [rg, .le (.c 1) x0, .le x0 (.c 17)] .norm [(0, tup4 x0 x1 x2 x3 (.c true))] [o4 x0 x1 x2 x3 t] [],
   TOut.mk [.not rg] .norm [(0, no4)] [o4 x0 x1 x2 x3 t] []]
def d41 : FnC := dc4 22
def d42 : FnC := dc4 48
def dcN : FnC := FnC.mk 23 [s0] [] [] [TOut.mk [] .norm [(0, no4)] [] []]
noncomputable def q6 : Tbl := addFn Φ (addFn Φ (addFn Φ (addFn Φ (addFn Φ q5 di1) di2) d41) d42) dcN
/-- The blanks of a text. -/
def k1 : SI := .v 10
def n1 : SI := .v 11
def l1 : SI := .v 12
def cO4 (a b c d : SI) : AObj := .cells [.i .i64 a, .i .u64 b, .i .u64 c, .i .u64 d] 24
def ca0 : LpC := LpC.mk 6 15 83
  (Tm.mk [(5, ii k1), (6, ii n1), (7, pt 0), (8, ii l1), (10, ss x0), (11, ii (.v 2)), (12, ii (.v 3))] [cO4 k1 (.v 4) (.v 5) (.v 6)]
    (txt x0 ++ [.le (.c 0) (.v 3), .le (.v 3) (len x0), .le (.c 0) (.v 2), .le (.v 2) (.v 3), .c true, .eq (.v 2) (fi 123 [x0, .v 3])]))
  [TOut.mk [.le (.c 0) (fi 124 [x0]), .le (fi 124 [x0]) (len x0)] (.exit 2) [(5, ii k1), (6, ii n1), (7, pt 0), (8, ii l1), (10, ss x0), (11, ii (fi 124 [x0]))] [cO4 k1 (.v 4) (.v 5) (.v 6)] []]
def kB : SI := .sub (len x0) (.v 3)
noncomputable def q7 : Tbl := addLp Φ q6 ca0
/-- The laws. -/
def yes : TOut := TOut.mk [] .norm [(0, bb (.c true))] [] []
def noF : TOut := TOut.mk [.app 199 .nil] .norm [(0, bb (.c false))] [] []
def lTells : FnC := FnC.mk 3 [callV] [] callF [yes, noF]
def lReads : FnC := FnC.mk 4 [ss x0, .cv (.vs 0 (.c 0) (.len (.v 9)) none)] [.ext (.v 9) [.i .u64]] [.le (.c 0) x0, .le (.len (.v 9)) (.c 9000000000000000000)]
  [TOut.mk [] .norm [(0, bb (.c true))] [.ext (.v 9) [.i .u64]] [], TOut.mk [.app 199 .nil] .norm [(0, bb (.c false))] [.ext (.v 9) [.i .u64]] []]
def lBack : FnC := FnC.mk 5 [callV, ss (.v 8), .agg [.i .u64 y0, .i .u64 y1, .i .u64 y2, .i .u64 y3]] [] (callF ++ [.le (.c 0) (.v 8)] ++ u64 y0 ++ u64 y1 ++ u64 y2 ++ u64 y3) [yes, noF]
def z0 : SI := .v 4
def callZ : AV := .agg [.i .i64 y0, .i .u64 y1, .i .u64 y2, .i .u64 y3]
def lApart : FnC := FnC.mk 7 [callV, callZ] [] (callF ++ u64 y1 ++ u64 y2 ++ u64 y3) [yes, noF]
def lArgs : FnC := FnC.mk 6 [.cv (.i .u8 x0), .agg [.i .u64 x1, .i .u64 x2, .i .u64 x3]] [] ([.le (.c 0) x0, .le x0 (.c 255)] ++ callF) [yes, noF]
end Go.SF.C22
