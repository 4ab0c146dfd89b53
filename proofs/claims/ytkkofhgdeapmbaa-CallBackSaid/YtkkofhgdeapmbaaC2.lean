/- Contracts of chapter 22: words, the fixed calls, the laws. -/
import Derived.Test.YtkkofhgdeapmbaaC1
namespace Go.SF.C22
open Go Go.SF Go.Proofs
set_option linter.unusedVariables false

def cPlain : FnC := FnC.mk 10 [callV] [] callF [TOut.mk [] .norm [(0, callV)] [] []]
noncomputable def q0 : Tbl := addFn Φ (addFn Φ (addFn Φ t10 cParse) cParseR) cPlain
def cKnown : FnC := FnC.mk 20 [] [] [] [TOut.mk [] .norm [(0, bb (.c true))] [] []]
def kn1 : FnC := FnC.mk 16 [ii (.c 5)] [] [] [TOut.mk [] .norm [(0, ii (.c 1))] [] []]
noncomputable def q1 : Tbl := addFn Φ q0 cKnown
/-- Whether a call is right, with its kind's bounds. -/
def cRt (f : Nat) : FnC := FnC.mk f [callV] [] callF [TOut.mk [rg, .le (.c 1) x0, .le x0 (.c 17)] .norm [(0, bb (.c true))] [] [], TOut.mk [.not rg] .norm [(0, bb (.c false))] [] []]
def rt1 : FnC := cRt 8
def rt2 : FnC := cRt 9
noncomputable def q2 : Tbl := addFn Φ q1 rt1
/-- Encode. -/
def s4 (j : Nat) : AV := .cv (.sl (some ⟨j, .c 0, 0⟩) (.c 4) (.c 4))
def s0 : AV := .cv (.sl none (.c 0) (.c 0))
def o4 (a b c d : SI) (t : TypeId) : AObj := .cells [.i .u64 a, .i .u64 b, .i .u64 c, .i .u64 d] t
def cEn (f : Nat) : FnC := FnC.mk f [callV] [] callF
  [TOut.mk [rg, .le (.c 1) x0, .le x0 (.c 17)] .norm [(0, s4 0)] [o4 x0 x1 x2 x3 22] [], TOut.mk [.not rg] .norm [(0, s0)] [] []]
def en1 : FnC := cEn 14
def en2 : FnC := cEn 15
noncomputable def q3 : Tbl := addFn Φ (addFn Φ q2 en1) en2
/-- Words. -/
def y0 : SI := .v 4
def y1 : SI := .v 5
def y2 : SI := .v 6
def y3 : SI := .v 7
def eq4 : SB := .and (.eq x0 y0) (.and (.eq x1 y1) (.and (.eq x2 y2) (.eq x3 y3)))
def cW44 (t : TypeId) : FnC := FnC.mk 13 [s4 0, s4 1] [o4 x0 x1 x2 x3 22, o4 y0 y1 y2 y3 t] []
  [TOut.mk [.eq x0 y0, .eq x1 y1, .eq x2 y2, .eq x3 y3] .norm [(0, bb (.c true))] [o4 x0 x1 x2 x3 22, o4 y0 y1 y2 y3 t] [],
   TOut.mk [.not eq4] .norm [(0, bb (.c false))] [o4 x0 x1 x2 x3 22, o4 y0 y1 y2 y3 t] []]
def wq1 : FnC := cW44 22
def wq2 : FnC := cW44 48
def wq3 : FnC := FnC.mk 13 [s0, s0] [] [] [TOut.mk [] .norm [(0, bb (.c true))] [] []]
def wq4 : FnC := FnC.mk 13 [s0, s4 0] [o4 y0 y1 y2 y3 48] [] [TOut.mk [] .norm [(0, bb (.c false))] [o4 y0 y1 y2 y3 48] []]
noncomputable def q4 : Tbl := addFn Φ (addFn Φ (addFn Φ (addFn Φ q3 wq1) wq2) wq3) wq4
/-- Whether the monitor alone may ask for it. -/
def ctl : SB := .or (.eq x0 (.c 1)) (.or (.eq x0 (.c 2)) (.eq x0 (.c 17)))
def cCt (f : Nat) : FnC := FnC.mk f [ii x0] [] [] [TOut.mk [] .norm [(0, bb ctl)] [] []]
def ct1 : FnC := cCt 18
def ct2 : FnC := cCt 19
noncomputable def q5 : Tbl := addFn Φ (addFn Φ q4 ct1) ct2
/-- The laws. -/
def yes : TOut := TOut.mk [] .norm [(0, bb (.c true))] [] []
def noF : TOut := TOut.mk [.app 199 .nil] .norm [(0, bb (.c false))] [] []
def lTells : FnC := FnC.mk 3 [callV] [] callF [yes, noF]
def z0 : SI := .v 4
def callZ : AV := .agg [.i .i64 y0, .i .u64 y1, .i .u64 y2, .i .u64 y3]
def lApart : FnC := FnC.mk 7 [callV, callZ] [] (callF ++ u64 y1 ++ u64 y2 ++ u64 y3) [yes, noF]
end Go.SF.C22
