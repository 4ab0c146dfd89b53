/- Contracts of chapter 21: the packages under it, together. -/
import Derived.Test.YtnhdohhhgfdhfaaCQ
import Derived.Test.YtnhdohhhgfdhfaaCT
namespace Go.SF.C21
open Go Go.SF Go.Proofs
set_option linter.unusedVariables false

def pt (j : Nat) : AV := .cv (.p (some ⟨j, .c 0, 0⟩))
def ii (x : SI) : AV := .cv (.i .i64 x)
def bb (x : SB) : AV := .cv (.b x)
def x0 : SI := .v 0
noncomputable def b1 : Tbl := addFn Φ (addFn Φ (addFn Φ (addFn Φ (addFn Φ T.t6 Q.cNew) Q.cPush) Q.cPop) Q.cDrop) Q.cList
def cKnown : FnC := FnC.mk 30 [] [] [] [TOut.mk [] .norm [(0, bb (.c true))] [] []]
noncomputable def b2 : Tbl := addFn Φ noTbl cKnown
def yes (s : List AObj) : TOut := TOut.mk [] .norm [(0, bb (.c true))] s []
def noF (s : List AObj) : TOut := TOut.mk [.app 199 .nil] .norm [(0, bb (.c false))] s []
def lNil : FnC := FnC.mk 7 [ii x0] [] [] [yes []]
end Go.SF.C21
