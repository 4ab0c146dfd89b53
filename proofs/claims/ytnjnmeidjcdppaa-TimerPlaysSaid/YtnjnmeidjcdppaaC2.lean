/- Contracts of chapter 18: the fixed calls, and the laws of timers that are not there, that fire once, and of credits. -/
import Derived.Test.YtnjnmeidjcdppaaC1
namespace Go.SF.C18
open Go Go.SF Go.Proofs
set_option linter.unusedVariables false

def refO (A : SL) : AObj := .abs (.vec [.i .i64, .i .i64, .i .i64] 76) A
def R1 : SL := .v 1
def dropT (A : SL) (n : SI) : SL := .app 2 (.l A (.i n .nil))
def takeT (A : SL) (n : SI) : SL := .app 1 (.l A (.i n .nil))
def sm0 : LpC := LpC.mk 17 4 26
  (Tm.mk [(0, vs 0 T0), (1, vs 1 R1), (5, ii x1)] [refO T0, refO R1] [.le (.c 0) x1, .le x1 (.len T0), .eq (.len T0) (.len R1), few T0])
  [TOut.mk [.not (.eqL (dropT T0 x1) (dropT R1 x1))] .ret [(4, bb (.c false))] [refO T0, refO R1] [],
   TOut.mk [.eqL (dropT T0 x1) (dropT R1 x1)] (.exit 0) [] [refO T0, refO R1] []]
def pl0 : LpC := LpC.mk 18 3 31
  (Tm.mk [(0, vs 0 L2), (3, vs 1 R1), (4, ii x1)] [fireO L2, refO R1] [.le (.c 0) x1, .le x1 (.len L2), few L2, .le (.len R1) x1, .c true, .eqL R1 (takeT L2 x1)])
  [TOut.mk [] (.exit 0) [(3, vs 2 L2)] [fireO L2, .dead, refO L2] [1]]
noncomputable def t7 : Tbl := addLp Φ (addLp Φ t6 sm0) pl0
def cSame : FnC := FnC.mk 17 [vs 0 T0, vs 1 R1] [refO T0, refO R1] [few T0]
  [TOut.mk [] .norm [(0, bb (.eqL T0 R1))] [refO T0, refO R1] []]
def cPlain : FnC := FnC.mk 18 [vs 0 L2] [fireO L2] [few L2]
  [TOut.mk [] .norm [(0, vs 1 L2)] [fireO L2, refO L2] []]
/-- All of them. -/
noncomputable def t8 : Tbl := addFn Φ (addFn Φ (addFn Φ (addFn Φ (addFn Φ (addFn Φ (addFn Φ (addFn Φ (addFn Φ t7 cSame) cPlain) cNew) cArm) cDisarm) cNow) cCredit) cCharge) cRefill
def cKnown : FnC := FnC.mk 28 [] [] [] [TOut.mk [] .norm [(0, bb (.c true))] [] []]
noncomputable def t9 : Tbl := addFn Φ noTbl cKnown
noncomputable def t10 : Tbl := addFn Φ t8 cKnown
def yes (s : List AObj) : TOut := TOut.mk [] .norm [(0, bb (.c true))] s []
def noF (s : List AObj) : TOut := TOut.mk [.app 199 .nil] .norm [(0, bb (.c false))] s []
def never (s : Nat) (o : List AObj) (wr : List Nat) : TOut := TOut.mk [.app 199 .nil] .ret [(s, bb (.c false))] o wr
def lNil : FnC := FnC.mk 6 [ii x0] [] [] [yes []]
def u8 (x : SI) : List SB := [.le (.c 0) x, .le x (.c 255)]
def u16 (x : SI) : List SB := [.le (.c 0) x, .le x (.c 65535)]
def onV : List AV := [.cv (.i .u16 x0), .cv (.i .u16 x1), .cv (.i .u8 x2)]
def lOnce0 : FnC := FnC.mk 7 onV [] (u16 x0 ++ u16 x1 ++ u8 x2) [yes [], noF []]
def lOnce : FnC := FnC.mk 7 onV [] (u16 x0 ++ u16 x1 ++ u8 x2) [yes []]
/-- Credits. -/
def scr (k : Nat) : AV := .cv (.vs 0 (.c 0) (.len (.v k)) none)
def s16 (k : Nat) : AObj := .ext (.v k) [.i .u16]
def crO (q : SI) (C : SL) : List AObj := [s16 9, tmC q (.c 0) 2 3, mapT (.lit []), mapC C]
def bound (C : SL) (i q : SI) : SB := aB 132 C [i, q]
def cd : List AObj := [s16 9, .dead, .dead, .dead]
def cr0 : LpC := LpC.mk 5 6 141
  (Tm.mk [(1, scr 9), (5, ii q8), (6, pt 1), (8, ii x0)] (crO q8 C1) [.le (.c 0) x0, .le x0 (.len (.v 9)), .le (.len (.v 9)) (.c 100), .le (.c 1) q8, .le q8 (.c 256), bound C1 x0 q8])
  [TOut.mk [bound (.v 1000) (.c 100) q8] (.exit 0) [(6, pt 1)] (crO q8 (.v 1000)) [1, 2, 3], never 4 cd [1, 2, 3]]
noncomputable def t11 : Tbl := addLp Φ t10 cr0
def lCredit0 : FnC := FnC.mk 5 [.cv (.i .u8 x0), scr 9] [s16 9] (u8 x0) [yes [s16 9], noF [s16 9]]
def lCredit : FnC := FnC.mk 5 [.cv (.i .u8 x0), scr 9] [s16 9] (u8 x0) [yes [s16 9]]
def i4 : SI := .sub (.len T0) x1
def i5 : SI := .sub (.len L2) x1
def i6 : SI := .sub (.len (.v 9)) x0
end Go.SF.C18
