/- Contracts of chapter 18: the law of steps. -/
import Derived.Test.YtnjnmeidjcdppaaC3
namespace Go.SF.C18
open Go Go.SF Go.Proofs
set_option linter.unusedVariables false

def vecI (A : SL) : AObj := .abs (.vec [.i .i64] 3) A
def okt (T : SL) (i : SI) : SB := aB 142 T [i]
def okl (L : SL) (n : SI) : SB := aB 141 L [n]
def cnt (T : SL) (n : SI) : SL := aL 128 T [n]
def addA (N L : SL) (k : SI) : SL := .app 126 (.l N (.l L (.i k .nil)))
def subA (N L : SL) (k : SI) : SL := .app 127 (.l N (.l L (.i k .nil)))
def s3 : List AObj := [s16 5, s16 6, s16 7]
def ab (T : SL) : List AObj := [tmC (.c 1) (.c 0) 4 5, mapT T, mapC (.lit []), tmC (.c 1) (.c 0) 7 8, mapT T, mapC (.lit [])]
def st1 : LpC := LpC.mk 4 6 275
  (Tm.mk [(0, scj 0 5), (1, scj 1 6), (2, scj 2 7), (7, pt 3), (9, pt 6), (11, ii x0)] (s3 ++ ab T0) [.le (.c 0) x0, .le x0 (.len (.v 5)), .le (.len (.v 5)) (.c 30), .le (.len T0) x0, okt T0 x0])
  [TOut.mk [okt (.v 1000) (.c 30), .le (.len (.v 1000)) (.c 30)] (.exit 0) [(2, scj 2 7), (7, pt 3), (9, pt 6)] (s3 ++ ab (.v 1000)) [4, 7]]
noncomputable def t14 : Tbl := addLp Φ t10 st1
/-- Tick, where the time goes on. -/
def cTickOn : FnC := FnC.mk 15 [pt 0, ii x0] (tmO q8 n9 T0 C1) (qs ++ [.lt (.len T0) (.c 80000), .c true, .le n9 x0, .le x0 (.c 549755813888)])
  [TOut.mk [.lt (.len (tL T0 x0)) (.c 80000), .le (.len (tT T0 x0)) (.len T0)] .norm [(0, tup (.vs 3 (.c 0) (.len (tL T0 x0)) none) (.i .i64 (.c 0)))] (tmO q8 x0 (tT T0 x0) C1 ++ [fireO (tL T0 x0)]) [0, 1]]
noncomputable def t14a : Tbl := addFn Φ t14 cTickOn
/-- The loop over what fires: the numbers .v 3, the row .v 4. -/
def N3 : SL := .v 3
def L4 : SL := .v 4
def T2 : SL := .v 2
def nw : SI := .v 9
def stO (n : SI) (Ta N : SL) : List AObj := [s16 7, tmC (.c 1) n 2 3, mapT Ta, mapC (.lit []), tmC (.c 1) (.c 0) 5 6, mapT T0, mapC (.lit []), vecI N]
def stS (N : SL) : List (Nat × AV) := [(2, scj 0 7), (7, pt 1), (9, pt 4), (13, vs 7 N), (14, ii nw), (15, ii x0)]
def st3 : LpC := LpC.mk 4 21 275
  (Tm.mk (stS N3 ++ [(16, vs 8 L4), (18, ii x1)]) (stO nw T2 N3 ++ [fireO L4]) [.le (.c 0) x1, .le x1 (.len L4), .lt (.len L4) (.c 80000), .eq (.len N3) (.c 30), .le (.c 0) nw, .c true, okl L4 nw])
  [TOut.mk [.eq (.len (addA N3 L4 x1)) (.c 30)] (.exit 4) (stS (addA N3 L4 x1)) (stO nw T2 (addA N3 L4 x1) ++ [fireO L4]) [7],
   never 6 (stO nw T2 (addA N3 L4 x1) ++ [fireO L4]) [7]]
noncomputable def t15 : Tbl := addLp Φ t14a st3
def z1 : SI := .v 1001
def st2 : LpC := LpC.mk 4 16 275
  (Tm.mk (stS N3) (stO nw T2 N3) [.le (.c 0) x0, .le x0 (.len (.v 7)), .le (.len (.v 7)) (.c 30), .le (.c 0) nw, .le nw (.c 3000000), .eq (.len N3) (.c 30), .le (.len T2) (.c 30), .le (.len T0) (.c 30), okt T0 (.c 30),
    .c true, .le nw (.mul (.c 65535) x0), .eqL T2 (tT T0 nw), .eqL N3 (cnt T0 nw)])
  [TOut.mk [.le (.c 0) z1, .le z1 (.c 3000000), .eq (.len (cnt T0 z1)) (.c 30), .le (.len (tT T0 z1)) (.c 30)] (.exit 2) [(7, pt 1), (9, pt 4), (13, vs 7 (cnt T0 z1)), (14, ii z1)] (stO z1 (tT T0 z1) (cnt T0 z1)) [1, 2, 7],
   never 6 (stO z1 (tT T0 z1) (cnt T0 z1)) [1, 2, 7]]
noncomputable def t16 : Tbl := addLp Φ t15 st2
/-- Behind the last step. -/
def enO (N : SL) : List AObj := [tmC (.c 1) nw 1 2, mapT T2, mapC (.lit []), tmC (.c 1) nw 4 5, mapT T0, mapC (.lit []), vecI N]
def enS (N : SL) : List (Nat × AV) := [(7, pt 0), (9, pt 3), (13, vs 6 N), (14, ii nw)]
def st4 : LpC := LpC.mk 4 28 275
  (Tm.mk (enS N3 ++ [(19, vs 7 L4), (21, ii x1)]) (enO N3 ++ [fireO L4]) [.le (.c 0) x1, .le x1 (.len L4), .lt (.len L4) (.c 80000), .eq (.len N3) (.c 30), .le (.c 0) nw, .c true, okl L4 nw])
  [TOut.mk [.eq (.len (subA N3 L4 x1)) (.c 30)] (.exit 6) (enS (subA N3 L4 x1)) (enO (subA N3 L4 x1) ++ [fireO L4]) [6],
   never 6 (enO (subA N3 L4 x1) ++ [fireO L4]) [6]]
noncomputable def t17 : Tbl := addLp Φ t16 st4
def zeros : SL := .lit (List.replicate 30 [0])
def st5 : LpC := LpC.mk 4 34 275
  (Tm.mk (enS N3 ++ [(22, ii x1)]) (enO N3) [.le (.c 0) x1, .le x1 (.c 30), .eq (.len N3) (.c 30), .c true, .eqL N3 zeros])
  [TOut.mk [] (.exit 8) (enS N3) (enO N3) [], never 6 (enO N3) []]
noncomputable def t18 : Tbl := addLp Φ t17 st5
def stV : List AV := [scj 0 5, scj 1 6, scj 2 7]
def lSteps0 : FnC := FnC.mk 4 stV s3 [] [yes s3, noF s3]
def lSteps : FnC := FnC.mk 4 stV s3 [] [yes s3]
def i9 : SI := .sub (.len (.v 5)) x0
def i10 : SI := .sub (.len L4) x1
def i11 : SI := .sub (.len (.v 7)) x0
def i12 : SI := .sub (.c 30) x1
end Go.SF.C18
