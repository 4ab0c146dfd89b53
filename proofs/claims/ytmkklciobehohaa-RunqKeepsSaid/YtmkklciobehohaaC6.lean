/- Contracts of chapter 17: the law Keeps. -/
import Derived.Test.YtmkklciobehohaaC3
namespace Go.SF.C17
open Go Go.SF Go.Proofs
set_option linter.unusedVariables false

/-- Two slices that are alike. -/
def inT : List AObj := [vecI T0, vecI M1]
def in1 : LpC := LpC.mk 17 4 26 (Tm.mk [(0, vs 0 T0), (1, vs 1 M1), (5, ii x2)] inT [.le (.c 0) x2, .le (.len T0) (.c 100), .eq (.len T0) (.len M1), .c true, .eqL T0 M1])
  [TOut.mk [] (.exit 0) [] inT [], TOut.mk [.app 199 .nil] .ret [(4, bb (.c false))] inT []]
noncomputable def t13 : Tbl := addLp Φ t7 in1
def cInts0 : FnC := FnC.mk 17 [vs 0 T0, vs 1 M1] inT [.le (.len T0) (.c 100), .c true, .eqL T0 M1] [TOut.mk [] .norm [(0, bb (.c true))] inT [], TOut.mk [.app 199 .nil] .norm [(0, bb (.c false))] inT []]
def cInts : FnC := FnC.mk 17 [vs 0 T0, vs 1 M1] inT [.le (.len T0) (.c 100), .c true, .eqL T0 M1] [TOut.mk [] .norm [(0, bb (.c true))] inT []]
def k10 : SI := .sub (.len T0) x2
/-- Keeps. -/
def W3 : SL := .v 3
def keE (j : Nat) : List (Nat × AV) := [(2, ii x1), (7, ii x0), (8, pt j)]
def pos (T : SL) : SB := .app 137 (.l T .nil)
def ke1 : LpC := LpC.mk 7 6 155
  (Tm.mk ([(1, scr), (10, ii x2)] ++ keE 1) (evO T0 M1) (evP ++ [.le (.c 0) x2, .le x2 (.c 40)] ++ evA ++ [pos T0]))
  [TOut.mk [.eq (.len D1) x0, .le (.c 1) (.len D1), .le (.len D1) (.c 8), invR r64 D1 D0, pos D1] (.exit 0) (keE 1) (scrO :: qR' r64 1 D1 D0 ++ [lsO 2 D1]) [3, 4]]
def keH (j : Nat) : List (Nat × AV) := keE j ++ [(11, ii i4), (13, bb (.v 1))]
def takeT (n : SI) : SL := aL 1 T0 [n]
def ke2 : LpC := LpC.mk 7 12 155
  (Tm.mk ([(15, ii x2), (14, vs 4 L2)] ++ keH 0) (qR r64 0 T0 M1 ++ [.dead, lsO 4 L2]) (evP ++ [.le (.c 0) x2, .le x2 x0, .le (.len L2) x2] ++ evA ++ [.eqL L2 (takeT x2)]))
  [TOut.mk [] (.exit 2) ((14, vs 4 T0) :: keH 0) (qR r64 0 T0 M1 ++ [.dead, lsO 4 T0]) [],
   TOut.mk [] (.exit 2) ((14, vs 6 T0) :: keH 0) (qR' r64 0 T0 M1 ++ [.dead, .dead, .dead, lsO 6 T0, lsO 1 T0]) [2, 5]]
def wnt (c n : SI) : SL := aL 122 W3 [c, x1, n]
def ke4 : LpC := LpC.mk 7 22 155
  (Tm.mk ([(18, ii x2), (17, vs 6 L2), (16, ii i5), (14, vs 4 W3)] ++ keH 0) (qR r64 0 T0 M1 ++ [.dead, lsO 4 W3, vecI L2])
    (evP ++ [.eq (.len W3) x0, .le (.c 0) i5, .lt i5 x0, .le (.c 0) x2, .le x2 (.c 65), .le (.len L2) x2] ++ evA ++ [.le (.len (row W3 i5)) (.c 65), .eqL L2 (wnt i5 x2)]))
  [TOut.mk [.le (.len (wnt i5 (.len (row W3 i5)))) (.c 65)] (.exit 6) ([(17, vs 7 (wnt i5 (.len (row W3 i5)))), (16, ii i5), (14, vs 4 W3)] ++ keH 0) (qR r64 0 T0 M1 ++ [.dead, .dead, .dead, vecI (wnt i5 (.len (row W3 i5))), lsO 4 W3]) [5, 6]]
def ke3 : LpC := LpC.mk 7 18 155
  (Tm.mk ([(16, ii x2), (14, vs 4 W3)] ++ keH 0) (qR r64 0 T0 M1 ++ [.dead, lsO 4 W3])
    (evP ++ [.eq (.len W3) x0, .le (.c 0) x2, .le x2 x0] ++ evA ++ [.eqL T0 (aL 112 W3 [x1]), .not (has x1)]))
  [TOut.mk [] (.exit 4) ((14, vs 4 W3) :: keH 0) (qR' r64 0 T0 M1 ++ [.dead, .dead, lsO 1 T0, lsO 4 W3]) [2, 5]]
noncomputable def u14 : Tbl := addLp Φ t7 ke1
noncomputable def t14 : Tbl := addFn Φ (addLp Φ u14 ke2) cInts
noncomputable def t15 : Tbl := addLp Φ t14 ke4
noncomputable def t16 : Tbl := addLp Φ t15 ke3
def lKeeps0 : FnC := FnC.mk 7 [.cv (.i .u8 x0), scr, ii x1] [scrO] (u8 x0) [yes [scrO], noF [scrO]]
def lKeeps : FnC := FnC.mk 7 [.cv (.i .u8 x0), scr, ii x1] [scrO] (u8 x0) [yes [scrO]]
def k11 : SI := .sub (.c 40) x2
def k12 : SI := .sub (.len (row W3 i5)) x2
end Go.SF.C17
