/- Contracts of chapter 14: the loops of the laws, and the laws. -/
import Derived.Test.YtlbppnfmahnnaaaC3
namespace Go.SF.C14
open Go Go.SF Go.Proofs
set_option linter.unusedVariables false

def pj (j : Nat) : AV := .cv (.p (some ⟨j, .c 0, 0⟩))
abbrev K6 : List CK := [.i .i64, .i .i64, .i .i64, .i .i64, .i .i64, .i .i64]
/-- A script that comes in: object 0. -/
def scrV : AV := .cv (.vs 0 (.c 0) (.len (.v 9)) none)
def scrO : AObj := .ext (.v 9) K6
def never (o : List AObj) (wr : List Nat) : TOut := TOut.mk [.app 199 .nil] .ret [(4, .cv (.b (.c false)))] o wr
def dead4 : List AObj := [scrO, .dead, .dead, .dead, .dead]
def dead2 : List AObj := [scrO, .dead, .dead]
def plLp : LpC := LpC.mk 7 6 168
  (Tm.mk [(1, scrV), (5, pj 1), (7, pj 3), (9, ii (.v 0))] [scrO, tlbC 2 l0 (.v 1), linesO l0, refC 4 l0 (.v 1), refL l0]
    [.le (.c 0) (.v 0), .le (.v 0) (.c 80), .lt (.c 0) (.v 1), .le (.len l0) (.v 0)])
  [TOut.mk [] (.exit 0) [] dead4 [1, 2, 3, 4], never dead4 [1, 2, 3, 4]]
noncomputable def t10 : Tbl := addLp Φ t9 plLp
def lPlays : FnC := FnC.mk 7 [ii (.v 0), scrV] [scrO] [] [yesOut [scrO]]

/-- No two lines of one tag and page. -/
def nodup (A : SL) : SB := .app 160 (.l A .nil)
def onS : List (Nat × AV) := [(1, scrV), (5, ii (.v 1)), (6, pj 1), (8, ii (.v 0))]
def onO : List AObj := [scrO, tlbC 2 l0 (.v 1), linesO l0]
def onL : List AObj := [scrO, tlbC 2 l0 (.v 1), linesO l0, linesO l0]
def onPc : List SB := [.le (.c 0) (.v 0), .lt (.v 0) (.c 80), .lt (.c 0) (.v 1), .le (.v 1) (.c 8), nodup l0, .c true, .le (.len l0) (.v 1)]
def onV : AV := .cv (.vs 3 (.c 0) (.len l0) none)
def on3 : LpC := LpC.mk 3 23 145
  (Tm.mk (onS ++ [(14, onV), (15, ii (.v 3)), (16, ii (.v 2))]) onL ([.le (.c 0) (.v 2), .le (.v 2) (.v 3), .lt (.v 3) (.len l0)] ++ onPc))
  [TOut.mk [] (.exit 4) (onS ++ [(14, onV), (15, ii (.v 3))]) onL [], never onL []]
def on2 : LpC := LpC.mk 3 20 145
  (Tm.mk (onS ++ [(14, onV), (15, ii (.v 2))]) onL ([.le (.c 0) (.v 2), .le (.v 2) (.len l0)] ++ onPc))
  [TOut.mk [] (.exit 2) (onS ++ [(14, onV)]) onL [], never onL []]
noncomputable def t11 : Tbl := addLp Φ t9 on3
noncomputable def t12 : Tbl := addLp Φ t11 on2
def on1 : LpC := LpC.mk 3 6 145
  (Tm.mk onS onO [.le (.c 0) (.v 0), .le (.v 0) (.c 80), .lt (.c 0) (.v 1), .le (.v 1) (.c 8), .le (.len l0) (.v 1), nodup l0])
  [TOut.mk [] (.exit 0) [] dead2 [1, 2], never dead2 [1, 2]]
noncomputable def t13 : Tbl := addLp Φ t12 on1
def lOne : FnC := FnC.mk 3 [.cv (u8 (.v 0)), scrV] [scrO] (isU8 (.v 0)) [yesOut [scrO]]

/-- As many lines as there may be. -/
def lastT (g i : SI) : SL := .app 161 (saI [g, i])
def la1 : LpC := LpC.mk 4 7 117
  (Tm.mk [(5, ii (.v 1)), (6, ii (.v 2)), (7, pj 0), (9, ii (.v 0))] [tlbC 1 l0 (.v 1), linesO l0]
    [.le (.c 0) (.v 0), .le (.v 0) (.v 1), .le (.c 1) (.v 1), .le (.v 1) (.c 64), .le (.c 1) (.v 2), .le (.v 2) (.c 16), .eqL l0 (lastT (.v 2) (.v 0)), .eq (.len l0) (.v 0)])
  [TOut.mk [.eq (.len (lastT (.v 2) (.v 1))) (.v 1)] (.exit 0) [(5, ii (.v 1)), (6, ii (.v 2)), (7, pj 0)] [tlbC 2 (lastT (.v 2) (.v 1)) (.v 1), .dead, linesO (lastT (.v 2) (.v 1))] [0, 1]]
def la2 : LpC := LpC.mk 4 11 117
  (Tm.mk [(5, ii (.v 1)), (6, ii (.v 2)), (7, pj 0), (10, ii (.v 0))] [tlbC 1 (lastT (.v 2) (.v 1)) (.v 1), linesO (lastT (.v 2) (.v 1))]
    [.le (.c 0) (.v 0), .le (.v 0) (.v 1), .le (.c 1) (.v 1), .le (.v 1) (.c 64), .le (.c 1) (.v 2), .le (.v 2) (.c 16), .eq (.len (lastT (.v 2) (.v 1))) (.v 1)])
  [TOut.mk [] (.exit 2) [(5, ii (.v 1)), (6, ii (.v 2)), (7, pj 0)] [tlbC 1 (lastT (.v 2) (.v 1)) (.v 1), linesO (lastT (.v 2) (.v 1))] [], never [tlbC 1 (lastT (.v 2) (.v 1)) (.v 1), linesO (lastT (.v 2) (.v 1))] []]
noncomputable def t14 : Tbl := addLp Φ (addLp Φ t9 la1) la2
def lLast : FnC := FnC.mk 4 [.cv (u8 (.v 0)), .cv (u8 (.v 1))] [] (isU8 (.v 0) ++ isU8 (.v 1)) [yesOut []]

/-- The line of tag 9 is there, and no other one of that tag. -/
def nine (A : SL) (p : SI) : SB := .app 162 (.l A (.i p .nil))
/-- A table that is drawn. -/
def z0 : SL := .v 1000
def ap1 : LpC := LpC.mk 5 6 101
  (Tm.mk [(0, scrV), (1, .cv (.i .u16 (.v 1))), (5, pj 1), (7, ii (.v 0))] [scrO, tlbC 2 l0 (.c 64), linesO l0]
    [.le (.c 0) (.v 1), .le (.v 1) (.c 65535), .le (.c 0) (.v 0), .le (.v 0) (.c 60), .lt (.len l0) (.add (.v 0) (.c 2)), nine l0 (.v 1)])
  [TOut.mk [nine z0 (.v 1), .le (.len z0) (.c 64)] (.exit 0) [(1, .cv (.i .u16 (.v 1))), (5, pj 1)] [scrO, tlbC 3 z0 (.c 64), .dead, linesO z0] [1, 2], never [scrO, .dead, .dead] [1, 2]]
noncomputable def t15 : Tbl := addLp Φ t9 ap1
def isU16 (x : SI) : List SB := [.le (.c 0) x, .le x (.c 65535)]
def lApart : FnC := FnC.mk 5 [scrV, .cv (.i .u16 (.v 0))] [scrO] (isU16 (.v 0)) [yesOut [scrO]]
end Go.SF.C14
