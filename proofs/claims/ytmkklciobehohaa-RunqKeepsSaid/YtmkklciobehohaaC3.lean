/- Contracts of chapter 17: the laws Once, Even. -/
import Derived.Test.YtmkklciobehohaaC2
namespace Go.SF.C17
open Go Go.SF Go.Proofs
set_option linter.unusedVariables false

def scr : AV := .cv (.vs 0 (.c 0) (.len (.v 9)) none)
def scrO : AObj := .ext (.v 9) [.i .i64, .i .i64, .i .i64]
def D1 : SL := .v 1001
/-- Once. -/
def IN : SL := .v 2
def inO (A : SL) : AObj := .abs (.vec [.b] 4) A
def inB' (T A : SL) : SB := .app 134 (.l T (.l A .nil))
def r4 : SI := .c 4
def i4 : SI := .v 4
def i5 : SI := .v 5
def i6 : SI := .v 6
def onE : List (Nat × AV) := [(1, scr), (5, ii x0), (6, pt 1), (8, vs 5 IN), (9, ii x1), (10, ii x2)]
def onO (T M A : SL) : List AObj := scrO :: qR r4 1 T M ++ [inO A]
def onM (T M A : SL) : List AObj := scrO :: qR' r4 1 T M ++ [inO A, lsO 2 T]
def onP : List SB := [.le (.c 1) x0, .le x0 (.c 8), .eq (.len T0) x0, .eq (.len IN) (.c 64), .le (.c 0) x2, .le x2 (.c 100), .le (.c 0) x1, .le x1 (.c 10000), .c true, invR r4 T0 M1, inB' T0 IN, .eq x1 (aI 104 T0 [])]
def onD : List AObj := [scrO, .dead, .dead, .dead, .dead, .dead]
def on2 : LpC := LpC.mk 3 34 197
  (Tm.mk (onE ++ [(16, ii i4), (17, ii i5)]) (onO T0 M1 IN) (onP ++ [.eq i4 (.sub x1 (aI 105 T0 [i5])), .le (.c 0) i4, .le i4 (.c 10000), .le (.c 0) i5, .le i5 x0]))
  [TOut.mk [] (.exit 2) (onE ++ [(16, ii x1)]) (onM T0 M1 IN) [3]]
def on3 : LpC := LpC.mk 3 40 197
  (Tm.mk (onE ++ [(18, ii i4)]) (onO T0 M1 IN) (onP ++ [.le (.c 0) i4, .le i4 (.c 64)]))
  [TOut.mk [] (.exit 4) onE (onM T0 M1 IN) [3], never 4 onD [3]]
noncomputable def t10 : Tbl := addLp Φ (addLp Φ t7 on2) on3
/-- One round's cases. -/
def idV : SI := .v 14
def opO : AObj := .cells [.i .i64 (.v 10), .i .i64 (.v 11), .i .i64 (.v 12)] 29
def onB : List SB := [.le (.c 1) x0, .le x0 (.c 8), .eq (.len T0) x0, .eq (.len IN) (.c 64), .le (.c 0) x2, .le x2 (.c 100)]
def D2 : SL := .v 1002
def m0 : SI := .v 1000
def ptS (r c : Nat) (X : List SB) (o : List TOut) : LpC := LpC.mk 3 (2000000 + r) 197
  (Tm.mk (onE ++ [(11, pt 6), (12, ii idV), (c, bb (.v 1))]) (onO T0 M1 IN ++ [opO]) (onB ++ [.le (.c 0) x1, .le x1 (.c 10000), .c true, .le (.c 0) idV, .le idV (.c 63), invR r4 T0 M1] ++ X)) o
def onX : List (Nat × AV) := [(1, scr), (5, ii x0), (6, pt 1), (8, vs 5 D2), (9, ii m0), (10, ii x2), (11, pt 6), (12, ii idV)]
def goes : List SB := [.eq (.len D1) x0, .eq (.len D2) (.c 64), .le (.c 0) m0, .le m0 (.c 10000), invR r4 D1 D0, inB' D1 D2, .eq m0 (aI 104 D1 [])]
def onN : List TOut := [TOut.mk goes .norm onX (scrO :: qR' r4 1 D1 D0 ++ [inO D2, opO, lsO 2 D1]) [3, 4, 5], never 4 (onD ++ [.dead]) [3, 4, 5]]
def onI : List SB := [inB' T0 IN, .eq x1 (aI 104 T0 [])]
def andL : List SB → SB
  | [] => .c true
  | [x] => x
  | x :: r => .and x (andL r)
def on13 : LpC := ptS 13 65 [.and (.c true) (.or (.and (.v 1) (.app 136 (.l T0 (.l IN (.i idV (.i x1 .nil)))))) (.and (.not (.v 1)) (andL onI)))] onN
def orNot : SB := .and (.c true) (.or (.v 1) (.not (.v 1)))
def on18 : LpC := ptS 18 88 (onI ++ [.and (.c true) (.or (.and (.v 1) (.and (.le (.c 0) (.v 11)) (.lt (.v 11) x0))) (.not (.v 1)))]) onN
def on25 : LpC := ptS 25 136 (onI ++ [orNot]) onN
def on31 : LpC := ptS 31 156 (onI ++ [orNot]) onN
noncomputable def u1 : Tbl := addLp Φ (addLp Φ (addLp Φ (addLp Φ t10 on13) on18) on25) on31
def on1 : LpC := LpC.mk 3 8 197 (Tm.mk onE (onO T0 M1 IN) onP)
  [TOut.mk [] (.exit 0) [] onD [3, 4, 5], never 4 onD [3, 4, 5]]
noncomputable def t11 : Tbl := addLp Φ t7 on1
def lOnce0 : FnC := FnC.mk 3 [.cv (.i .u8 x0), scr] [scrO] (u8 x0) [yes [scrO], noF [scrO]]
def lOnce : FnC := FnC.mk 3 [.cv (.i .u8 x0), scr] [scrO] (u8 x0) [yes [scrO]]
def k5 : SI := .sub (.c 100) x2
def k6 : SI := .sub x0 i5
def k7 : SI := .sub (.c 64) i4
/-- Even. -/
def evE : List (Nat × AV) := [(5, ii x0), (6, pt 1)]
def evO (T M : SL) : List AObj := scrO :: qR r64 1 T M
def evP : List SB := [.le (.c 1) x0, .le x0 (.c 8), .eq (.len T0) x0]
def evA : List SB := [.c true, invR r64 T0 M1]
def ev1 : LpC := LpC.mk 4 6 135
  (Tm.mk ([(1, scr), (8, ii x2)] ++ evE) (evO T0 M1) (evP ++ [.le (.c 0) x2, .le x2 (.c 60)] ++ evA))
  [TOut.mk [.eq (.len D1) x0, .le (.c 1) (.len D1), .le (.len D1) (.c 8), invR r64 D1 D0] (.exit 0) evE (scrO :: qR' r64 1 D1 D0 ++ [lsO 2 D1]) [3, 4]]
/-- The first ones. -/
def L2 : SL := .v 2
def hdT (n : SI) : SL := aL 121 T0 [n]
def evG : List (Nat × AV) := [(5, ii x0), (6, pt 0)]
def evQ : List AObj := qR r64 0 T0 M1 ++ [vecI L2]
def evQ' : List AObj := qR' r64 0 T0 M1
def ev2 : LpC := LpC.mk 4 12 135
  (Tm.mk ([(10, vs 4 L2), (11, ii x2), (9, ii x1)] ++ evG) evQ (evP ++ [.le (.c 0) x2, .le x2 x0, .le (.len L2) x2] ++ evA ++ [.eqL L2 (hdT x2)]))
  [TOut.mk [.le (.len (hdT x0)) x0] (.exit 2) ([(10, vs 5 (hdT x0)), (9, ii x1)] ++ evG) (evQ' ++ [.dead, vecI (hdT x0), lsO 1 T0]) [2, 4]]
def evF : List (Nat × AV) := [(10, vs 4 L2), (9, ii x1)] ++ evG
def lo' (n m : SI) : SI := aI 106 T0 [n, m]
def hi' (n m : SI) : SI := aI 107 T0 [n, m]
def ev3 : LpC := LpC.mk 4 21 135
  (Tm.mk ([(13, ii i4), (14, ii i5), (15, ii x2)] ++ evF) evQ (evP ++ [.le (.c 0) x2, .le x2 x0] ++ evA))
  [TOut.mk [] (.exit 4) ([(13, ii (lo' x2 i4)), (14, ii (hi' x2 i5))] ++ evF) (evQ' ++ [vecI L2, lsO 1 T0]) [2]]
def ev4 : LpC := LpC.mk 4 26 135
  (Tm.mk ([(13, ii i4), (14, ii i5), (16, ii x2)] ++ evF) evQ (evP ++ [.le (.c 0) x2, .le x2 (.len L2), .le (.len L2) (.c 8)] ++ evA ++ [.app 135 (.l T0 (.l L2 .nil))]))
  [TOut.mk [] (.exit 6) ([(13, ii i4), (14, ii i5), (9, ii x1)] ++ evG) (evQ' ++ [.dead, lsO 1 T0]) [2],
   never 4 [.dead, .dead, .dead, .dead, .dead] [2]]
noncomputable def t12 : Tbl := addLp Φ (addLp Φ (addLp Φ (addLp Φ t7 ev1) ev2) ev3) ev4
def lEven0 : FnC := FnC.mk 4 [.cv (.i .u8 x0), scr] [scrO] (u8 x0) [yes [scrO], noF [scrO]]
def lEven : FnC := FnC.mk 4 [.cv (.i .u8 x0), scr] [scrO] (u8 x0) [yes [scrO]]
def k8 : SI := .sub (.c 60) x2
def k9 : SI := .sub (.len L2) x2
end Go.SF.C17
