/- Contracts of timer, in chapter 21: the package timer. -/
import Derived.Test.YtnhdohhhgfdhfaaProg
import Derived.Test.YtnhdohhhgfdhfaaP
namespace Go.SF.C21.T
open Go Go.SF Go.Proofs
set_option linter.unusedVariables false

def pt (j : Nat) : AV := .cv (.p (some ⟨j, .c 0, 0⟩))
def ii (x : SI) : AV := .cv (.i .i64 x)
def bb (x : SB) : AV := .cv (.b x)
def vs (j : Nat) (A : SL) : AV := .cv (.vs j (.c 0) (.len A) none)
def mapT (A : SL) : AObj := .abs (.map .i64 [.i .i64, .i .i64] false) A
def mapC (A : SL) : AObj := .abs (.map .i64 [.i .i64] true) A
def itT (mid : Nat) (M : SL) : AObj := .iter mid .i64 [.i .i64, .i .i64] false M none
def fireO (A : SL) : AObj := .abs (.vec [.i .i64, .i .i64, .i .i64] 101) A
def tmC (q now : SI) (t c : Nat) : AObj := .cells [.i .i64 q, .i .i64 now, .m (some t), .m (some c)] 112
def tmO (q now : SI) (T C : SL) : List AObj := [tmC q now 1 2, mapT T, mapC C]
def aI (f : Nat) (A : SL) (xs : List SI) : SI := .app f (.l A (saI xs))
def aL (f : Nat) (A : SL) (xs : List SI) : SL := .app f (.l A (saI xs))
def aB (f : Nat) (A : SL) (xs : List SI) : SB := .app f (.l A (saI xs))
def tup (x y : CV) : AV := .tup [.inl x, .inl y]
def x0 : SI := .v 0
def x1 : SI := .v 1
def x2 : SI := .v 2
def q8 : SI := .v 8
def n9 : SI := .v 9
def T0 : SL := .v 0
def C1 : SL := .v 1
def L2 : SL := .v 2
def qs : List SB := [.le (.c 1) q8, .le q8 (.c 10000)]
def few (A : SL) : SB := .lt (.len A) (.c 90000)
def cNew : FnC := FnC.mk 32 [ii x0] [] []
  [TOut.mk [.or (.lt x0 (.c 1)) (.lt (.c 10000) x0)] .norm [(0, tup (.p none) (.i .i64 (.c 1)))] [] [],
   TOut.mk [.le (.c 1) x0, .le x0 (.c 10000)] .norm [(0, tup (.p (some ⟨0, .c 0, 0⟩)) (.i .i64 (.c 0)))] (tmO x0 (.c 0) (.lit []) (.lit [])) []]
def cArm : FnC := FnC.mk 46 [pt 0, ii x0, ii x1, ii x2] (tmO q8 n9 T0 C1) qs
  [TOut.mk [.le (.len (aL 210 T0 [x0, x1, x2, n9])) (.add (.len T0) (.c 1))] .norm [(0, ii (.app 210 (saI [x0, x1, x2, n9])))] (tmO q8 n9 (aL 210 T0 [x0, x1, x2, n9]) C1) [1]]
def find (T : SL) (i : SI) : SL := .app 6 (.l T (.i i .nil))
def del (T : SL) (i : SI) : SL := .app 8 (.l T (.i i .nil))
def cDisarm : FnC := FnC.mk 81 [pt 0, ii x0] (tmO q8 n9 T0 C1) qs
  [TOut.mk [] .norm [(0, bb (.lt (.c 0) (.len (find T0 x0))))] (tmO q8 n9 (del T0 x0) C1) [1]]
def cNow : FnC := FnC.mk 48 [pt 0] (tmO q8 n9 T0 C1) qs [TOut.mk [] .norm [(0, ii n9)] (tmO q8 n9 T0 C1) []]
def cr (C : SL) (i : SI) : SI := .sel (find C i) (.c 0) 1
def cCredit : FnC := FnC.mk 41 [pt 0, ii x0] (tmO q8 n9 T0 C1) qs [TOut.mk [] .norm [(0, ii (cr C1 x0))] (tmO q8 n9 T0 C1) []]
def put (T : SL) (xs : List SI) : SL := .app 7 (.l T (saI xs))
def ch : SI := aI 213 C1 [x0, x1]
def cCharge : FnC := FnC.mk 73 [pt 0, ii x0, ii x1] (tmO q8 n9 T0 C1) qs
  [TOut.mk [] .norm [(0, tup (.i .i64 ch) (.b (.lt ch (.c 1))))] (tmO q8 n9 T0 (put C1 [x0, ch])) [2]]
def rf : SI := aI 214 C1 [x0, q8, x1]
def cRefill : FnC := FnC.mk 42 [pt 0, ii x0, ii x1] (tmO q8 n9 T0 C1) qs
  [TOut.mk [] .norm [(0, ii rf)] (tmO q8 n9 T0 (put C1 [x0, rf])) [2]]
/-- ahead, insert, fire. -/
def cAhead : FnC := FnC.mk 88 [.agg [.i .i64 (.v 0), .i .i64 (.v 1), .i .i64 (.v 2)], .agg [.i .i64 (.v 3), .i .i64 (.v 4), .i .i64 (.v 5)]] [] []
  [TOut.mk [] .norm [(0, bb (.app 230 (saI [.v 0, .v 1, .v 3, .v 4])))] [] []]
def fC : AObj := .cells [.i .i64 x0, .i .i64 x1, .i .i64 x2] 101
def rk (i : SI) : SI := aI 220 L2 [x0, x1, i]
noncomputable def t2 : Tbl := addFn Φ noTbl cAhead
def in0 : LpC := LpC.mk 72 2 37
  (Tm.mk [(0, vs 0 L2), (3, pt 1), (5, ii (.v 3))] [fireO L2, fC] [few L2, .le (.c 0) (.v 3), .le (.v 3) (.len L2)])
  [TOut.mk [.le (.c 0) (rk (.v 3)), .le (rk (.v 3)) (.len L2)] (.exit 0) [(0, vs 0 L2), (3, pt 1), (5, ii (rk (.v 3)))] [fireO L2, fC] []]
noncomputable def t3 : Tbl := addLp Φ t2 in0
def ins (L : SL) (a b c : SI) : SL := aL 220 L [a, b, c]
def cIns : FnC := FnC.mk 72 [vs 0 L2, .agg [.i .i64 x0, .i .i64 x1, .i .i64 x2]] [fireO L2] [few L2]
  [TOut.mk [.eq (.len (ins L2 x0 x1 x2)) (.add (.len L2) (.c 1))] .norm [(0, vs 1 (ins L2 x0 x1 x2))] [.dead, fireO (ins L2 x0 x1 x2)] [0]]
def nt (f : Nat) : SI := .app f (saI [x0, x1, n9])
def cFire : FnC := FnC.mk 71 [.agg [.i .i64 x0, .i .i64 x1], ii x2, ii n9] [] []
  [TOut.mk [.eq x1 (.c 0)] .norm [(0, .tup [.inr [.i .i64 x2, .i .i64 x0, .i .i64 (.c 1)], .inr [.i .i64 (.c 0), .i .i64 (.c 0)]])] [] [],
   TOut.mk [.not (.eq x1 (.c 0))] .norm [(0, .tup [.inr [.i .i64 x2, .i .i64 x0, .i .i64 (nt 221)], .inr [.i .i64 (nt 222), .i .i64 x1]])] [] []]
noncomputable def t4 : Tbl := addFn Φ (addFn Φ t3 cIns) cFire
/-- Tick. -/
def rem (M : SL) : SL := .app 12 (.l M .nil)
def tO (L M : SL) (n : SI) : SL := .app 222 (.l L (.l M (.i n .nil)))
def tM (M : SL) (n : SI) : SL := aL 223 M [n]
def ti0 : LpC := LpC.mk 49 8 69
  (Tm.mk [(0, pt 0), (1, ii x0), (6, vs 4 L2), (34, pt 3)] [tmC q8 n9 1 2, .dead, mapC C1, itT 1 T0, fireO L2] [.lt (.len L2) (.c 80000), .c true, .lt (.add (.len L2) (.len (rem T0))) (.c 80000)])
  [TOut.mk [.lt (.len (tO L2 T0 x0)) (.c 80000)] (.exit 1) [(0, pt 0), (6, vs 5 (tO L2 T0 x0))] [tmC q8 n9 1 2, .dead, mapC C1, itT 1 (tM T0 x0), .dead, fireO (tO L2 T0 x0)] [3, 4]]
noncomputable def t5 : Tbl := addLp Φ t4 ti0
def tL (T : SL) (n : SI) : SL := aL 224 T [n]
def tT (T : SL) (n : SI) : SL := aL 225 T [n]
def cTick : FnC := FnC.mk 49 [pt 0, ii x0] (tmO q8 n9 T0 C1) (qs ++ [.lt (.len T0) (.c 80000)])
  [TOut.mk [.or (.lt x0 n9) (.lt (.c 549755813888) x0)] .norm [(0, tup (.sl none (.c 0) (.c 0)) (.i .i64 (.c 1)))] (tmO q8 n9 T0 C1) [],
   TOut.mk [.le n9 x0, .le x0 (.c 549755813888), .lt (.len (tL T0 x0)) (.c 80000), .le (.len (tT T0 x0)) (.len T0)] .norm [(0, tup (.vs 3 (.c 0) (.len (tL T0 x0)) none) (.i .i64 (.c 0)))] (tmO q8 x0 (tT T0 x0) C1 ++ [fireO (tL T0 x0)]) [0, 1]]
noncomputable def t6 : Tbl := addFn Φ (addFn Φ (addFn Φ (addFn Φ (addFn Φ (addFn Φ (addFn Φ (addFn Φ t5 cTick) cNew) cArm) cDisarm) cNow) cCredit) cCharge) cRefill
def left : SI := .add (.len (rem T0)) (.c 1)
def i3 : SI := .sub (.len L2) (.v 3)
end Go.SF.C21.T
