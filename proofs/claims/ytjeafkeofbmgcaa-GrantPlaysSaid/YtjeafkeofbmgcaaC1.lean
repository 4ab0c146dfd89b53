/- Contracts of chapter 19: the package grant. -/
import Derived.Test.YtjeafkeofbmgcaaProg
import Derived.Test.YtjeafkeofbmgcaaP
namespace Go.SF.C19
open Go Go.SF Go.Proofs
set_option linter.unusedVariables false

def pt (j : Nat) : AV := .cv (.p (some ⟨j, .c 0, 0⟩))
def ii (x : SI) : AV := .cv (.i .i64 x)
def bb (x : SB) : AV := .cv (.b x)
def vs (j : Nat) (A : SL) : AV := .cv (.vs j (.c 0) (.len A) none)
def grO (A : SL) : AObj := .abs (.vec [.i .i64, .i .i64, .i .i64, .b, .i .i64] 40) A
def vecI (A : SL) : AObj := .abs (.vec [.i .i64] 3) A
def taC (j : Nat) (A : SL) : AObj := .cells [.vs j (.c 0) (.len A) none] 54
def taO (A : SL) : List AObj := [taC 1 A, grO A]
def aI (f : Nat) (A : SL) (xs : List SI) : SI := .app f (.l A (saI xs))
def aL (f : Nat) (A : SL) (xs : List SI) : SL := .app f (.l A (saI xs))
def aB (f : Nat) (A : SL) (xs : List SI) : SB := .app f (.l A (saI xs))
def tup (x y : CV) : AV := .tup [.inl x, .inl y]
def x0 : SI := .v 0
def x1 : SI := .v 1
def x2 : SI := .v 2
def g5 : SI := .v 5
def o6 : SI := .v 6
def p7 : SI := .v 7
def t8 : SI := .v 8
def T0 : SL := .v 0
def L1 : SL := .v 1
def cat (A B : SL) : SL := .app 0 (.l A (.l B .nil))
/-- such's loop, for a closure and what it has captured; X: the places from i on. -/
def su (c : AV) (o : List AObj) (X : SI → SL) : LpC := LpC.mk 30 5 30
  (Tm.mk [(1, c), (5, vs 1 L1), (14, vs 0 T0), (15, ii (.len T0)), (16, ii x0)] ([grO T0, vecI L1] ++ o) [.le (.c 0) x0, .le x0 (.len T0), .le (.len T0) (.c 64), .le (.len L1) x0])
  [TOut.mk [.le (.len (cat L1 (X x0))) (.len T0)] (.exit 0) [(5, vs (2 + o.length) (cat L1 (X x0)))] ([grO T0, .dead] ++ o ++ [vecI (cat L1 (X x0))]) [1]]
def fr (i : SI) : SL := aL 100 T0 [i]
def li (i : SI) : SL := aL 101 T0 [i]
def og (i : SI) : SL := aL 102 T0 [i, g5]
def sa (i : SI) : SL := aL 103 T0 [i, o6, p7, t8]
def fn (f : Nat) (j : List Nat) : AV := .cv (.fn f (j.map fun k => ⟨k, .c 0, 0⟩))
def boxG : AObj := .cells [.i .i64 g5] 3
def boxX : AObj := .cells [.i .i64 o6, .i .i64 p7, .i .i64 t8, .b (.c false), .i .i64 (.c 0)] 40
def su0 : LpC := su (fn 32 []) [] fr
def su1 : LpC := su (fn 37 []) [] li
def su2 : LpC := su (fn 35 [2]) [boxG] og
def su3 : LpC := su (fn 31 [2]) [boxX] sa
noncomputable def t1 : Tbl := addLp Φ (addLp Φ (addLp Φ (addLp Φ noTbl su0) su1) su2) su3
def there : List SB := [.le (.c 1) (.len T0), .le (.len T0) (.c 64)]
def such (c : AV) (o : List AObj) (X : SI → SL) : FnC := FnC.mk 30 [pt 0, c] (taO T0 ++ o) there
  [TOut.mk [.le (.len (X (.c 0))) (.len T0)] .norm [(0, vs (2 + o.length) (X (.c 0)))] (taO T0 ++ o ++ [vecI (X (.c 0))]) []]
def cS0 : FnC := such (fn 32 []) [] fr
def cS1 : FnC := such (fn 37 []) [] li
def cS2 : FnC := such (fn 35 [2]) [boxG] og
def cS3 : FnC := such (fn 31 [2]) [boxX] sa
noncomputable def t2 : Tbl := addFn Φ (addFn Φ (addFn Φ (addFn Φ t1 cS0) cS1) cS2) cS3
def cNew : FnC := FnC.mk 8 [ii x0] [] []
  [TOut.mk [.or (.lt x0 (.c 1)) (.lt (.c 64) x0)] .norm [(0, tup (.p none) (.i .i64 (.c 1)))] [] [],
   TOut.mk [.le (.c 1) x0, .le x0 (.c 64), .eq (.len (.app 5 (saI [x0, .c 0, .c 0, .c 0, .c 0, .c 0]))) x0] .norm [(0, tup (.p (some ⟨0, .c 0, 0⟩)) (.i .i64 (.c 0)))] (taO (.app 5 (saI [x0, .c 0, .c 0, .c 0, .c 0, .c 0]))) []]
/-- Offer. -/
def two : List SB := [.c true, .and (.c true) (.or (.v 0) (.not (.v 0)))]
def oE : SI := aI 110 T0 [o6, p7, t8]
def oI : SI := aI 111 T0 [o6, p7, t8]
def oT (w : Int) : SL := aL 110 T0 [o6, p7, t8, .c w]
def cOffer : FnC := FnC.mk 10 [pt 0, ii o6, ii p7, ii t8, bb (.v 0)] (taO T0) (there ++ two)
  [TOut.mk [.v 0, .eq (.len (oT 1)) (.len T0)] .norm [(0, tup (.i .i64 oI) (.i .i64 oE))] (taO (oT 1)) [0, 1],
   TOut.mk [.not (.v 0), .eq (.len (oT 0)) (.len T0)] .norm [(0, tup (.i .i64 oI) (.i .i64 oE))] (taO (oT 0)) [0, 1]]
def no (id : SI) : SB := aB 130 T0 [id]
def cl (i : SI) (j : Nat) : SI := .sel T0 i j
def rowA (i : SI) : List CV := [.i .i64 (cl i 0), .i .i64 (cl i 1), .i .i64 (cl i 2), .b (.not (.eq (cl i 3) (.c 0))), .i .i64 (cl i 4)]
def cOf : FnC := FnC.mk 24 [pt 0, ii x0] (taO T0) there
  [TOut.mk [no x0] .norm [(0, .tup [.inr [.i .i64 (.c 0), .i .i64 (.c 0), .i .i64 (.c 0), .b (.c false), .i .i64 (.c 0)], .inl (.b (.c false))])] (taO T0) [],
   TOut.mk [.not (no x0), .le (.c 0) x0, .lt x0 (.len T0)] .norm [(0, .tup [.inr (rowA x0), .inl (.b (.c true))])] (taO T0) []]
def tE (w : Int) : SI := aI 112 T0 [x0, g5, .c w]
def tT (w : Int) : SL := aL 112 T0 [x0, g5, .c w]
def cTake : FnC := FnC.mk 12 [pt 0, ii x0, ii g5, bb (.v 0)] (taO T0) (there ++ two)
  [TOut.mk [.v 0, .eq (.len (tT 1)) (.len T0)] .norm [(0, ii (tE 1))] (taO (tT 1)) [0, 1],
   TOut.mk [.not (.v 0), .eq (.len (tT 0)) (.len T0)] .norm [(0, ii (tE 0))] (taO (tT 0)) [0, 1]]
def bT : SL := aL 113 T0 [x0, g5]
def cBack : FnC := FnC.mk 14 [pt 0, ii x0, ii g5] (taO T0) there
  [TOut.mk [.eq (.len bT) (.len T0)] .norm [(0, ii (aI 113 T0 [x0, g5]))] (taO bT) [0, 1]]
def rT : SL := aL 114 T0 [x0, o6]
def cRevoke : FnC := FnC.mk 16 [pt 0, ii x0, ii o6] (taO T0) there
  [TOut.mk [.eq (.len rT) (.len T0)] .norm [(0, ii (aI 114 T0 [x0, o6]))] (taO rT) [0, 1]]
/-- Drop's loop. -/
def zr (k : SI) : SL := .app 115 (.l T0 (.l L1 (.i k .nil)))
def inn (L : SL) (n : SI) : SB := aB 132 L [n]
def dr0 : LpC := LpC.mk 18 3 27
  (Tm.mk [(0, pt 0), (5, vs 2 L1), (11, vs 2 L1), (12, ii (.len L1)), (13, ii x0)] (taO T0 ++ [vecI L1]) [.le (.c 0) x0, .le x0 (.len L1), .le (.len L1) (.c 64), .le (.len T0) (.c 64), .c true, inn L1 (.len T0)])
  [TOut.mk [.eq (.len (zr x0)) (.len T0)] (.exit 0) [(5, vs 2 L1)] [taC 1 (zr x0), grO (zr x0), vecI L1] [0, 1]]
noncomputable def t3 : Tbl := addLp Φ t2 dr0
def dT : SL := aL 116 T0 [g5]
def cDrop : FnC := FnC.mk 18 [pt 0, ii g5] (taO T0) there
  [TOut.mk [.eq (.len dT) (.len T0), .le (.len (og (.c 0))) (.len T0)] .norm [(0, ii (.len (og (.c 0))))] (taO dT) [0, 1]]
def cLen : FnC := FnC.mk 22 [pt 0] (taO T0) there
  [TOut.mk [.le (.len (li (.c 0))) (.len T0)] .norm [(0, ii (.len (li (.c 0))))] (taO T0) []]
noncomputable def t4 : Tbl := addFn Φ (addFn Φ (addFn Φ (addFn Φ (addFn Φ (addFn Φ (addFn Φ (addFn Φ t3 cNew) cOffer) cOf) cTake) cBack) cRevoke) cDrop) cLen
def cKnown : FnC := FnC.mk 27 [] [] [] [TOut.mk [] .norm [(0, bb (.c true))] [] []]
noncomputable def t5 : Tbl := addFn Φ noTbl cKnown
noncomputable def t6 : Tbl := addFn Φ t4 cKnown
def yes (s : List AObj) : TOut := TOut.mk [] .norm [(0, bb (.c true))] s []
def noF (s : List AObj) : TOut := TOut.mk [.app 199 .nil] .norm [(0, bb (.c false))] s []
def never (s : Nat) (o : List AObj) (wr : List Nat) : TOut := TOut.mk [.app 199 .nil] .ret [(s, bb (.c false))] o wr
def lNil : FnC := FnC.mk 6 [ii x0] [] [] [yes []]
def k0 : SI := .sub (.len T0) x0
def k1 : SI := .sub (.len L1) x0
end Go.SF.C19
