/- Contracts of runq, in chapter 21: the package runq. -/
import Derived.Test.YtnhdohhhgfdhfaaProg
import Derived.Test.YtnhdohhhgfdhfaaP
namespace Go.SF.C21.Q
open Go Go.SF Go.Proofs
set_option linter.unusedVariables false

def pt (j : Nat) : AV := .cv (.p (some ⟨j, .c 0, 0⟩))
def ii (x : SI) : AV := .cv (.i .i64 x)
def bb (x : SB) : AV := .cv (.b x)
def vs (j : Nat) (A : SL) : AV := .cv (.vs j (.c 0) (.len A) none)
def vecI (A : SL) : AObj := .abs (.vec [.i .i64] 3) A
def aI (f : Nat) (A : SL) (xs : List SI) : SI := .app f (.l A (saI xs))
def aL (f : Nat) (A : SL) (xs : List SI) : SL := .app f (.l A (saI xs))
def aB (f : Nat) (A : SL) (xs : List SI) : SB := .app f (.l A (saI xs))
def tup (x y : CV) : AV := .tup [.inl x, .inl y]
def tup3 (x y z : CV) : AV := .tup [.inl x, .inl y, .inl z]
def x0 : SI := .v 0
def x1 : SI := .v 1
def x2 : SI := .v 2
def rm : SI := .v 3
def T0 : SL := .v 0
def M1 : SL := .v 1
def qC (j k : Nat) (A : SL) : AObj := .cells [.vs j (.c 0) (.len A) none, .i .i64 rm, .m (some k)] 109
def lsO (j : Nat) (A : SL) : AObj := .lists j [.i .i64] 3 36 A none
def mpO (M : SL) : AObj := .abs (.map .i64 [.i .i64] true) M
def qO (A M : SL) : List AObj := [qC 1 3 A, .dead, lsO 1 A, mpO M]
/-- Its slices have come to lie in object d. -/
def qO' (A M : SL) : List AObj := [qC 1 3 A, .dead, .dead, mpO M]
def there : List SB := [.le (.c 1) (.len T0), .le (.len T0) (.c 8), .le (.c 1) rm, .le rm (.c 64)]
def inv (A M : SL) : SB := .app 130 (.l A (.l M (.i rm .nil)))
def cNew : FnC := FnC.mk 31 [ii x0, ii rm] [] []
  [TOut.mk [.or (.or (.lt x0 (.c 1)) (.lt (.c 8) x0)) (.or (.lt rm (.c 1)) (.lt (.c 64) rm))] .norm [(0, tup (.p none) (.i .i64 (.c 1)))] [] [],
   TOut.mk [.le (.c 1) x0, .le x0 (.c 8), .le (.c 1) rm, .le rm (.c 64), .eq (.len (.app 5 (saI [x0]))) x0, inv (.app 5 (saI [x0])) (.lit [])] .norm [(0, tup (.p (some ⟨0, .c 0, 0⟩)) (.i .i64 (.c 0)))] (qO (.app 5 (saI [x0])) (.lit [])) []]
def row (A : SL) (r : SI) : SL := .app 14 (.l A (.i r .nil))
def setR (A : SL) (r : SI) (S : SL) : SL := .app 15 (.l A (.i r (.l S .nil)))
def cat (A B : SL) : SL := .app 0 (.l A (.l B .nil))
def layR : SL := aL 115 T0 [x0, x1]
def cLay : FnC := FnC.mk 90 [pt 0, ii x0, ii x1] (qO T0 M1) (there ++ [.le (.c 0) x0, .lt x0 (.len T0), .c true, .lt (.len (row T0 x0)) (.c 64)])
  [TOut.mk [.eq (.len layR) (.len T0)] .norm [(0, .tup [])] (qO' layR (.app 7 (.l M1 (.i x1 (.i x0 .nil)))) ++ [lsO 1 layR]) [2, 3]]
def cutR : SL := aL 116 T0 [x0, x1]
def cCut : FnC := FnC.mk 64 [pt 0, ii x0, ii x1] (qO T0 M1) (there ++ [.le (.c 0) x0, .lt x0 (.len T0), .c true, .le (.c 0) x1, .lt x1 (.len (row T0 x0)), .le (.len (row T0 x0)) (.c 64)])
  [TOut.mk [.eq (.len cutR) (.len T0)] .norm [(0, ii (.sel (row T0 x0) x1 0))] (qO' cutR (.app 8 (.l M1 (.i (.sel (row T0 x0) x1 0) .nil))) ++ [lsO 1 cutR]) [2, 3]]
def inv0 : List SB := [.c true, inv T0 M1]
/-- best. -/
def bs (s : Nat) (c b : SI) : SI := aI 100 T0 [.c s, c, b]
def be (s f : Nat) : LpC := LpC.mk 86 3 36
  (Tm.mk [(0, pt 0), (1, .cv (.fn f [])), (5, ii x1), (11, ii (.len T0)), (12, ii x0)] (qO T0 M1) (there ++ [.le (.c 0) x0, .le x0 (.len T0), .le (.c 0) x1, .lt x1 (.len T0)]))
  [TOut.mk [.le (.c 0) (bs s x0 x1), .lt (bs s x0 x1) (.len T0)] (.exit 0) [(5, ii (bs s x0 x1))] (qO' T0 M1 ++ [lsO 1 T0]) [2]]
def be1 : LpC := be 1 87
noncomputable def t1 : Tbl := addLp Φ noTbl be1
def bf (s f : Nat) : FnC := FnC.mk f [pt 0] (qO T0 M1) (there ++ inv0)
  [TOut.mk [.le (.c 0) (bs s (.c 0) (.c 0)), .lt (bs s (.c 0) (.c 0)) (.len T0), .le (.len (row T0 (bs s (.c 0) (.c 0)))) rm] .norm [(0, ii (bs s (.c 0) (.c 0)))] (qO' T0 M1 ++ [lsO 1 T0]) [2]]
def cLong : FnC := bf 1 65
noncomputable def t2 : Tbl := addFn Φ (addFn Φ (addFn Φ t1 cLong) cLay) cCut
def k0 : SI := .sub (.len T0) x0
/-- Push. -/
def pE : SI := aI 110 T0 [x0, x1, rm]
def pT : SL := aL 110 T0 [x0, x1, rm]
def has (x : SI) : SB := aB 131 T0 [x]
def same (A : SL) : SB := .eq (.len A) (.len T0)
def D0 : SL := .v 1000
def cPush : FnC := FnC.mk 80 [pt 0, ii x0, ii x1] (qO T0 M1) (there ++ inv0)
  [TOut.mk [same pT, inv pT D0] .norm [(0, ii pE)] (qO' pT D0 ++ [lsO 1 pT]) [2, 3]]
/-- Where. -/
def at' (i : SI) : SI := aI 103 T0 [x0, x1, i]
def wh0 : LpC := LpC.mk 89 7 40
  (Tm.mk [(0, pt 0), (1, ii x1), (7, ii x0), (9, ii x2)] (qO T0 M1) (there ++ [.le (.c 0) x0, .lt x0 (.len T0), .le (.c 0) x2, .c true, .lt (at' x2) (.len (row T0 x0)), .le (.len (row T0 x0)) (.c 64)]))
  [TOut.mk [] (.exit 0) [(7, ii x0), (9, ii (at' x2))] (qO' T0 M1 ++ [lsO 1 T0]) [2]]
def k1 : SI := .sub (.len (row T0 x0)) x2
noncomputable def t3 : Tbl := addLp Φ t2 wh0
def cp : SI := aI 101 T0 [x1]
def ap : SI := aI 102 T0 [x1]
def zz : AV := tup3 (.i .i64 (.c 0)) (.i .i64 (.c 0)) (.b (.c false))
def cWhere : FnC := FnC.mk 89 [pt 0, ii x1] (qO T0 M1) (there ++ inv0)
  [TOut.mk [.not (has x1)] .norm [(0, zz)] (qO T0 M1) [],
   TOut.mk [has x1, .le (.c 0) cp, .lt cp (.len T0), .le (.c 0) ap, .lt ap (.len (row T0 cp)), .le (.len (row T0 cp)) rm, .eq (.sel (row T0 cp) ap 0) x1] .norm [(0, tup3 (.i .i64 cp) (.i .i64 ap) (.b (.c true)))] (qO' T0 M1 ++ [lsO 1 T0]) [2]]
noncomputable def t4 : Tbl := addFn Φ t3 cWhere
/-- Pop. -/
def any : SB := aB 132 T0 []
def pF : SI := aI 111 T0 [x0]
def oT : SL := aL 111 T0 [x0]
def cPop : FnC := FnC.mk 40 [pt 0, ii x0] (qO T0 M1) (there ++ inv0)
  [TOut.mk [.or (.lt x0 (.c 0)) (.le (.len T0) x0)] .norm [(0, zz)] (qO T0 M1) [],
   TOut.mk [.le (.c 0) x0, .lt x0 (.len T0), .not any] .norm [(0, zz)] (qO' T0 M1 ++ [lsO 1 T0]) [2],
   TOut.mk [.le (.c 0) x0, .lt x0 (.len T0), any, .le (.c 0) pF, .lt pF (.len T0), same oT, inv oT D0] .norm [(0, tup3 (.i .i64 (aI 112 T0 [x0])) (.i .i64 pF) (.b (.c true)))] (qO' oT D0 ++ [lsO 1 oT]) [2, 3]]
/-- Drop. -/
def dT : SL := aL 112 T0 [x1]
def cDrop : FnC := FnC.mk 79 [pt 0, ii x1] (qO T0 M1) (there ++ inv0)
  [TOut.mk [same dT, inv dT D0] .norm [(0, bb (has x1))] (qO' dT D0 ++ [lsO 1 dT]) [2, 3]]
/-- List, Len. -/
def cList : FnC := FnC.mk 53 [pt 0, ii x0] (qO T0 M1) (there ++ inv0 ++ [.le (.len (row T0 x0)) (.c 64)])
  [TOut.mk [.or (.lt x0 (.c 0)) (.le (.len T0) x0)] .norm [(0, .cv (.sl none (.c 0) (.c 0)))] (qO T0 M1) [],
   TOut.mk [.le (.c 0) x0, .lt x0 (.len T0), .le (.len (row T0 x0)) rm] .norm [(0, vs 5 (row T0 x0))] (qO' T0 M1 ++ [lsO 1 T0, vecI (row T0 x0)]) [2]]
noncomputable def t6 : Tbl := addFn Φ (addFn Φ (addFn Φ (addFn Φ (addFn Φ t4 cNew) cPush) cPop) cDrop) cList
end Go.SF.C21.Q
