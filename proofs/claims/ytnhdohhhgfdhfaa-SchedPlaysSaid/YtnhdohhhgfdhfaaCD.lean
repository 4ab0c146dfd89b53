/- Contracts of runq's document, in chapter 21. Contracts of timer's document, in chapter 21: the document's answer. -/
import Derived.Test.YtnhdohhhgfdhfaaCQ
import Derived.Test.YtnhdohhhgfdhfaaCT
namespace Go.SF.C21.Q
open Go Go.SF Go.Proofs
set_option linter.unusedVariables false

def rqC (A : SL) : AObj := .cells [.vs 1 (.c 0) (.len A) none, .i .i64 (.c 64)] 65
def rqO (A : SL) : List AObj := [rqC A, .dead, lsO 1 A]
def rqO' (A : SL) : List AObj := [rqC A, .dead, .dead, lsO 1 A]
def fT : List SB := [.le (.c 1) (.len T0), .le (.len T0) (.c 8)]
def low (A : SL) : SB := .app 340 (.l A .nil)
def lw : List SB := [.c true, low T0]
def nilq (x : SI) : SL := .app 5 (saI [x])
def rqNew : FnC := FnC.mk 33 [ii x0, ii (.c 64)] [] []
  [TOut.mk [.or (.lt x0 (.c 1)) (.lt (.c 8) x0)] .norm [(0, tup (.p (some ⟨0, .c 0, 0⟩)) (.i .i64 (.c 1)))] [.dead] [],
   TOut.mk [.le (.c 1) x0, .le x0 (.c 8), .eq (.len (nilq x0)) x0] .norm [(0, tup (.p (some ⟨0, .c 0, 0⟩)) (.i .i64 (.c 0)))] (rqO (nilq x0)) []]
/-- ends. -/
def bt (s : Nat) (c b : SI) : SI := aI 100 T0 [.c s, c, b]
def inT (x : SI) : List SB := [.le (.c 0) x, .lt x (.len T0)]
def re4 : LpC := LpC.mk 67 4 54
  (Tm.mk [(0, pt 0), (4, ii x0), (5, ii x1), (6, ii x2)] (rqO T0) (fT ++ inT x0 ++ inT x1 ++ [.le (.c 0) x2, .le x2 (.len T0)]))
  [TOut.mk (inT (bt 1 x2 x0) ++ inT (bt 0 x2 x1)) (.exit 0) [(4, ii (bt 1 x2 x0)), (5, ii (bt 0 x2 x1))] (rqO' T0) [2]]
def ke4 : SI := .sub (.len T0) x2
noncomputable def e1 : Tbl := addLp Φ noTbl re4
def b1 : SI := bt 1 (.c 0) (.c 0)
def b0 : SI := bt 0 (.c 0) (.c 0)
def rEnds : FnC := FnC.mk 67 [pt 0] (rqO T0) fT
  [TOut.mk (inT b1 ++ inT b0) .norm [(0, tup (.i .i64 b1) (.i .i64 b0))] (rqO' T0) [2]]
noncomputable def e2 : Tbl := addFn Φ noTbl rEnds
/-- Pop. -/
def rPop : FnC := FnC.mk 43 [pt 0, ii x0] (rqO T0) (fT ++ lw)
  [TOut.mk [.or (.lt x0 (.c 0)) (.le (.len T0) x0)] .norm [(0, zz)] (rqO T0) [],
   TOut.mk (inT x0 ++ [.not any]) .norm [(0, zz)] (rqO' T0) [2],
   TOut.mk (inT x0 ++ [any] ++ inT pF ++ [same oT]) .norm [(0, tup3 (.i .i64 (aI 112 T0 [x0])) (.i .i64 pF) (.b (.c true)))] (rqO' oT) [2]]
/-- Where. -/
def rw5 : LpC := LpC.mk 84 5 44
  (Tm.mk [(0, pt 0), (1, ii x1), (7, ii x0), (8, ii x2)] (rqO T0) (fT ++ inT x0 ++ [.le (.c 0) x2, .c true, .le x2 (.len (row T0 x0)), .le (.len (row T0 x0)) (.c 64)]))
  [TOut.mk [.le (.c 0) (at' x2), .lt (at' x2) (.len (row T0 x0)), .eq (.sel (row T0 x0) (at' x2) 0) x1] .ret [(4, ii x0), (5, ii (at' x2)), (6, bb (.c true))] (rqO' T0) [2],
   TOut.mk [.le (.len (row T0 x0)) (at' x2)] (.exit 2) [(0, pt 0), (1, ii x1), (7, ii x0)] (rqO' T0) [2]]
def kw5 : SI := .sub (.len (row T0 x0)) x2
noncomputable def e3 : Tbl := addLp Φ noTbl rw5
def hsG (c : SI) : SB := aB 341 T0 [x1, c]
def cpG (c : SI) : SI := aI 341 T0 [x1, c]
def atC (c : SI) : SI := aI 103 T0 [cpG c, x1, .c 0]
def fnd (c : SI) : List SB := [hsG c] ++ inT (cpG c) ++ [.le (.c 0) (atC c), .lt (atC c) (.len (row T0 (cpG c))), .le (.len (row T0 (cpG c))) (.c 64), .eq (.sel (row T0 (cpG c)) (atC c) 0) x1]
def rw2 : LpC := LpC.mk 84 2 44
  (Tm.mk [(0, pt 0), (1, ii x1), (7, ii x0)] (rqO T0) (fT ++ [.le (.c 0) x0, .le x0 (.len T0)] ++ lw))
  [TOut.mk (fnd x0) .ret [(4, ii (cpG x0)), (5, ii (atC x0)), (6, bb (.c true))] (rqO' T0) [2],
   TOut.mk [.not (hsG x0)] (.exit 0) [] (rqO' T0) [2]]
def kw2 : SI := .sub (.len T0) x0
noncomputable def e4 : Tbl := addLp Φ e3 rw2
def rWhere : FnC := FnC.mk 84 [pt 0, ii x1] (rqO T0) (fT ++ lw)
  [TOut.mk [.not (has x1)] .norm [(0, zz)] (rqO' T0) [2],
   TOut.mk [has x1, .le (.c 0) cp, .lt cp (.len T0), .le (.c 0) ap, .lt ap (.len (row T0 cp)), .le (.len (row T0 cp)) (.c 64), .eq (.sel (row T0 cp) ap 0) x1] .norm [(0, tup3 (.i .i64 cp) (.i .i64 ap) (.b (.c true)))] (rqO' T0) [2]]
noncomputable def e5 : Tbl := addFn Φ noTbl rWhere
/-- Push, Drop. -/
def pE6 : SI := aI 110 T0 [x0, x1, .c 64]
def pT6 : SL := aL 110 T0 [x0, x1, .c 64]
def rPush : FnC := FnC.mk 61 [pt 0, ii x0, ii x1] (rqO T0) (fT ++ lw)
  [TOut.mk [same pT6] .norm [(0, ii pE6)] (rqO' pT6) [2]]
def rDrop : FnC := FnC.mk 60 [pt 0, ii x1] (rqO T0) (fT ++ lw)
  [TOut.mk [same dT] .norm [(0, bb (has x1))] (rqO' dT) [2]]
noncomputable def e6 : Tbl := addFn Φ (addFn Φ (addFn Φ (addFn Φ noTbl rqNew) rPop) rPush) rDrop
end Go.SF.C21.Q
namespace Go.SF.C21.T
open Go Go.SF Go.Proofs
set_option linter.unusedVariables false

def D3 : SL := .v 3
def G4 : SL := .v 4
def takeT (A : SL) (n : SI) : SL := .app 1 (.l A (.i n .nil))
def refO (A : SL) : AObj := .abs (.vec [.i .i64, .i .i64, .i .i64] 106) A
def wO (A : SL) : AObj := .abs (.vec [.i .i64, .i .i64, .i .i64] 126) A
def cO (A : SL) : AObj := .abs (.vec [.i .i64, .i .i64] 121) A
def rtC (l c : Nat) (A D : SL) (now q : SI) : AObj := .cells [.vs l (.c 0) (.len A) none, .vs c (.c 0) (.len D) none, .i .i64 now, .i .i64 q] 44
def rtO (A D : SL) (now q : SI) : List AObj := [rtC 1 2 A D now q, wO A, cO D]
def nilS : CV := .sl none (.c 0) (.c 0)
def rNew : FnC := FnC.mk 34 [ii x0] [] []
  [TOut.mk [.or (.lt x0 (.c 1)) (.lt (.c 10000) x0)] .norm [(0, tup (.p (some ⟨0, .c 0, 0⟩)) (.i .i64 (.c 1)))] [.dead] [],
   TOut.mk [.le (.c 1) x0, .le x0 (.c 10000)] .norm [(0, tup (.p (some ⟨0, .c 0, 0⟩)) (.i .i64 (.c 0)))] [.cells [nilS, nilS, .i .i64 (.c 0), .i .i64 x0] 44] []]
/-- Disarm. -/
def dis (L : SL) : SL := aL 250 L [x0]
def kL : SL := .v 5
def rd0 : LpC := LpC.mk 62 3 50
  (Tm.mk [(0, pt 0), (1, ii x0), (5, vs 3 kL), (6, ii x1)] (rtO L2 D3 n9 q8 ++ [wO kL]) [.le (.c 0) x1, .le x1 (.len L2), few L2, .le (.len kL) x1, .c true, .eqL kL (dis (takeT L2 x1))])
  [TOut.mk [.le (.len (dis L2)) (.len L2)] (.exit 0) [(0, pt 0), (5, vs 4 (dis L2))] (rtO L2 D3 n9 q8 ++ [.dead, wO (dis L2)]) [3]]
noncomputable def r1 : Tbl := addLp Φ noTbl rd0
def rDis : FnC := FnC.mk 62 [pt 0, ii x0] (rtO L2 D3 n9 q8) [few L2]
  [TOut.mk [.le (.len (dis L2)) (.len L2)] .norm [(0, bb (.lt (.len (dis L2)) (.len L2)))] [rtC 3 2 (dis L2) D3 n9 q8, .dead, cO D3, wO (dis L2)] [0, 1]]
/-- put. -/
def xC : AObj := .cells [.i .i64 x0, .i .i64 x1, .i .i64 x2] 126
def rp0 : LpC := LpC.mk 70 4 84
  (Tm.mk [(0, pt 0), (3, pt 4), (4, vs 3 kL), (5, ii (.v 3))] (rtO L2 D3 n9 q8 ++ [wO kL, xC]) [.le (.c 0) (.v 3), .le (.v 3) (.len L2), few L2, .le (.len kL) (.v 3), .c true, .eqL kL (takeT L2 (.v 3))])
  [TOut.mk [.le (.c 0) (rk (.v 3)), .le (rk (.v 3)) (.len L2), .eq (.len (takeT L2 (rk (.v 3)))) (rk (.v 3))] (.exit 0) [(0, pt 0), (3, pt 4), (4, vs 5 (takeT L2 (rk (.v 3)))), (5, ii (rk (.v 3)))] (rtO L2 D3 n9 q8 ++ [.dead, xC, wO (takeT L2 (rk (.v 3)))]) [3]]
noncomputable def r2 : Tbl := addLp Φ (addFn Φ r1 rDis) rp0
def putA (L : SL) : SL := aL 251 L [x0, x1, x2]
def rPut : FnC := FnC.mk 70 [pt 0, .agg [.i .i64 x0, .i .i64 x1, .i .i64 x2]] (rtO L2 D3 n9 q8) [few L2]
  [TOut.mk [.le (.len (putA L2)) (.add (.len L2) (.c 1))] .norm [(0, .tup [])] [rtC 3 2 (putA L2) D3 n9 q8, .dead, cO D3, wO (putA L2)] [0, 1]]
noncomputable def r3 : Tbl := addFn Φ r2 rPut
def armA : SL := aL 252 L2 [x0, x1, x2, n9]
def rArm : FnC := FnC.mk 47 [pt 0, ii x0, ii x1, ii x2] (rtO L2 D3 n9 q8) [few L2]
  [TOut.mk [.le (.len armA) (.add (.len L2) (.c 1))] .norm [(0, ii (.app 210 (saI [x0, x1, x2, n9])))] [rtC 3 2 armA D3 n9 q8, .dead, cO D3, wO armA] [0, 1]]
/-- Tick. -/
def cat (A B : SL) : SL := .app 0 (.l A (.l B .nil))
def ouL : SL := aL 254 L2 [x0]
def agL : SL := aL 255 L2 [x0]
def rsL : SL := aL 256 L2 [x0]
def tim (L : SL) (n : SI) : SB := aB 252 L [n]
def O5 : SL := .v 5
def rt0 : LpC := LpC.mk 51 6 106
  (Tm.mk [(0, pt 0), (1, ii x0), (6, vs 3 O5), (7, vs 4 G4)] (rtO L2 D3 n9 q8 ++ [refO O5, wO G4]) [.le (.c 0) x0, .le x0 (.c 549755813888), .lt (.add (.len O5) (.len L2)) (.c 80000), .lt (.add (.len G4) (.len L2)) (.c 80000), .lt (.len O5) (.c 80000), .lt (.len G4) (.c 80000), .lt (.len L2) (.c 80000), .c true, tim L2 (.c 0)])
  [TOut.mk [.lt (.len (cat O5 ouL)) (.c 80000), .lt (.len (cat G4 agL)) (.c 80000), .lt (.add (.len rsL) (.len (cat G4 agL))) (.c 80000), .lt (.len rsL) (.c 80000)] (.exit 0) [(0, pt 0), (6, vs 5 (cat O5 ouL)), (7, vs 6 (cat G4 agL))] [rtC 7 2 rsL D3 n9 q8, .dead, cO D3, .dead, .dead, refO (cat O5 ouL), wO (cat G4 agL), wO rsL] [0, 1, 3, 4]]
def ptA (i : SI) : SL := .app 257 (.l L2 (.l G4 (.i i .nil)))
def rt1 : LpC := LpC.mk 51 15 106
  (Tm.mk [(0, pt 0), (6, vs 3 O5), (7, vs 4 G4), (10, ii x1)] (rtO L2 D3 n9 q8 ++ [refO O5, wO G4]) [.le (.c 0) x1, .le x1 (.len G4), .lt (.len G4) (.c 80000), .c true, .lt (.sub (.add (.len L2) (.len G4)) x1) (.c 80000), .lt (.len L2) (.c 80000)])
  [TOut.mk [.lt (.len (ptA x1)) (.c 80000)] (.exit 2) [(6, vs 3 O5)] [rtC 5 2 (ptA x1) D3 n9 q8, .dead, cO D3, refO O5, wO G4, wO (ptA x1)] [0, 1]]
noncomputable def r4 : Tbl := addLp Φ (addLp Φ r3 rt0) rt1
def tkL : SL := aL 253 L2 [x0]
def rTick : FnC := FnC.mk 51 [pt 0, ii x0] (rtO L2 D3 n9 q8) [.le (.c 0) n9, .lt (.len L2) (.c 70000), .c true, tim L2 (.c 0)]
  [TOut.mk [.or (.lt x0 n9) (.lt (.c 549755813888) x0)] .norm [(0, tup (.sl none (.c 0) (.c 0)) (.i .i64 (.c 1)))] (rtO L2 D3 n9 q8) [],
   TOut.mk [.le n9 x0, .le x0 (.c 549755813888), .lt (.len ouL) (.c 80000), .lt (.len tkL) (.c 80000)] .norm [(0, tup (.vs 3 (.c 0) (.len ouL) none) (.i .i64 (.c 0)))] [rtC 4 2 tkL D3 x0 q8, .dead, cO D3, refO ouL, wO tkL] [0, 1]]
/-- Credit, set, Charge, Refill. -/
def crA (i : SI) : SI := aI 250 D3 [x0, i]
def hsC (i : SI) : SB := aB 253 D3 [x0, i]
def rc0 : LpC := LpC.mk 44 2 33
  (Tm.mk [(0, pt 0), (1, ii x0), (5, ii x1)] (rtO L2 D3 n9 q8) [.le (.c 0) x1, .le x1 (.len D3), few D3])
  [TOut.mk [hsC x1] .ret [(4, ii (crA x1))] (rtO L2 D3 n9 q8) [], TOut.mk [.not (hsC x1), .eq (crA x1) (.c 0)] (.exit 0) [] (rtO L2 D3 n9 q8) []]
noncomputable def r5 : Tbl := addLp Φ noTbl rc0
def rCredit : FnC := FnC.mk 44 [pt 0, ii x0] (rtO L2 D3 n9 q8) [few D3] [TOut.mk [] .norm [(0, ii (crA (.c 0)))] (rtO L2 D3 n9 q8) []]
def stD (D : SL) (i n : SI) (k : SI) : SL := aL 258 D [i, n, k]
def rs0 : LpC := LpC.mk 69 2 49
  (Tm.mk [(0, pt 0), (1, ii x0), (2, ii x2), (7, ii x1)] (rtO L2 D3 n9 q8) [.le (.c 0) x1, .le x1 (.len D3), few D3])
  [TOut.mk [hsC x1, .eq (.len (stD D3 x0 x2 x1)) (.len D3)] .ret [(6, ii x2)] (rtO L2 (stD D3 x0 x2 x1) n9 q8) [2], TOut.mk [.not (hsC x1)] (.exit 0) [(0, pt 0), (1, ii x0), (2, ii x2)] (rtO L2 D3 n9 q8) []]
noncomputable def r6 : Tbl := addLp Φ noTbl rs0
def rSet : FnC := FnC.mk 69 [pt 0, ii x0, ii x2] (rtO L2 D3 n9 q8) [few D3]
  [TOut.mk [.le (.len (stD D3 x0 x2 (.c 0))) (.add (.len D3) (.c 1))] .norm [(0, ii x2)] [rtC 1 3 L2 (stD D3 x0 x2 (.c 0)) n9 q8, wO L2, .dead, cO (stD D3 x0 x2 (.c 0))] [0, 2]]
noncomputable def r7 : Tbl := addFn Φ (addFn Φ r5 rCredit) rSet
def chA : SI := aI 251 D3 [x0, x1]
def rfA : SI := aI 252 D3 [x0, q8, x1]
def rCharge : FnC := FnC.mk 52 [pt 0, ii x0, ii x1] (rtO L2 D3 n9 q8) [few D3]
  [TOut.mk [.le (.len (stD D3 x0 chA (.c 0))) (.add (.len D3) (.c 1))] .norm [(0, tup (.i .i64 chA) (.b (.lt chA (.c 1))))] [rtC 1 3 L2 (stD D3 x0 chA (.c 0)) n9 q8, wO L2, .dead, cO (stD D3 x0 chA (.c 0))] [0, 2]]
def rRefill : FnC := FnC.mk 45 [pt 0, ii x0, ii x1] (rtO L2 D3 n9 q8) [few D3]
  [TOut.mk [.le (.len (stD D3 x0 rfA (.c 0))) (.add (.len D3) (.c 1))] .norm [(0, ii rfA)] [rtC 1 3 L2 (stD D3 x0 rfA (.c 0)) n9 q8, wO L2, .dead, cO (stD D3 x0 rfA (.c 0))] [0, 2]]
def i7 : SI := .sub (.len L2) x1
def i8 : SI := .sub (.len L2) (.v 3)
def i9 : SI := .sub (.len G4) x1
def i10 : SI := .sub (.len D3) x1
def i11 : SI := .len L2
end Go.SF.C21.T
