/- Contracts of chapter 18: the document's answer. -/
import Derived.Test.YtnjnmeidjcdppaaC2
namespace Go.SF.C18
open Go Go.SF Go.Proofs
set_option linter.unusedVariables false

def D3 : SL := .v 3
def G4 : SL := .v 4
def wO (A : SL) : AObj := .abs (.vec [.i .i64, .i .i64, .i .i64] 71) A
def cO (A : SL) : AObj := .abs (.vec [.i .i64, .i .i64] 78) A
def rtC (l c : Nat) (A D : SL) (now q : SI) : AObj := .cells [.vs l (.c 0) (.len A) none, .vs c (.c 0) (.len D) none, .i .i64 now, .i .i64 q] 50
def rtO (A D : SL) (now q : SI) : List AObj := [rtC 1 2 A D now q, wO A, cO D]
def nilS : CV := .sl none (.c 0) (.c 0)
def rNew : FnC := FnC.mk 10 [ii x0] [] []
  [TOut.mk [.or (.lt x0 (.c 1)) (.lt (.c 10000) x0)] .norm [(0, tup (.p (some ⟨0, .c 0, 0⟩)) (.i .i64 (.c 1)))] [.dead] [],
   TOut.mk [.le (.c 1) x0, .le x0 (.c 10000)] .norm [(0, tup (.p (some ⟨0, .c 0, 0⟩)) (.i .i64 (.c 0)))] [.cells [nilS, nilS, .i .i64 (.c 0), .i .i64 x0] 50] []]
/-- Disarm. -/
def dis (L : SL) : SL := aL 150 L [x0]
def kL : SL := .v 5
def rd0 : LpC := LpC.mk 14 3 50
  (Tm.mk [(0, pt 0), (1, ii x0), (5, vs 3 kL), (6, ii x1)] (rtO L2 D3 n9 q8 ++ [wO kL]) [.le (.c 0) x1, .le x1 (.len L2), few L2, .le (.len kL) x1, .c true, .eqL kL (dis (takeT L2 x1))])
  [TOut.mk [.le (.len (dis L2)) (.len L2)] (.exit 0) [(0, pt 0), (5, vs 4 (dis L2))] (rtO L2 D3 n9 q8 ++ [.dead, wO (dis L2)]) [3]]
noncomputable def r1 : Tbl := addLp Φ noTbl rd0
def rDis : FnC := FnC.mk 14 [pt 0, ii x0] (rtO L2 D3 n9 q8) [few L2]
  [TOut.mk [.le (.len (dis L2)) (.len L2)] .norm [(0, bb (.lt (.len (dis L2)) (.len L2)))] [rtC 3 2 (dis L2) D3 n9 q8, .dead, cO D3, wO (dis L2)] [0, 1]]
/-- put. -/
def xC : AObj := .cells [.i .i64 x0, .i .i64 x1, .i .i64 x2] 71
def rp0 : LpC := LpC.mk 30 4 84
  (Tm.mk [(0, pt 0), (3, pt 4), (4, vs 3 kL), (5, ii (.v 3))] (rtO L2 D3 n9 q8 ++ [wO kL, xC]) [.le (.c 0) (.v 3), .le (.v 3) (.len L2), few L2, .le (.len kL) (.v 3), .c true, .eqL kL (takeT L2 (.v 3))])
  [TOut.mk [.le (.c 0) (rk (.v 3)), .le (rk (.v 3)) (.len L2), .eq (.len (takeT L2 (rk (.v 3)))) (rk (.v 3))] (.exit 0) [(0, pt 0), (3, pt 4), (4, vs 5 (takeT L2 (rk (.v 3)))), (5, ii (rk (.v 3)))] (rtO L2 D3 n9 q8 ++ [.dead, xC, wO (takeT L2 (rk (.v 3)))]) [3]]
noncomputable def r2 : Tbl := addLp Φ (addFn Φ r1 rDis) rp0
def putA (L : SL) : SL := aL 151 L [x0, x1, x2]
def rPut : FnC := FnC.mk 30 [pt 0, .agg [.i .i64 x0, .i .i64 x1, .i .i64 x2]] (rtO L2 D3 n9 q8) [few L2]
  [TOut.mk [.le (.len (putA L2)) (.add (.len L2) (.c 1))] .norm [(0, .tup [])] [rtC 3 2 (putA L2) D3 n9 q8, .dead, cO D3, wO (putA L2)] [0, 1]]
noncomputable def r3 : Tbl := addFn Φ r2 rPut
def armA : SL := aL 152 L2 [x0, x1, x2, n9]
def rArm : FnC := FnC.mk 12 [pt 0, ii x0, ii x1, ii x2] (rtO L2 D3 n9 q8) [few L2]
  [TOut.mk [.le (.len armA) (.add (.len L2) (.c 1))] .norm [(0, ii (.app 110 (saI [x0, x1, x2, n9])))] [rtC 3 2 armA D3 n9 q8, .dead, cO D3, wO armA] [0, 1]]
def rNext : FnC := FnC.mk 24 [pt 0] (rtO L2 D3 n9 q8) []
  [TOut.mk [.eq (.len L2) (.c 0)] .norm [(0, tup (.i .i64 (.c 0)) (.b (.c false)))] (rtO L2 D3 n9 q8) [],
   TOut.mk [.not (.eq (.len L2) (.c 0))] .norm [(0, tup (.i .i64 (.sel L2 (.c 0) 1)) (.b (.c true)))] (rtO L2 D3 n9 q8) []]
/-- Tick. -/
def cat (A B : SL) : SL := .app 0 (.l A (.l B .nil))
def ouL : SL := aL 154 L2 [x0]
def agL : SL := aL 155 L2 [x0]
def rsL : SL := aL 156 L2 [x0]
def tim (L : SL) (n : SI) : SB := aB 152 L [n]
def O5 : SL := .v 5
def rt0 : LpC := LpC.mk 16 6 106
  (Tm.mk [(0, pt 0), (1, ii x0), (6, vs 3 O5), (7, vs 4 G4)] (rtO L2 D3 n9 q8 ++ [refO O5, wO G4]) [.le (.c 0) x0, .le x0 (.c 549755813888), .lt (.add (.len O5) (.len L2)) (.c 80000), .lt (.add (.len G4) (.len L2)) (.c 80000), .lt (.len O5) (.c 80000), .lt (.len G4) (.c 80000), .lt (.len L2) (.c 80000), .c true, tim L2 (.c 0)])
  [TOut.mk [.lt (.len (cat O5 ouL)) (.c 80000), .lt (.len (cat G4 agL)) (.c 80000), .lt (.add (.len rsL) (.len (cat G4 agL))) (.c 80000), .lt (.len rsL) (.c 80000)] (.exit 0) [(0, pt 0), (6, vs 5 (cat O5 ouL)), (7, vs 6 (cat G4 agL))] [rtC 7 2 rsL D3 n9 q8, .dead, cO D3, .dead, .dead, refO (cat O5 ouL), wO (cat G4 agL), wO rsL] [0, 1, 3, 4]]
def ptA (i : SI) : SL := .app 157 (.l L2 (.l G4 (.i i .nil)))
def rt1 : LpC := LpC.mk 16 15 106
  (Tm.mk [(0, pt 0), (6, vs 3 O5), (7, vs 4 G4), (10, ii x1)] (rtO L2 D3 n9 q8 ++ [refO O5, wO G4]) [.le (.c 0) x1, .le x1 (.len G4), .lt (.len G4) (.c 80000), .c true, .lt (.sub (.add (.len L2) (.len G4)) x1) (.c 80000), .lt (.len L2) (.c 80000)])
  [TOut.mk [.lt (.len (ptA x1)) (.c 80000)] (.exit 2) [(6, vs 3 O5)] [rtC 5 2 (ptA x1) D3 n9 q8, .dead, cO D3, refO O5, wO G4, wO (ptA x1)] [0, 1]]
noncomputable def r4 : Tbl := addLp Φ (addLp Φ r3 rt0) rt1
def tkL : SL := aL 153 L2 [x0]
def rTick : FnC := FnC.mk 16 [pt 0, ii x0] (rtO L2 D3 n9 q8) [.le (.c 0) n9, .lt (.len L2) (.c 70000), .c true, tim L2 (.c 0)]
  [TOut.mk [.or (.lt x0 n9) (.lt (.c 549755813888) x0)] .norm [(0, tup (.sl none (.c 0) (.c 0)) (.i .i64 (.c 1)))] (rtO L2 D3 n9 q8) [],
   TOut.mk [.le n9 x0, .le x0 (.c 549755813888), .lt (.len ouL) (.c 80000), .lt (.len tkL) (.c 80000)] .norm [(0, tup (.vs 3 (.c 0) (.len ouL) none) (.i .i64 (.c 0)))] [rtC 4 2 tkL D3 x0 q8, .dead, cO D3, refO ouL, wO tkL] [0, 1]]
/-- Credit, set, Charge, Refill. -/
def crA (i : SI) : SI := aI 150 D3 [x0, i]
def hsC (i : SI) : SB := aB 153 D3 [x0, i]
def rc0 : LpC := LpC.mk 27 2 33
  (Tm.mk [(0, pt 0), (1, ii x0), (5, ii x1)] (rtO L2 D3 n9 q8) [.le (.c 0) x1, .le x1 (.len D3), few D3])
  [TOut.mk [hsC x1] .ret [(4, ii (crA x1))] (rtO L2 D3 n9 q8) [], TOut.mk [.not (hsC x1), .eq (crA x1) (.c 0)] (.exit 0) [] (rtO L2 D3 n9 q8) []]
noncomputable def r5 : Tbl := addLp Φ noTbl rc0
def rCredit : FnC := FnC.mk 27 [pt 0, ii x0] (rtO L2 D3 n9 q8) [few D3] [TOut.mk [] .norm [(0, ii (crA (.c 0)))] (rtO L2 D3 n9 q8) []]
def stD (D : SL) (i n : SI) (k : SI) : SL := aL 158 D [i, n, k]
def rs0 : LpC := LpC.mk 33 2 49
  (Tm.mk [(0, pt 0), (1, ii x0), (2, ii x2), (7, ii x1)] (rtO L2 D3 n9 q8) [.le (.c 0) x1, .le x1 (.len D3), few D3])
  [TOut.mk [hsC x1, .eq (.len (stD D3 x0 x2 x1)) (.len D3)] .ret [(6, ii x2)] (rtO L2 (stD D3 x0 x2 x1) n9 q8) [2], TOut.mk [.not (hsC x1)] (.exit 0) [(0, pt 0), (1, ii x0), (2, ii x2)] (rtO L2 D3 n9 q8) []]
noncomputable def r6 : Tbl := addLp Φ noTbl rs0
def rSet : FnC := FnC.mk 33 [pt 0, ii x0, ii x2] (rtO L2 D3 n9 q8) [few D3]
  [TOut.mk [.le (.len (stD D3 x0 x2 (.c 0))) (.add (.len D3) (.c 1))] .norm [(0, ii x2)] [rtC 1 3 L2 (stD D3 x0 x2 (.c 0)) n9 q8, wO L2, .dead, cO (stD D3 x0 x2 (.c 0))] [0, 2]]
noncomputable def r7 : Tbl := addFn Φ (addFn Φ r5 rCredit) rSet
def chA : SI := aI 151 D3 [x0, x1]
def rfA : SI := aI 152 D3 [x0, q8, x1]
def rCharge : FnC := FnC.mk 20 [pt 0, ii x0, ii x1] (rtO L2 D3 n9 q8) [few D3]
  [TOut.mk [.le (.len (stD D3 x0 chA (.c 0))) (.add (.len D3) (.c 1))] .norm [(0, tup (.i .i64 chA) (.b (.lt chA (.c 1))))] [rtC 1 3 L2 (stD D3 x0 chA (.c 0)) n9 q8, wO L2, .dead, cO (stD D3 x0 chA (.c 0))] [0, 2]]
def rRefill : FnC := FnC.mk 22 [pt 0, ii x0, ii x1] (rtO L2 D3 n9 q8) [few D3]
  [TOut.mk [.le (.len (stD D3 x0 rfA (.c 0))) (.add (.len D3) (.c 1))] .norm [(0, ii rfA)] [rtC 1 3 L2 (stD D3 x0 rfA (.c 0)) n9 q8, wO L2, .dead, cO (stD D3 x0 rfA (.c 0))] [0, 2]]
def i7 : SI := .sub (.len L2) x1
def i8 : SI := .sub (.len L2) (.v 3)
def i9 : SI := .sub (.len G4) x1
def i10 : SI := .sub (.len D3) x1
def i11 : SI := .len L2
/-- TimerPlays. -/
noncomputable def s1 : Tbl := addFn Φ (addFn Φ (addFn Φ (addFn Φ (addFn Φ (addFn Φ (addFn Φ (addFn Φ t10 rNew) rDis) rArm) rNext) rTick) rCredit) rCharge) rRefill
def scr4 : AObj := .ext (.v 9) [.i .i64, .i .i64, .i .i64, .i .i64]
def is' (T L : SL) : SB := .app 150 (.l T (.l L .nil))
def crE (C D : SL) : SB := .app 151 (.l C (.l D .nil))
def pyO (T C L D : SL) (n : SI) : List AObj := [scr4, tmC q8 n 2 3, mapT T, mapC C, rtC 5 6 L D n q8, wO L, cO D]
def pyS (i : SI) : List (Nat × AV) := [(1, scr 9), (5, pt 1), (7, pt 4), (9, ii i)]
def pyF (T C L D : SL) (n i : SI) : List SB := [.le (.c 0) n, .le n (.c 549755813888), .le (.len T) i, .le (.len L) i, .le (.len D) i]
def pyA (T C L D : SL) (n : SI) : List SB := [is' T L, crE C D, tim T n]
def pyD : List AObj := [scr4, .dead, .dead, .dead, .dead, .dead, .dead]
def op4 : AObj := .cells [.i .i64 (.v 10), .i .i64 (.v 11), .i .i64 (.v 12), .i .i64 (.v 13)] 31
def u0 : SL := .v 1000
def u1 : SL := .v 1001
def u2 : SL := .v 1002
def u3 : SL := .v 1003
def un : SI := .v 1000
def pyW : LpC := LpC.mk 3 1000002 199
  (Tm.mk (pyS x0 ++ [(10, pt 7), (62, ii (.v 10))]) (pyO T0 C1 L2 D3 n9 ++ [op4]) (qs ++ pyF T0 C1 L2 D3 n9 x0 ++ [.le (.c 0) x0, .lt x0 (.c 80), .c true] ++ pyA T0 C1 L2 D3 n9))
  [TOut.mk (pyF u0 u1 u2 u3 un (.add x0 (.c 1)) ++ pyA u0 u1 u2 u3 un) .norm (pyS x0 ++ [(10, pt 7)]) [scr4, tmC q8 un 2 3, mapT u0, mapC u1, rtC 8 9 u2 u3 un q8, .dead, .dead, op4, wO u2, cO u3] [1, 2, 3, 4, 5, 6],
   never 4 (pyD ++ [op4]) [1, 2, 3, 4, 5, 6]]
noncomputable def s2 : Tbl := addLp Φ s1 pyW
def py1 : LpC := LpC.mk 3 6 199
  (Tm.mk (pyS x0) (pyO T0 C1 L2 D3 n9) (qs ++ pyF T0 C1 L2 D3 n9 x0 ++ [.le (.c 0) x0, .le x0 (.c 80), .c true] ++ pyA T0 C1 L2 D3 n9))
  [TOut.mk [] (.exit 0) [] pyD [1, 2, 3, 4, 5, 6], never 4 pyD [1, 2, 3, 4, 5, 6]]
noncomputable def s3 : Tbl := addLp Φ s1 py1
def lPlays0 : FnC := FnC.mk 3 [ii x0, scr 9] [scr4] [] [yes [scr4], noF [scr4]]
def lPlays : FnC := FnC.mk 3 [ii x0, scr 9] [scr4] [] [yes [scr4]]
def i12 : SI := .sub (.c 80) x0
end Go.SF.C18
