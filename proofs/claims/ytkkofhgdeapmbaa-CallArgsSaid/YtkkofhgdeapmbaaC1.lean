/- Contracts of chapter 22: the package call, and the document's. -/
import Derived.Test.YtkkofhgdeapmbaaProg
import Derived.Test.YtkkofhgdeapmbaaP
namespace Go.SF.C22
open Go Go.SF Go.Proofs
set_option linter.unusedVariables false

def ii (x : SI) : AV := .cv (.i .i64 x)
def bb (x : SB) : AV := .cv (.b x)
def ss (x : SI) : AV := .cv (.cd .str x)
def fi (f : Nat) (xs : List SI) : SI := .app f (saI xs)
def fb (f : Nat) (xs : List SI) : SB := .app f (saI xs)
def x0 : SI := .v 0
def x1 : SI := .v 1
def x2 : SI := .v 2
def x3 : SI := .v 3
def callV : AV := .agg [.i .i64 x0, .i .u64 x1, .i .u64 x2, .i .u64 x3]
def u64 (x : SI) : List SB := [.le (.c 0) x, .le x (.c 18446744073709551615)]
def callF : List SB := u64 x1 ++ u64 x2 ++ u64 x3
def KTs : SL := .app 110 .nil
def mapO (A : SL) : AObj := .abs (.map .i64 [.cd .str, .i .i64] false) A
def cKinds : FnC := FnC.mk 26 [] [] [] [TOut.mk [] .norm [(0, .cv (.m (some 0)))] [mapO KTs] []]
noncomputable def t1 : Tbl := addFn Φ noTbl cKinds
def ar (x : SI) : SI := fi 100 [x]
def arF (x : SI) : List SB := [.le (.c (-1)) (ar x), .le (ar x) (.c 3)]
def cArgs : FnC := FnC.mk 16 [ii x0] [] [] [TOut.mk (arF x0) .norm [(0, ii (ar x0))] [] []]
def cArgsR : FnC := FnC.mk 17 [ii x0] [] [] [TOut.mk (arF x0) .norm [(0, ii (ar x0))] [] []]
noncomputable def t2 : Tbl := addFn Φ (addFn Φ t1 cArgs) cArgsR
def rg : SB := fb 130 [x0, x1, x2, x3]
def cRight : FnC := FnC.mk 8 [callV] [] callF [TOut.mk [] .norm [(0, bb rg)] [] []]
def cRightR : FnC := FnC.mk 9 [callV] [] callF [TOut.mk [] .norm [(0, bb rg)] [] []]
noncomputable def t3 : Tbl := addFn Φ (addFn Φ t2 cRight) cRightR
/-- Digits: below a bound. -/
def dc (x : SI) : SI := fi 101 [x]
def strF (s : SI) (n : Int) : List SB := [.le (.c 0) s, .le (.app 4 (.i s .nil)) (.c n)]
def dcF (x : SI) : List SB := strF (dc x) 20
def cDec0 (f : Nat) (N : Int) : FnC := FnC.mk f [.cv (.i .u64 x0)] [] (u64 x0 ++ [.c true, .lt x0 (.c N)]) [TOut.mk (dcF x0) .norm [(0, ss (dc x0))] [] []]
noncomputable def tD (f : Nat) (N : Int) : Tbl := addFn Φ noTbl (cDec0 f N)
def cDec : FnC := FnC.mk 27 [.cv (.i .u64 x0)] [] (u64 x0) [TOut.mk (dcF x0) .norm [(0, ss (dc x0))] [] []]
def cDig : FnC := FnC.mk 29 [.cv (.i .u64 x0)] [] (u64 x0) [TOut.mk (dcF x0) .norm [(0, ss (dc x0))] [] []]
def rd1 : FnC := cDec0 27 10
def rd2 : FnC := cDec0 27 100
def rg1 : FnC := cDec0 29 10
def rg2 : FnC := cDec0 29 100
noncomputable def tD1 : Tbl := tD 27 10
noncomputable def tG1 : Tbl := tD 29 10
def rd3 : FnC := cDec0 27 1000
def rg3 : FnC := cDec0 29 1000
noncomputable def tD2 : Tbl := tD 27 100
noncomputable def tG2 : Tbl := tD 29 100
noncomputable def t4 : Tbl := addFn Φ (addFn Φ t3 cDec) cDig
/-- Show. -/
def sh : SI := fi 102 [x0, x1, x2, x3]
def shF : List SB := strF sh 100
def cShow : FnC := FnC.mk 11 [callV] [] callF [TOut.mk shF .norm [(0, ss sh)] [] []]
def cShowR : FnC := FnC.mk 12 [callV] [] callF [TOut.mk shF .norm [(0, ss sh)] [] []]
def callK (k : Int) : AV := .agg [.i .i64 (.c k), .i .u64 x1, .i .u64 x2, .i .u64 x3]
/-- A right call of one kind. -/
def cShK (f : Nat) (k : Int) : FnC := FnC.mk f [callK k] [] (callF ++ [.eq x0 (.c k), rg]) [TOut.mk shF .norm [(0, ss sh)] [] []]
def cShN (f : Nat) : FnC := FnC.mk f [callV] [] (callF ++ [.not rg]) [TOut.mk shF .norm [(0, ss sh)] [] []]
def shK1 : FnC := cShK 11 1
def shK2 : FnC := cShK 11 2
def shK3 : FnC := cShK 11 3
def shK4 : FnC := cShK 11 4
def shK5 : FnC := cShK 11 5
def shK6 : FnC := cShK 11 6
def shK7 : FnC := cShK 11 7
def shK8 : FnC := cShK 11 8
def shK9 : FnC := cShK 11 9
def shK10 : FnC := cShK 11 10
def shK11 : FnC := cShK 11 11
def shK12 : FnC := cShK 11 12
def shK13 : FnC := cShK 11 13
def shK14 : FnC := cShK 11 14
def shK15 : FnC := cShK 11 15
def shK16 : FnC := cShK 11 16
def shK17 : FnC := cShK 11 17
def shKN : FnC := cShN 11
def shR1 : FnC := cShK 12 1
def shR2 : FnC := cShK 12 2
def shR3 : FnC := cShK 12 3
def shR4 : FnC := cShK 12 4
def shR5 : FnC := cShK 12 5
def shR6 : FnC := cShK 12 6
def shR7 : FnC := cShK 12 7
def shR8 : FnC := cShK 12 8
def shR9 : FnC := cShK 12 9
def shR10 : FnC := cShK 12 10
def shR11 : FnC := cShK 12 11
def shR12 : FnC := cShK 12 12
def shR13 : FnC := cShK 12 13
def shR14 : FnC := cShK 12 14
def shR15 : FnC := cShK 12 15
def shR16 : FnC := cShK 12 16
def shR17 : FnC := cShK 12 17
def shRN : FnC := cShN 12
noncomputable def t5 : Tbl := addFn Φ (addFn Φ t4 cShow) cShowR
/-- cut. -/
def len (x : SI) : SI := .app 4 (.i x .nil)
def txt (x : SI) : List SB := [.le (.c 0) x, .le (len x) (.c 1000)]
def ct0 : LpC := LpC.mk 30 2 24
  (Tm.mk [(0, ss x0), (7, ii (len x0)), (8, ii x1)] [] (txt x0 ++ [.le (.c 0) x1, .le x1 (len x0), .c true, fb 132 [x0, x1]]))
  [TOut.mk [.not (fb 131 [x0])] (.exit 0) [(0, ss x0)] [] [],
   TOut.mk [fb 131 [x0]] .ret [(2, ss (fi 103 [x0])), (3, ss (fi 104 [x0])), (4, bb (.c true))] [] []]
def k0 : SI := .sub (len x0) x1
noncomputable def t6 : Tbl := addLp Φ noTbl ct0
def tup3 (x y z : CV) : AV := .tup [.inl x, .inl y, .inl z]
def cCut : FnC := FnC.mk 30 [ss x0] [] (txt x0)
  [TOut.mk [.le (.c 0) (fi 103 [x0]), .le (len (fi 103 [x0])) (len x0), .le (.c 0) (fi 104 [x0]), .le (len (fi 104 [x0])) (len x0)] .norm [(0, tup3 (.cd .str (fi 103 [x0])) (.cd .str (fi 104 [x0])) (.b (fb 131 [x0])))] [] []]
/-- named. -/
def M0 : SL := .v 0
def itO (M : SL) : AObj := .iter 0 .i64 [.cd .str, .i .i64] false M none
def left : SI := .add (.len (.app 12 (.l M0 .nil))) (.c 1)
def nm0 : LpC := LpC.mk 31 2 17
  (Tm.mk [(0, ss x0), (6, .cv (.p (some ⟨1, .c 0, 0⟩)))] [.dead, itO M0] (txt x0 ++ [.c true, .app 133 (.l M0 (.i x0 .nil))]))
  [TOut.mk [.eq (fi 105 [x0]) (.c (-1))] (.exit 0) [] [.dead, .dead] [1],
   TOut.mk [] .ret [(2, ii (fi 105 [x0]))] [.dead, .dead] [1]]
noncomputable def t7 : Tbl := addFn Φ t5 cCut
noncomputable def t8 : Tbl := addLp Φ t7 nm0
def kF (k : SI) (lo : Int) : List SB := [.le (.c lo) k, .le k (.c 17)]
def cNamed : FnC := FnC.mk 31 [ss x0] [] (txt x0) [TOut.mk (kF (fi 105 [x0]) (-1)) .norm [(0, ii (fi 105 [x0]))] [] []]
/-- number. -/
def pt (j : Nat) : AV := .cv (.p (some ⟨j, .c 0, 0⟩))
def uu (x : SI) : AV := .cv (.i .u64 x)
def u6 (x : SI) : List SB := [.le (.c 0) x, .le x (.c 18446744073709551615)]
def sitO (a p : SI) : AObj := .abs .sit (.app 3 (.i a (.i p .nil)))
def kN : SI := .sub (len x0) x2
def kW : SI := .sub (.add (len x0) (.c 1)) x2
def k18 : SI := .sub (.c 18) x1
def nb0 : LpC := LpC.mk 32 3 29
  (Tm.mk [(0, ss x0), (4, uu x1), (8, pt 0)] [sitO x0 x2] (txt x0 ++ u6 x1 ++ [.le (.c 0) x2, .le x2 (len x0), .c true, fb 134 [x0, x2, x1]]))
  [TOut.mk (fb 136 [x0] :: u6 (fi 106 [x0])) (.exit 0) [(0, ss x0), (4, uu (fi 106 [x0]))] [.dead] [0],
   TOut.mk [.not (fb 136 [x0])] .ret [(2, uu (.c 0)), (3, bb (.c false))] [.dead] [0]]
noncomputable def t9 : Tbl := addLp Φ (addFn Φ t8 cNamed) nb0
def cNum : FnC := FnC.mk 32 [ss x0] [] (txt x0) [TOut.mk (u6 (fi 106 [x0])) .norm [(0, .tup [.inl (.i .u64 (fi 106 [x0])), .inl (.b (fb 135 [x0]))])] [] []]
noncomputable def t10 : Tbl := addFn Φ t9 cNum
/-- Parse. -/
def pj (j : Int) : SI := fi 107 [x0, .c j]
def paF : List SB := u6 (pj 2) ++ u6 (pj 3) ++ u6 (pj 4) ++ kF (pj 1) 0 ++ [.le (.c 0) (pj 0), .le (pj 0) (.c 11)]
def paV : AV := .tup [.inr [.i .i64 (pj 1), .i .u64 (pj 2), .i .u64 (pj 3), .i .u64 (pj 4)], .inl (.i .i64 (pj 0))]
def cParse : FnC := FnC.mk 21 [ss x0] [] (txt x0) [TOut.mk paF .norm [(0, paV)] [] []]
/-- The document's number. -/
def nr0 : LpC := LpC.mk 34 3 20
  (Tm.mk [(0, ss x0), (3, uu x1), (4, ii x2)] [] ([.le (.c 0) x0, .le (len x0) (.c 1000)] ++ u6 x1 ++ [.le (.c 0) x2, .le x2 (len x0), .c true, .eq x1 (fi 109 [x0, x2])]))
  [TOut.mk (u6 (fi 113 [x0])) (.exit 0) [(3, uu (fi 113 [x0]))] [] []]
noncomputable def r1 : Tbl := addLp Φ t5 nr0
def cNumR : FnC := FnC.mk 34 [ss x0] [] [.le (.c 0) x0, .c true, .le (len x0) (.c 1000)] [TOut.mk (u6 (fi 113 [x0])) .norm [(0, uu (fi 113 [x0]))] [] []]
/-- The document's words. -/
def W0 : SL := .v 0
def vsS (j : Nat) (A : SL) : AV := .cv (.vs j (.c 0) (.len A) none)
def wO (A : SL) : AObj := .abs (.vec [.cd .str] 9) A
def wsF : SL := .app 112 (saI [x0])
def wd0 : LpC := LpC.mk 33 4 32
  (Tm.mk [(0, ss x0), (3, vsS 0 W0), (4, ii x1), (5, ii x2)] [wO W0]
    (txt x0 ++ [.le (.c 0) x1, .le x1 x2, .le x2 (.add (len x0) (.c 1)), .le (.len W0) x2, .c true, .eqL W0 (.app 111 (saI [x0, x2])), .eq x1 (fi 108 [x0, x2])]))
  [TOut.mk [.le (.c 1) (.len wsF), .le (.len wsF) (.c 1001)] (.exit 0) [(3, vsS 1 wsF)] [.dead, wO wsF] [0]]
noncomputable def r2 : Tbl := addLp Φ (addFn Φ r1 cNumR) wd0
def cWords : FnC := FnC.mk 33 [ss x0] [] (txt x0) [TOut.mk [.le (.c 1) (.len wsF), .le (.len wsF) (.c 1001)] .norm [(0, vsS 0 wsF)] [wO wsF] []]
noncomputable def r3 : Tbl := addFn Φ r2 cWords
/-- The document's Parse. -/
def cO (a b c d : SI) (t : TypeId) : AObj := .cells [.i .i64 a, .i .u64 b, .i .u64 c, .i .u64 d] t
def w00 : SI := .sel W0 (.c 0) 0
def rp0 : LpC := LpC.mk 22 4 63
  (Tm.mk [(0, ss x0), (2, pt 0), (3, ii (.c 0)), (4, vsS 1 W0), (5, pt 2), (6, ii x1)] [cO (.c 0) (.c 0) (.c 0) (.c 0) 27, wO W0, cO x2 (.c 0) (.c 0) (.c 0) 27]
    ([.le (.c 0) x0, .le (.c 1) (.len W0), .le (.c 1) x1, .le x1 (.c 18), .c true, .eq x2 (fi 114 [w00, x1])]))
  [TOut.mk (kF (fi 115 [w00]) 0) (.exit 0) [(0, ss x0), (2, pt 0), (3, ii (.c 0)), (4, vsS 1 W0), (5, pt 2)] [cO (.c 0) (.c 0) (.c 0) (.c 0) 27, wO W0, cO (fi 115 [w00]) (.c 0) (.c 0) (.c 0) 27] [2]]
noncomputable def r4 : Tbl := addLp Φ r3 rp0
def cParseR : FnC := FnC.mk 22 [ss x0] [] (txt x0) [TOut.mk paF .norm [(0, paV)] [] []]
end Go.SF.C22
