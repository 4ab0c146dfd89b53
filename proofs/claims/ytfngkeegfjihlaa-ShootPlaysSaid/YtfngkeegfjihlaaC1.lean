/- Contracts of chapter 15: the package shoot. -/
import Derived.Test.YtfngkeegfjihlaaProg
import Derived.Test.YtfngkeegfjihlaaP
namespace Go.SF.C15
open Go Go.SF Go.Proofs
set_option linter.unusedVariables false

def pt (j : Nat) : AV := .cv (.p (some ⟨j, .c 0, 0⟩))
def ii (x : SI) : AV := .cv (.i .i64 x)
def bb (x : SB) : AV := .cv (.b x)
def vs (j : Nat) (A : SL) : AV := .cv (.vs j (.c 0) (.len A) none)
def vecI (A : SL) : AObj := .abs (.vec [.i .i64] 3) A
def vecC (A : SL) : AObj := .abs (.vec [.cd .ch] 57) A
def chO (M : SL) : AObj := .abs (.chans [.i .i64, .i .i64, .i .i64] 16) M
def aI (f : Nat) (A : SL) (xs : List SI) : SI := .app f (.l A (saI xs))
def aL (f : Nat) (A : SL) (xs : List SI) : SL := .app f (.l A (saI xs))
def aB (f : Nat) (A : SL) (xs : List SI) : SB := .app f (.l A (saI xs))
def tup (x y : CV) : AV := .tup [.inl x, .inl y]
def x0 : SI := .v 0
def x1 : SI := .v 1
def x2 : SI := .v 2
def x3 : SI := .v 3
def T0 : SL := .v 0
def M1 : SL := .v 1
def O2 : SL := .v 2
def L4 : SL := .v 4
def Q1 : SL := .v 1
/-- The boxes: the channels' slice in object 1, the counts in object k. -/
def bxC (k : Nat) (B O : SL) : AObj := .cells [.vs 1 (.c 0) (.len B) none, .vs k (.c 0) (.len O) none] 55
def lay (B Q : SL) : SL := .app 115 (.l B (.l Q .nil))
def bxM (B M O : SL) : List AObj := [bxC 2 B O, vecC B, vecI O, chO M]
def bxO (B Q O : SL) : List AObj := bxM B (lay B Q) O
def bxO' (B Q O : SL) : List AObj := [bxC 4 B O, vecC B, .dead, chO (lay B Q), vecI O]
def ok (B : SL) : SB := .app 136 (.l B .nil)
def thereM : List SB := [.le (.c 1) (.len T0), .le (.len T0) (.c 8), .le (.len O2) (.c 1000)]
def there : List SB := thereM ++ [.eq (.len Q1) (.len T0)]
def st (Q O : SL) : SB := .app 130 (.l Q (.l O .nil))
def inv0 : List SB := [.c true, ok T0, st Q1 O2]
def B0 : SL := .v 1000
def nilq (n : SI) : SL := .app 5 (saI [n])
/-- New. -/
def cNew : FnC := FnC.mk 8 [ii x0] [] []
  [TOut.mk [.or (.lt x0 (.c 1)) (.lt (.c 8) x0)] .norm [(0, tup (.p none) (.i .i64 (.c 1)))] [] [],
   TOut.mk [.le (.c 1) x0, .le x0 (.c 8), .eq (.len B0) x0, .eq (.len (nilq x0)) x0, ok B0, st (nilq x0) (.lit [])] .norm [(0, tup (.p (some ⟨0, .c 0, 0⟩)) (.i .i64 (.c 0)))]
     [.cells [.vs 1 (.c 0) (.len B0) none, .sl none (.c 0) (.c 0)] 55, vecC B0, chO (lay B0 (nilq x0))] []]
def D0 : SL := .v 1000
def nw0 : LpC := LpC.mk 8 5 28
  (Tm.mk [(4, pt 0), (13, ii x0), (14, ii x1)] [.cells [.vs 1 (.c 0) (.len T0) none, .sl none (.c 0) (.c 0)] 55, vecC T0, chO T0]
    [.le x0 (.c 8), .le (.c 0) x1, .le x1 x0, .eq (.len T0) x1, .c true, ok T0])
  [TOut.mk [.eq (.len D0) x0, ok D0] (.exit 0) [(4, pt 0)]
    [.cells [.vs 3 (.c 0) (.len D0) none, .sl none (.c 0) (.c 0)] 55, .dead, .dead, vecC D0, chO D0] [0, 1, 2]]
def k0 : SI := .sub x0 x1
noncomputable def t1 : Tbl := addLp Φ noTbl nw0
/-- has. -/
def hasB : SB := .and (.le (.c 0) x0) (.lt x0 (.len T0))
def cHas : FnC := FnC.mk 23 [pt 0, ii x0] (bxM T0 M1 O2) thereM [TOut.mk [] .norm [(0, bb hasB)] (bxM T0 M1 O2) []]
noncomputable def t2 : Tbl := addFn Φ t1 cHas
/-- others. -/
def cutL : SL := .app 0 (.l (.app 1 (.l T0 (.i x0 .nil))) (.l (.app 2 (.l T0 (.i (.add x0 (.c 1)) .nil))) .nil))
def cOth : FnC := FnC.mk 24 [pt 0, ii x0] (bxM T0 M1 O2) (thereM ++ [.le (.c 0) x0, .lt x0 (.len T0)])
  [TOut.mk [.eq (.len cutL) (.sub (.len T0) (.c 1))] .norm [(0, vs 4 cutL)] (bxM T0 M1 O2 ++ [vecC cutL]) []]
noncomputable def t3 : Tbl := addFn Φ t2 cOth
/-- Post: is there a full one? -/
def anyf (L M : SL) (i : SI) : SB := .app 133 (.l L (.l M (.i i .nil)))
def lp0 : List SB := [.le (.len L4) (.c 8), .le (.c 0) x3, .le x3 (.len L4)]
def po1 : LpC := LpC.mk 10 9 89
  (Tm.mk [(0, pt 0), (2, ii x1), (3, ii x2), (10, vs 4 L4), (50, vs 4 L4), (51, ii (.len L4)), (52, ii x3)] (bxM T0 M1 O2 ++ [vecC L4]) (thereM ++ lp0 ++ [.c true, .app 132 (.l L4 (.l M1 .nil))]))
  [TOut.mk [.not (anyf L4 M1 x3)] (.exit 1) [(0, pt 0), (2, ii x1), (3, ii x2), (10, vs 4 L4)] (bxM T0 M1 O2 ++ [vecC L4]) [],
   TOut.mk [anyf L4 M1 x3] .ret [(8, ii (.c 0)), (9, ii (.c 3))] (bxM T0 M1 O2 ++ [vecC L4]) []]
def k1 : SI := .sub (.len L4) x3
def x5 : SI := .v 5
def snd (L M : SL) (i id t p : SI) : SL := .app 114 (.l L (.l M (.i i (.i id (.i t (.i p .nil))))))
def sm : SL := snd L4 M1 x3 x5 x1 x2
def po2 : LpC := LpC.mk 10 17 89
  (Tm.mk [(2, ii x1), (3, ii x2), (13, ii x5), (76, vs 1 L4), (77, ii (.len L4)), (78, ii x3)] [chO M1, vecC L4] (lp0 ++ [.c true, .app 134 (.l L4 (.l M1 (.i x3 .nil)))]))
  [TOut.mk [] (.exit 3) [(13, ii x5)] [chO sm, vecC L4] [0]]
noncomputable def t4 : Tbl := addLp Φ (addLp Φ t3 po1) po2
def full : SB := aB 131 Q1 [x0]
def badA : SB := .or (.or (.lt x1 (.c 1)) (.lt (.c 16) x1)) (.or (.lt x2 (.c (-1))) (.le (.c 65536) x2))
def nid : SI := .add (.len O2) (.c 1)
def pM : SL := aL 110 Q1 [x0, nid, x1, x2]
def pO : SL := .app 0 (.l O2 (.l (.app 3 (saI [.sub (.len Q1) (.c 1)])) .nil))
def cPost : FnC := FnC.mk 10 [pt 0, ii x0, ii x1, ii x2] (bxO T0 Q1 O2) (there ++ inv0)
  [TOut.mk [.not hasB] .norm [(0, tup (.i .i64 (.c 0)) (.i .i64 (.c 2)))] (bxO T0 Q1 O2) [],
   TOut.mk [.le (.c 0) x0, .lt x0 (.len T0), badA] .norm [(0, tup (.i .i64 (.c 0)) (.i .i64 (.c 1)))] (bxO T0 Q1 O2) [],
   TOut.mk [.le (.c 0) x0, .lt x0 (.len T0), .not badA, full] .norm [(0, tup (.i .i64 (.c 0)) (.i .i64 (.c 3)))] (bxO T0 Q1 O2) [],
   TOut.mk [.le (.c 0) x0, .lt x0 (.len T0), .not badA, .not full, .eq (.len pM) (.len T0), st pM pO] .norm [(0, tup (.i .i64 nid) (.i .i64 (.c 0)))] (bxO' T0 pM pO) [0, 2, 3]]
/-- Take. -/
def qL : SI := aI 100 Q1 [x0]
def mg (j : Int) : SI := aI 101 Q1 [x0, .c j]
def tM : SL := aL 111 Q1 [x0]
def dO : SL := aL 112 O2 [mg 0]
def ask0 : CV ⊕ List CV := .inr [.i .i64 (.c 0), .i .i64 (.c 0), .i .i64 (.c 0)]
def cTake : FnC := FnC.mk 12 [pt 0, ii x0] (bxO T0 Q1 O2) (there ++ inv0)
  [TOut.mk [.not hasB] .norm [(0, .tup [ask0, .inl (.b (.c false))])] (bxO T0 Q1 O2) [],
   TOut.mk [.le (.c 0) x0, .lt x0 (.len T0), .eq qL (.c 0)] .norm [(0, .tup [ask0, .inl (.b (.c false))])] (bxO T0 Q1 O2) [],
   TOut.mk [.le (.c 0) x0, .lt x0 (.len T0), .lt (.c 0) qL, .le (.c 1) (mg 0), .le (mg 0) (.len O2), .eq (.len tM) (.len T0), .eq (.len dO) (.len O2), st tM dO] .norm
     [(0, .tup [.inr [.i .i64 (mg 0), .i .i64 (mg 1), .i .i64 (mg 2)], .inl (.b (.c true))])] (bxO T0 tM dO) [2, 3]]
/-- Waits, Done, Open. -/
def cWaits : FnC := FnC.mk 15 [pt 0, ii x0] (bxO T0 Q1 O2) (there ++ inv0)
  [TOut.mk [.not hasB] .norm [(0, ii (.c 0))] (bxO T0 Q1 O2) [],
   TOut.mk [.le (.c 0) x0, .lt x0 (.len T0), .le (.c 0) qL, .le qL (.c 16)] .norm [(0, ii qL)] (bxO T0 Q1 O2) []]
def cDone : FnC := FnC.mk 17 [pt 0, ii x0] (bxO T0 Q1 O2) there [TOut.mk [] .norm [(0, bb (aB 135 O2 [x0]))] (bxO T0 Q1 O2) []]
def oL (i : SI) : SL := aL 113 O2 [i]
def op0 : LpC := LpC.mk 20 5 27
  (Tm.mk [(3, vs 1 L4), (11, vs 0 O2), (12, ii (.len O2)), (13, ii x1)] [vecI O2, vecI L4] [.le (.len O2) (.c 1000), .le (.c 0) x1, .le x1 (.len O2), .le (.len L4) x1])
  [TOut.mk [.le (.len (.app 0 (.l L4 (.l (oL x1) .nil)))) (.len O2)] (.exit 0) [(3, vs 2 (.app 0 (.l L4 (.l (oL x1) .nil))))] [vecI O2, .dead, vecI (.app 0 (.l L4 (.l (oL x1) .nil)))] [1]]
def k2 : SI := .sub (.len O2) x1
noncomputable def t5 : Tbl := addLp Φ t4 op0
def cOpen : FnC := FnC.mk 20 [pt 0] (bxO T0 Q1 O2) there
  [TOut.mk [.le (.len (oL (.c 0))) (.len O2)] .norm [(0, vs 4 (oL (.c 0)))] (bxO T0 Q1 O2 ++ [vecI (oL (.c 0))]) []]
noncomputable def t6 : Tbl := addFn Φ (addFn Φ (addFn Φ (addFn Φ (addFn Φ (addFn Φ t5 cNew) cPost) cTake) cWaits) cDone) cOpen
end Go.SF.C15
