/- Contracts of chapter 21: the package sched, as the law of wakes uses it. -/
import Derived.Test.YtnhdohhhgfdhfaaC0
namespace Go.SF.C21
open Go Go.SF Go.Proofs
set_option linter.unusedVariables false

def x1 : SI := .v 1
def x2 : SI := .v 2
def TQ : SL := .v 0
def MQ : SL := .v 1
def TT : SL := .v 2
def CT : SL := .v 3
def RR : SL := .v 4
def OO : SL := .v 5
def n9 : SI := .v 9
def q8 : SI := .v 8
def rep (xs : List SI) : SL := .app 5 (saI xs)
def K10 : List CK := [.i .i64, .i .i64, .b, .b, .i .u64, .i .u64, .i .u64, .i .u64, .i .i64, .i .i64]
def onO (O : SL) : AObj := .abs (.vec K10 88) O
def sC (ones runs : CV) : AObj := .cells [ones, .p (some ⟨1, .c 0, 0⟩), .p (some ⟨5, .c 0, 0⟩), runs] 76
def qCs (A : SL) : AObj := .cells [.vs 2 (.c 0) (.len A) none, .i .i64 (.c 64), .m (some 4)] 109
def vI (A : SL) : AObj := .abs (.vec [.i .i64] 3) A
/-- The queues, the timers, and who runs. -/
def in8 (ones : CV) (A M B C R : SL) (q n : SI) (k : Nat) : List AObj :=
  [sC ones (.vs k (.c 0) (.len R) none), qCs A, .dead, .lists 2 (.i .i64) 3 36 A none, Q.mpO M, T.tmC q n 6 7, T.mapT B, T.mapC C]
def nil : CV := .sl none (.c 0) (.c 0)
/-- New's loop. -/
def nwO (R : SL) : List AObj := in8 nil TQ MQ TT CT R q8 n9 8 ++ [vI R]
def kN : SI := .sub x0 x1
/-- With k CPUs all is written out. -/
def emp (k : Nat) : SL := .lit (List.replicate k [])
def idl (k : Nat) : SL := .lit (List.replicate k [-1])
def cQN (k : Nat) : FnC := FnC.mk 31 [ii x0, ii (.c 64)] [] [.eq x0 (.c k)]
  [TOut.mk [.app 130 (.l (emp k) (.l (.lit []) (.i (.c 64) .nil)))] .norm [(0, Q.tup (.p (some ⟨0, .c 0, 0⟩)) (.i .i64 (.c 0)))]
    [.cells [.vs 1 (.c 0) (.c k) none, .i .i64 (.c 64), .m (some 3)] 109, .dead, .lists 1 (.i .i64) 3 36 (emp k) none, Q.mpO (.lit [])] []]
def nwK (k : Nat) : LpC := LpC.mk 9 9 44
  (Tm.mk [(9, pt 0), (30, ii x0), (31, ii x1)] (nwO RR) [.eq x0 (.c k), .le (.c 0) x1, .le x1 x0, .eq (.len RR) x1, .c true, .eqL RR (rep [x1, .c (-1)])])
  [TOut.mk [] (.exit 0) [(9, pt 0)] (sC nil (.vs 9 (.c 0) (.c k) none) :: (nwO RR).tail.dropLast ++ [.dead, vI (idl k)]) [0, 8]]
noncomputable def nwA : Nat → Tbl → Tbl
  | 0, t => t
  | k + 1, t => addLp Φ (nwA k t) (nwK (k + 1))
noncomputable def qnA : Nat → Tbl → Tbl
  | 0, t => t
  | k + 1, t => addFn Φ (qnA k t) (cQN (k + 1))
def cArmW : FnC := FnC.mk 46 [pt 0, ii x0, ii x1, ii (.c 0)] (T.tmO q8 n9 (.lit []) T.C1) (T.qs ++ [.le (.c 0) x0, .lt n9 x1, .le x1 (.c 1099511627776)])
  [TOut.mk [] .norm [(0, ii (.c 0))] (T.tmO q8 n9 (.app 3 (saI [x0, x1, .c 0])) T.C1) [1]]
def tck : List SB := T.qs ++ [.lt (.len T.T0) (.c 80000), .le n9 x0, .le x0 (.c 549755813888)]
def cTickE : FnC := FnC.mk 49 [pt 0, ii x0] (T.tmO q8 n9 T.T0 T.C1) (tck ++ [.c true, .app 301 (.l T.T0 (.i x0 .nil))])
  [TOut.mk [] .norm [(0, T.tup (.vs 3 (.c 0) (.c 0) none) (.i .i64 (.c 0)))] (T.tmO q8 x0 T.T0 T.C1 ++ [T.fireO (.lit [])]) [0, 1]]
def one1 (x e : SI) : SL := .app 3 (saI [.c 1, x, e])
def cTickD : FnC := FnC.mk 49 [pt 0, ii x0] (T.tmO q8 n9 T.T0 T.C1) (tck ++ [.eq x0 (.sel T.T0 (.c 0) 1), .c true, .eqL T.T0 (one1 x0 (.c 0))])
  [TOut.mk [] .norm [(0, T.tup (.vs 3 (.c 0) (.len (one1 x0 (.c 1))) none) (.i .i64 (.c 0)))] (T.tmO q8 x0 (.lit []) T.C1 ++ [T.fireO (one1 x0 (.c 1))]) [0, 1]]
noncomputable def w3 : Tbl := qnA 8 (nwA 8 (addFn Φ (addFn Φ (addFn Φ (addFn Φ b1 cKnown) cArmW) cTickE) cTickD))
def isK (x : SI) (k : Nat) : SB := .eq (.rem x (.c 8)) (.c (Int.ofNat k - 1))
def lWk (k : Nat) (o : List TOut) : FnC := FnC.mk 8 [.cv (.i .u8 x0), .cv (.i .u8 x1), bb (.v 0)] [] [isK x0 k, .le (.c 0) x0, .le x0 (.c 255), .le (.c 0) x1, .le x1 (.c 255)] o
def lWakes1 : FnC := lWk 1 [yes [], noF []]
def nw1 : LpC := nwK 1
def cQN1 : FnC := cQN 1
def lWakes2 : FnC := lWk 2 [yes [], noF []]
def nw2 : LpC := nwK 2
def cQN2 : FnC := cQN 2
def lWakes3 : FnC := lWk 3 [yes [], noF []]
def nw3 : LpC := nwK 3
def cQN3 : FnC := cQN 3
def lWakes4 : FnC := lWk 4 [yes [], noF []]
def nw4 : LpC := nwK 4
def cQN4 : FnC := cQN 4
def lWakes5 : FnC := lWk 5 [yes [], noF []]
def nw5 : LpC := nwK 5
def cQN5 : FnC := cQN 5
def lWakes6 : FnC := lWk 6 [yes [], noF []]
def nw6 : LpC := nwK 6
def cQN6 : FnC := cQN 6
def lWakes7 : FnC := lWk 7 [yes [], noF []]
def nw7 : LpC := nwK 7
def cQN7 : FnC := cQN 7
def lWakes8 : FnC := lWk 8 [yes [], noF []]
def nw8 : LpC := nwK 8
def cQN8 : FnC := cQN 8
def lWakes : FnC := FnC.mk 8 [.cv (.i .u8 x0), .cv (.i .u8 x1), bb (.v 0)] [] [.le (.c 0) x0, .le x0 (.c 255), .le (.c 0) x1, .le x1 (.c 255)] [yes []]
end Go.SF.C21
