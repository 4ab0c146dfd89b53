/- Contracts of chapter 10: how slots and objects look; some's loops. -/
import Derived.Test.YtfcakaakdeakpaaProg
import Derived.Test.YtfcakaakdeakpaaP
namespace Go.SF.C10
open Go Go.SF Go.Proofs
set_option linter.unusedVariables false

def pt (j : Nat) : AV := .cv (.p (some ⟨j, .c 0, 0⟩))
def ii (x : SI) : AV := .cv (.i .i64 x)
def bb (x : SB) : AV := .cv (.b x)
def vs (j : Nat) (A : SL) : AV := .cv (.vs j (.c 0) (.len A) none)
def vecO (A : SL) : AObj := .abs (.vec [.i .i64] 3) A
def mapO (A : SL) : AObj := .abs (.map .i64 [.i .i64] true) A
def itO (mid : Nat) (M : SL) : AObj := .iter mid .i64 [.i .i64] true M none
/-- Epochs: the epoch, the CPUs' pins (object p), the map (object m). -/
def epC (now : SI) (p m : Nat) (P : SL) : AObj := .cells [.i .i64 now, .vs p (.c 0) (.len P) none, .m (some m)] 50
def boxP (j : Nat) : AObj := .cells [.p (some ⟨j, .c 0, 0⟩)] 23
def aI (f : Nat) (A : SL) (xs : List SI) : SI := .app f (.l A (saI xs))
def aL (f : Nat) (A : SL) (xs : List SI) : SL := .app f (.l A (saI xs))
def aB (f : Nat) (A : SL) (xs : List SI) : SB := .app f (.l A (saI xs))
def few (A : SL) : SB := .lt (.len A) (.c 100000)
def less (A : SL) : SB := .lt (.len A) (.c 90000)
def unf (M : SL) : SL := .app 10 (.l M .nil)
/-- The closures of Waiting; of Free: its captured box, the struct behind it. -/
def cl0 : AV := .cv (.fn 31 [])
def cl1 : AV := .cv (.fn 30 [⟨3, .c 0, 0⟩])
def ob0 : List AObj := []
def ob1 : List AObj := [boxP 4, epC (.v 9) 5 0 (.v 9), vecO (.v 9)]
def M0 : SL := .v 0
def L0 : SL := .v 1
/-- some's inner loop: the slice .v 1 from place .v 1 down, for the key .v 0. -/
def inS : List SI := [.v 1, .v 0]
def inn (c : AV) (o : List AObj) : LpC := LpC.mk 29 8 52
  (Tm.mk [(1, c), (5, vs 2 L0), (6, ii (.v 0)), (8, ii (.v 1)), (10, pt 1)] ([.dead, itO 0 M0, vecO L0] ++ o)
    [.le (.c 0) (.v 1), .lt (.v 1) (.len L0), few L0])
  [TOut.mk [.le (.c 0) (aI 100 L0 inS), .le (aI 100 L0 inS) (.v 1), .eq (.len (aL 100 L0 inS)) (.len L0)] (.exit 2)
    [(1, c), (5, vs 2 (aL 100 L0 inS)), (6, ii (.v 0)), (8, ii (aI 100 L0 inS)), (10, pt 1)] ([.dead, itO 0 M0, vecO (aL 100 L0 inS)] ++ o) [2]]
def in0 : LpC := inn cl0 ob0
def in1 : LpC := inn cl1 ob1
noncomputable def t1 : Tbl := addLp Φ (addLp Φ noTbl in0) in1
/-- some's loop over the map: .v 1 is what was found so far. -/
def out (c : AV) (o : List AObj) (S K : SL) : LpC := LpC.mk 29 3 52
  (Tm.mk [(1, c), (5, vs 2 L0), (10, pt 1)] ([.dead, itO 0 M0, vecO L0] ++ o)
    [.c true, less M0, .eqL L0 S, .le (.len L0) (.len M0)])
  [TOut.mk [.le (.len K) (.len M0)] (.exit 0) [(5, vs (3 + o.length) K)] ([.dead, itO 0 (aL 114 M0 []), .dead] ++ o ++ [vecO K]) [1, 2]]
def out0 : LpC := out cl0 ob0 (aL 112 M0 []) (aL 110 M0 [])
def out1 : LpC := out cl1 ob1 (aL 113 M0 [.v 9]) (aL 111 M0 [.v 9])
noncomputable def t2 : Tbl := addLp Φ (addLp Φ t1 out0) out1
/-- some, for Waiting and for Free. -/
def cSome0 : FnC := FnC.mk 29 [.cv (.m (some 0)), cl0] [mapO M0] [less M0]
  [TOut.mk [.le (.len (aL 110 M0 [])) (.len M0)] .norm [(0, vs 1 (aL 110 M0 []))] [mapO M0, vecO (aL 110 M0 [])] [0]]
def obF : List AObj := [mapO M0, boxP 2, epC (.v 9) 3 0 (.v 9), vecO (.v 9)]
def cSome1 : FnC := FnC.mk 29 [.cv (.m (some 0)), .cv (.fn 30 [⟨1, .c 0, 0⟩])] obF [less M0]
  [TOut.mk [.le (.len (aL 111 M0 [.v 9])) (.len M0)] .norm [(0, vs 4 (aL 111 M0 [.v 9]))] (obF ++ [vecO (aL 111 M0 [.v 9])]) [0]]
noncomputable def t3 : Tbl := addFn Φ (addFn Φ t2 cSome0) cSome1
/-- An Epochs: the struct, the pins, the map. -/
def epO (now : SI) (P A : SL) : List AObj := [epC now 1 2 P, vecO P, mapO A]
def P9 : SL := .v 9
def cWaiting : FnC := FnC.mk 15 [pt 0] (epO (.v 9) P9 M0) [less M0]
  [TOut.mk [.le (.len (aL 110 M0 [])) (.len M0)] .norm [(0, vs 3 (aL 110 M0 []))] (epO (.v 9) P9 M0 ++ [vecO (aL 110 M0 [])]) [2]]
/-- Free's loop. -/
def dl (M L : SL) (i : SI) : SL := .app 120 (.l M (.l L (.i i .nil)))
def frO (A : SL) : List AObj := [boxP 1, epC (.v 9) 2 3 P9, vecO P9, mapO A, vecO L0]
def fr0 : LpC := LpC.mk 13 5 28
  (Tm.mk [(1, pt 0), (3, vs 4 L0), (15, vs 4 L0), (16, ii (.len L0)), (17, ii (.v 1))] (frO M0) [.le (.c 0) (.v 1), .le (.v 1) (.len L0), few L0])
  [TOut.mk [] (.exit 0) [(3, vs 4 L0)] (frO (dl M0 L0 (.v 1))) [3]]
noncomputable def t4 : Tbl := addLp Φ (addFn Φ t3 cWaiting) fr0
def cFree : FnC := FnC.mk 13 [pt 0] (epO (.v 9) P9 M0) [less M0]
  [TOut.mk [.le (.len (aL 121 M0 [.v 9])) (.len M0), .le (.len (aL 111 M0 [.v 9])) (.len M0)] .norm [(0, vs 3 (aL 111 M0 [.v 9]))] (epO (.v 9) P9 (aL 121 M0 [.v 9]) ++ [vecO (aL 111 M0 [.v 9])]) [2]]
/-- Advance's loop. -/
def late (i : SI) : SB := aB 130 P9 [i, .v 9]
def ad0 : LpC := LpC.mk 12 4 35
  (Tm.mk [(0, pt 0), (11, vs 1 P9), (12, ii (.len P9)), (13, ii (.v 1))] (epO (.v 9) P9 M0) [.le (.c 0) (.v 1), .le (.v 1) (.len P9), few P9])
  [TOut.mk [late (.v 1)] .ret [(2, bb (.c false))] (epO (.v 9) P9 M0) [],
   TOut.mk [.not (late (.v 1))] (.exit 0) [(0, pt 0)] (epO (.v 9) P9 M0) []]
noncomputable def t5 : Tbl := addLp Φ (addFn Φ t4 cFree) ad0
def time (n : SI) : List SB := [.le (.c 0) n, .lt n (.c 100000)]
def cAdvance : FnC := FnC.mk 12 [pt 0] (epO (.v 9) P9 M0) (few P9 :: time (.v 9))
  [TOut.mk [late (.c 0)] .norm [(0, bb (.c false))] (epO (.v 9) P9 M0) [],
   TOut.mk [.not (late (.c 0))] .norm [(0, bb (.c true))] (epO (.add (.v 9) (.c 1)) P9 M0) [0]]
/-- Ints' loop; New's. -/
def drop (A : SL) (n : SI) : SL := .app 2 (.l A (.i n .nil))
def it0 : LpC := LpC.mk 16 4 26
  (Tm.mk [(0, vs 0 M0), (1, vs 1 L0), (5, ii (.v 1))] [vecO M0, vecO L0] [.le (.c 0) (.v 1), .le (.v 1) (.len M0), .eq (.len M0) (.len L0), few M0])
  [TOut.mk [.not (.eqL (drop M0 (.v 1)) (drop L0 (.v 1)))] .ret [(4, bb (.c false))] [vecO M0, vecO L0] [],
   TOut.mk [.eqL (drop M0 (.v 1)) (drop L0 (.v 1))] (.exit 0) [] [vecO M0, vecO L0] []]
def pad (P : SL) (i n : SI) : SL := aL 131 P [i, n]
def nw0 : LpC := LpC.mk 8 5 28
  (Tm.mk [(4, pt 0), (14, ii (.v 0)), (15, ii (.v 1))] (epO (.c 0) L0 (.lit [])) [.le (.c 0) (.v 1), .le (.v 1) (.v 0), .le (.v 0) (.c 8), .le (.len L0) (.v 1)])
  [TOut.mk [] (.exit 0) [(4, pt 0)] [epC (.c 0) 3 2 (pad L0 (.v 1) (.v 0)), .dead, mapO (.lit []), vecO (pad L0 (.v 1) (.v 0))] [0, 1]]
noncomputable def t6 : Tbl := addLp Φ (addLp Φ (addFn Φ t5 cAdvance) it0) nw0
def cInts : FnC := FnC.mk 16 [vs 0 M0, vs 1 L0] [vecO M0, vecO L0] [few M0]
  [TOut.mk [] .norm [(0, bb (.eqL M0 L0))] [vecO M0, vecO L0] []]
def K0 : SL := pad (.lit []) (.c 0) (.v 0)
def cNew : FnC := FnC.mk 8 [ii (.v 0)] [] []
  [TOut.mk [.or (.lt (.v 0) (.c 1)) (.lt (.c 8) (.v 0))] .norm [(0, .tup [.inl (.p none), .inl (.i .i64 (.c 1))])] [] [],
   TOut.mk [.le (.c 1) (.v 0), .le (.v 0) (.c 8), .eq (.len K0) (.v 0)] .norm [(0, .tup [.inl (.p (some ⟨0, .c 0, 0⟩)), .inl (.i .i64 (.c 0))])] (epO (.c 0) K0 (.lit [])) []]
noncomputable def t7 : Tbl := addFn Φ (addFn Φ t6 cInts) cNew
def i1 : SI := .add (.v 1) (.c 1)
def left : SI := .add (.len (.app 12 (.l M0 .nil))) (.c 1)
def i2 : SI := .sub (.len L0) (.v 1)
def i3 : SI := .sub (.len P9) (.v 1)
def i4 : SI := .sub (.len M0) (.v 1)
def i5 : SI := .sub (.v 0) (.v 1)
end Go.SF.C10
