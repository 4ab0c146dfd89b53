/- Contracts of chapter 10: the document's answer, Copy, and the law of any script. -/
import Derived.Test.YtfcakaakdeakpaaC3
namespace Go.SF.C10
open Go Go.SF Go.Proofs
set_option linter.unusedVariables false

/-- The document's Epochs: the struct, the pins, the rows. -/
def waitO (A : SL) : AObj := .abs (.vec [.i .i64, .i .i64] 55) A
def dcC (now : SI) (p m : Nat) (P A : SL) : AObj := .cells [.i .i64 now, .vs p (.c 0) (.len P) none, .vs m (.c 0) (.len A) none] 45
def dcO (now : SI) (P A : SL) : List AObj := [dcC now 1 2 P A, vecO P, waitO A]
def pins (P : SL) (n : SI) : SB := aB 150 P [n]
def rise (A : SL) : SB := aB 154 A []
/-- Without rows. -/
def dcN (p m : Nat) (P : SL) : AObj := .cells [.i .i64 (.c 0), .vs p (.c 0) (.len P) none, .vs m (.c 0) (.c 0) none] 45
def dn0 : LpC := LpC.mk 19 5 30
  (Tm.mk [(0, ii (.v 0)), (4, pt 0), (5, ii (.v 1))] [dcN 1 2 L0, vecO L0, waitO (.lit [])] [.le (.c 0) (.v 1), .le (.v 1) (.v 0), .le (.v 0) (.c 8), .le (.len L0) (.v 1)])
  [TOut.mk [] (.exit 0) [(4, pt 0)] [dcN 3 2 (pad L0 (.v 1) (.v 0)), .dead, waitO (.lit []), vecO (pad L0 (.v 1) (.v 0))] [0, 1]]
noncomputable def u0 : Tbl := addLp Φ t10 dn0
def dNew : FnC := FnC.mk 19 [ii (.v 0)] [] []
  [TOut.mk [.or (.lt (.v 0) (.c 1)) (.lt (.c 8) (.v 0))] .norm [(0, .tup [.inl (.p (some ⟨0, .c 0, 0⟩)), .inl (.i .i64 (.c 1))])] [.dead] [],
   TOut.mk [.le (.c 1) (.v 0), .le (.v 0) (.c 8), .eq (.len K0) (.v 0)] .norm [(0, .tup [.inl (.p (some ⟨0, .c 0, 0⟩)), .inl (.i .i64 (.c 0))])] [dcN 1 2 K0, vecO K0, waitO (.lit [])] []]
def dPin : FnC := FnC.mk 20 [pt 0, ii c0] (dcO (.v 9) P9 M0) (few P9 :: time (.v 9) ++ [.c true, pins P9 (.v 9)])
  [TOut.mk [.eq (.len (aL 140 P9 [c0, .v 9])) (.len P9)] .norm [(0, er (aI 140 P9 [c0]))] (dcO (.v 9) (aL 140 P9 [c0, .v 9]) M0) [1]]
def dUnpin : FnC := FnC.mk 21 [pt 0, ii c0] (dcO (.v 9) P9 M0) (few P9 :: time (.v 9) ++ [.c true, pins P9 (.v 9)])
  [TOut.mk [.eq (.len (aL 141 P9 [c0])) (.len P9)] .norm [(0, er (aI 141 P9 [c0]))] (dcO (.v 9) (aL 141 P9 [c0]) M0) [1]]
/-- Retire's loop. -/
def take (A : SL) (n : SI) : SL := .app 1 (.l A (.i n .nil))
def rk : SI := aI 143 M0 [c0, .v 1]
def dr0 : LpC := LpC.mk 22 5 80
  (Tm.mk [(0, pt 0), (1, ii c0), (5, vs 3 L0), (6, ii (.v 1))] (dcO (.v 9) P9 M0 ++ [waitO L0]) [.le (.c 0) (.v 1), .le (.v 1) (.len M0), few M0, .le (.len L0) (.len M0), .c true, .eqL L0 (take M0 (.v 1))])
  [TOut.mk [.le (.c 0) rk, .le rk (.len M0), .eq (.len (take M0 rk)) rk] (.exit 0) [(0, pt 0), (1, ii c0), (5, vs 4 (take M0 rk)), (6, ii rk)] (dcO (.v 9) P9 M0 ++ [.dead, waitO (take M0 rk)]) [3]]
noncomputable def u1 : Tbl := addLp Φ (addFn Φ (addFn Φ (addFn Φ u0 dNew) dPin) dUnpin) dr0
def dRetire : FnC := FnC.mk 22 [pt 0, ii c0] (dcO (.v 9) P9 M0) [few M0, .c true, rise M0]
  [TOut.mk [.le (.len (aL 142 M0 [c0, .v 9])) (.add (.len M0) (.c 1))] .norm [(0, er (aI 142 M0 [c0]))] [dcC (.v 9) 1 3 P9 (aL 142 M0 [c0, .v 9]), vecO P9, .dead, waitO (aL 142 M0 [c0, .v 9])] [0, 2]]
/-- Advance's loop. -/
def da0 : LpC := LpC.mk 23 2 42
  (Tm.mk [(0, pt 0), (3, ii (.v 1))] (dcO (.v 9) P9 M0) [.le (.c 0) (.v 1), .le (.v 1) (.len P9), few P9, .c true, pins P9 (.v 9)])
  [TOut.mk [late (.v 1)] .ret [(2, bb (.c false))] (dcO (.v 9) P9 M0) [],
   TOut.mk [.not (late (.v 1))] (.exit 0) [(0, pt 0)] (dcO (.v 9) P9 M0) []]
noncomputable def u2 : Tbl := addLp Φ (addFn Φ u1 dRetire) da0
def dAdvance : FnC := FnC.mk 23 [pt 0] (dcO (.v 9) P9 M0) (few P9 :: time (.v 9) ++ [.c true, pins P9 (.v 9)])
  [TOut.mk [late (.c 0)] .norm [(0, bb (.c false))] (dcO (.v 9) P9 M0) [],
   TOut.mk [.not (late (.c 0))] .norm [(0, bb (.c true))] (dcO (.add (.v 9) (.c 1)) P9 M0) [0]]
/-- Free's loop, Waiting's. -/
def R0 : SL := .v 2
def keyO (A : SL) : SL := aL 111 A [.v 9]
def keepO (A : SL) : SL := aL 121 A [.v 9]
def keyA (A : SL) : SL := aL 110 A []
def df0 : LpC := LpC.mk 24 4 55
  (Tm.mk [(0, pt 0), (3, vs 3 L0), (4, vs 4 R0), (5, ii (.v 1))] (dcO (.v 9) P9 M0 ++ [vecO L0, waitO R0])
    [.le (.c 0) (.v 1), .le (.v 1) (.len M0), few M0, .le (.len L0) (.v 1), .le (.len R0) (.v 1), .c true, .eqL L0 (keyO (take M0 (.v 1))), .eqL R0 (keepO (take M0 (.v 1)))])
  [TOut.mk [.le (.len (keyO M0)) (.len M0), .le (.len (keepO M0)) (.len M0)] (.exit 0) [(0, pt 0), (3, vs 5 (keyO M0)), (4, vs 6 (keepO M0))] (dcO (.v 9) P9 M0 ++ [.dead, .dead, vecO (keyO M0), waitO (keepO M0)]) [3, 4]]
def dw0 : LpC := LpC.mk 26 3 26
  (Tm.mk [(0, pt 0), (3, vs 3 L0), (4, ii (.v 1))] (dcO (.v 9) P9 M0 ++ [vecO L0])
    [.le (.c 0) (.v 1), .le (.v 1) (.len M0), few M0, .le (.len L0) (.v 1), .c true, .eqL L0 (keyA (take M0 (.v 1)))])
  [TOut.mk [.le (.len (keyA M0)) (.len M0)] (.exit 0) [(3, vs 4 (keyA M0))] (dcO (.v 9) P9 M0 ++ [.dead, vecO (keyA M0)]) [3]]
noncomputable def u3 : Tbl := addLp Φ (addLp Φ (addFn Φ u2 dAdvance) df0) dw0
def dFree : FnC := FnC.mk 24 [pt 0] (dcO (.v 9) P9 M0) [few M0]
  [TOut.mk [.le (.len (keyO M0)) (.len M0), .le (.len (keepO M0)) (.len M0)] .norm [(0, vs 3 (keyO M0))] [dcC (.v 9) 1 4 P9 (keepO M0), vecO P9, .dead, vecO (keyO M0), waitO (keepO M0)] [0, 2]]
def dWaiting : FnC := FnC.mk 26 [pt 0] (dcO (.v 9) P9 M0) [few M0]
  [TOut.mk [.le (.len (keyA M0)) (.len M0)] .norm [(0, vs 3 (keyA M0))] (dcO (.v 9) P9 M0 ++ [vecO (keyA M0)]) []]
/-- Copy: its loop goes through the map 2; the new one is 3 to 5. -/
def vis (M : SL) : SL := aL 115 M []
def co0 : LpC := LpC.mk 25 5 38
  (Tm.mk [(0, pt 0), (3, pt 3), (25, pt 6)] [epC (.v 9) 1 2 P9, vecO P9, .dead, epC (.v 9) 4 5 P9, vecO P9, mapO L0, itO 2 M0]
    [.c true, less M0, .eqL L0 (vis M0), .le (.len L0) (.len M0)])
  [TOut.mk [.eq (.len (unf (aL 114 M0 []))) (.len M0)] (.exit 0) [(3, pt 3)] [epC (.v 9) 1 2 P9, vecO P9, .dead, epC (.v 9) 4 5 P9, vecO P9, mapO (unf (aL 114 M0 [])), itO 2 (aL 114 M0 [])] [5, 6]]
noncomputable def u4 : Tbl := addLp Φ (addFn Φ (addFn Φ u3 dFree) dWaiting) co0
def cCopy : FnC := FnC.mk 25 [pt 0] (epO (.v 9) P9 M0) [few P9, less M0]
  [TOut.mk [] .norm [(0, pt 3)] (epO (.v 9) P9 M0 ++ [epC (.v 9) 4 5 P9, vecO P9, mapO M0]) [2]]
noncomputable def u5 : Tbl := addFn Φ u4 cCopy
/-- EpochPlays. -/
def plO : List AObj := [scrO, epC nw 2 3 M0, vecO M0, mapO A1, dcC nw 5 6 M0 A1, vecO M0, waitO A1]
def plD : List AObj := [scrO, .dead, .dead, .dead, .dead, .dead, .dead]
def plF : List SB := [.le (.c 0) (.v 0), .le (.v 0) (.c 80), .le (.c 0) nw, .le nw (.v 0), .le (.c 1) (.v 2), .le (.v 2) (.c 8), .eq (.len M0) (.v 2), .le (.len A1) (.v 0), pins M0 nw]
def plS (e : Nat) : List (Nat × AV) := [(0, ii (.v 2)), (1, scrV), (5, pt e), (7, pt 4), (9, ii (.v 0)), (10, pt 7)]
def z0 : SL := .v 1000
def n0 : SI := .v 1001
/-- EpochPlays' switch. -/
def plW : LpC := LpC.mk 6 1000002 182
  (Tm.mk (plS 1 ++ [(54, ii (.v 5))]) (plO ++ [opO]) (plF ++ [.lt (.v 0) (.c 80)]))
  [TOut.mk [.le (.c 0) n0, .le n0 (.add (.v 0) (.c 1)), .eq (.len z0) (.v 2), pins z0 n0] .norm (plS 1)
    [scrO, epC n0 2 3 z0, vecO z0, mapO A1, dcC n0 5 6 z0 A1, vecO z0, waitO A1, opO] [1, 2, 4, 5],
   TOut.mk [.le (.len z0) (.add (.v 0) (.c 1))] .norm (plS 1)
    [scrO, epC nw 2 3 M0, vecO M0, mapO z0, dcC nw 5 8 M0 z0, vecO M0, .dead, opO, waitO z0] [3, 4, 6],
   TOut.mk [] .norm (plS 8)
    [scrO, .dead, .dead, .dead, dcC nw 5 6 M0 A1, vecO M0, waitO A1, opO, epC nw 9 10 M0, vecO M0, mapO A1] [1, 2, 3],
   never 4 (plD ++ [opO]) [1, 2, 3, 4, 5, 6]]
noncomputable def u6 : Tbl := addLp Φ u5 plW
def pl1 : LpC := LpC.mk 6 6 182
  (Tm.mk [(0, ii (.v 2)), (1, scrV), (5, pt 1), (7, pt 4), (9, ii (.v 0))] plO plF)
  [TOut.mk [] (.exit 0) [] plD [1, 2, 3, 4, 5, 6], never 4 plD [1, 2, 3, 4, 5, 6]]
noncomputable def u7 : Tbl := addLp Φ u5 pl1
def lPlays0 : FnC := FnC.mk 6 [ii (.v 0), scrV] [scrO] [] [TOut.mk [] .norm [(0, bb (.c true))] [scrO] [], TOut.mk [.app 199 .nil] .norm [(0, bb (.c false))] [scrO] []]
def lPlays : FnC := FnC.mk 6 [ii (.v 0), scrV] [scrO] [] [TOut.mk [] .norm [(0, bb (.c true))] [scrO] []]
def j3 : SI := .sub (.c 80) (.v 0)
/-- What stays less. -/
def j0 : SI := .sub (.v 0) (.v 1)
def j1 : SI := .sub (.len M0) (.v 1)
def j2 : SI := .sub (.len P9) (.v 1)
end Go.SF.C10
