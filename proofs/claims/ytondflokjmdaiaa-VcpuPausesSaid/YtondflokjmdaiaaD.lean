/- Contracts of chapter 16: what a virtual CPU that is right looks like; the loops of the laws; the laws. -/
import Derived.Test.YtondflokjmdaiaaProg
import Derived.Test.YtondflokjmdaiaaSFSimp
namespace Go.SF.D16
open Go Go.SF Go.Proofs
set_option linter.unusedVariables false

def fI : Nat → List Arg → Int := fun _ _ => 0
def fL : Nat → List Arg → Tab := fun _ _ => []
def fB : Nat → List Arg → Bool := fun _ _ => false
def Φ : Sig := ⟨fI, fL, fB, fun _ _ _ _ => False, fun _ _ _ _ _ h _ => h⟩
theorem aB199 : Φ.fB 199 [] = false := rfl

def ii (x : SI) : AV := .cv (.i .i64 x)
def bb (x : SB) : AV := .cv (.b x)
def pj (j : Nat) : AV := .cv (.p (some ⟨j, .c 0, 0⟩))
def andL : List SB → SB
  | [] => .c true
  | [x] => x
  | x :: r => .and x (andL r)
def orL : List SB → SB
  | [] => .c false
  | [x] => x
  | x :: r => .or x (orL r)
def cpuC (s on : SI) (w h : SB) (a b c d n : SI) : AObj := .cells [.i .i64 s, .i .i64 on, .b w, .b h, .i .u64 a, .i .u64 b, .i .u64 c, .i .u64 d, .i .i64 n] 25
/-- Right, by states. -/
def right (s on : SI) (w h : SB) : SB :=
  orL [andL [.eq s (.c 0), .eq on (.c (-1)), .not w, .not h], andL [.eq s (.c 1), .eq on (.c (-1)), .not w, .not h], andL [.eq s (.c 2), .le (.c 0) on, .le on (.c 7)],
    andL [.eq s (.c 3), .eq on (.c (-1)), .not w], andL [.eq s (.c 4), .eq on (.c (-1)), .not w, .not h], andL [.eq s (.c 5), .eq on (.c (-1)), .not w, .not h]]
def bytV : AV := .cv (.vs 0 (.c 0) (.len (.v 9)) none)
def bytO : AObj := .ext (.v 9) [.i .u8]
def c1 : AObj := cpuC (.v 1) (.v 2) (.v 0) (.v 1) (.v 10) (.v 11) (.v 12) (.v 13) (.v 3)
def never (r : Nat) (o : List AObj) (wr : List Nat) : TOut := TOut.mk [.app 199 .nil] .ret [(r, bb (.c false))] o wr
def kKnown : FnC := FnC.mk 16 [] [] [] [TOut.mk [] .norm [(0, bb (.c true))] [] []]
/-- One that may come to be: drawn. -/
def cpuL (s on : SI) (w h : SB) (n : SI) : List CV := [.i .i64 s, .i .i64 on, .b w, .b h, .i .u64 (.v 10), .i .u64 (.v 11), .i .u64 (.v 12), .i .u64 (.v 13), .i .i64 n]
def zL : List CV := cpuL (.v 1000) (.v 1001) (.v 1000) (.v 1001) (.v 3)
def zR : SB := right (.v 1000) (.v 1001) (.v 1000) (.v 1001)
def noL : List CV := [.i .i64 (.c 0), .i .i64 (.c 0), .b (.c false), .b (.c false), .i .u64 (.c 0), .i .u64 (.c 0), .i .u64 (.c 0), .i .u64 (.c 0), .i .i64 (.c 0)]
def rt : SB := right (.v 1) (.v 2) (.v 0) (.v 1)
def cr : List SB := [.le (.c (-1073741824)) (.v 3), .le (.v 3) (.c 1073741824)]
def evs : List SB := [.le (.c 1) (.v 4), .le (.v 4) (.c 8), .le (.c 0) (.v 5), .le (.v 5) (.c 7)] ++ cr ++ [.c true, .and (.c true) rt]
def okO (pc : List SB) : TOut := TOut.mk pc .norm [(0, .tup [.inr zL, .inl (.i .i64 (.c 0))])] [] []
def errO (pc : List SB) : TOut := TOut.mk pc .norm [(0, .tup [.inr noL, .inl (.i .i64 (.c 6))])] [] []
def nextV (e p : SI) : List AV := [.agg (cpuL (.v 1) (.v 2) (.v 0) (.v 1) (.v 3)), ii e, ii p]
/-- Next: what is right stays right; who is dead stays so. -/
def nK : FnC := FnC.mk 8 (nextV (.v 4) (.v 5)) [] evs [okO [.not (.eq (.v 1) (.c 5)), zR], errO []]
def nR : FnC := FnC.mk 12 [.agg (cpuL (.v 1) (.v 2) (.v 0) (.v 1) (.v 3))] [] (cr ++ [.c true, .and (.c true) rt]) [TOut.mk [] .norm [(0, bb (.c true))] [] []]
noncomputable def t0 : Tbl := addFn Φ (addFn Φ (addFn Φ noTbl kKnown) nK) nR
def regsC : AObj := .cells [.i .u64 (.v 10), .i .u64 (.v 11), .i .u64 (.v 12), .i .u64 (.v 13)] 23
def kpO : List AObj := [bytO, regsC, cpuC (.v 1) (.v 2) (.v 0) (.v 1) (.v 10) (.v 11) (.v 12) (.v 13) (.c 7)]
def kp1 : LpC := LpC.mk 4 4 70
  (Tm.mk [(1, bytV), (2, pj 1), (5, pj 2), (6, bb (.eq (.v 1) (.c 5))), (7, ii (.v 0))] kpO [.le (.c 0) (.v 0), .le (.v 0) (.c 200), .c true, rt])
  [TOut.mk [] (.exit 0) [] [bytO, .dead, .dead] [1, 2], never 4 [bytO, .dead, .dead] [1, 2]]
noncomputable def t1 : Tbl := addLp Φ t0 kp1
def u64s : List CV := [.i .u64 (.v 0), .i .u64 (.v 1), .i .u64 (.v 2), .i .u64 (.v 3)]
def lKeeps : FnC := FnC.mk 4 [.agg u64s, bytV] [bytO] [] [yesOut [bytO]]
/-- Next, by a wake; by a Block. -/
def nW : FnC := FnC.mk 8 (nextV (.c 5) (.c 0)) [] (cr ++ [.c true, .and (.c true) rt])
  [okO [zR, .not (.eq (.v 1000) (.c 3)), .not (.eq (.v 1000) (.c 0)), .or (.not (.eq (.v 1000) (.c 2))) (.v 1000)], errO [.or (.eq (.v 1) (.c 0)) (.eq (.v 1) (.c 5))]]
def nB : FnC := FnC.mk 8 (nextV (.c 4) (.c 0)) [] (cr ++ [.c true, .and (.c true) rt])
  [okO [zR, .eq (.v 1) (.c 2), .or (.not (.v 0)) (.not (.eq (.v 1000) (.c 3)))], errO []]
noncomputable def t2 : Tbl := addFn Φ (addFn Φ (addFn Φ (addFn Φ noTbl kKnown) nK) nW) nB
def wk1 : LpC := LpC.mk 5 3 80
  (Tm.mk [(0, bytV), (3, pj 1), (4, ii (.v 0))] [bytO, c1] ([.le (.c 0) (.v 0), .le (.v 0) (.c 200)] ++ cr ++ [.c true, rt]))
  [TOut.mk [] (.exit 0) [] [bytO, .dead] [1], never 2 [bytO, .dead] [1]]
noncomputable def t3 : Tbl := addLp Φ t2 wk1
def lWoken : FnC := FnC.mk 5 [bytV] [bytO] [] [yesOut [bytO]]
/-- A pause stands. -/
def held (s : SI) (h : SB) : SB := .or h (.eq s (.c 4))
def iff' (x y : SB) : SB := .or (.and x y) (.and (.not x) (.not y))
def zH : SB := held (.v 1000) (.v 1001)
def cH : SB := held (.v 1) (.v 1)
/-- Next, and whether a pause stands: paused by it; resumed by it, or dead; else as it was. -/
def nP : FnC := FnC.mk 8 (nextV (.v 4) (.v 5)) [] (evs ++ [.and (.c true) (.or (.v 1) (.not (.v 1)))])
  [okO [.eq (.v 4) (.c 6), zR, zH, .not (.eq (.v 1000) (.c 5)), .not (.eq (.v 1000) (.c 1)), .or (.eq (.v 1) (.c 2)) (.not (.eq (.v 1000) (.c 2)))],
   okO [.eq (.v 4) (.c 7), zR, .not zH, .not (.eq (.v 1000) (.c 5))],
   okO [.not (.eq (.v 4) (.c 6)), .not (.eq (.v 4) (.c 7)), .eq (.v 1000) (.c 5), zR, .not zH],
   okO [.not (.eq (.v 4) (.c 6)), .not (.eq (.v 4) (.c 7)), .not (.eq (.v 1000) (.c 5)), zR, cH, zH, .not (.eq (.v 1000) (.c 1)), .or (.eq (.v 1) (.c 2)) (.not (.eq (.v 1000) (.c 2)))],
   okO [.not (.eq (.v 4) (.c 6)), .not (.eq (.v 4) (.c 7)), .not (.eq (.v 1000) (.c 5)), zR, .not cH, .not zH],
   errO []]
noncomputable def t4 : Tbl := addFn Φ (addFn Φ noTbl kKnown) nP
def ps1 : LpC := LpC.mk 6 4 80
  (Tm.mk [(0, bytV), (3, pj 1), (4, bb (.v 2)), (5, ii (.v 0))] [bytO, c1] ([.le (.c 0) (.v 0), .le (.v 0) (.c 200)] ++ cr ++ [.c true, rt, iff' (.v 2) cH]))
  [TOut.mk [] (.exit 0) [] [bytO, .dead] [1], never 2 [bytO, .dead] [1]]
noncomputable def t5 : Tbl := addLp Φ t4 ps1
def lPauses : FnC := FnC.mk 6 [bytV] [bytO] [] [yesOut [bytO]]
end Go.SF.D16
