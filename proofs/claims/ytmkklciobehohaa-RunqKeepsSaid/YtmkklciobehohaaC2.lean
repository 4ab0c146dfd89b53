/- Contracts of chapter 17: the laws Nil, Fifo. -/
import Derived.Test.YtmkklciobehohaaC1
namespace Go.SF.C17
open Go Go.SF Go.Proofs
set_option linter.unusedVariables false

noncomputable def t7 : Tbl := addFn Φ t6 cKnown
noncomputable def t8 : Tbl := addFn Φ noTbl cKnown
def yes (s : List AObj) : TOut := TOut.mk [] .norm [(0, bb (.c true))] s []
def noF (s : List AObj) : TOut := TOut.mk [.app 199 .nil] .norm [(0, bb (.c false))] s []
def never (s : Nat) (o : List AObj) (wr : List Nat) : TOut := TOut.mk [.app 199 .nil] .ret [(s, bb (.c false))] o wr
def lNil : FnC := FnC.mk 6 [ii x0] [] [] [yes []]
/-- Queues from object b on, with room r. -/
def qR (r : SI) (b : Nat) (A M : SL) : List AObj := [.cells [.vs (b + 1) (.c 0) (.len A) none, .i .i64 r, .m (some (b + 3))] 43, .dead, lsO (b + 1) A, mpO M]
def qR' (r : SI) (b : Nat) (A M : SL) : List AObj := [.cells [.vs (b + 1) (.c 0) (.len A) none, .i .i64 r, .m (some (b + 3))] 43, .dead, .dead, mpO M]
def invR (r : SI) (A M : SL) : SB := .app 130 (.l A (.l M (.i r .nil)))
def sqT (a b : SI) : SL := .app 120 (.i a (.i b .nil))
def u8 (x : SI) : List SB := [.le (.c 0) x, .le x (.c 255)]
/-- Fifo. -/
def r64 : SI := .c 64
def hund (x : SI) : SI := .add x (.c 100)
def fiE : List (Nat × AV) := [(5, ii x0), (6, ii x1), (7, pt 0)]
def fiP : List SB := [.le (.c 1) x0, .le x0 (.c 64), .eq (.len T0) (.c 2), .le (.c 0) x2]
def moved (T : SL) : List AObj := qR' r64 0 T D0 ++ [lsO 1 T]
def fiL (id sl : Nat) (top : SI) (T T' : SL) (ex : Nat) : LpC := LpC.mk 5 id 102
  (Tm.mk (fiE ++ [(sl, ii x2)]) (qR r64 0 T0 M1) (fiP ++ [.c true, .le (.c 0) x1, .lt x1 x0, .le x2 top, .eqL T0 T, invR r64 T0 M1]))
  [TOut.mk [.eq x2 top] (.exit ex) fiE (qR r64 0 T0 M1) [], TOut.mk [.eq (.len T') (.c 2), invR r64 T' D0] (.exit ex) fiE (moved T') [2, 3], never 4 [.dead, .dead, .dead, .dead] [2, 3]]
def fi1 : LpC := fiL 7 9 x0 (sqT (.c 100) (hund x2)) (sqT (.c 100) (hund x0)) 0
def fi2 : LpC := fiL 11 10 x1 (sqT (.c 100) (.sub (hund x0) x2)) (sqT (.c 100) (.sub (hund x0) x1)) 2
def fi3 : LpC := fiL 17 14 (.sub x0 x1) (sqT (hund x2) (.sub (hund x0) x1)) (sqT (.sub (hund x0) x1) (.sub (hund x0) x1)) 4
noncomputable def t9 : Tbl := addLp Φ (addLp Φ (addLp Φ t7 fi1) fi2) fi3
def lFifo0 : FnC := FnC.mk 5 [.cv (.i .u8 x0), .cv (.i .u8 x1)] [] (u8 x0 ++ u8 x1) [yes [], noF []]
def lFifo : FnC := FnC.mk 5 [.cv (.i .u8 x0), .cv (.i .u8 x1)] [] (u8 x0 ++ u8 x1) [yes []]
def k2 : SI := .sub x0 x2
def k3 : SI := .sub x1 x2
def k4 : SI := .sub (.sub x0 x1) x2
end Go.SF.C17
