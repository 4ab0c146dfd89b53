/- Contracts of chapter 21: the law of credits. -/
import Derived.Test.YtnhdohhhgfdhfaaC1
namespace Go.SF.C21
open Go Go.SF Go.Proofs
set_option linter.unusedVariables false

/-- Pop, where there is one queue, with the id 0 alone. -/
def l0 : SL := .lit [[0]]
def e0 : SL := .lit [[]]
def popO0 : TOut := TOut.mk [Q.inv e0 Q.D0] .norm [(0, Q.tup3 (.i .i64 (.c 0)) (.i .i64 (.c 0)) (.b (.c true)))] ([Q.qC 1 3 e0, .dead, .dead, Q.mpO Q.D0] ++ [Q.lsO 1 e0]) [2, 3]
def popN0 : TOut := TOut.mk [.app 199 .nil] .norm [(0, Q.zz)] (Q.qO' Q.T0 Q.M1 ++ [Q.lsO 1 Q.T0]) [2]
def popC0 (l : List TOut) : FnC := FnC.mk 40 [pt 0, ii (.c 0)] (Q.qO Q.T0 Q.M1) (Q.there ++ Q.inv0 ++ [.eqL Q.T0 l0]) l
def cPop1 : FnC := popC0 [popO0, popN0]
def cPop0 : FnC := popC0 [popO0]
/-- Tick, where no timer is set. -/
def cTickN : FnC := FnC.mk 49 [pt 0, ii x0] (T.tmO q8 n9 (.lit []) T.C1) (T.qs ++ [.c true, .le n9 x0, .le x0 (.c 549755813888)])
  [TOut.mk [.le n9 x0, .le x0 (.c 549755813888)] .norm [(0, T.tup (.vs 3 (.c 0) (.c 0) none) (.i .i64 (.c 0)))] (T.tmO q8 x0 (.lit []) T.C1 ++ [T.fireO (.lit [])]) [0, 1]]
/-- The law's loop. -/
def stp : AV := .cv (.vs 0 (.c 0) (.len (.v 12)) none)
def stO : AObj := .ext (.v 12) [.i .u8]
def crE : List (Nat × AV) := [(1, stp), (5, ii q8), (6, pt 1), (10, ii n9), (11, ii x0)]
def crO : List AObj := [stO, .cells [.vs 10 (.c 0) (.len OO) none, .p (some ⟨2, .c 0, 0⟩), .p (some ⟨6, .c 0, 0⟩), .vs 9 (.c 0) (.len RR) none] 76,
  .cells [.vs 3 (.c 0) (.len TQ) none, .i .i64 (.c 64), .m (some 5)] 109, .dead, .lists 3 (.i .i64) 3 36 TQ none, Q.mpO MQ, T.tmC q8 n9 7 8, T.mapT (.lit []), T.mapC CT, vI RR, onO OO]
def oc (j : Nat) : SI := .sel OO (.c 0) j
def rc : SI := .sel RR (.c 0) 0
def cc : SI := T.cr CT (.c 0)
def ands : List SB → SB
  | [] => .c true
  | [x] => x
  | x :: r => .and x (ands r)
def stA : SB := ands [.eq (oc 0) (.c 1), .eq (oc 1) (.c (-1)), .eq rc (.c (-1)), .eqL TQ l0]
def stB : SB := ands [.eq (oc 0) (.c 2), .eq (oc 1) (.c 0), .eq rc (.c 0), .eqL TQ e0, .le (.c 1) cc]
def crP : List SB := [.le (.c 0) x0, .le x0 (.len (.v 12)), .le (.len (.v 12)) (.c 60), .eq (.len RR) (.c 1), .eq (.len OO) (.c 1), .eq (.len TQ) (.c 1), .le (.c 1) q8, .le q8 (.c 256), .c true,
  .le (.c 0) n9, .le n9 (.mul (.c 255) x0), .le n9 (.c 15300), .app 130 (.l TQ (.l MQ (.i (.c 64) .nil))), .eq (oc 2) (.c 0), .eq (oc 3) (.c 0), .eq (oc 8) (.c 0), .le (.sub (.c 1) q8) cc, .le cc q8]
def dd : List AObj := stO :: List.replicate 10 .dead
def cr10 : LpC := LpC.mk 6 10 154 (Tm.mk crE crO (crP ++ [.and (.c true) (.or stA stB)]))
  [TOut.mk [] (.exit 0) [] dd [1, 2, 4, 5, 6, 7, 8, 9, 10], TOut.mk [] .ret [(4, bb (.c true))] dd [1, 2, 4, 5, 6, 7, 8, 9, 10], TOut.mk [.app 199 .nil] .ret [(4, bb (.c false))] dd [1, 2, 4, 5, 6, 7, 8, 9, 10]]
noncomputable def v1 : Tbl := addLp Φ (addFn Φ (addFn Φ (addFn Φ (addFn Φ b1 cKnown) cQN1) cTickN) cPop0) nw1
def kC : SI := .sub (.len (.v 12)) x0
noncomputable def v2 : Tbl := addLp Φ v1 cr10
def stP : List SB := [.le (.c 0) x0, .le x0 (.c 255)]
def lCredit0 : FnC := FnC.mk 6 [.cv (.i .u8 x0), stp] [stO] stP [yes [stO], noF [stO]]
def lCredit : FnC := FnC.mk 6 [.cv (.i .u8 x0), stp] [stO] stP [yes [stO]]
end Go.SF.C21
