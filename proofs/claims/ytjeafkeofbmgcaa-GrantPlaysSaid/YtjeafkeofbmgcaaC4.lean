/- Contracts of chapter 19: who is linked: the search in depth, by how many are not seen. -/
import Derived.Test.YtjeafkeofbmgcaaC2
namespace Go.SF.C19
open Go Go.SF Go.Proofs
set_option linter.unusedVariables false

def S1 : SL := .v 1
def okg : SB := .app 140 (.l T0 .nil)
def un (S : SL) : SI := .app 142 (.l S .nil)
def seO (S : SL) : AObj := .abs (.vec [.b] 65) S
def reF : CV := .fn 36 [⟨0, .c 0, 0⟩, ⟨1, .c 0, 0⟩, ⟨2, .c 0, 0⟩]
def reO (S : SL) : List AObj := [seO S, .cells [.p (some ⟨3, .c 0, 0⟩)] 23, .cells [reF] 66, taC 4 T0, grO T0]
def reP (k : Int) : List SB := [.le (.c 1) (.len T0), .le (.len T0) (.c 64), .eq (.len S1) (.c 17), .c true, .le (.c 0) x0, .le x0 (.c 16), okg, .lt (un S1) (.c k)]
def dfT (k : Int) : SL := .app 140 (.l T0 (.l S1 (.i (.c k) (.i x0 .nil))))
def foT (k : Int) : SL := .app 141 (.l T0 (.l S1 (.i (.c k) (.i x0 (.i x2 .nil)))))
/-- The search, where fewer than k are not seen. -/
def reC (k : Int) : FnC := FnC.mk 36 [ii x0, pt 0, pt 1, pt 2] (reO S1) (reP k) [TOut.mk [.eq (.len (dfT k)) (.c 17), .lt (un (dfT k)) (.c k)] .norm [(0, .tup [])] (reO (dfT k)) [0]]
def reL (k : Int) : LpC := LpC.mk 36 3 43 (Tm.mk [(0, ii x0), (1, pt 0), (2, pt 1), (3, pt 2), (15, vs 4 T0), (16, ii (.len T0)), (17, ii x2)] (reO S1) ([.le (.c 0) x2, .le x2 (.len T0)] ++ reP k))
  [TOut.mk [.eq (.len (foT k)) (.c 17), .lt (un (foT k)) (.c k)] (.exit 0) [] (reO (foT k)) [0]]
def kR : SI := .sub (.len T0) x2
/-- The place is free. -/
def zz : List SB := [.eq x0 (.c 0), .eq x1 (.c 0), .eq x2 (.c 0), .not (.v 0), .eq g5 (.c 0)]
def zn : SB := .or (.not (.eq x0 (.c 0))) (.or (.not (.eq x1 (.c 0))) (.or (.not (.eq x2 (.c 0))) (.or (.v 0) (.not (.eq g5 (.c 0))))))
def zy : SB := .and (.eq x0 (.c 0)) (.and (.eq x1 (.c 0)) (.and (.eq x2 (.c 0)) (.and (.not (.v 0)) (.eq g5 (.c 0)))))
def cFr (pc : List SB) : FnC := FnC.mk 32 [.agg [.i .i64 x0, .i .i64 x1, .i .i64 x2, .b (.v 0), .i .i64 g5]] [] pc [TOut.mk zz .norm [(0, bb (.c true))] [] [],
  TOut.mk [zn] .norm [(0, bb (.c false))] [] []]
def cFree : FnC := cFr []
def cFree0 : FnC := cFr [.and (.c true) (.or zy zn)]
noncomputable def q : Tbl := addFn Φ t6 cFree
def re0 : FnC := reC 0
noncomputable def q0 : Tbl := addFn Φ q re0
def rl1 : LpC := reL 0
noncomputable def y1 : Tbl := addLp Φ q0 rl1
def re1 : FnC := reC 1
noncomputable def q1 : Tbl := addFn Φ q re1
def rl2 : LpC := reL 1
noncomputable def y2 : Tbl := addLp Φ q1 rl2
def re2 : FnC := reC 2
noncomputable def q2 : Tbl := addFn Φ q re2
def rl3 : LpC := reL 2
noncomputable def y3 : Tbl := addLp Φ q2 rl3
def re3 : FnC := reC 3
noncomputable def q3 : Tbl := addFn Φ q re3
def rl4 : LpC := reL 3
noncomputable def y4 : Tbl := addLp Φ q3 rl4
def re4 : FnC := reC 4
noncomputable def q4 : Tbl := addFn Φ q re4
def rl5 : LpC := reL 4
noncomputable def y5 : Tbl := addLp Φ q4 rl5
def re5 : FnC := reC 5
noncomputable def q5 : Tbl := addFn Φ q re5
def rl6 : LpC := reL 5
noncomputable def y6 : Tbl := addLp Φ q5 rl6
def re6 : FnC := reC 6
noncomputable def q6 : Tbl := addFn Φ q re6
def rl7 : LpC := reL 6
noncomputable def y7 : Tbl := addLp Φ q6 rl7
def re7 : FnC := reC 7
noncomputable def q7 : Tbl := addFn Φ q re7
def rl8 : LpC := reL 7
noncomputable def y8 : Tbl := addLp Φ q7 rl8
def re8 : FnC := reC 8
noncomputable def q8 : Tbl := addFn Φ q re8
def rl9 : LpC := reL 8
noncomputable def y9 : Tbl := addLp Φ q8 rl9
def re9 : FnC := reC 9
noncomputable def q9 : Tbl := addFn Φ q re9
def rl10 : LpC := reL 9
noncomputable def y10 : Tbl := addLp Φ q9 rl10
def re10 : FnC := reC 10
noncomputable def q10 : Tbl := addFn Φ q re10
def rl11 : LpC := reL 10
noncomputable def y11 : Tbl := addLp Φ q10 rl11
def re11 : FnC := reC 11
noncomputable def q11 : Tbl := addFn Φ q re11
def rl12 : LpC := reL 11
noncomputable def y12 : Tbl := addLp Φ q11 rl12
def re12 : FnC := reC 12
noncomputable def q12 : Tbl := addFn Φ q re12
def rl13 : LpC := reL 12
noncomputable def y13 : Tbl := addLp Φ q12 rl13
def re13 : FnC := reC 13
noncomputable def q13 : Tbl := addFn Φ q re13
def rl14 : LpC := reL 13
noncomputable def y14 : Tbl := addLp Φ q13 rl14
def re14 : FnC := reC 14
noncomputable def q14 : Tbl := addFn Φ q re14
def rl15 : LpC := reL 14
noncomputable def y15 : Tbl := addLp Φ q14 rl15
def re15 : FnC := reC 15
noncomputable def q15 : Tbl := addFn Φ q re15
def rl16 : LpC := reL 15
noncomputable def y16 : Tbl := addLp Φ q15 rl16
def re16 : FnC := reC 16
noncomputable def q16 : Tbl := addFn Φ q re16
def rl17 : LpC := reL 16
noncomputable def y17 : Tbl := addLp Φ q16 rl17
def re17 : FnC := reC 17
noncomputable def q17 : Tbl := addFn Φ q re17
def rl18 : LpC := reL 17
noncomputable def y18 : Tbl := addLp Φ q17 rl18
def re18 : FnC := reC 18
noncomputable def q18 : Tbl := addFn Φ q re18
end Go.SF.C19
