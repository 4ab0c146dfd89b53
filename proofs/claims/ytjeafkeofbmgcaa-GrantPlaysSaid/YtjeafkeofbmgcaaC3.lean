/- Contracts of chapter 19: the law of what is in use. -/
import Derived.Test.YtjeafkeofbmgcaaC2
namespace Go.SF.C19
open Go Go.SF Go.Proofs
set_option linter.unusedVariables false

def uses (T : SL) : SB := aB 131 T []
/-- The call, and what Of has told of its place. -/
def idV : SI := .v 14
def opO : AObj := .cells [.i .i64 (.v 10), .i .i64 (.v 11), .i .i64 (.v 12), .i .i64 (.v 13), .i .i64 idV, .b (.v 5)] 31
def wasO : AObj := .cells [.i .i64 (.v 20), .i .i64 (.v 21), .i .i64 (.v 22), .b (.v 3), .i .i64 (.v 24)] 40
def and3 (a b c : SB) : SB := .and a (.and b c)
def wasF : SB := .or (.and (.v 1) (.and (.not (no idV)) (.and (.eq (.v 20) (cl idV 0)) (.and (.eq (.v 22) (cl idV 2)) (.and (.eq (.v 24) (cl idV 4))
    (.or (.and (.v 3) (.not (.eq (cl idV 3) (.c 0)))) (.and (.not (.v 3)) (.eq (cl idV 3) (.c 0)))))))))
  (.and (.not (.v 1)) (no idV))
def usE : List (Nat × AV) := [(0, scr), (5, ii x2), (6, pt 1), (8, ii x0)]
def usO (T : SL) : List AObj := [scrO, taC 2 T, grO T, opO, wasO]
def usP (r c : Nat) : LpC := LpC.mk 5 (2000000 + r) 204
  (Tm.mk (usE ++ [(9, pt 3), (10, pt 4), (11, bb (.v 1)), (58, ii (.v 10)), (c, bb (.v 2))]) (usO T0) (there ++ [.eq (.len T0) x2, .c true, uses T0, wasF, .and (.c true) (.or (.v 5) (.not (.v 5)))]))
  [TOut.mk [uses (.v 1000), .eq (.len (.v 1000)) x2] .norm usE (usO (.v 1000)) [1, 2], never 4 [scrO, .dead, .dead, opO, wasO] [1, 2]]
def us24 : LpC := usP 24 159
noncomputable def v1 : Tbl := addLp Φ t6 us24
def us19 : LpC := usP 19 118
noncomputable def v2 : Tbl := addLp Φ v1 us19
def us14 : LpC := usP 14 71
noncomputable def v3 : Tbl := addLp Φ v2 us14
def us1 : LpC := LpC.mk 5 6 204
  (Tm.mk usE (ta1 T0) ([.le (.c 0) x0, .le x0 (.c 100), .eq (.len T0) x2, .c true] ++ there ++ [uses T0]))
  [TOut.mk [] (.exit 0) [] d2 [1, 2], never 4 d2 [1, 2]]
noncomputable def v4 : Tbl := addLp Φ t6 us1
def lUses0 : FnC := FnC.mk 5 [scr, .cv (.i .u8 x0)] [scrO] (u8 x0) [yes [scrO], noF [scrO]]
def lUses : FnC := FnC.mk 5 [scr, .cv (.i .u8 x0)] [scrO] (u8 x0) [yes [scrO]]
def k2 : SI := .sub (.c 100) x0
end Go.SF.C19
