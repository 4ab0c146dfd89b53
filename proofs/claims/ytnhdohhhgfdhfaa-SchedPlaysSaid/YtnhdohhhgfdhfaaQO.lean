/- The package sched, whatever happens, shown. -/
import Derived.Test.YtnhdohhhgfdhfaaQM
import Derived.Test.YtnhdohhhgfdhfaaCM
import Derived.Test.YtnhdohhhgfdhfaaPM
import Derived.KernelRfl
namespace Go.SF.C21
open Go Go.SF Go.Proofs
set_option linter.unusedVariables false
set_option linter.unusedSimpArgs false

def cDo_1 : SI := .len (.v 4)
def cDo_2 : SI := .rem (.v 0) cDo_1
def cDo_3 : SL := .app 337 (.l (.v 5) (.l (.v 0) (.i (.v 0) (.i (.v 1) (.i (.c 0) (.i cDo_2 .nil))))))
def cDo_4 : SA := .i (.c 64) .nil
def cDo_5 : SB := .app 130 (.l cDo_3 (.l (.v 1000) cDo_4))
def cDo_6 : SA := .i (.v 0) (.i (.v 1) (.i (.c 0) .nil))
def cDo_7 : SB := .le (.len (.app 339 (.l (.v 5) (.l (.v 2) cDo_6)))) (.len (.v 2))
def cDo_8 : SL := .app 338 (.l (.v 5) (.l (.v 4) cDo_6))
def cDo_9 : SB := .eq (.len cDo_8) cDo_1
def cDo_10 : SI := .len (.v 0)
def cDo_11 : SB := .eq (.len cDo_3) cDo_10
def cDo_12 : SL := .app 331 (.l (.v 5) cDo_6)
def cDo_13 : SI := .len (.v 5)
def cDo_14 : SB := .eq (.len cDo_12) cDo_13
def cDo_15 : SB := .le (.c 0) cDo_2
def cDo_16 : SB := .lt cDo_2 cDo_10
def cDo_17 : SB := .app 331 (.l (.v 5) (.i (.v 0) .nil))
def cDo_18 : SI := .sel (.v 5) (.v 0) 1
def cDo_19 : SB := .or (.not (.eq (.sel (.v 5) (.v 0) 0) (.c 2))) (.and (.le (.c 0) cDo_18) (.lt cDo_18 cDo_1))
def cDo_20 : SB := .lt (.v 0) cDo_13
def cDo_21 : SB := .le (.c 0) (.v 0)
def cDo_22 : SB := .eq (.v 1) (.c 1)
def cDo_23 : List SB := [.le (.c 1) cDo_10, .le cDo_10 (.c 8), .eq cDo_1 cDo_10, .le cDo_13 (.c 64), .le (.c 1) (.v 8), .le (.v 8) (.c 10000), .c true, .app 130 (.l (.v 0) (.l (.v 1) cDo_4)), .app 332 (.l (.v 5) (.l (.v 0) (.l (.v 4) .nil)))]
def cDo_24 : List SB := cDo_20 :: cDo_21 :: cDo_22 :: cDo_23
def cDo_25 : List Eqn := [.T (.app 332 (.l cDo_12 (.l cDo_3 (.l cDo_8 .nil))))]
def cDo_26 : SB := .not cDo_15
def cDo_27 : List Eqn := [.T (.c false)]
def cDo_28 : SB := .not cDo_16
def cDo_29 : SB := .not cDo_17
def cDo_30 : SB := .not cDo_19
def cDo_31 : SB := .eq (.v 1) (.c 5)
def cDo_32 : List SB := .not cDo_22 :: cDo_23
def cDo_33 : List SB := cDo_20 :: cDo_21 :: cDo_31 :: cDo_32
def cDo_34 : SB := .eq (.v 1) (.c 6)
def cDo_35 : List SB := .not cDo_31 :: cDo_32
def cDo_36 : List SB := cDo_20 :: cDo_21 :: cDo_34 :: cDo_35
def cDo_37 : SB := .eq (.v 1) (.c 7)
def cDo_38 : List SB := .not cDo_34 :: cDo_35
def cDo_39 : List SB := cDo_20 :: cDo_21 :: cDo_37 :: cDo_38
def cDo_40 : SB := .eq (.v 1) (.c 8)
def cDo_41 : List SB := .not cDo_37 :: cDo_38
def cDo_42 : List SB := cDo_20 :: cDo_21 :: cDo_40 :: cDo_41
set_option maxRecDepth 100000 in
theorem cDo_obs : callObs Φ Try.prog m3 1000 cDo.f cDo.vs cDo.o cDo.pc cDo.outs = some
  [⟨cDo_5 :: cDo_7 :: cDo_9 :: cDo_11 :: cDo_14 :: cDo_15 :: cDo_16 :: cDo_17 :: cDo_19 :: cDo_24, cDo_25⟩, ⟨cDo_26 :: cDo_24, cDo_27⟩, ⟨cDo_28 :: cDo_24, cDo_27⟩, ⟨cDo_29 :: cDo_24, cDo_27⟩, ⟨cDo_30 :: cDo_24, cDo_27⟩, ⟨cDo_5 :: cDo_7 :: cDo_9 :: cDo_11 :: cDo_14 :: cDo_15 :: cDo_16 :: cDo_17 :: cDo_19 :: cDo_33, cDo_25⟩, ⟨cDo_26 :: cDo_33, cDo_27⟩, ⟨cDo_28 :: cDo_33, cDo_27⟩, ⟨cDo_29 :: cDo_33, cDo_27⟩, ⟨cDo_30 :: cDo_33, cDo_27⟩, ⟨cDo_5 :: cDo_7 :: cDo_9 :: cDo_11 :: cDo_14 :: cDo_15 :: cDo_16 :: cDo_17 :: cDo_19 :: cDo_36, cDo_25⟩, ⟨cDo_26 :: cDo_36, cDo_27⟩, ⟨cDo_28 :: cDo_36, cDo_27⟩, ⟨cDo_29 :: cDo_36, cDo_27⟩, ⟨cDo_30 :: cDo_36, cDo_27⟩, ⟨cDo_5 :: cDo_7 :: cDo_9 :: cDo_11 :: cDo_14 :: cDo_15 :: cDo_16 :: cDo_17 :: cDo_19 :: cDo_39, cDo_25⟩, ⟨cDo_26 :: cDo_39, cDo_27⟩, ⟨cDo_28 :: cDo_39, cDo_27⟩, ⟨cDo_29 :: cDo_39, cDo_27⟩, ⟨cDo_30 :: cDo_39, cDo_27⟩, ⟨cDo_5 :: cDo_7 :: cDo_9 :: cDo_11 :: cDo_14 :: cDo_15 :: cDo_16 :: cDo_17 :: cDo_19 :: cDo_42, cDo_25⟩, ⟨cDo_26 :: cDo_42, cDo_27⟩, ⟨cDo_28 :: cDo_42, cDo_27⟩, ⟨cDo_29 :: cDo_42, cDo_27⟩, ⟨cDo_30 :: cDo_42, cDo_27⟩, ⟨.not cDo_40 :: cDo_41, [.T (.or (.or (.lt (.v 1) (.c 1)) (.lt (.c 8) (.v 1))) (.and (.le (.c 2) (.v 1)) (.le (.v 1) (.c 4))))]⟩] := by kernel_rfl
theorem cDo_ok : cDo.ok Φ Try.prog := by
  refine call_rule (fun ρ => m3_ok ρ) cDo_obs ?_
  simp only [cDo_1, cDo_2, cDo_3, cDo_4, cDo_5, cDo_6, cDo_7, cDo_8, cDo_9, cDo_10, cDo_11, cDo_12, cDo_13, cDo_14, cDo_15, cDo_16, cDo_17, cDo_18, cDo_19, cDo_20, cDo_21, cDo_22, cDo_23, cDo_24, cDo_25, cDo_26, cDo_27, cDo_28, cDo_29, cDo_30, cDo_31, cDo_32, cDo_33, cDo_34, cDo_35, cDo_36, cDo_37, cDo_38, cDo_39, cDo_40, cDo_41, cDo_42, and_imp, List.forall_mem_cons, List.not_mem_nil, false_implies, implies_true, and_true, Ob.ok, holds, Eqn.ok, evB_eq, evB_lt, evB_le, evB_not, evB_and, evB_or, evB_app, evB_c, ev_sel, ev_len, ev_v, ev_c, ev_rem, evL_v, evL_app, evA_l, evA_i, evA_nil, decide_eq_true_eq, Bool.and_eq_true, Bool.or_eq_true, Bool.not_eq_true', Bool.and_eq_false_iff, Bool.or_eq_false_iff, decide_eq_false_iff_not, aL331, aL337, aL338, aL339, aB331, Bool.not_eq_false', Q.aB130, aB332]
  repeat' apply And.intro
  all_goals intro ρ hR
  all_goals intros
  all_goals first
    | (have hI : invS (ρ.l 5) (ρ.l 0) (ρ.l 4) = true := by with_reducible assumption
       have hQ : C17.invB (ρ.l 0) (ρ.l 1) 64 = true := by with_reducible assumption
       have hO : ∀ row ∈ ρ.l 5, okRow KO row := hR.row 9 rfl rfl
       have hR1 : ∀ row ∈ ρ.l 4, okRow [.i .i64] row := hR.row 8 rfl rfl
       exact ev_ok hI hQ hO hR1 (by omega) (by omega) (by omega) (by omega) (by omega) (by omega))
    | (have hI : invS (ρ.l 5) (ρ.l 0) (ρ.l 4) = true := by with_reducible assumption
       have hQ : C17.invB (ρ.l 0) (ρ.l 1) 64 = true := by with_reducible assumption
       have hO : ∀ row ∈ ρ.l 5, okRow KO row := hR.row 9 rfl rfl
       have hR1 : ∀ row ∈ ρ.l 4, okRow [.i .i64] row := hR.row 8 rfl rfl
       have h : right8 (ρ.l 5) (ρ.i 0) = false := by with_reducible assumption
       have g : right8 (ρ.l 5) (ρ.i 0) = true := right_of hI hO (by omega) (by omega) (by omega)
       rw [g] at h
       cases h)
    | (have hI : invS (ρ.l 5) (ρ.l 0) (ρ.l 4) = true := by with_reducible assumption
       have hQ : C17.invB (ρ.l 0) (ρ.l 1) 64 = true := by with_reducible assumption
       have hO : ∀ row ∈ ρ.l 5, okRow KO row := hR.row 9 rfl rfl
       have hR1 : ∀ row ∈ ρ.l 4, okRow [.i .i64] row := hR.row 8 rfl rfl
       exfalso
       have g : cel (ρ.l 5) (ρ.i 0) 0 = 2 := by with_reducible assumption
       have g2 := idx_of hI (by omega) (by omega) g
       simp only [cel] at g2
       omega)
    | (omega)
    | (have m0 : 0 ≤ ρ.i 0 := by omega
       have m1 : 1 ≤ ((ρ.l 4).length : Int) := by omega
       have hm := home_in m0 m1
       exfalso
       omega)
theorem m4_ok (ρ : Env) : TblOK Φ ρ Try.prog m4 := addFn_ok (m3_ok ρ) cDo_ok
def cLe_1 : SI := .sel (.v 4) (.v 1) 0
def cLe_2 : SL := .app 337 (.l (.v 5) (.l (.v 0) (.i cLe_1 (.i (.v 2) (.i (.c 0) (.i (.v 1) .nil))))))
def cLe_3 : SA := .i (.c 64) .nil
def cLe_4 : SB := .app 130 (.l cLe_2 (.l (.v 1000) cLe_3))
def cLe_5 : SA := .i cLe_1 (.i (.v 2) (.i (.c 0) .nil))
def cLe_6 : SB := .le (.len (.app 339 (.l (.v 5) (.l (.v 2) cLe_5)))) (.len (.v 2))
def cLe_7 : SL := .app 338 (.l (.v 5) (.l (.v 4) cLe_5))
def cLe_8 : SI := .len (.v 4)
def cLe_9 : SB := .eq (.len cLe_7) cLe_8
def cLe_10 : SI := .len (.v 0)
def cLe_11 : SB := .eq (.len cLe_2) cLe_10
def cLe_12 : SL := .app 331 (.l (.v 5) cLe_5)
def cLe_13 : SI := .len (.v 5)
def cLe_14 : SB := .eq (.len cLe_12) cLe_13
def cLe_15 : SB := .le (.c 0) cLe_1
def cLe_16 : SB := .lt cLe_1 cLe_13
def cLe_17 : SB := .app 331 (.l (.v 5) (.i cLe_1 .nil))
def cLe_18 : SI := .sel (.v 5) cLe_1 1
def cLe_19 : SB := .or (.not (.eq (.sel (.v 5) cLe_1 0) (.c 2))) (.and (.le (.c 0) cLe_18) (.lt cLe_18 cLe_8))
def cLe_20 : SB := .not (.eq cLe_1 (.c (.negSucc 0)))
def cLe_21 : SB := .lt (.v 1) cLe_8
def cLe_22 : SB := .le (.c 0) (.v 1)
def cLe_23 : SB := .eq (.v 2) (.c 3)
def cLe_24 : List SB := [.le (.c 1) cLe_10, .le cLe_10 (.c 8), .eq cLe_8 cLe_10, .le cLe_13 (.c 64), .le (.c 1) (.v 8), .le (.v 8) (.c 10000), .c true, .app 130 (.l (.v 0) (.l (.v 1) cLe_3)), .app 332 (.l (.v 5) (.l (.v 0) (.l (.v 4) .nil)))]
def cLe_25 : List SB := cLe_20 :: cLe_21 :: cLe_22 :: cLe_23 :: cLe_24
def cLe_26 : List Eqn := [.T (.app 332 (.l cLe_12 (.l cLe_2 (.l cLe_7 .nil))))]
def cLe_27 : SB := .not cLe_15
def cLe_28 : List Eqn := [.T (.c false)]
def cLe_29 : SB := .not cLe_16
def cLe_30 : SB := .not cLe_17
def cLe_31 : SB := .not cLe_19
def cLe_32 : List SB := cLe_20 :: cLe_21 :: cLe_22 :: .eq (.v 2) (.c 4) :: .not cLe_23 :: cLe_24
set_option maxRecDepth 100000 in
theorem cLe_obs : callObs Φ Try.prog m3 1000 cLe.f cLe.vs cLe.o cLe.pc cLe.outs = some
  [⟨cLe_4 :: cLe_6 :: cLe_9 :: cLe_11 :: cLe_14 :: cLe_15 :: cLe_16 :: cLe_17 :: cLe_19 :: cLe_25, cLe_26⟩, ⟨cLe_27 :: cLe_25, cLe_28⟩, ⟨cLe_29 :: cLe_25, cLe_28⟩, ⟨cLe_30 :: cLe_25, cLe_28⟩, ⟨cLe_31 :: cLe_25, cLe_28⟩, ⟨cLe_4 :: cLe_6 :: cLe_9 :: cLe_11 :: cLe_14 :: cLe_15 :: cLe_16 :: cLe_17 :: cLe_19 :: cLe_32, cLe_26⟩, ⟨cLe_27 :: cLe_32, cLe_28⟩, ⟨cLe_29 :: cLe_32, cLe_28⟩, ⟨cLe_30 :: cLe_32, cLe_28⟩, ⟨cLe_31 :: cLe_32, cLe_28⟩] := by kernel_rfl
theorem cLe_ok : cLe.ok Φ Try.prog := by
  refine call_rule (fun ρ => m3_ok ρ) cLe_obs ?_
  simp only [cLe_1, cLe_2, cLe_3, cLe_4, cLe_5, cLe_6, cLe_7, cLe_8, cLe_9, cLe_10, cLe_11, cLe_12, cLe_13, cLe_14, cLe_15, cLe_16, cLe_17, cLe_18, cLe_19, cLe_20, cLe_21, cLe_22, cLe_23, cLe_24, cLe_25, cLe_26, cLe_27, cLe_28, cLe_29, cLe_30, cLe_31, cLe_32, and_imp, List.forall_mem_cons, List.not_mem_nil, false_implies, implies_true, and_true, Ob.ok, holds, Eqn.ok, evB_eq, evB_lt, evB_le, evB_not, evB_and, evB_or, evB_app, evB_c, ev_sel, ev_len, ev_v, ev_c, evL_v, evL_app, evA_l, evA_i, evA_nil, negSucc_lit, decide_eq_true_eq, Bool.and_eq_true, Bool.or_eq_true, Bool.not_eq_true', Bool.and_eq_false_iff, Bool.or_eq_false_iff, decide_eq_false_iff_not, aL331, aL337, aL338, aL339, aB331, Bool.not_eq_false', Q.aB130, aB332]
  repeat' apply And.intro
  all_goals intro ρ hR
  all_goals intros
  all_goals first
    | (have hI : invS (ρ.l 5) (ρ.l 0) (ρ.l 4) = true := by with_reducible assumption
       have hQ : C17.invB (ρ.l 0) (ρ.l 1) 64 = true := by with_reducible assumption
       have hO : ∀ row ∈ ρ.l 5, okRow KO row := hR.row 9 rfl rfl
       have hR1 : ∀ row ∈ ρ.l 4, okRow [.i .i64] row := hR.row 8 rfl rfl
       have hne : ¬ ((List.getD (ρ.l 4) (Int.toNat (ρ.i 1)) []).getD 0 0) = -1 := by omega
       have r0 : 0 ≤ ρ.i 1 := by omega
       have r1 : ρ.i 1 < (ρ.l 4).length := by omega
       have r := in_run hI r0 r1 hne
       simp only [cel] at r
       have hI : invS (ρ.l 5) (ρ.l 0) (ρ.l 4) = true := by with_reducible assumption
       have hQ : C17.invB (ρ.l 0) (ρ.l 1) 64 = true := by with_reducible assumption
       have hO : ∀ row ∈ ρ.l 5, okRow KO row := hR.row 9 rfl rfl
       have hR1 : ∀ row ∈ ρ.l 4, okRow [.i .i64] row := hR.row 8 rfl rfl
       exact ev_ok hI hQ hO hR1 (by omega) (by omega) (by omega) (by omega) (by omega) (by omega))
    | (have hI : invS (ρ.l 5) (ρ.l 0) (ρ.l 4) = true := by with_reducible assumption
       have hQ : C17.invB (ρ.l 0) (ρ.l 1) 64 = true := by with_reducible assumption
       have hO : ∀ row ∈ ρ.l 5, okRow KO row := hR.row 9 rfl rfl
       have hR1 : ∀ row ∈ ρ.l 4, okRow [.i .i64] row := hR.row 8 rfl rfl
       have hne : ¬ ((List.getD (ρ.l 4) (Int.toNat (ρ.i 1)) []).getD 0 0) = -1 := by omega
       have r0 : 0 ≤ ρ.i 1 := by omega
       have r1 : ρ.i 1 < (ρ.l 4).length := by omega
       have r := in_run hI r0 r1 hne
       simp only [cel] at r
       have hI : invS (ρ.l 5) (ρ.l 0) (ρ.l 4) = true := by with_reducible assumption
       have hQ : C17.invB (ρ.l 0) (ρ.l 1) 64 = true := by with_reducible assumption
       have hO : ∀ row ∈ ρ.l 5, okRow KO row := hR.row 9 rfl rfl
       have hR1 : ∀ row ∈ ρ.l 4, okRow [.i .i64] row := hR.row 8 rfl rfl
       have h : right8 (ρ.l 5) ((List.getD (ρ.l 4) (Int.toNat (ρ.i 1)) []).getD 0 0) = false := by with_reducible assumption
       have g : right8 (ρ.l 5) ((List.getD (ρ.l 4) (Int.toNat (ρ.i 1)) []).getD 0 0) = true := right_of hI hO (by omega) (by omega) (by omega)
       rw [g] at h
       cases h)
    | (have hI : invS (ρ.l 5) (ρ.l 0) (ρ.l 4) = true := by with_reducible assumption
       have hQ : C17.invB (ρ.l 0) (ρ.l 1) 64 = true := by with_reducible assumption
       have hO : ∀ row ∈ ρ.l 5, okRow KO row := hR.row 9 rfl rfl
       have hR1 : ∀ row ∈ ρ.l 4, okRow [.i .i64] row := hR.row 8 rfl rfl
       have hne : ¬ ((List.getD (ρ.l 4) (Int.toNat (ρ.i 1)) []).getD 0 0) = -1 := by omega
       have r0 : 0 ≤ ρ.i 1 := by omega
       have r1 : ρ.i 1 < (ρ.l 4).length := by omega
       have r := in_run hI r0 r1 hne
       simp only [cel] at r
       have hI : invS (ρ.l 5) (ρ.l 0) (ρ.l 4) = true := by with_reducible assumption
       have hQ : C17.invB (ρ.l 0) (ρ.l 1) 64 = true := by with_reducible assumption
       have hO : ∀ row ∈ ρ.l 5, okRow KO row := hR.row 9 rfl rfl
       have hR1 : ∀ row ∈ ρ.l 4, okRow [.i .i64] row := hR.row 8 rfl rfl
       exfalso
       have g : cel (ρ.l 5) ((List.getD (ρ.l 4) (Int.toNat (ρ.i 1)) []).getD 0 0) 0 = 2 := by with_reducible assumption
       have g2 := idx_of hI (by omega) (by omega) g
       simp only [cel] at g2
       omega)
    | (have hI : invS (ρ.l 5) (ρ.l 0) (ρ.l 4) = true := by with_reducible assumption
       have hQ : C17.invB (ρ.l 0) (ρ.l 1) 64 = true := by with_reducible assumption
       have hO : ∀ row ∈ ρ.l 5, okRow KO row := hR.row 9 rfl rfl
       have hR1 : ∀ row ∈ ρ.l 4, okRow [.i .i64] row := hR.row 8 rfl rfl
       have hne : ¬ ((List.getD (ρ.l 4) (Int.toNat (ρ.i 1)) []).getD 0 0) = -1 := by omega
       have r0 : 0 ≤ ρ.i 1 := by omega
       have r1 : ρ.i 1 < (ρ.l 4).length := by omega
       have r := in_run hI r0 r1 hne
       simp only [cel] at r
       exfalso
       omega)
set_option maxRecDepth 100000 in
theorem cCh_obs : callObs Φ Try.prog m3 1000 cCh.f cCh.vs cCh.o cCh.pc cCh.outs = some
  [] := by kernel_rfl
theorem cCh_ok : cCh.ok Φ Try.prog := by
  refine call_rule (fun ρ => m3_ok ρ) cCh_obs ?_
  intro ob h; cases h
def cDp_1 : SA := .i (.v 1) .nil
def cDp_2 : SA := .l (.v 0) cDp_1
def cDp_3 : SI := .app 112 cDp_2
def cDp_4 : SA := .i cDp_3 .nil
def cDp_5 : SB := .lt (.sel (.app 6 (.l (.v 3) cDp_4)) (.c 0) 1) (.c 1)
def cDp_6 : SL := .app 111 cDp_2
def cDp_7 : SL := .app 337 (.l (.v 5) (.l cDp_6 (.i cDp_3 (.i (.c 2) (.i (.v 1) cDp_1)))))
def cDp_8 : SA := .i (.c 64) .nil
def cDp_9 : SA := .l (.v 2000) cDp_8
def cDp_10 : SA := .i cDp_3 (.i (.c 2) cDp_1)
def cDp_11 : SL := .app 339 (.l (.v 5) (.l (.v 2) cDp_10))
def cDp_12 : SL := .app 338 (.l (.v 5) (.l (.v 4) cDp_10))
def cDp_13 : SI := .len cDp_12
def cDp_14 : SI := .len (.v 4)
def cDp_15 : SI := .len cDp_7
def cDp_16 : SI := .len cDp_6
def cDp_17 : SL := .app 331 (.l (.v 5) cDp_10)
def cDp_18 : SI := .len (.v 5)
def cDp_19 : SB := .le (.c 0) cDp_3
def cDp_20 : SB := .lt cDp_3 cDp_18
def cDp_21 : SB := .app 331 (.l (.v 5) cDp_4)
def cDp_22 : SI := .sel (.v 5) cDp_3 1
def cDp_23 : SB := .or (.not (.eq (.sel (.v 5) cDp_3 0) (.c 2))) (.and (.le (.c 0) cDp_22) (.lt cDp_22 cDp_14))
def cDp_24 : SI := .len (.v 0)
def cDp_25 : SI := .app 111 cDp_2
def cDp_26 : List SB := [.app 130 (.l cDp_6 (.l (.v 1000) cDp_8)), .eq cDp_16 cDp_24, .lt cDp_25 cDp_24, .le (.c 0) cDp_25, .app 132 (.l (.v 0) .nil), .eq (.sel (.v 4) (.v 1) 0) (.c (.negSucc 0)), .lt (.v 1) cDp_14, .le (.c 0) (.v 1), .le (.c 1) cDp_24, .le cDp_24 (.c 8), .eq cDp_14 cDp_24, .le cDp_18 (.c 64), .le (.c 1) (.v 8), .le (.v 8) (.c 10000), .c true, .app 130 (.l (.v 0) (.l (.v 1) cDp_8)), .app 332 (.l (.v 5) (.l (.v 0) (.l (.v 4) .nil)))]
def cDp_27 : List SB := .app 130 (.l cDp_7 cDp_9) :: .le (.len cDp_11) (.len (.v 2)) :: .eq cDp_13 cDp_14 :: .eq cDp_15 cDp_16 :: .eq (.len cDp_17) cDp_18 :: cDp_19 :: cDp_20 :: cDp_21 :: cDp_23 :: cDp_26
def cDp_28 : Eqn := .T (.app 130 (.l cDp_6 cDp_9))
def cDp_29 : SL := .app 4 (.l (.v 4) (.i (.v 1) (.i (.c 0) cDp_4)))
def cDp_30 : Eqn := .T (.app 332 (.l cDp_17 (.l cDp_6 (.l cDp_29 .nil))))
def cDp_31 : Eqn := .I cDp_14 cDp_13
def cDp_32 : Eqn := .I cDp_16 cDp_15
def cDp_33 : Eqn := .L (.v 2) cDp_11
def cDp_34 : SL := .app 341 (.l (.v 3) (.i cDp_3 (.i (.v 8) .nil)))
def cDp_35 : List Eqn := [.L cDp_29 cDp_12, .L cDp_6 cDp_7]
def cDp_36 : List Eqn := [.T (.c false)]
set_option maxRecDepth 100000 in
theorem cDp_obs : callObs Φ Try.prog m3 1000 cDp.f cDp.vs cDp.o cDp.pc cDp.outs = some
  [⟨cDp_5 :: cDp_27, cDp_28 :: cDp_30 :: cDp_31 :: cDp_32 :: cDp_33 :: .L cDp_34 (.app 7 (.l (.v 3) (.i cDp_3 (.i (.app 214 (.l (.v 3) (.i cDp_3 (.i (.v 8) (.i (.c 1) .nil))))) .nil)))) :: cDp_35⟩, ⟨.not cDp_5 :: cDp_27, cDp_28 :: cDp_30 :: cDp_31 :: cDp_32 :: cDp_33 :: .L cDp_34 (.v 3) :: cDp_35⟩, ⟨.not cDp_19 :: cDp_26, cDp_36⟩, ⟨.not cDp_20 :: cDp_26, cDp_36⟩, ⟨.not cDp_21 :: cDp_26, cDp_36⟩, ⟨.not cDp_23 :: cDp_26, cDp_36⟩] := by kernel_rfl
theorem cDp_ok : cDp.ok Φ Try.prog := by
  refine call_rule (fun ρ => m3_ok ρ) cDp_obs ?_
  simp only [cDp_1, cDp_2, cDp_3, cDp_4, cDp_5, cDp_6, cDp_7, cDp_8, cDp_9, cDp_10, cDp_11, cDp_12, cDp_13, cDp_14, cDp_15, cDp_16, cDp_17, cDp_18, cDp_19, cDp_20, cDp_21, cDp_22, cDp_23, cDp_24, cDp_25, cDp_26, cDp_27, cDp_28, cDp_29, cDp_30, cDp_31, cDp_32, cDp_33, cDp_34, cDp_35, cDp_36, and_imp, List.forall_mem_cons, List.not_mem_nil, false_implies, implies_true, and_true, Ob.ok, holds, Eqn.ok, evB_eq, evB_lt, evB_le, evB_not, evB_and, evB_or, evB_app, evB_c, ev_sel, ev_len, ev_v, ev_c, evL_v, evL_app, ev_app, evA_l, evA_i, evA_nil, std_set, std_find, std_put, ints_cons, ints_nil, negSucc_lit, decide_eq_true_eq, Bool.and_eq_true, Bool.or_eq_true, Bool.not_eq_true', Bool.and_eq_false_iff, Bool.or_eq_false_iff, decide_eq_false_iff_not, aL331, aL337, aL338, aL339, aB331, Bool.not_eq_false', Q.aB130, aL341, aB332, Q.aL111, Q.aI112, Q.aI111, Q.aB132, T.aI214]
  repeat' apply And.intro
  all_goals intro ρ hR
  all_goals intros
  all_goals first
    | (have hI : invS (ρ.l 5) (ρ.l 0) (ρ.l 4) = true := by with_reducible assumption
       have hQ : C17.invB (ρ.l 0) (ρ.l 1) 64 = true := by with_reducible assumption
       have hO : ∀ row ∈ ρ.l 5, okRow KO row := hR.row 9 rfl rfl
       have hR1 : ∀ row ∈ ρ.l 4, okRow [.i .i64] row := hR.row 8 rfl rfl
       have ha : C17.anyB (ρ.l 0) = true := by with_reducible assumption
       have a0 : 1 ≤ ((ρ.l 0).length : Int) := by omega
       have a1 : 0 ≤ ρ.i 1 := by omega
       have a2 : ρ.i 1 < (ρ.l 0).length := by omega
       have pi := pop_in hI a0 a1 a2 ha
       have he : ((List.getD (ρ.l 4) (Int.toNat (ρ.i 1)) []).getD 0 0) = -1 := by omega
       have a3 : ρ.i 1 < (ρ.l 4).length := by omega
       have a4 : ((ρ.l 4).length : Int) = (ρ.l 0).length := by omega
       have v := disp_ok (B := ρ.l 2) hI hQ hO hR1 a0 a4 a1 a3 he ha
       have w : ((List.getD (findK (ρ.l 3) (C17.popX (ρ.l 0) (ρ.i 1))) (Int.toNat 0) []).getD 1 0) < 1 := by with_reducible assumption
       rw [v.2.1, v.2.2.1, v.2.2.2, ds_yes w]
       refine ⟨?_, v.1, ?_, rfl, rfl, rfl, rfl, rfl⟩
       · have h : C17.invB (evA (ρ.l 5) (C17.popT (ρ.l 0) (ρ.i 1)) (C17.popX (ρ.l 0) (ρ.i 1)) 2 (ρ.i 1) (ρ.i 1)) (ρ.l 2000) 64 = true := by with_reducible assumption
         rw [v.2.1] at h
         exact h
       · rw [setC_len])
    | (have hI : invS (ρ.l 5) (ρ.l 0) (ρ.l 4) = true := by with_reducible assumption
       have hQ : C17.invB (ρ.l 0) (ρ.l 1) 64 = true := by with_reducible assumption
       have hO : ∀ row ∈ ρ.l 5, okRow KO row := hR.row 9 rfl rfl
       have hR1 : ∀ row ∈ ρ.l 4, okRow [.i .i64] row := hR.row 8 rfl rfl
       have ha : C17.anyB (ρ.l 0) = true := by with_reducible assumption
       have a0 : 1 ≤ ((ρ.l 0).length : Int) := by omega
       have a1 : 0 ≤ ρ.i 1 := by omega
       have a2 : ρ.i 1 < (ρ.l 0).length := by omega
       have pi := pop_in hI a0 a1 a2 ha
       have he : ((List.getD (ρ.l 4) (Int.toNat (ρ.i 1)) []).getD 0 0) = -1 := by omega
       have a3 : ρ.i 1 < (ρ.l 4).length := by omega
       have a4 : ((ρ.l 4).length : Int) = (ρ.l 0).length := by omega
       have v := disp_ok (B := ρ.l 2) hI hQ hO hR1 a0 a4 a1 a3 he ha
       have w : ¬ ((List.getD (findK (ρ.l 3) (C17.popX (ρ.l 0) (ρ.i 1))) (Int.toNat 0) []).getD 1 0) < 1 := by with_reducible assumption
       rw [v.2.1, v.2.2.1, v.2.2.2, ds_no w]
       refine ⟨?_, v.1, ?_, rfl, rfl, rfl, rfl, rfl⟩
       · have h : C17.invB (evA (ρ.l 5) (C17.popT (ρ.l 0) (ρ.i 1)) (C17.popX (ρ.l 0) (ρ.i 1)) 2 (ρ.i 1) (ρ.i 1)) (ρ.l 2000) 64 = true := by with_reducible assumption
         rw [v.2.1] at h
         exact h
       · rw [setC_len])
    | (have hI : invS (ρ.l 5) (ρ.l 0) (ρ.l 4) = true := by with_reducible assumption
       have hQ : C17.invB (ρ.l 0) (ρ.l 1) 64 = true := by with_reducible assumption
       have hO : ∀ row ∈ ρ.l 5, okRow KO row := hR.row 9 rfl rfl
       have hR1 : ∀ row ∈ ρ.l 4, okRow [.i .i64] row := hR.row 8 rfl rfl
       have ha : C17.anyB (ρ.l 0) = true := by with_reducible assumption
       have a0 : 1 ≤ ((ρ.l 0).length : Int) := by omega
       have a1 : 0 ≤ ρ.i 1 := by omega
       have a2 : ρ.i 1 < (ρ.l 0).length := by omega
       have pi := pop_in hI a0 a1 a2 ha
       exfalso
       omega)
    | (have hI : invS (ρ.l 5) (ρ.l 0) (ρ.l 4) = true := by with_reducible assumption
       have hQ : C17.invB (ρ.l 0) (ρ.l 1) 64 = true := by with_reducible assumption
       have hO : ∀ row ∈ ρ.l 5, okRow KO row := hR.row 9 rfl rfl
       have hR1 : ∀ row ∈ ρ.l 4, okRow [.i .i64] row := hR.row 8 rfl rfl
       have ha : C17.anyB (ρ.l 0) = true := by with_reducible assumption
       have a0 : 1 ≤ ((ρ.l 0).length : Int) := by omega
       have a1 : 0 ≤ ρ.i 1 := by omega
       have a2 : ρ.i 1 < (ρ.l 0).length := by omega
       have pi := pop_in hI a0 a1 a2 ha
       have hI : invS (ρ.l 5) (ρ.l 0) (ρ.l 4) = true := by with_reducible assumption
       have hQ : C17.invB (ρ.l 0) (ρ.l 1) 64 = true := by with_reducible assumption
       have hO : ∀ row ∈ ρ.l 5, okRow KO row := hR.row 9 rfl rfl
       have hR1 : ∀ row ∈ ρ.l 4, okRow [.i .i64] row := hR.row 8 rfl rfl
       exact ev_ok hI hQ hO hR1 (by omega) (by omega) (by omega) (by omega) (by omega) (by omega))
    | (have hI : invS (ρ.l 5) (ρ.l 0) (ρ.l 4) = true := by with_reducible assumption
       have hQ : C17.invB (ρ.l 0) (ρ.l 1) 64 = true := by with_reducible assumption
       have hO : ∀ row ∈ ρ.l 5, okRow KO row := hR.row 9 rfl rfl
       have hR1 : ∀ row ∈ ρ.l 4, okRow [.i .i64] row := hR.row 8 rfl rfl
       have ha : C17.anyB (ρ.l 0) = true := by with_reducible assumption
       have a0 : 1 ≤ ((ρ.l 0).length : Int) := by omega
       have a1 : 0 ≤ ρ.i 1 := by omega
       have a2 : ρ.i 1 < (ρ.l 0).length := by omega
       have pi := pop_in hI a0 a1 a2 ha
       have hI : invS (ρ.l 5) (ρ.l 0) (ρ.l 4) = true := by with_reducible assumption
       have hQ : C17.invB (ρ.l 0) (ρ.l 1) 64 = true := by with_reducible assumption
       have hO : ∀ row ∈ ρ.l 5, okRow KO row := hR.row 9 rfl rfl
       have hR1 : ∀ row ∈ ρ.l 4, okRow [.i .i64] row := hR.row 8 rfl rfl
       have h : right8 (ρ.l 5) (C17.popX (ρ.l 0) (ρ.i 1)) = false := by with_reducible assumption
       have g : right8 (ρ.l 5) (C17.popX (ρ.l 0) (ρ.i 1)) = true := right_of hI hO (by omega) (by omega) (by omega)
       rw [g] at h
       cases h)
    | (have hI : invS (ρ.l 5) (ρ.l 0) (ρ.l 4) = true := by with_reducible assumption
       have hQ : C17.invB (ρ.l 0) (ρ.l 1) 64 = true := by with_reducible assumption
       have hO : ∀ row ∈ ρ.l 5, okRow KO row := hR.row 9 rfl rfl
       have hR1 : ∀ row ∈ ρ.l 4, okRow [.i .i64] row := hR.row 8 rfl rfl
       have ha : C17.anyB (ρ.l 0) = true := by with_reducible assumption
       have a0 : 1 ≤ ((ρ.l 0).length : Int) := by omega
       have a1 : 0 ≤ ρ.i 1 := by omega
       have a2 : ρ.i 1 < (ρ.l 0).length := by omega
       have pi := pop_in hI a0 a1 a2 ha
       have hI : invS (ρ.l 5) (ρ.l 0) (ρ.l 4) = true := by with_reducible assumption
       have hQ : C17.invB (ρ.l 0) (ρ.l 1) 64 = true := by with_reducible assumption
       have hO : ∀ row ∈ ρ.l 5, okRow KO row := hR.row 9 rfl rfl
       have hR1 : ∀ row ∈ ρ.l 4, okRow [.i .i64] row := hR.row 8 rfl rfl
       exfalso
       have g : cel (ρ.l 5) (C17.popX (ρ.l 0) (ρ.i 1)) 0 = 2 := by with_reducible assumption
       have g2 := idx_of hI (by omega) (by omega) g
       simp only [cel] at g2
       omega)
theorem m5_ok (ρ : Env) : TblOK Φ ρ Try.prog m5 := addFn_ok (addFn_ok (addFn_ok (m4_ok ρ) cLe_ok) cCh_ok) cDp_ok
set_option maxRecDepth 100000 in
theorem cAr_obs : callObs Φ Try.prog m3 1000 cAr.f cAr.vs cAr.o cAr.pc cAr.outs = some
  [] := by kernel_rfl
theorem cAr_ok : cAr.ok Φ Try.prog := by
  refine call_rule (fun ρ => m3_ok ρ) cAr_obs ?_
  intro ob h; cases h
def cAd_1 : SI := .len (.v 5)
def cAd_2 : SI := .len (.v 0)
def cAd_3 : SA := .l (.v 0) (.l (.v 4) .nil)
def cAd_4 : SA := .i (.v 2) .nil
def cAd_5 : SL := .app 311 (.l (.v 5) cAd_4)
def cAd_6 : SI := .len cAd_5
def cAd_7 : SI := .add cAd_1 (.c 1)
set_option maxRecDepth 100000 in
theorem cAd_obs : callObs Φ Try.prog m3 1000 cAd.f cAd.vs cAd.o cAd.pc cAd.outs = some
  [⟨[.not (.eq cAd_1 (.c 64)), .not (.lt (.c 16) (.v 2)), .not (.lt (.v 2) (.c 1)), .le (.c 1) cAd_2, .le cAd_2 (.c 8), .eq (.len (.v 4)) cAd_2, .le cAd_1 (.c 64), .le (.c 1) (.v 8), .le (.v 8) (.c 10000), .c true, .app 332 (.l (.v 5) cAd_3)], [.T (.eq cAd_6 cAd_7), .T (.app 332 (.l cAd_5 cAd_3)), .I cAd_6 cAd_7, .L cAd_5 (.app 0 (.l (.v 5) (.l (.app 3 (.i (.c 0) (.i (.c (.negSucc 0)) (.i (.c 0) (.i (.c 0) (.i (.c 0) (.i (.c 0) (.i (.c 0) (.i (.c 0) (.i (.c 0) cAd_4)))))))))) .nil)))]⟩] := by kernel_rfl
theorem cAd_ok : cAd.ok Φ Try.prog := by
  refine call_rule (fun ρ => m3_ok ρ) cAd_obs ?_
  simp only [cAd_1, cAd_2, cAd_3, cAd_4, cAd_5, cAd_6, cAd_7, and_imp, List.forall_mem_cons, List.not_mem_nil, false_implies, implies_true, and_true, Ob.ok, holds, Eqn.ok, evB_eq, evB_lt, evB_le, evB_not, evB_app, evB_c, ev_len, ev_v, ev_c, ev_add, evL_v, evL_app, evA_l, evA_i, evA_nil, std_cat, std_row, ints_cons, ints_nil, negSucc_lit, decide_eq_true_eq, Bool.not_eq_true', decide_eq_false_iff_not, aB332, aL311, std_row]
  repeat' apply And.intro
  all_goals intro ρ hR
  all_goals intros
  all_goals first
    | (exact ⟨add_len, add_ok (by with_reducible assumption) (hR.row 9 rfl rfl), add_len, rfl⟩)
set_option maxRecDepth 100000 in
theorem cOf_obs : callObs Φ Try.prog m3 1000 cOf.f cOf.vs cOf.o cOf.pc cOf.outs = some
  [] := by kernel_rfl
theorem cOf_ok : cOf.ok Φ Try.prog := by
  refine call_rule (fun ρ => m3_ok ρ) cOf_obs ?_
  intro ob h; cases h
set_option maxRecDepth 100000 in
theorem cRn_obs : callObs Φ Try.prog m3 1000 cRn.f cRn.vs cRn.o cRn.pc cRn.outs = some
  [] := by kernel_rfl
theorem cRn_ok : cRn.ok Φ Try.prog := by
  refine call_rule (fun ρ => m3_ok ρ) cRn_obs ?_
  intro ob h; cases h
set_option maxRecDepth 100000 in
theorem cNw_obs : callObs Φ Try.prog m3 1000 cNw.f cNw.vs cNw.o cNw.pc cNw.outs = some
  [] := by kernel_rfl
theorem cNw_ok : cNw.ok Φ Try.prog := by
  refine call_rule (fun ρ => m3_ok ρ) cNw_obs ?_
  intro ob h; cases h
set_option maxRecDepth 100000 in
theorem cQu_obs : callObs Φ Try.prog m3 1000 cQu.f cQu.vs cQu.o cQu.pc cQu.outs = some
  [{pc := [.not (.le (.len (.app 14 (.l (.v 0) (.i (.v 0) .nil)))) (.c 64)), .le (.c 1) (.len (.v 0)), .le (.len (.v 0)) (.c 8), .eq (.len (.v 4)) (.len (.v 0)), .le (.len (.v 5)) (.c 64), .le (.c 1) (.v 8), .le (.v 8) (.c 10000), .c true, .app 130 (.l (.v 0) (.l (.v 1) (.i (.c 64) .nil)))], eqs := [.T (.c false)]}] := by kernel_rfl
theorem cQu_ok : cQu.ok Φ Try.prog := by
  refine call_rule (fun ρ => m3_ok ρ) cQu_obs ?_
  simp only [and_imp, List.forall_mem_cons, List.not_mem_nil, false_implies, implies_true, and_true, Ob.ok, holds, Eqn.ok, evB_eq, evB_le, evB_not, evB_app, evB_c, ev_len, ev_v, ev_c, evL_v, evL_app, evA_l, evA_i, evA_nil, decide_eq_true_eq, Bool.not_eq_true', decide_eq_false_iff_not, Q.aB130, std_rowT]
  repeat' apply And.intro
  all_goals intro ρ hR
  all_goals intros
  all_goals first
    | (exfalso
       have h : ¬ ((rowT (ρ.l 0) (ρ.i 0)).length : Int) ≤ 64 := by with_reducible assumption
       exact h (row64 (by with_reducible assumption) _))
end Go.SF.C21
