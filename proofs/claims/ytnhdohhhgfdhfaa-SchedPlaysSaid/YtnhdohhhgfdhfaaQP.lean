/- The document's Arm, Add and Of, shown. The document's Do, shown. The document's Dispatch, shown. -/
import Derived.Test.YtnhdohhhgfdhfaaCP
import Derived.Test.YtnhdohhhgfdhfaaPZ
import Derived.Test.YtnhdohhhgfdhfaaQN
import Derived.KernelRfl
import Derived.Test.YtnhdohhhgfdhfaaQS
namespace Go.SF.C21
open Go Go.SF Go.Proofs
set_option linter.unusedVariables false
set_option linter.unusedSimpArgs false

open Go.SF.C17
set_option maxRecDepth 100000 in
theorem rAr_obs : callObs Φ Try.prog d1 1000 rAr.f rAr.vs rAr.o rAr.pc rAr.outs = some
  [] := by kernel_rfl
theorem rAr_ok : rAr.ok Φ Try.prog := by
  refine call_rule (fun ρ => d1_ok ρ) rAr_obs ?_
  intro ob h; cases h
set_option maxRecDepth 100000 in
theorem rAd_obs : callObs Φ Try.prog noTbl 1000 rAd.f rAd.vs rAd.o rAd.pc rAd.outs = some
  [{pc := [.not (.le (.c 64) (.len (.v 5))), .not (.lt (.c 16) (.v 2)), .not (.lt (.v 2) (.c 1)), .le (.c 1) (.len (.v 0)), .le (.len (.v 0)) (.c 8), .eq (.len (.v 4)) (.len (.v 0)), .le (.len (.v 5)) (.c 64), .le (.c 1) (.v 8), .le (.v 8) (.c 10000), .c true, .lt (.len (.v 14)) (.c 60000), .lt (.len (.v 15)) (.c 60000)], eqs := [.T (.eq (.len (.app 311 (.l (.v 5) (.i (.v 2) .nil)))) (.add (.len (.v 5)) (.c 1))), .I (.len (.app 311 (.l (.v 5) (.i (.v 2) .nil)))) (.add (.len (.v 5)) (.c 1)), .L (.app 311 (.l (.v 5) (.i (.v 2) .nil))) (.app 0 (.l (.v 5) (.l (.app 3 (.i (.c 0) (.i (.c (.negSucc 0)) (.i (.c 0) (.i (.c 0) (.i (.c 0) (.i (.c 0) (.i (.c 0) (.i (.c 0) (.i (.c 0) (.i (.v 2) .nil))))))))))) .nil)))]}] := by kernel_rfl
theorem rAd_ok : rAd.ok Φ Try.prog := by
  refine call_rule (fun ρ => noTbl_ok) rAd_obs ?_
  simp only [and_imp, List.forall_mem_cons, List.not_mem_nil, false_implies, implies_true, and_true, Ob.ok, holds, Eqn.ok, evB_eq, evB_lt, evB_le, evB_not, evB_c, ev_len, ev_v, ev_c, ev_add, evL_v, evL_app, evA_l, evA_i, evA_nil, std_cat, std_row, ints_cons, ints_nil, negSucc_lit, decide_eq_true_eq, Bool.not_eq_true', decide_eq_false_iff_not]
  repeat' apply And.intro
  all_goals intro ρ hR
  all_goals intros
  all_goals first
    | (exact ⟨add_len, add_len, rfl⟩)
set_option maxRecDepth 100000 in
theorem rOf_obs : callObs Φ Try.prog d1 1000 rOf.f rOf.vs rOf.o rOf.pc rOf.outs = some
  [] := by kernel_rfl
theorem rOf_ok : rOf.ok Φ Try.prog := by
  refine call_rule (fun ρ => d1_ok ρ) rOf_obs ?_
  intro ob h; cases h
end Go.SF.C21
namespace Go.SF.C21
open Go Go.SF Go.Proofs
set_option linter.unusedVariables false
set_option linter.unusedSimpArgs false

open Go.SF.C17
def rDo_1 : SA := .i (.v 0) (.i (.v 1) (.i (.c 0) .nil))
def rDo_2 : SI := .len (.v 14)
def rDo_3 : SB := .le (.len (.app 343 (.l (.v 5) (.l (.v 14) rDo_1)))) rDo_2
def rDo_4 : SL := .app 338 (.l (.v 5) (.l (.v 4) rDo_1))
def rDo_5 : SI := .len (.v 4)
def rDo_6 : SB := .eq (.len rDo_4) rDo_5
def rDo_7 : SI := .rem (.v 0) rDo_5
def rDo_8 : SL := .app 337 (.l (.v 5) (.l (.v 0) (.i (.v 0) (.i (.v 1) (.i (.c 0) (.i rDo_7 .nil))))))
def rDo_9 : SI := .len (.v 0)
def rDo_10 : SB := .eq (.len rDo_8) rDo_9
def rDo_11 : SL := .app 331 (.l (.v 5) rDo_1)
def rDo_12 : SI := .len (.v 5)
def rDo_13 : SB := .eq (.len rDo_11) rDo_12
def rDo_14 : SB := .le (.c 0) rDo_7
def rDo_15 : SB := .lt rDo_7 rDo_9
def rDo_16 : SB := .app 331 (.l (.v 5) (.i (.v 0) .nil))
def rDo_17 : SI := .sel (.v 5) (.v 0) 1
def rDo_18 : SB := .or (.not (.eq (.sel (.v 5) (.v 0) 0) (.c 2))) (.and (.and (.le (.c 0) rDo_17) (.lt rDo_17 rDo_5)) (.eq (.sel (.v 4) rDo_17 0) (.v 0)))
def rDo_19 : SB := .not (.le rDo_12 (.v 0))
def rDo_20 : SB := .not (.lt (.v 0) (.c 0))
def rDo_21 : SB := .le (.c 2) (.v 1)
def rDo_22 : List SB := [.not (.lt (.c 8) (.v 1)), .not (.lt (.v 1) (.c 1)), .le (.c 1) rDo_9, .le rDo_9 (.c 8), .eq rDo_5 rDo_9, .le rDo_12 (.c 64), .le (.c 1) (.v 8), .le (.v 8) (.c 10000), .c true, .lt rDo_2 (.c 60000), .lt (.len (.v 15)) (.c 60000), .app 340 (.l (.v 0) .nil), .app 332 (.l (.v 5) (.l (.v 0) (.l (.v 4) .nil)))]
def rDo_23 : List SB := rDo_19 :: rDo_20 :: .not (.le (.v 1) (.c 4)) :: rDo_21 :: rDo_22
def rDo_24 : List Eqn := [.T (.app 340 (.l rDo_8 .nil)), .T (.app 332 (.l rDo_11 (.l rDo_8 (.l rDo_4 .nil))))]
def rDo_25 : SB := .not rDo_14
def rDo_26 : List Eqn := [.T (.c false)]
def rDo_27 : SB := .not rDo_15
def rDo_28 : SB := .not rDo_16
def rDo_29 : SB := .not rDo_18
def rDo_30 : List SB := rDo_19 :: rDo_20 :: .not rDo_21 :: rDo_22
set_option maxRecDepth 100000 in
theorem rDo_obs : callObs Φ Try.prog d2 1000 rDo.f rDo.vs rDo.o rDo.pc rDo.outs = some
  [⟨rDo_3 :: rDo_6 :: rDo_10 :: rDo_13 :: rDo_14 :: rDo_15 :: rDo_16 :: rDo_18 :: rDo_23, rDo_24⟩, ⟨rDo_25 :: rDo_23, rDo_26⟩, ⟨rDo_27 :: rDo_23, rDo_26⟩, ⟨rDo_28 :: rDo_23, rDo_26⟩, ⟨rDo_29 :: rDo_23, rDo_26⟩, ⟨rDo_3 :: rDo_6 :: rDo_10 :: rDo_13 :: rDo_14 :: rDo_15 :: rDo_16 :: rDo_18 :: rDo_30, rDo_24⟩, ⟨rDo_25 :: rDo_30, rDo_26⟩, ⟨rDo_27 :: rDo_30, rDo_26⟩, ⟨rDo_28 :: rDo_30, rDo_26⟩, ⟨rDo_29 :: rDo_30, rDo_26⟩] := by kernel_rfl
theorem rDo_ok : rDo.ok Φ Try.prog := by
  refine call_rule (fun ρ => d2_ok ρ) rDo_obs ?_
  simp only [rDo_1, rDo_2, rDo_3, rDo_4, rDo_5, rDo_6, rDo_7, rDo_8, rDo_9, rDo_10, rDo_11, rDo_12, rDo_13, rDo_14, rDo_15, rDo_16, rDo_17, rDo_18, rDo_19, rDo_20, rDo_21, rDo_22, rDo_23, rDo_24, rDo_25, rDo_26, rDo_27, rDo_28, rDo_29, rDo_30, and_imp, List.forall_mem_cons, List.not_mem_nil, false_implies, implies_true, and_true, Ob.ok, holds, Eqn.ok, evB_eq, evB_lt, evB_le, evB_not, evB_and, evB_or, evB_app, evB_c, ev_sel, ev_len, ev_v, ev_c, ev_rem, evL_v, evL_app, evA_l, evA_i, evA_nil, decide_eq_true_eq, Bool.and_eq_true, Bool.or_eq_true, Bool.not_eq_true', Bool.and_eq_false_iff, Bool.or_eq_false_iff, decide_eq_false_iff_not, aL331, aL337, aL338, aB331, Bool.not_eq_false', aL343, aB340, aB332]
  repeat' apply And.intro
  all_goals intro ρ hR
  all_goals intros
  all_goals first
    | (have hI : invS (ρ.l 5) (ρ.l 0) (ρ.l 4) = true := by with_reducible assumption
       have hlow : low8 (ρ.l 0) = true := by with_reducible assumption
       have hQ : C17.invB (ρ.l 0) (C17.pairs 0 (ρ.l 0)) 64 = true := hlow
       have hO : ∀ row ∈ ρ.l 5, okRow KO row := hR.row 8 rfl rfl
       have hR1 : ∀ row ∈ ρ.l 4, okRow [.i .i64] row := hR.row 7 rfl rfl
       exact ⟨low_ev hlow, ev_ok hI hQ hO hR1 (by omega) (by omega) (by omega) (by omega) (by omega) (by omega)⟩)
    | (have hI : invS (ρ.l 5) (ρ.l 0) (ρ.l 4) = true := by with_reducible assumption
       have hlow : low8 (ρ.l 0) = true := by with_reducible assumption
       have hQ : C17.invB (ρ.l 0) (C17.pairs 0 (ρ.l 0)) 64 = true := hlow
       have hO : ∀ row ∈ ρ.l 5, okRow KO row := hR.row 8 rfl rfl
       have hR1 : ∀ row ∈ ρ.l 4, okRow [.i .i64] row := hR.row 7 rfl rfl
       have h : right8 (ρ.l 5) (ρ.i 0) = false := by with_reducible assumption
       have g : right8 (ρ.l 5) (ρ.i 0) = true := right_of hI hO (by omega) (by omega) (by omega)
       rw [g] at h
       cases h)
    | (have hI : invS (ρ.l 5) (ρ.l 0) (ρ.l 4) = true := by with_reducible assumption
       have hlow : low8 (ρ.l 0) = true := by with_reducible assumption
       have hQ : C17.invB (ρ.l 0) (C17.pairs 0 (ρ.l 0)) 64 = true := hlow
       have hO : ∀ row ∈ ρ.l 5, okRow KO row := hR.row 8 rfl rfl
       have hR1 : ∀ row ∈ ρ.l 4, okRow [.i .i64] row := hR.row 7 rfl rfl
       exfalso
       have g : cel (ρ.l 5) (ρ.i 0) 0 = 2 := by simp only [cel]; omega
       have i0 : 0 ≤ (ρ.i 0) := by omega
       have i1 : (ρ.i 0) < (ρ.l 5).length := by omega
       have g2 := ((invS_iff.1 hI).row (ρ.i 0) i0 i1).runs g
       simp only [cel] at g2
       omega)
    | (omega)
    | (have m0 : 0 ≤ ρ.i 0 := by omega
       have m1 : 1 ≤ ((ρ.l 4).length : Int) := by omega
       have hm := home_in m0 m1
       exfalso
       omega)
def rLe_1 : SI := .sel (.v 4) (.v 1) 0
def rLe_2 : SB := .lt rLe_1 (.c 0)
def rLe_3 : SI := .len (.v 4)
def rLe_4 : SB := .not (.le rLe_3 (.v 1))
def rLe_5 : SB := .not (.lt (.v 1) (.c 0))
def rLe_6 : SB := .eq (.v 2) (.c 3)
def rLe_7 : SI := .len (.v 0)
def rLe_8 : SI := .len (.v 5)
def rLe_9 : SI := .len (.v 14)
def rLe_10 : List SB := [.le (.c 1) rLe_7, .le rLe_7 (.c 8), .eq rLe_3 rLe_7, .le rLe_8 (.c 64), .le (.c 1) (.v 8), .le (.v 8) (.c 10000), .c true, .lt rLe_9 (.c 60000), .lt (.len (.v 15)) (.c 60000), .app 340 (.l (.v 0) .nil), .app 332 (.l (.v 5) (.l (.v 0) (.l (.v 4) .nil)))]
def rLe_11 : List SB := rLe_4 :: rLe_5 :: rLe_6 :: rLe_10
def rLe_12 : List Eqn := [.T (.eq rLe_1 (.c (.negSucc 0)))]
def rLe_13 : SA := .i rLe_1 (.i (.v 2) (.i (.c 0) .nil))
def rLe_14 : SB := .le (.len (.app 343 (.l (.v 5) (.l (.v 14) rLe_13)))) rLe_9
def rLe_15 : SL := .app 338 (.l (.v 5) (.l (.v 4) rLe_13))
def rLe_16 : SB := .eq (.len rLe_15) rLe_3
def rLe_17 : SL := .app 337 (.l (.v 5) (.l (.v 0) (.i rLe_1 (.i (.v 2) (.i (.c 0) (.i (.v 1) .nil))))))
def rLe_18 : SB := .eq (.len rLe_17) rLe_7
def rLe_19 : SL := .app 331 (.l (.v 5) rLe_13)
def rLe_20 : SB := .eq (.len rLe_19) rLe_8
def rLe_21 : SB := .lt rLe_1 rLe_8
def rLe_22 : SB := .app 331 (.l (.v 5) (.i rLe_1 .nil))
def rLe_23 : SI := .sel (.v 5) rLe_1 1
def rLe_24 : SB := .or (.not (.eq (.sel (.v 5) rLe_1 0) (.c 2))) (.and (.and (.le (.c 0) rLe_23) (.lt rLe_23 rLe_3)) (.eq (.sel (.v 4) rLe_23 0) rLe_1))
def rLe_25 : SB := .not rLe_2
def rLe_26 : List SB := rLe_25 :: rLe_11
def rLe_27 : List Eqn := [.T (.app 340 (.l rLe_17 .nil)), .T (.app 332 (.l rLe_19 (.l rLe_17 (.l rLe_15 .nil))))]
def rLe_28 : SB := .not rLe_21
def rLe_29 : List Eqn := [.T (.c false)]
def rLe_30 : SB := .not rLe_22
def rLe_31 : SB := .not rLe_24
def rLe_32 : List SB := rLe_4 :: rLe_5 :: .eq (.v 2) (.c 4) :: .not rLe_6 :: rLe_10
def rLe_33 : List SB := rLe_25 :: rLe_32
set_option maxRecDepth 100000 in
theorem rLe_obs : callObs Φ Try.prog d2 1000 rLe.f rLe.vs rLe.o rLe.pc rLe.outs = some
  [⟨rLe_2 :: rLe_11, rLe_12⟩, ⟨rLe_14 :: rLe_16 :: rLe_18 :: rLe_20 :: rLe_21 :: rLe_22 :: rLe_24 :: rLe_26, rLe_27⟩, ⟨rLe_28 :: rLe_26, rLe_29⟩, ⟨rLe_30 :: rLe_26, rLe_29⟩, ⟨rLe_31 :: rLe_26, rLe_29⟩, ⟨rLe_2 :: rLe_32, rLe_12⟩, ⟨rLe_14 :: rLe_16 :: rLe_18 :: rLe_20 :: rLe_21 :: rLe_22 :: rLe_24 :: rLe_33, rLe_27⟩, ⟨rLe_28 :: rLe_33, rLe_29⟩, ⟨rLe_30 :: rLe_33, rLe_29⟩, ⟨rLe_31 :: rLe_33, rLe_29⟩] := by kernel_rfl
theorem rLe_ok : rLe.ok Φ Try.prog := by
  refine call_rule (fun ρ => d2_ok ρ) rLe_obs ?_
  simp only [rLe_1, rLe_2, rLe_3, rLe_4, rLe_5, rLe_6, rLe_7, rLe_8, rLe_9, rLe_10, rLe_11, rLe_12, rLe_13, rLe_14, rLe_15, rLe_16, rLe_17, rLe_18, rLe_19, rLe_20, rLe_21, rLe_22, rLe_23, rLe_24, rLe_25, rLe_26, rLe_27, rLe_28, rLe_29, rLe_30, rLe_31, rLe_32, rLe_33, and_imp, List.forall_mem_cons, List.not_mem_nil, false_implies, implies_true, and_true, Ob.ok, holds, Eqn.ok, evB_eq, evB_lt, evB_le, evB_not, evB_and, evB_or, evB_app, evB_c, ev_sel, ev_len, ev_v, ev_c, evL_v, evL_app, evA_l, evA_i, evA_nil, negSucc_lit, decide_eq_true_eq, Bool.and_eq_true, Bool.or_eq_true, Bool.not_eq_true', Bool.and_eq_false_iff, Bool.or_eq_false_iff, decide_eq_false_iff_not, aL331, aL337, aL338, aB331, Bool.not_eq_false', aL343, aB340, aB332]
  repeat' apply And.intro
  all_goals intro ρ hR
  all_goals intros
  all_goals first
    | (omega)
    | (have hI : invS (ρ.l 5) (ρ.l 0) (ρ.l 4) = true := by with_reducible assumption
       have hlow : low8 (ρ.l 0) = true := by with_reducible assumption
       have hQ : C17.invB (ρ.l 0) (C17.pairs 0 (ρ.l 0)) 64 = true := hlow
       have hO : ∀ row ∈ ρ.l 5, okRow KO row := hR.row 8 rfl rfl
       have hR1 : ∀ row ∈ ρ.l 4, okRow [.i .i64] row := hR.row 7 rfl rfl
       have hne : ¬ ((List.getD (ρ.l 4) (Int.toNat (ρ.i 1)) []).getD 0 0) = -1 := by omega
       have r0 : 0 ≤ ρ.i 1 := by omega
       have r1 : ρ.i 1 < (ρ.l 4).length := by omega
       have r := in_run hI r0 r1 hne
       simp only [cel] at r
       have hI : invS (ρ.l 5) (ρ.l 0) (ρ.l 4) = true := by with_reducible assumption
       have hlow : low8 (ρ.l 0) = true := by with_reducible assumption
       have hQ : C17.invB (ρ.l 0) (C17.pairs 0 (ρ.l 0)) 64 = true := hlow
       have hO : ∀ row ∈ ρ.l 5, okRow KO row := hR.row 8 rfl rfl
       have hR1 : ∀ row ∈ ρ.l 4, okRow [.i .i64] row := hR.row 7 rfl rfl
       exact ⟨low_ev hlow, ev_ok hI hQ hO hR1 (by omega) (by omega) (by omega) (by omega) (by omega) (by omega)⟩)
    | (have hI : invS (ρ.l 5) (ρ.l 0) (ρ.l 4) = true := by with_reducible assumption
       have hlow : low8 (ρ.l 0) = true := by with_reducible assumption
       have hQ : C17.invB (ρ.l 0) (C17.pairs 0 (ρ.l 0)) 64 = true := hlow
       have hO : ∀ row ∈ ρ.l 5, okRow KO row := hR.row 8 rfl rfl
       have hR1 : ∀ row ∈ ρ.l 4, okRow [.i .i64] row := hR.row 7 rfl rfl
       have hne : ¬ ((List.getD (ρ.l 4) (Int.toNat (ρ.i 1)) []).getD 0 0) = -1 := by omega
       have r0 : 0 ≤ ρ.i 1 := by omega
       have r1 : ρ.i 1 < (ρ.l 4).length := by omega
       have r := in_run hI r0 r1 hne
       simp only [cel] at r
       have hI : invS (ρ.l 5) (ρ.l 0) (ρ.l 4) = true := by with_reducible assumption
       have hlow : low8 (ρ.l 0) = true := by with_reducible assumption
       have hQ : C17.invB (ρ.l 0) (C17.pairs 0 (ρ.l 0)) 64 = true := hlow
       have hO : ∀ row ∈ ρ.l 5, okRow KO row := hR.row 8 rfl rfl
       have hR1 : ∀ row ∈ ρ.l 4, okRow [.i .i64] row := hR.row 7 rfl rfl
       have h : right8 (ρ.l 5) ((List.getD (ρ.l 4) (Int.toNat (ρ.i 1)) []).getD 0 0) = false := by with_reducible assumption
       have g : right8 (ρ.l 5) ((List.getD (ρ.l 4) (Int.toNat (ρ.i 1)) []).getD 0 0) = true := right_of hI hO (by omega) (by omega) (by omega)
       rw [g] at h
       cases h)
    | (have hI : invS (ρ.l 5) (ρ.l 0) (ρ.l 4) = true := by with_reducible assumption
       have hlow : low8 (ρ.l 0) = true := by with_reducible assumption
       have hQ : C17.invB (ρ.l 0) (C17.pairs 0 (ρ.l 0)) 64 = true := hlow
       have hO : ∀ row ∈ ρ.l 5, okRow KO row := hR.row 8 rfl rfl
       have hR1 : ∀ row ∈ ρ.l 4, okRow [.i .i64] row := hR.row 7 rfl rfl
       have hne : ¬ ((List.getD (ρ.l 4) (Int.toNat (ρ.i 1)) []).getD 0 0) = -1 := by omega
       have r0 : 0 ≤ ρ.i 1 := by omega
       have r1 : ρ.i 1 < (ρ.l 4).length := by omega
       have r := in_run hI r0 r1 hne
       simp only [cel] at r
       have hI : invS (ρ.l 5) (ρ.l 0) (ρ.l 4) = true := by with_reducible assumption
       have hlow : low8 (ρ.l 0) = true := by with_reducible assumption
       have hQ : C17.invB (ρ.l 0) (C17.pairs 0 (ρ.l 0)) 64 = true := hlow
       have hO : ∀ row ∈ ρ.l 5, okRow KO row := hR.row 8 rfl rfl
       have hR1 : ∀ row ∈ ρ.l 4, okRow [.i .i64] row := hR.row 7 rfl rfl
       exfalso
       have g : cel (ρ.l 5) ((List.getD (ρ.l 4) (Int.toNat (ρ.i 1)) []).getD 0 0) 0 = 2 := by simp only [cel]; omega
       have i0 : 0 ≤ ((List.getD (ρ.l 4) (Int.toNat (ρ.i 1)) []).getD 0 0) := by omega
       have i1 : ((List.getD (ρ.l 4) (Int.toNat (ρ.i 1)) []).getD 0 0) < (ρ.l 5).length := by omega
       have g2 := ((invS_iff.1 hI).row ((List.getD (ρ.l 4) (Int.toNat (ρ.i 1)) []).getD 0 0) i0 i1).runs g
       simp only [cel] at g2
       omega)
    | (have hI : invS (ρ.l 5) (ρ.l 0) (ρ.l 4) = true := by with_reducible assumption
       have hlow : low8 (ρ.l 0) = true := by with_reducible assumption
       have hQ : C17.invB (ρ.l 0) (C17.pairs 0 (ρ.l 0)) 64 = true := hlow
       have hO : ∀ row ∈ ρ.l 5, okRow KO row := hR.row 8 rfl rfl
       have hR1 : ∀ row ∈ ρ.l 4, okRow [.i .i64] row := hR.row 7 rfl rfl
       have hne : ¬ ((List.getD (ρ.l 4) (Int.toNat (ρ.i 1)) []).getD 0 0) = -1 := by omega
       have r0 : 0 ≤ ρ.i 1 := by omega
       have r1 : ρ.i 1 < (ρ.l 4).length := by omega
       have r := in_run hI r0 r1 hne
       simp only [cel] at r
       exfalso
       omega)
    | (have hI : invS (ρ.l 5) (ρ.l 0) (ρ.l 4) = true := by with_reducible assumption
       have hlow : low8 (ρ.l 0) = true := by with_reducible assumption
       have hQ : C17.invB (ρ.l 0) (C17.pairs 0 (ρ.l 0)) 64 = true := hlow
       have hO : ∀ row ∈ ρ.l 5, okRow KO row := hR.row 8 rfl rfl
       have hR1 : ∀ row ∈ ρ.l 4, okRow [.i .i64] row := hR.row 7 rfl rfl
       have r0 : 0 ≤ ρ.i 1 := by omega
       have r1 : ρ.i 1 < (ρ.l 4).length := by omega
       have r := (invS_iff.1 hI).cpu (ρ.i 1) r0 r1
       simp only [cel] at r
       omega)
end Go.SF.C21
namespace Go.SF.C21
open Go Go.SF Go.Proofs
set_option linter.unusedVariables false
set_option linter.unusedSimpArgs false

open Go.SF.C17
def rDp_1 : SA := .l (.v 0) .nil
def rDp_2 : SB := .app 132 rDp_1
def rDp_3 : SI := .sel (.v 4) (.v 1) 0
def rDp_4 : SI := .len (.v 4)
def rDp_5 : SI := .len (.v 0)
def rDp_6 : SI := .len (.v 5)
def rDp_7 : SI := .len (.v 14)
def rDp_8 : SI := .len (.v 15)
def rDp_9 : List SB := [.not (.le (.c 0) rDp_3), .not (.le rDp_4 (.v 1)), .not (.lt (.v 1) (.c 0)), .le (.c 1) rDp_5, .le rDp_5 (.c 8), .eq rDp_4 rDp_5, .le rDp_6 (.c 64), .le (.c 1) (.v 8), .le (.v 8) (.c 10000), .c true, .lt rDp_7 (.c 60000), .lt rDp_8 (.c 60000), .app 340 rDp_1, .app 332 (.l (.v 5) (.l (.v 0) (.l (.v 4) .nil)))]
def rDp_10 : Eqn := .T (.eq rDp_3 (.c (.negSucc 0)))
def rDp_11 : SA := .i (.v 1) .nil
def rDp_12 : SA := .l (.v 0) rDp_11
def rDp_13 : SI := .app 112 rDp_12
def rDp_14 : SA := .i (.c 0) .nil
def rDp_15 : SL := .app 258 (.l (.v 15) (.i rDp_13 (.i (.app 252 (.l (.v 15) (.i rDp_13 (.i (.v 8) (.i (.c 1) .nil))))) rDp_14)))
def rDp_16 : SI := .len rDp_15
def rDp_17 : SI := .add rDp_8 (.c 1)
def rDp_18 : SB := .lt (.app 250 (.l (.v 15) (.i rDp_13 rDp_14))) (.c 1)
def rDp_19 : SA := .i rDp_13 (.i (.c 2) rDp_11)
def rDp_20 : SL := .app 343 (.l (.v 5) (.l (.v 14) rDp_19))
def rDp_21 : SI := .len rDp_20
def rDp_22 : SL := .app 338 (.l (.v 5) (.l (.v 4) rDp_19))
def rDp_23 : SI := .len rDp_22
def rDp_24 : SL := .app 111 rDp_12
def rDp_25 : SL := .app 337 (.l (.v 5) (.l rDp_24 (.i rDp_13 (.i (.c 2) (.i (.v 1) rDp_14)))))
def rDp_26 : SI := .len rDp_25
def rDp_27 : SI := .len rDp_24
def rDp_28 : SB := .le (.c 0) rDp_13
def rDp_29 : SB := .lt rDp_13 rDp_6
def rDp_30 : SB := .app 340 (.l rDp_24 .nil)
def rDp_31 : SA := .i rDp_13 .nil
def rDp_32 : SB := .app 331 (.l (.v 5) rDp_31)
def rDp_33 : SI := .sel (.v 5) rDp_13 1
def rDp_34 : SB := .or (.not (.eq (.sel (.v 5) rDp_13 0) (.c 2))) (.and (.and (.le (.c 0) rDp_33) (.lt rDp_33 rDp_4)) (.eq (.sel (.v 4) rDp_33 0) rDp_13))
def rDp_35 : SI := .app 111 rDp_12
def rDp_36 : List SB := .eq rDp_27 rDp_5 :: .lt rDp_35 rDp_5 :: .le (.c 0) rDp_35 :: rDp_2 :: rDp_9
def rDp_37 : List SB := .le rDp_21 rDp_7 :: .eq rDp_23 rDp_4 :: .eq rDp_26 rDp_27 :: .eq (.len (.app 331 (.l (.v 5) rDp_19))) rDp_6 :: rDp_28 :: rDp_29 :: rDp_30 :: rDp_32 :: rDp_34 :: rDp_36
def rDp_38 : SL := .app 342 (.l (.v 15) (.i rDp_13 (.i (.v 8) .nil)))
def rDp_39 : SI := .len rDp_38
def rDp_40 : Eqn := .T (.le rDp_39 rDp_17)
def rDp_41 : SL := .app 4 (.l (.v 4) (.i (.v 1) (.i (.c 0) rDp_31)))
def rDp_42 : Eqn := .I (.len rDp_41) rDp_23
def rDp_43 : Eqn := .I rDp_27 rDp_26
def rDp_44 : Eqn := .I rDp_7 rDp_21
def rDp_45 : Eqn := .L rDp_41 rDp_22
def rDp_46 : Eqn := .L rDp_24 rDp_25
def rDp_47 : Eqn := .L (.v 14) rDp_20
def rDp_48 : List Eqn := [.T (.c false)]
set_option maxRecDepth 100000 in
theorem rDp_obs : callObs Φ Try.prog d2 1000 rDp.f rDp.vs rDp.o rDp.pc rDp.outs = some
  [⟨.not rDp_2 :: rDp_9, [rDp_10]⟩, ⟨.le rDp_16 rDp_17 :: rDp_18 :: rDp_37, [rDp_10, rDp_40, rDp_42, rDp_43, rDp_44, .I rDp_39 rDp_16, rDp_45, rDp_46, rDp_47, .L rDp_38 rDp_15]⟩, ⟨.not rDp_18 :: rDp_37, [rDp_10, rDp_40, rDp_42, rDp_43, rDp_44, .I rDp_39 rDp_8, rDp_45, rDp_46, rDp_47, .L rDp_38 (.v 15)]⟩, ⟨.not rDp_28 :: rDp_36, rDp_48⟩, ⟨.not rDp_29 :: rDp_36, rDp_48⟩, ⟨.not rDp_30 :: rDp_36, rDp_48⟩, ⟨.not rDp_32 :: rDp_36, rDp_48⟩, ⟨.not rDp_34 :: rDp_36, rDp_48⟩] := by kernel_rfl
theorem rDp_ok : rDp.ok Φ Try.prog := by
  refine call_rule (fun ρ => d2_ok ρ) rDp_obs ?_
  simp only [rDp_1, rDp_2, rDp_3, rDp_4, rDp_5, rDp_6, rDp_7, rDp_8, rDp_9, rDp_10, rDp_11, rDp_12, rDp_13, rDp_14, rDp_15, rDp_16, rDp_17, rDp_18, rDp_19, rDp_20, rDp_21, rDp_22, rDp_23, rDp_24, rDp_25, rDp_26, rDp_27, rDp_28, rDp_29, rDp_30, rDp_31, rDp_32, rDp_33, rDp_34, rDp_35, rDp_36, rDp_37, rDp_38, rDp_39, rDp_40, rDp_41, rDp_42, rDp_43, rDp_44, rDp_45, rDp_46, rDp_47, rDp_48, and_imp, List.forall_mem_cons, List.not_mem_nil, false_implies, implies_true, and_true, Ob.ok, holds, Eqn.ok, evB_eq, evB_lt, evB_le, evB_not, evB_and, evB_or, evB_app, evB_c, ev_sel, ev_len, ev_v, ev_c, ev_add, evL_v, evL_app, ev_app, evA_l, evA_i, evA_nil, std_set, negSucc_lit, decide_eq_true_eq, Bool.and_eq_true, Bool.or_eq_true, Bool.not_eq_true', Bool.and_eq_false_iff, Bool.or_eq_false_iff, decide_eq_false_iff_not, aL331, aL337, aL338, aB331, Bool.not_eq_false', aL343, aB340, aL342, aB332, Q.aB132, Q.aI112, Q.aI111, Q.aL111, T.aI250, T.aI252, T.aL258]
  repeat' apply And.intro
  all_goals intro ρ hR
  all_goals intros
  all_goals first
    | (have hI : invS (ρ.l 5) (ρ.l 0) (ρ.l 4) = true := by with_reducible assumption
       have hlow : low8 (ρ.l 0) = true := by with_reducible assumption
       have hQ : C17.invB (ρ.l 0) (C17.pairs 0 (ρ.l 0)) 64 = true := hlow
       have hO : ∀ row ∈ ρ.l 5, okRow KO row := hR.row 8 rfl rfl
       have hR1 : ∀ row ∈ ρ.l 4, okRow [.i .i64] row := hR.row 7 rfl rfl
       have r0 : 0 ≤ ρ.i 1 := by omega
       have r1 : ρ.i 1 < (ρ.l 4).length := by omega
       have rr := (invS_iff.1 hI).cpu (ρ.i 1) r0 r1
       simp only [cel] at rr
       omega)
    | (have hI : invS (ρ.l 5) (ρ.l 0) (ρ.l 4) = true := by with_reducible assumption
       have hlow : low8 (ρ.l 0) = true := by with_reducible assumption
       have hQ : C17.invB (ρ.l 0) (C17.pairs 0 (ρ.l 0)) 64 = true := hlow
       have hO : ∀ row ∈ ρ.l 5, okRow KO row := hR.row 8 rfl rfl
       have hR1 : ∀ row ∈ ρ.l 4, okRow [.i .i64] row := hR.row 7 rfl rfl
       have ha : C17.anyB (ρ.l 0) = true := by with_reducible assumption
       have a0 : 1 ≤ ((ρ.l 0).length : Int) := by omega
       have a1 : 0 ≤ ρ.i 1 := by omega
       have a2 : ρ.i 1 < (ρ.l 0).length := by omega
       have pi := pop_in hI a0 a1 a2 ha
       have r0 : 0 ≤ ρ.i 1 := by omega
       have r1 : ρ.i 1 < (ρ.l 4).length := by omega
       have rr := (invS_iff.1 hI).cpu (ρ.i 1) r0 r1
       simp only [cel] at rr
       have he : ((List.getD (ρ.l 4) (Int.toNat (ρ.i 1)) []).getD 0 0) = -1 := by omega
       have a3 : ρ.i 1 < (ρ.l 4).length := by omega
       have a4 : ((ρ.l 4).length : Int) = (ρ.l 0).length := by omega
       obtain ⟨v1, v2, v3⟩ := disp_doc (L := ρ.l 14) hI hQ hO hR1 a0 a4 a1 a3 he ha
       have w : C18.crG (ρ.l 15) (C17.popX (ρ.l 0) (ρ.i 1)) 0 < 1 := by omega
       rw [v1, v2, v3, dsD_yes w]
       try unfold rfD
       repeat' apply And.intro
       all_goals first
         | rfl
         | omega
         | with_reducible assumption
         | (rw [setC_len]; done))
    | (have hI : invS (ρ.l 5) (ρ.l 0) (ρ.l 4) = true := by with_reducible assumption
       have hlow : low8 (ρ.l 0) = true := by with_reducible assumption
       have hQ : C17.invB (ρ.l 0) (C17.pairs 0 (ρ.l 0)) 64 = true := hlow
       have hO : ∀ row ∈ ρ.l 5, okRow KO row := hR.row 8 rfl rfl
       have hR1 : ∀ row ∈ ρ.l 4, okRow [.i .i64] row := hR.row 7 rfl rfl
       have ha : C17.anyB (ρ.l 0) = true := by with_reducible assumption
       have a0 : 1 ≤ ((ρ.l 0).length : Int) := by omega
       have a1 : 0 ≤ ρ.i 1 := by omega
       have a2 : ρ.i 1 < (ρ.l 0).length := by omega
       have pi := pop_in hI a0 a1 a2 ha
       have r0 : 0 ≤ ρ.i 1 := by omega
       have r1 : ρ.i 1 < (ρ.l 4).length := by omega
       have rr := (invS_iff.1 hI).cpu (ρ.i 1) r0 r1
       simp only [cel] at rr
       have he : ((List.getD (ρ.l 4) (Int.toNat (ρ.i 1)) []).getD 0 0) = -1 := by omega
       have a3 : ρ.i 1 < (ρ.l 4).length := by omega
       have a4 : ((ρ.l 4).length : Int) = (ρ.l 0).length := by omega
       obtain ⟨v1, v2, v3⟩ := disp_doc (L := ρ.l 14) hI hQ hO hR1 a0 a4 a1 a3 he ha
       have w : ¬ C18.crG (ρ.l 15) (C17.popX (ρ.l 0) (ρ.i 1)) 0 < 1 := by omega
       rw [v1, v2, v3, dsD_no w]
       try unfold rfD
       repeat' apply And.intro
       all_goals first
         | rfl
         | omega
         | with_reducible assumption
         | (rw [setC_len]; done))
    | (have hI : invS (ρ.l 5) (ρ.l 0) (ρ.l 4) = true := by with_reducible assumption
       have hlow : low8 (ρ.l 0) = true := by with_reducible assumption
       have hQ : C17.invB (ρ.l 0) (C17.pairs 0 (ρ.l 0)) 64 = true := hlow
       have hO : ∀ row ∈ ρ.l 5, okRow KO row := hR.row 8 rfl rfl
       have hR1 : ∀ row ∈ ρ.l 4, okRow [.i .i64] row := hR.row 7 rfl rfl
       have ha : C17.anyB (ρ.l 0) = true := by with_reducible assumption
       have a0 : 1 ≤ ((ρ.l 0).length : Int) := by omega
       have a1 : 0 ≤ ρ.i 1 := by omega
       have a2 : ρ.i 1 < (ρ.l 0).length := by omega
       have pi := pop_in hI a0 a1 a2 ha
       have r0 : 0 ≤ ρ.i 1 := by omega
       have r1 : ρ.i 1 < (ρ.l 4).length := by omega
       have rr := (invS_iff.1 hI).cpu (ρ.i 1) r0 r1
       simp only [cel] at rr
       exfalso
       omega)
    | (have hI : invS (ρ.l 5) (ρ.l 0) (ρ.l 4) = true := by with_reducible assumption
       have hlow : low8 (ρ.l 0) = true := by with_reducible assumption
       have hQ : C17.invB (ρ.l 0) (C17.pairs 0 (ρ.l 0)) 64 = true := hlow
       have hO : ∀ row ∈ ρ.l 5, okRow KO row := hR.row 8 rfl rfl
       have hR1 : ∀ row ∈ ρ.l 4, okRow [.i .i64] row := hR.row 7 rfl rfl
       have ha : C17.anyB (ρ.l 0) = true := by with_reducible assumption
       have a0 : 1 ≤ ((ρ.l 0).length : Int) := by omega
       have a1 : 0 ≤ ρ.i 1 := by omega
       have a2 : ρ.i 1 < (ρ.l 0).length := by omega
       have pi := pop_in hI a0 a1 a2 ha
       have r0 : 0 ≤ ρ.i 1 := by omega
       have r1 : ρ.i 1 < (ρ.l 4).length := by omega
       have rr := (invS_iff.1 hI).cpu (ρ.i 1) r0 r1
       simp only [cel] at rr
       exfalso
       have h : low8 (popT (ρ.l 0) (ρ.i 1)) = false := by with_reducible assumption
       have g := low_pop hlow a0 a1 a2 ha
       rw [g] at h
       cases h)
    | (have hI : invS (ρ.l 5) (ρ.l 0) (ρ.l 4) = true := by with_reducible assumption
       have hlow : low8 (ρ.l 0) = true := by with_reducible assumption
       have hQ : C17.invB (ρ.l 0) (C17.pairs 0 (ρ.l 0)) 64 = true := hlow
       have hO : ∀ row ∈ ρ.l 5, okRow KO row := hR.row 8 rfl rfl
       have hR1 : ∀ row ∈ ρ.l 4, okRow [.i .i64] row := hR.row 7 rfl rfl
       have ha : C17.anyB (ρ.l 0) = true := by with_reducible assumption
       have a0 : 1 ≤ ((ρ.l 0).length : Int) := by omega
       have a1 : 0 ≤ ρ.i 1 := by omega
       have a2 : ρ.i 1 < (ρ.l 0).length := by omega
       have pi := pop_in hI a0 a1 a2 ha
       have r0 : 0 ≤ ρ.i 1 := by omega
       have r1 : ρ.i 1 < (ρ.l 4).length := by omega
       have rr := (invS_iff.1 hI).cpu (ρ.i 1) r0 r1
       simp only [cel] at rr
       have h : right8 (ρ.l 5) (C17.popX (ρ.l 0) (ρ.i 1)) = false := by with_reducible assumption
       have g : right8 (ρ.l 5) (C17.popX (ρ.l 0) (ρ.i 1)) = true := right_of hI hO pi.1 pi.2.1 (by omega)
       rw [g] at h
       cases h)
    | (have hI : invS (ρ.l 5) (ρ.l 0) (ρ.l 4) = true := by with_reducible assumption
       have hlow : low8 (ρ.l 0) = true := by with_reducible assumption
       have hQ : C17.invB (ρ.l 0) (C17.pairs 0 (ρ.l 0)) 64 = true := hlow
       have hO : ∀ row ∈ ρ.l 5, okRow KO row := hR.row 8 rfl rfl
       have hR1 : ∀ row ∈ ρ.l 4, okRow [.i .i64] row := hR.row 7 rfl rfl
       have ha : C17.anyB (ρ.l 0) = true := by with_reducible assumption
       have a0 : 1 ≤ ((ρ.l 0).length : Int) := by omega
       have a1 : 0 ≤ ρ.i 1 := by omega
       have a2 : ρ.i 1 < (ρ.l 0).length := by omega
       have pi := pop_in hI a0 a1 a2 ha
       have r0 : 0 ≤ ρ.i 1 := by omega
       have r1 : ρ.i 1 < (ρ.l 4).length := by omega
       have rr := (invS_iff.1 hI).cpu (ρ.i 1) r0 r1
       simp only [cel] at rr
       exfalso
       have g := pi.2.2
       simp only [cel] at g
       omega)
end Go.SF.C21
