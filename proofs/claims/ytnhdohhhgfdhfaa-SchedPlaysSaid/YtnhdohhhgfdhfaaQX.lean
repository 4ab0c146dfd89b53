/- Ints, plain, Running, and the document's New, shown. What is told and what comes of it is as the document says, call by call, shown. The law that all is as the document says, shown. -/
import Derived.Test.YtnhdohhhgfdhfaaCP
import Derived.Test.YtnhdohhhgfdhfaaPZ
import Derived.Test.YtnhdohhhgfdhfaaQM
import Derived.Test.YtnhdohhhgfdhfaaQE
import Derived.Test.YtnhdohhhgfdhfaaQD
import Derived.KernelRfl
import Derived.Test.YtnhdohhhgfdhfaaQU
import Derived.Test.YtnhdohhhgfdhfaaQK
namespace Go.SF.C21
open Go Go.SF Go.Proofs
set_option linter.unusedVariables false
set_option linter.unusedSimpArgs false

open Go.SF.C17
set_option maxRecDepth 100000 in
theorem in4_obs : loopObs Φ Try.prog noTbl 1000 in4.f (loopAt Try.prog in4.f in4.id) in4.n in4.T ki4 in4.outs = some
  [{pc := [.eq (.sel (.v 5) (.v 1) 0) (.sel (.v 6) (.v 1) 0), .lt (.v 1) (.len (.v 5)), .le (.c 0) (.v 1), .le (.v 1) (.len (.v 5)), .eq (.len (.v 5)) (.len (.v 6)), .le (.len (.v 5)) (.c 90000), .c true, .eqL (.app 1 (.l (.v 5) (.i (.v 1) .nil))) (.app 1 (.l (.v 6) (.i (.v 1) .nil)))], eqs := [.T (.lt (.sub (.len (.v 5)) (.add (.v 1) (.c 1))) (.sub (.len (.v 5)) (.v 1))), .T (.lt (.c 0) (.sub (.len (.v 5)) (.v 1))), .T (.eqL (.app 1 (.l (.v 5) (.i (.add (.v 1) (.c 1)) .nil))) (.app 1 (.l (.v 6) (.i (.add (.v 1) (.c 1)) .nil))))]}, {pc := [.not (.eq (.sel (.v 5) (.v 1) 0) (.sel (.v 6) (.v 1) 0)), .lt (.v 1) (.len (.v 5)), .le (.c 0) (.v 1), .le (.v 1) (.len (.v 5)), .eq (.len (.v 5)) (.len (.v 6)), .le (.len (.v 5)) (.c 90000), .c true, .eqL (.app 1 (.l (.v 5) (.i (.v 1) .nil))) (.app 1 (.l (.v 6) (.i (.v 1) .nil)))], eqs := [.T (.not (.eqL (.v 5) (.v 6)))]}, {pc := [.not (.lt (.v 1) (.len (.v 5))), .le (.c 0) (.v 1), .le (.v 1) (.len (.v 5)), .eq (.len (.v 5)) (.len (.v 6)), .le (.len (.v 5)) (.c 90000), .c true, .eqL (.app 1 (.l (.v 5) (.i (.v 1) .nil))) (.app 1 (.l (.v 6) (.i (.v 1) .nil)))], eqs := [.T (.eqL (.v 5) (.v 6))]}] := by kernel_rfl
theorem in4_ok : in4.ok Φ Try.prog := by
  refine ⟨by kernel_rfl, loop_rule (fun ρ => noTbl_ok) (loopAt_sub (by kernel_rfl)) in4_obs ?_⟩
  simp only [and_imp, List.forall_mem_cons, List.not_mem_nil, false_implies, implies_true, and_true, Ob.ok, holds, Eqn.ok, evB_eq, evB_lt, evB_le, evB_not, evB_eqL, evB_c, ev_sel, ev_len, ev_v, ev_c, ev_add, ev_sub, evL_v, evL_app, evA_l, evA_i, evA_nil, std_take, decide_eq_true_eq, Bool.not_eq_true', decide_eq_false_iff_not]
  repeat' apply And.intro
  all_goals intro ρ hR
  all_goals intros
  all_goals first
    | (have h : (List.take (Int.toNat (ρ.i 1)) (ρ.l 5)) = (List.take (Int.toNat (ρ.i 1)) (ρ.l 6)) := by with_reducible assumption
       have hl : ((ρ.l 5).length : Int) = (ρ.l 6).length := by omega
       have e : ((List.getD (ρ.l 5) (Int.toNat (ρ.i 1)) []).getD 0 0) = ((List.getD (ρ.l 6) (Int.toNat (ρ.i 1)) []).getD 0 0) := by with_reducible assumption
       exact ⟨by omega, by omega, take_step (hR.row 0 rfl rfl) (hR.row 1 rfl rfl) hl h (by omega) (by omega) e⟩)
    | (have e : ¬ ((List.getD (ρ.l 5) (Int.toNat (ρ.i 1)) []).getD 0 0) = ((List.getD (ρ.l 6) (Int.toNat (ρ.i 1)) []).getD 0 0) := by with_reducible assumption
       intro x
       rw [x] at e
       exact e rfl)
    | (have h : (List.take (Int.toNat (ρ.i 1)) (ρ.l 5)) = (List.take (Int.toNat (ρ.i 1)) (ρ.l 6)) := by with_reducible assumption
       have hl : ((ρ.l 5).length : Int) = (ρ.l 6).length := by omega
       exact take_end hl h (by omega))
theorem p0_ok (ρ : Env) : TblOK Φ ρ Try.prog p0 := addLp_ok noTbl_ok in4_ok
set_option maxRecDepth 100000 in
theorem cInts_obs : callObs Φ Try.prog p0 1000 cInts.f cInts.vs cInts.o cInts.pc cInts.outs = some
  [{pc := [.not (.eqL (.app 1 (.l (.v 5) (.i (.c 0) .nil))) (.app 1 (.l (.v 6) (.i (.c 0) .nil)))), .eq (.len (.v 5)) (.len (.v 6)), .le (.len (.v 5)) (.c 90000), .le (.len (.v 6)) (.c 90000)], eqs := [.T (.c false)]}, {pc := [.not (.eq (.len (.v 5)) (.len (.v 6))), .le (.len (.v 5)) (.c 90000), .le (.len (.v 6)) (.c 90000)], eqs := [.T (.not (.eqL (.v 5) (.v 6)))]}] := by kernel_rfl
theorem cInts_ok : cInts.ok Φ Try.prog := by
  refine call_rule (fun ρ => p0_ok ρ) cInts_obs ?_
  simp only [and_imp, List.forall_mem_cons, List.not_mem_nil, false_implies, implies_true, and_true, Ob.ok, holds, Eqn.ok, evB_eq, evB_le, evB_not, evB_eqL, evB_c, ev_len, ev_c, evL_v, evL_app, evA_l, evA_i, evA_nil, std_take, decide_eq_true_eq, Bool.not_eq_true', decide_eq_false_iff_not]
  repeat' apply And.intro
  all_goals intro ρ hR
  all_goals intros
  all_goals first
    | (exfalso
       have h : ¬ List.take (Int.toNat 0) (ρ.l 5) = List.take (Int.toNat 0) (ρ.l 6) := by with_reducible assumption
       exact h rfl)
    | (intro x
       have e : ¬ ((ρ.l 5).length : Int) = (ρ.l 6).length := by with_reducible assumption
       rw [x] at e
       exact e rfl)
set_option maxRecDepth 100000 in
theorem cPl_obs : callObs Φ Try.prog noTbl 1000 cPl.f cPl.vs cPl.o cPl.pc cPl.outs = some
  [] := by kernel_rfl
theorem cPl_ok : cPl.ok Φ Try.prog := by
  refine call_rule (fun ρ => noTbl_ok) cPl_obs ?_
  intro ob h; cases h
set_option maxRecDepth 100000 in
theorem cRn1_obs : callObs Φ Try.prog m3 1000 cRn1.f cRn1.vs cRn1.o cRn1.pc cRn1.outs = some
  [{pc := [.eq (.sel (.v 4) (.v 1) 0) (.c (.negSucc 0)), .le (.c 1) (.len (.v 0)), .le (.len (.v 0)) (.c 8), .eq (.len (.v 4)) (.len (.v 0)), .le (.len (.v 5)) (.c 64), .le (.c 1) (.v 8), .le (.v 8) (.c 10000), .le (.c 0) (.v 1), .lt (.v 1) (.len (.v 4)), .c true, .or (.eq (.sel (.v 4) (.v 1) 0) (.c (.negSucc 0))) (.le (.c 0) (.sel (.v 4) (.v 1) 0))], eqs := [.I (.app 1 (.i (.c 0) (.i (.sel (.v 4) (.v 1) 0) .nil))) (.c 0), .B (.le (.c 0) (.sel (.v 4) (.v 1) 0)) (.c false)]}, {pc := [.not (.eq (.sel (.v 4) (.v 1) 0) (.c (.negSucc 0))), .le (.c 1) (.len (.v 0)), .le (.len (.v 0)) (.c 8), .eq (.len (.v 4)) (.len (.v 0)), .le (.len (.v 5)) (.c 64), .le (.c 1) (.v 8), .le (.v 8) (.c 10000), .le (.c 0) (.v 1), .lt (.v 1) (.len (.v 4)), .c true, .or (.eq (.sel (.v 4) (.v 1) 0) (.c (.negSucc 0))) (.le (.c 0) (.sel (.v 4) (.v 1) 0))], eqs := [.I (.app 1 (.i (.c 0) (.i (.sel (.v 4) (.v 1) 0) .nil))) (.sel (.v 4) (.v 1) 0), .B (.le (.c 0) (.sel (.v 4) (.v 1) 0)) (.c true)]}] := by kernel_rfl
theorem cRn1_ok : cRn1.ok Φ Try.prog := by
  refine call_rule (fun ρ => m3_ok ρ) cRn1_obs ?_
  simp only [and_imp, List.forall_mem_cons, List.not_mem_nil, false_implies, implies_true, and_true, Ob.ok, holds, Eqn.ok, evB_eq, evB_lt, evB_le, evB_not, evB_or, evB_c, ev_sel, ev_len, ev_v, ev_c, evL_v, ev_app, evA_i, evA_nil, std_max, negSucc_lit, decide_eq_true_eq, Bool.or_eq_true, Bool.not_eq_true', decide_eq_false_iff_not]
  repeat' apply And.intro
  all_goals intro ρ hR
  all_goals intros
  all_goals first
    | (exact ⟨by omega, by omega⟩)
set_option maxRecDepth 100000 in
theorem nwR_obs : loopObs Φ Try.prog noTbl 1000 nwR.f (loopAt Try.prog nwR.f nwR.id) nwR.n nwR.T kN nwR.outs = some
  [{pc := [.lt (.v 1) (.v 0), .le (.c 0) (.v 1), .le (.v 1) (.v 0), .le (.c 1) (.v 0), .le (.v 0) (.c 8), .eq (.len (.v 4)) (.v 1), .c true, .eqL (.v 4) (.app 5 (.i (.v 1) (.i (.c (.negSucc 0)) .nil)))], eqs := [.T (.lt (.sub (.v 0) (.add (.v 1) (.c 1))) (.sub (.v 0) (.v 1))), .T (.lt (.c 0) (.sub (.v 0) (.v 1))), .T (.eqL (.app 0 (.l (.v 4) (.l (.lit [[Int.negSucc 0]]) .nil))) (.app 5 (.i (.add (.v 1) (.c 1)) (.i (.c (.negSucc 0)) .nil))))]}, {pc := [.not (.lt (.v 1) (.v 0)), .le (.c 0) (.v 1), .le (.v 1) (.v 0), .le (.c 1) (.v 0), .le (.v 0) (.c 8), .eq (.len (.v 4)) (.v 1), .c true, .eqL (.v 4) (.app 5 (.i (.v 1) (.i (.c (.negSucc 0)) .nil)))], eqs := [.T (.eq (.len (.app 5 (.i (.v 0) (.i (.c (.negSucc 0)) .nil)))) (.v 0)), .I (.len (.app 5 (.i (.v 0) (.i (.c (.negSucc 0)) .nil)))) (.len (.v 4)), .L (.app 5 (.i (.v 0) (.i (.c (.negSucc 0)) .nil))) (.v 4)]}] := by kernel_rfl
theorem nwR_ok : nwR.ok Φ Try.prog := by
  refine ⟨by kernel_rfl, loop_rule (fun ρ => noTbl_ok) (loopAt_sub (by kernel_rfl)) nwR_obs ?_⟩
  simp only [and_imp, List.forall_mem_cons, List.not_mem_nil, false_implies, implies_true, and_true, Ob.ok, holds, Eqn.ok, evB_eq, evB_lt, evB_le, evB_not, evB_eqL, evB_c, ev_len, ev_v, ev_c, ev_add, ev_sub, evL_v, evL_lit, evL_app, evA_l, evA_i, evA_nil, std_cat, std_rep, ints_cons, ints_nil, negSucc_lit, decide_eq_true_eq, Bool.not_eq_true', decide_eq_false_iff_not]
  repeat' apply And.intro
  all_goals intro ρ hR
  all_goals intros
  all_goals try simp only [show (-(0 + 1) : Int) = -1 from rfl] at *
  all_goals have h : ρ.l 4 = List.replicate (ρ.i 1).toNat [-1] := by with_reducible assumption
  all_goals repeat' apply And.intro
  all_goals first
    | omega
    | (rw [List.length_replicate]; omega)
    | (rw [h, show (ρ.i 1 + 1).toNat = (ρ.i 1).toNat + 1 by omega]; exact List.replicate_succ'.symm)
    | (rw [h, show (ρ.i 0).toNat = (ρ.i 1).toNat by omega])
end Go.SF.C21
namespace Go.SF.C21
open Go Go.SF Go.Proofs
set_option linter.unusedVariables false
set_option linter.unusedSimpArgs false

open Go.SF.C17
set_option maxRecDepth 8000
theorem l1_ok (ρ : Env) : TblOK Φ ρ Try.prog l1 := addFn_ok (addFn_ok (addFn_ok (addFn_ok (addFn_ok (addFn_ok (m6_ok ρ) cTk_ok) cAr_ok) cAd_ok) cOf_ok) cRn_ok) cQu_ok
theorem p1_ok (ρ : Env) : TblOK Φ ρ Try.prog p1 := addFn_ok (addFn_ok (addFn_ok (addFn_ok (addFn_ok (addFn_ok (addFn_ok (addFn_ok (addFn_ok (addFn_ok (addFn_ok (l1_ok ρ) cNw_ok) cInts_ok) cPl_ok) cRn1_ok) rDo_ok) rLe_ok) rDp_ok) rAr_ok) rAd_ok) rOf_ok) rTk_ok
def pw_1 : SI := .len (.v 5)
def pw_2 : SB := .le (.c 1) (.v 15)
def pw_3 : SB := .lt (.v 15) (.c 1)
def pw_4 : SB := .eq (.v 13) (.c 0)
def pw_5 : SI := .len (.v 0)
def pw_6 : SI := .len (.v 4)
def pw_7 : SI := .c 549755813888
def pw_8 : SI := .len (.v 2)
def pw_9 : SI := .len (.v 14)
def pw_10 : SI := .len (.v 15)
def pw_11 : SA := .i (.c 64) .nil
def pw_12 : SA := .l (.v 0) .nil
def pw_13 : SA := .l (.v 14) .nil
def pw_14 : SA := .i (.v 9) .nil
def pw_15 : SA := .i (.c 0) .nil
def pw_16 : List SB := [.le (.c 1) pw_5, .le pw_5 (.c 8), .eq pw_6 pw_5, .le pw_1 (.c 64), .le (.c 1) (.v 8), .le (.v 8) (.c 10000), .eq pw_5 (.v 11), .le (.c 0) (.v 18), .le (.c 0) (.v 9), .le (.v 9) pw_7, .lt (.v 18) (.c 80), .c true, .le pw_8 (.v 18), .lt pw_9 (.c 1000), .lt pw_10 (.c 1000), .app 130 (.l (.v 0) (.l (.v 1) pw_11)), .app 332 (.l (.v 5) (.l (.v 0) (.l (.v 4) .nil))), .app 340 pw_12, .app 250 (.l (.v 2) pw_13), .app 251 (.l (.v 3) (.l (.v 15) .nil)), .app 252 (.l (.v 2) pw_14), .app 252 (.l (.v 14) pw_15), .le pw_10 (.mul (.c 8) (.v 18))]
def pw_17 : List SB := .le (.v 15) (.c 16) :: pw_2 :: .or pw_3 (.lt (.c 16) (.v 15)) :: pw_4 :: pw_16
def pw_18 : List Eqn := [.T (.app 199 .nil)]
def pw_19 : SB := .eq pw_1 (.c 0)
def pw_20 : List SB := .eq (.len (.app 311 (.l (.v 5) (.i (.v 15) .nil)))) (.add pw_1 (.c 1)) :: .lt pw_1 (.c 64) :: pw_17
def pw_21 : SB := .lt (.v 14) (.c 0)
def pw_22 : SB := .or pw_21 (.le pw_1 (.v 14))
def pw_23 : SB := .and (.le (.c 2) (.v 15)) (.le (.v 15) (.c 4))
def pw_24 : SB := .not pw_23
def pw_25 : SB := .le (.v 15) (.c 8)
def pw_26 : SB := .eq (.v 13) (.c 1)
def pw_27 : List SB := .not pw_4 :: pw_16
def pw_28 : List SB := pw_26 :: pw_27
def pw_29 : List SB := pw_24 :: pw_25 :: pw_2 :: .or (.or pw_3 (.lt (.c 8) (.v 15))) pw_23 :: pw_28
def pw_30 : SA := .i (.v 15) pw_15
def pw_31 : SA := .i (.v 14) pw_30
def pw_32 : SA := .l (.v 5) pw_31
def pw_33 : SI := .app 340 pw_32
def pw_34 : SB := .eq pw_33 (.c 1)
def pw_35 : SL := .app 331 pw_32
def pw_36 : SL := .app 337 (.l (.v 5) (.l (.v 0) (.i (.v 14) (.i (.v 15) (.i (.c 0) (.i (.rem (.v 14) pw_6) .nil))))))
def pw_37 : SL := .app 338 (.l (.v 5) (.l (.v 4) pw_31))
def pw_38 : SB := .app 332 (.l pw_35 (.l pw_36 (.l pw_37 .nil)))
def pw_39 : SB := .app 340 (.l pw_36 .nil)
def pw_40 : SL := .app 343 (.l (.v 5) (.l (.v 14) pw_31))
def pw_41 : SB := .le (.len pw_40) pw_9
def pw_42 : SI := .len pw_37
def pw_43 : SB := .eq pw_42 pw_6
def pw_44 : SI := .len pw_36
def pw_45 : SB := .eq pw_44 pw_5
def pw_46 : SI := .len pw_35
def pw_47 : SB := .eq pw_46 pw_1
def pw_48 : SB := .lt (.v 14) pw_1
def pw_49 : SB := .le (.c 0) (.v 14)
def pw_50 : List SB := pw_38 :: pw_39 :: pw_41 :: pw_43 :: pw_45 :: pw_47 :: pw_48 :: pw_49 :: pw_29
def pw_51 : SA := .l pw_40 .nil
def pw_52 : List Eqn := [.T (.app 250 (.l (.v 2) pw_51)), .I pw_1 pw_46, .I pw_6 pw_42, .I pw_5 pw_44, .L (.v 4) pw_37, .L (.v 5) pw_35, .L (.v 0) pw_36]
def pw_53 : SB := .eq pw_33 (.c 4)
def pw_54 : List SB := pw_24 :: pw_25 :: pw_2 :: pw_28
def pw_55 : List SB := pw_38 :: pw_39 :: pw_41 :: pw_43 :: pw_45 :: pw_47 :: pw_48 :: pw_49 :: pw_22 :: pw_54
def pw_56 : SA := .l (.v 1000) pw_11
def pw_57 : SL := .app 339 (.l (.v 5) (.l (.v 2) pw_31))
def pw_58 : SI := .sel (.v 4) (.v 14) 0
def pw_59 : SB := .eq pw_58 (.c (.negSucc 0))
def pw_60 : SB := .not pw_59
def pw_61 : SB := .lt (.v 14) pw_6
def pw_62 : SB := .or pw_21 (.le pw_6 (.v 14))
def pw_63 : SB := .eq (.v 13) (.c 2)
def pw_64 : List SB := .not pw_26 :: pw_27
def pw_65 : List SB := pw_63 :: pw_64
def pw_66 : List SB := pw_61 :: pw_49 :: pw_62 :: pw_65
def pw_67 : SB := .app 132 pw_12
def pw_68 : List SB := pw_59 :: pw_66
def pw_69 : SA := .i (.v 14) .nil
def pw_70 : SA := .l (.v 0) pw_69
def pw_71 : SI := .app 112 pw_70
def pw_72 : SB := .eq pw_71 (.c 0)
def pw_73 : SA := .i pw_71 (.i (.v 8) .nil)
def pw_74 : SL := .app 342 (.l (.v 15) pw_73)
def pw_75 : SB := .le (.len pw_74) (.add pw_10 (.c 1))
def pw_76 : SL := .app 111 pw_70
def pw_77 : SB := .eq (.len pw_76) pw_5
def pw_78 : SL := .app 331 (.l (.v 5) (.i pw_71 (.i (.c 2) pw_69)))
def pw_79 : SB := .eq (.len pw_78) pw_1
def pw_80 : SB := .lt pw_71 pw_1
def pw_81 : SB := .le (.c 0) pw_71
def pw_82 : List SB := pw_75 :: pw_77 :: pw_79 :: pw_80 :: pw_81 :: pw_67 :: pw_68
def pw_83 : SB := .eq (.v 15) (.c 4)
def pw_84 : SB := .not pw_83
def pw_85 : SB := .eq (.v 15) (.c 3)
def pw_86 : SB := .not pw_85
def pw_87 : SB := .eq (.v 13) (.c 3)
def pw_88 : List SB := .not pw_63 :: pw_64
def pw_89 : List SB := .or pw_85 pw_83 :: pw_87 :: pw_88
def pw_90 : List SB := pw_62 :: pw_89
def pw_91 : List SB := pw_61 :: pw_49 :: pw_90
def pw_92 : SA := .i pw_58 pw_30
def pw_93 : SA := .l (.v 5) pw_92
def pw_94 : SI := .app 340 pw_93
def pw_95 : SB := .eq pw_94 (.c 2)
def pw_96 : SL := .app 331 pw_93
def pw_97 : SL := .app 337 (.l (.v 5) (.l (.v 0) (.i pw_58 (.i (.v 15) (.i (.c 0) pw_69)))))
def pw_98 : SL := .app 338 (.l (.v 5) (.l (.v 4) pw_92))
def pw_99 : SB := .app 332 (.l pw_96 (.l pw_97 (.l pw_98 .nil)))
def pw_100 : SB := .app 340 (.l pw_97 .nil)
def pw_101 : SL := .app 343 (.l (.v 5) (.l (.v 14) pw_92))
def pw_102 : SB := .le (.len pw_101) pw_9
def pw_103 : SI := .len pw_98
def pw_104 : SB := .eq pw_103 pw_6
def pw_105 : SI := .len pw_97
def pw_106 : SB := .eq pw_105 pw_5
def pw_107 : SI := .len pw_96
def pw_108 : SB := .eq pw_107 pw_1
def pw_109 : SB := .lt pw_58 pw_1
def pw_110 : SB := .le (.c 0) pw_58
def pw_111 : List SB := pw_99 :: pw_100 :: pw_102 :: pw_104 :: pw_106 :: pw_108 :: pw_109 :: pw_110 :: pw_60 :: pw_91
def pw_112 : SA := .l pw_101 .nil
def pw_113 : List SB := pw_61 :: pw_49 :: pw_89
def pw_114 : SB := .eq pw_94 (.c 1)
def pw_115 : SL := .app 339 (.l (.v 5) (.l (.v 2) pw_92))
def pw_116 : List SB := pw_99 :: .app 130 (.l pw_97 pw_56) :: .le (.len pw_115) pw_8 :: pw_104 :: pw_106 :: pw_108 :: pw_109 :: pw_110 :: pw_60 :: pw_113
def pw_117 : List SB := pw_84 :: pw_86 :: pw_116
def pw_118 : Eqn := .T (.app 252 (.l pw_115 pw_14))
def pw_119 : SA := .i (.v 14) (.i (.v 16) (.i (.v 17) pw_14))
def pw_120 : SB := .eq (.app 210 pw_119) (.c 4)
def pw_121 : SL := .app 252 (.l (.v 14) pw_119)
def pw_122 : SI := .len pw_121
def pw_123 : SB := .le pw_122 (.add pw_9 (.c 1))
def pw_124 : SB := .eq (.sel (.v 5) (.v 14) 0) (.c 5)
def pw_125 : SB := .not pw_124
def pw_126 : SB := .eq (.v 13) (.c 4)
def pw_127 : List SB := .not pw_87 :: pw_88
def pw_128 : List SB := pw_126 :: pw_127
def pw_129 : List SB := pw_123 :: pw_125 :: pw_48 :: pw_49 :: .or pw_22 pw_124 :: pw_128
def pw_130 : Eqn := .T (.lt pw_122 (.c 1000))
def pw_131 : SA := .l pw_121 .nil
def pw_132 : SL := .app 210 (.l (.v 2) pw_119)
def pw_133 : SA := .l (.lit []) (.i (.c 0) (.i (.sub (.v 16) (.v 9)) .nil))
def pw_134 : SA := .l (.v 5) (.l (.v 0) (.l (.v 4) (.l (.v 15) pw_133)))
def pw_135 : SA := .i (.v 16) .nil
def pw_136 : SA := .l (.v 14) pw_135
def pw_137 : SA := .l (.lit []) pw_15
def pw_138 : SA := .l (.app 360 pw_134) (.l (.app 361 pw_134) (.l (.app 362 pw_134) (.l (.app 254 pw_136) pw_137)))
def pw_139 : SL := .app 358 pw_138
def pw_140 : SB := .eqL (.lit []) pw_139
def pw_141 : SL := .app 364 pw_134
def pw_142 : SB := .eqL (.lit []) pw_141
def pw_143 : SL := .app 356 pw_138
def pw_144 : SB := .app 340 (.l pw_143 .nil)
def pw_145 : SL := .app 363 pw_134
def pw_146 : SB := .le (.len pw_145) (.add pw_10 (.c 8))
def pw_147 : SB := .lt (.len pw_139) (.c 80000)
def pw_148 : SB := .le (.len pw_141) (.c 8)
def pw_149 : SL := .app 357 pw_138
def pw_150 : SI := .len pw_149
def pw_151 : SB := .eq pw_150 pw_6
def pw_152 : SI := .len pw_143
def pw_153 : SB := .eq pw_152 pw_5
def pw_154 : SL := .app 355 pw_138
def pw_155 : SI := .len pw_154
def pw_156 : SB := .eq pw_155 pw_1
def pw_157 : SB := .le (.v 16) pw_7
def pw_158 : SB := .le (.v 9) (.v 16)
def pw_159 : List SB := .not pw_126 :: pw_127
def pw_160 : List SB := pw_144 :: pw_146 :: pw_147 :: pw_148 :: pw_151 :: pw_153 :: pw_156 :: pw_157 :: pw_158 :: .or (.lt (.v 16) (.v 9)) (.lt pw_7 (.v 16)) :: pw_159
def pw_161 : List SB := pw_142 :: pw_160
def pw_162 : SA := .l (.v 5) (.l (.v 0) (.l (.v 4) (.l (.v 3) pw_133)))
def pw_163 : SA := .l (.v 2) pw_135
def pw_164 : SA := .l (.app 350 pw_162) (.l (.app 351 pw_162) (.l (.app 352 pw_162) (.l (.app 224 pw_163) pw_137)))
def pw_165 : SL := .app 358 pw_164
def pw_166 : SB := .eqL pw_165 pw_139
def pw_167 : SL := .app 354 pw_162
def pw_168 : SB := .eqL pw_167 pw_141
def pw_169 : SL := .app 355 pw_164
def pw_170 : SL := .app 356 pw_164
def pw_171 : SL := .app 357 pw_164
def pw_172 : SL := .app 225 pw_163
def pw_173 : SI := .len pw_171
def pw_174 : SI := .len pw_170
def pw_175 : SI := .len pw_169
def pw_176 : List SB := pw_144 :: pw_146 :: pw_147 :: pw_148 :: pw_151 :: pw_153 :: pw_156 :: .app 332 (.l pw_169 (.l pw_170 (.l pw_171 .nil))) :: .app 130 (.l pw_170 pw_56) :: .lt (.len pw_165) (.c 80000) :: .le (.len pw_167) (.c 8) :: .le (.len pw_172) pw_8 :: .eq pw_173 pw_6 :: .eq pw_174 pw_5 :: .eq pw_175 pw_1 :: pw_157 :: pw_158 :: pw_159
def pw_177 : List SB := pw_168 :: pw_176
def pw_178 : SL := .app 253 pw_136
set_option maxRecDepth 100000 in
theorem pw_obs : partObs Φ Try.prog p1 1000 pw.f (loopAt Try.prog pw.f pw.id) pw.n pw.T pw.outs = some
  [⟨.eq pw_1 (.c 64) :: pw_17, pw_18⟩, ⟨pw_19 :: pw_20, pw_18⟩, ⟨.not pw_19 :: pw_20, pw_18⟩, ⟨pw_22 :: pw_29, pw_18⟩, ⟨pw_34 :: pw_50, pw_52⟩, ⟨.not pw_34 :: pw_50, pw_18⟩, ⟨pw_53 :: pw_55, pw_52⟩, ⟨.not pw_53 :: pw_55, pw_18⟩, ⟨pw_39 :: pw_41 :: pw_38 :: .app 130 (.l pw_36 pw_56) :: .le (.len pw_57) pw_8 :: pw_43 :: pw_45 :: pw_47 :: pw_48 :: pw_49 :: pw_54, [.T (.app 250 (.l pw_57 pw_51)), .T (.app 252 (.l pw_57 pw_14))]⟩, ⟨pw_60 :: pw_66, pw_18⟩, ⟨.not pw_67 :: pw_68, pw_18⟩, ⟨pw_72 :: pw_82, pw_18⟩, ⟨.not pw_72 :: pw_82, pw_18⟩, ⟨pw_75 :: .app 332 (.l pw_78 (.l pw_76 (.l (.app 4 (.l (.v 4) (.i (.v 14) (.i (.c 0) (.i pw_71 .nil))))) .nil))) :: .app 130 (.l pw_76 pw_56) :: pw_77 :: pw_79 :: pw_80 :: pw_81 :: pw_67 :: pw_59 :: pw_61 :: pw_49 :: pw_65, [.T (.app 340 (.l pw_76 .nil)), .T (.app 251 (.l (.app 341 (.l (.v 3) pw_73)) (.l pw_74 .nil)))]⟩, ⟨pw_84 :: pw_86 :: pw_90, pw_18⟩, ⟨pw_59 :: pw_91, pw_18⟩, ⟨pw_95 :: pw_111, [.T (.app 250 (.l (.v 2) pw_112)), .I pw_1 pw_107, .I pw_6 pw_103, .I pw_5 pw_105, .L (.v 4) pw_98, .L (.v 5) pw_96, .L (.v 0) pw_97]⟩, ⟨.not pw_95 :: pw_111, pw_18⟩, ⟨pw_84 :: pw_86 :: pw_59 :: pw_113, pw_18⟩, ⟨pw_114 :: pw_117, [.T pw_100, .T (.app 250 (.l pw_115 pw_13)), pw_118, .I pw_107 pw_1, .I pw_103 pw_6, .I pw_105 pw_5, .L pw_98 (.v 4), .L pw_96 (.v 5), .L pw_97 (.v 0)]⟩, ⟨.not pw_114 :: pw_117, pw_18⟩, ⟨pw_100 :: pw_102 :: pw_116, [.T (.app 250 (.l pw_115 pw_112)), pw_118]⟩, ⟨pw_120 :: pw_129, [pw_130, .T (.app 250 (.l (.v 2) pw_131))]⟩, ⟨.not pw_120 :: pw_129, pw_18⟩, ⟨pw_123 :: .le (.len pw_132) (.add pw_8 (.c 1)) :: pw_125 :: pw_48 :: pw_49 :: pw_128, [pw_130, .T (.app 250 (.l pw_132 pw_131)), .T (.app 252 (.l pw_132 pw_14))]⟩, ⟨pw_140 :: pw_161, pw_18⟩, ⟨.not pw_140 :: pw_161, pw_18⟩, ⟨.not pw_142 :: pw_160, pw_18⟩, ⟨pw_166 :: pw_177, [.T (.lt (.len pw_178) (.c 1000)), .T (.app 340 (.l pw_170 .nil)), .T (.app 250 (.l pw_172 (.l pw_178 .nil))), .T (.app 251 (.l (.app 353 pw_162) (.l pw_145 .nil))), .T (.app 252 (.l pw_172 pw_135)), .I pw_175 pw_155, .I pw_173 pw_150, .I pw_174 pw_152, .L pw_171 pw_149, .L pw_169 pw_154, .L pw_170 pw_143]⟩, ⟨.not pw_166 :: pw_177, pw_18⟩, ⟨.not pw_168 :: pw_176, pw_18⟩] := by kernel_rfl
set_option maxHeartbeats 4000000 in
theorem pw_ok : pw.ok Φ Try.prog := by
  refine ⟨by kernel_rfl, part_rule (fun ρ => p1_ok ρ) (loopAt_sub (by kernel_rfl)) pw_obs ?_⟩
  simp only [pw_1, pw_2, pw_3, pw_4, pw_5, pw_6, pw_7, pw_8, pw_9, pw_10, pw_11, pw_12, pw_13, pw_14, pw_15, pw_16, pw_17, pw_18, pw_19, pw_20, pw_21, pw_22, pw_23, pw_24, pw_25, pw_26, pw_27, pw_28, pw_29, pw_30, pw_31, pw_32, pw_33, pw_34, pw_35, pw_36, pw_37, pw_38, pw_39, pw_40, pw_41, pw_42, pw_43, pw_44, pw_45, pw_46, pw_47, pw_48, pw_49, pw_50, pw_51, pw_52, pw_53, pw_54, pw_55, pw_56, pw_57, pw_58, pw_59, pw_60, pw_61, pw_62, pw_63, pw_64, pw_65, pw_66, pw_67, pw_68, pw_69, pw_70, pw_71, pw_72, pw_73, pw_74, pw_75, pw_76, pw_77, pw_78, pw_79, pw_80, pw_81, pw_82, pw_83, pw_84, pw_85, pw_86, pw_87, pw_88, pw_89, pw_90, pw_91, pw_92, pw_93, pw_94, pw_95, pw_96, pw_97, pw_98, pw_99, pw_100, pw_101, pw_102, pw_103, pw_104, pw_105, pw_106, pw_107, pw_108, pw_109, pw_110, pw_111, pw_112, pw_113, pw_114, pw_115, pw_116, pw_117, pw_118, pw_119, pw_120, pw_121, pw_122, pw_123, pw_124, pw_125, pw_126, pw_127, pw_128, pw_129, pw_130, pw_131, pw_132, pw_133, pw_134, pw_135, pw_136, pw_137, pw_138, pw_139, pw_140, pw_141, pw_142, pw_143, pw_144, pw_145, pw_146, pw_147, pw_148, pw_149, pw_150, pw_151, pw_152, pw_153, pw_154, pw_155, pw_156, pw_157, pw_158, pw_159, pw_160, pw_161, pw_162, pw_163, pw_164, pw_165, pw_166, pw_167, pw_168, pw_169, pw_170, pw_171, pw_172, pw_173, pw_174, pw_175, pw_176, pw_177, pw_178, and_imp, List.forall_mem_cons, List.not_mem_nil, false_implies, implies_true, and_true, Ob.ok, holds, Eqn.ok, evB_eq, evB_lt, evB_le, evB_not, evB_and, evB_or, evB_eqL, evB_app, evB_c, ev_sel, ev_len, ev_v, ev_c, ev_add, ev_sub, ev_mul, ev_rem, evL_v, evL_lit, evL_app, ev_app, evA_l, evA_i, evA_nil, std_set, negSucc_lit, decide_eq_true_eq, Bool.and_eq_true, Bool.or_eq_true, Bool.not_eq_true', Bool.and_eq_false_iff, decide_eq_false_iff_not, aL331, aL337, aL338, aL339, aI340, aB199, Q.aB130, aL343, aB340, aL342, aB332, Q.aB132, Q.aI112, Q.aL111, Q.aB130, T.aI210, T.aL210, T.aL224, T.aL225, T.aL252, T.aL253, T.aL254, T.aB250, T.aB251, T.aB252, aL311, aL341, aL350, aL351, aL352, aL353, aL354, aL355, aL356, aL357, aL358, aL360, aL361, aL362, aL363, aL364]
  repeat' apply And.intro
  all_goals intro ρ hR
  all_goals intros
  all_goals first
    | (exfalso
       have k1 : ρ.i 16 < ρ.i 9 ∨ 549755813888 < ρ.i 16 := by with_reducible assumption
       have k2 : ρ.i 9 ≤ ρ.i 16 := by with_reducible assumption
       have k3 : ρ.i 16 ≤ 549755813888 := by with_reducible assumption
       exact absurd (bad_time k1 k2 k3) id)
    | (exfalso
       have his : C18.isB (ρ.l 2) (ρ.l 14) = true := by with_reducible assumption
       have htm : C18.timB (ρ.l 2) (ρ.i 9) = true := by with_reducible assumption
       have hcr : C18.crB (ρ.l 3) (ρ.l 15) = true := by with_reducible assumption
       obtain ⟨v1, v2, v3, v4, v5⟩ := tkD_same (O := ρ.l 5) (A := ρ.l 0) (R := ρ.l 4) (L := []) (c := 0) (t := ρ.i 16 - ρ.i 9) hcr
       have hf := C18.is_out (now := ρ.i 16) his
       simp only [v1, v2, v3, v4, ← hf, not_true_eq_false] at *
       done)
    | (have his : C18.isB (ρ.l 2) (ρ.l 14) = true := by with_reducible assumption
       have htm : C18.timB (ρ.l 2) (ρ.i 9) = true := by with_reducible assumption
       have hcr : C18.crB (ρ.l 3) (ρ.l 15) = true := by with_reducible assumption
       obtain ⟨v1, v2, v3, v4, v5⟩ := tkD_same (O := ρ.l 5) (A := ρ.l 0) (R := ρ.l 4) (L := []) (c := 0) (t := ρ.i 16 - ρ.i 9) hcr
       have hf := C18.is_out (now := ρ.i 16) his
       simp only [v1, v2, v3, v4, ← hf] at *
       have k1 : ((ρ.l 2).length : Int) ≤ ρ.i 18 := by with_reducible assumption
       have k2 : ρ.i 18 < 80 := by with_reducible assumption
       have k3 : 0 ≤ ρ.i 9 := by with_reducible assumption
       have k4 : ρ.i 9 ≤ ρ.i 16 := by with_reducible assumption
       have k5 : ρ.i 16 ≤ 549755813888 := by with_reducible assumption
       repeat' apply And.intro
       all_goals first
         | with_reducible rfl
         | with_reducible assumption
         | exact tck_small k1 k2 his
         | exact C18.is_tick his
         | exact C18.tim_tick htm k3 k4 k5)
    | (exfalso
       omega)
    | (have his : C18.isB (ρ.l 2) (ρ.l 14) = true := by with_reducible assumption
       have htm : C18.timB (ρ.l 2) (ρ.i 9) = true := by with_reducible assumption
       exact ⟨is_ev his, tim_ev htm⟩)
    | (have hcr : C18.crB (ρ.l 3) (ρ.l 15) = true := by with_reducible assumption
       have hlow : low8 (ρ.l 0) = true := by with_reducible assumption
       have ha : C17.anyB (ρ.l 0) = true := by with_reducible assumption
       exact ⟨low_pop hlow (by omega) (by omega) (by omega) ha, cr_ds hcr⟩)
    | (have his : C18.isB (ρ.l 2) (ρ.l 14) = true := by with_reducible assumption
       have htm : C18.timB (ρ.l 2) (ρ.i 9) = true := by with_reducible assumption
       exact ⟨arm_len his (by omega), C18.is_arm his, C18.tim_arm htm⟩)
end Go.SF.C21
namespace Go.SF.C21
open Go Go.SF Go.Proofs
set_option linter.unusedVariables false
set_option linter.unusedSimpArgs false

open Go.SF.C17
set_option maxRecDepth 8000
theorem p2_ok (ρ : Env) : TblOK Φ ρ Try.prog p2 := addLp_ok (p1_ok ρ) pw_ok
def p36_1 : SI := .len (.v 5)
def p36_2 : SI := .len (.v 0)
def p36_3 : List SB := [.lt (.v 1) (.c 20), .le (.v 1) p36_1, .le (.c 1) p36_2, .le p36_2 (.c 8), .eq (.len (.v 4)) p36_2, .le p36_1 (.c 64), .le (.c 1) (.v 8), .le (.v 8) (.c 10000), .eq p36_2 (.v 11), .le (.c 0) (.v 18), .le (.c 0) (.v 9), .le (.v 9) (.c 549755813888), .le (.c (.negSucc 0)) (.v 1), .le (.v 1) (.c 20), .c true, .lt (.len (.v 14)) (.c 1000), .lt (.len (.v 15)) (.c 1000), .app 130 (.l (.v 0) (.l (.v 1) (.i (.c 64) .nil))), .app 332 (.l (.v 5) (.l (.v 0) (.l (.v 4) .nil))), .app 251 (.l (.v 3) (.l (.v 15) .nil))]
def p36_4 : List SB := .or (.lt (.v 1) (.c 0)) (.le p36_1 (.v 1)) :: p36_3
def p36_5 : List Eqn := [.T (.lt (.sub (.c 20) (.add (.v 1) (.c 1))) (.sub (.c 20) (.v 1)))]
def p36_6 : SB := .eq (.sel (.v 5) (.v 1) 9) (.c 0)
def p36_7 : SI := .app 250 (.l (.v 15) (.i (.v 1) (.i (.c 0) .nil)))
def p36_8 : SB := .eq p36_7 (.c 0)
def p36_9 : SB := .eq (.sel (.v 5) (.v 1) 7) (.c 0)
def p36_10 : SB := .eq (.sel (.v 5) (.v 1) 6) (.c 0)
def p36_11 : SB := .eq (.sel (.v 5) (.v 1) 5) (.c 0)
def p36_12 : SB := .eq (.sel (.v 5) (.v 1) 4) (.c 0)
def p36_13 : SB := .eq (.sel (.v 5) (.v 1) 3) (.c 0)
def p36_14 : SB := .eq (.sel (.v 5) (.v 1) 2) (.c 0)
def p36_15 : SB := .eq (.sel (.v 5) (.v 1) 1) (.c 0)
def p36_16 : SB := .eq (.sel (.v 5) (.v 1) 0) (.c 0)
def p36_17 : SB := .lt (.v 1) p36_1
def p36_18 : SB := .le (.c 0) (.v 1)
def p36_19 : List SB := p36_17 :: p36_18 :: p36_4
def p36_20 : List SB := p36_16 :: p36_19
def p36_21 : List SB := p36_15 :: p36_20
def p36_22 : List SB := p36_14 :: p36_21
def p36_23 : List SB := p36_13 :: p36_22
def p36_24 : List SB := p36_12 :: p36_23
def p36_25 : List SB := p36_11 :: p36_24
def p36_26 : List SB := p36_10 :: p36_25
def p36_27 : List SB := p36_9 :: p36_26
def p36_28 : List SB := p36_8 :: p36_27
def p36_29 : List Eqn := [.T (.app 199 .nil)]
def p36_30 : SB := .eq (.sel (.app 6 (.l (.v 3) (.i (.v 1) .nil))) (.c 0) 1) p36_7
def p36_31 : List SB := p36_17 :: p36_18 :: p36_3
set_option maxRecDepth 100000 in
theorem p36_obs : loopObs Φ Try.prog p2 1000 p36.f (loopAt Try.prog p36.f p36.id) p36.n p36.T kp36 p36.outs = some
  [⟨p36_4, p36_5⟩, ⟨p36_6 :: p36_28, p36_29⟩, ⟨.not p36_6 :: p36_28, p36_29⟩, ⟨.not p36_8 :: p36_27, p36_29⟩, ⟨.not p36_9 :: p36_26, p36_29⟩, ⟨.not p36_10 :: p36_25, p36_29⟩, ⟨.not p36_11 :: p36_24, p36_29⟩, ⟨.not p36_12 :: p36_23, p36_29⟩, ⟨.not p36_13 :: p36_22, p36_29⟩, ⟨.not p36_14 :: p36_21, p36_29⟩, ⟨.not p36_15 :: p36_20, p36_29⟩, ⟨.not p36_16 :: p36_19, p36_29⟩, ⟨p36_30 :: p36_31, p36_5⟩, ⟨.not p36_30 :: p36_31, p36_29⟩] := by kernel_rfl
theorem p36_ok : p36.ok Φ Try.prog := by
  refine ⟨by kernel_rfl, loop_rule (fun ρ => p2_ok ρ) (loopAt_sub (by kernel_rfl)) p36_obs ?_⟩
  simp only [p36_1, p36_2, p36_3, p36_4, p36_5, p36_6, p36_7, p36_8, p36_9, p36_10, p36_11, p36_12, p36_13, p36_14, p36_15, p36_16, p36_17, p36_18, p36_19, p36_20, p36_21, p36_22, p36_23, p36_24, p36_25, p36_26, p36_27, p36_28, p36_29, p36_30, p36_31, and_imp, List.forall_mem_cons, List.not_mem_nil, false_implies, implies_true, and_true, Ob.ok, holds, Eqn.ok, evB_eq, evB_lt, evB_le, evB_not, evB_or, evB_app, evB_c, ev_sel, ev_len, ev_v, ev_c, ev_add, ev_sub, evL_v, evL_app, ev_app, evA_l, evA_i, evA_nil, std_find, negSucc_lit, decide_eq_true_eq, Bool.or_eq_true, Bool.not_eq_true', decide_eq_false_iff_not, aB199, Q.aB130, aB332, Q.aB130, T.aI250, T.aB251]
  repeat' apply And.intro
  all_goals intro ρ hR
  all_goals intros
  all_goals first
    | (omega)
    | (exfalso
       omega)
    | (have hcr : C18.crB (ρ.l 3) (ρ.l 15) = true := by with_reducible assumption
       have e : C18.crG (ρ.l 15) (ρ.i 1) 0 = (List.getD (findK (ρ.l 3) (ρ.i 1)) (Int.toNat 0) []).getD 1 0 := C18.cr_now hcr
       exfalso
       omega)
    | (exact ⟨by omega, by omega⟩)
theorem p3_ok (ρ : Env) : TblOK Φ ρ Try.prog p3 := addLp_ok (p2_ok ρ) p36_ok
def pb6_1 : SI := .sel (.v 4) (.v 1) 0
def pb6_2 : SB := .le (.c 0) pb6_1
def pb6_3 : SI := .len (.v 0)
set_option maxRecDepth 100000 in
theorem pb6_obs : partObs Φ Try.prog p3 1000 pb6.f (loopAt Try.prog pb6.f pb6.id) pb6.n pb6.T pb6.outs = some
  [⟨[.not (.eq (.app 1 (.i (.c 0) (.i pb6_1 .nil))) pb6_1), pb6_2, .le (.c 1) pb6_3, .le pb6_3 (.c 8), .eq (.len (.v 4)) pb6_3, .le (.len (.v 5)) (.c 64), .le (.c 1) (.v 8), .le (.v 8) (.c 10000), .eq pb6_3 (.v 11), .le (.c 0) (.v 1), .lt (.v 1) pb6_3, .c true, .app 130 (.l (.v 0) (.l (.v 1) (.i (.c 64) .nil))), .and (.c true) (.or pb6_2 (.eq pb6_1 (.c (.negSucc 0))))], [.T (.app 199 .nil)]⟩] := by kernel_rfl
theorem pb6_ok : pb6.ok Φ Try.prog := by
  refine ⟨by kernel_rfl, part_rule (fun ρ => p3_ok ρ) (loopAt_sub (by kernel_rfl)) pb6_obs ?_⟩
  simp only [pb6_1, pb6_2, pb6_3, and_imp, List.forall_mem_cons, List.not_mem_nil, false_implies, implies_true, and_true, Ob.ok, holds, Eqn.ok, evB_eq, evB_lt, evB_le, evB_not, evB_and, evB_or, evB_app, evB_c, ev_sel, ev_len, ev_v, ev_c, evL_v, ev_app, evA_l, evA_i, evA_nil, std_max, negSucc_lit, decide_eq_true_eq, Bool.and_eq_true, Bool.or_eq_true, Bool.not_eq_true', decide_eq_false_iff_not, aB199, Q.aB130, Q.aB130]
  repeat' apply And.intro
  all_goals intro ρ hR
  all_goals intros
  all_goals first
    | (exfalso
       omega)
theorem p3b_ok (ρ : Env) : TblOK Φ ρ Try.prog p3b := addLp_ok (p3_ok ρ) pb6_ok
def p43_1 : SI := .sel (.v 4) (.v 1) 0
def p43_2 : SB := .or (.le (.c 0) p43_1) (.eq p43_1 (.c (.negSucc 0)))
def p43_3 : SI := .len (.v 0)
def p43_4 : List SB := [.lt (.v 1) (.v 11), .le (.c 1) p43_3, .le p43_3 (.c 8), .eq (.len (.v 4)) p43_3, .le (.len (.v 5)) (.c 64), .le (.c 1) (.v 8), .le (.v 8) (.c 10000), .eq p43_3 (.v 11), .le (.c 0) (.v 1), .le (.v 1) p43_3, .c true, .app 130 (.l (.v 0) (.l (.v 1) (.i (.c 64) .nil))), .app 332 (.l (.v 5) (.l (.v 0) (.l (.v 4) .nil)))]
def p43_5 : SI := .sub p43_3 (.v 1)
set_option maxRecDepth 100000 in
theorem p43_obs : loopObs Φ Try.prog p3b 1000 p43.f (loopAt Try.prog p43.f p43.id) p43.n p43.T kp43 p43.outs = some
  [⟨p43_2 :: p43_4, [.T (.lt (.sub p43_3 (.add (.v 1) (.c 1))) p43_5), .T (.lt (.c 0) p43_5)]⟩, ⟨.not p43_2 :: p43_4, [.T (.c false)]⟩] := by kernel_rfl
theorem p43_ok : p43.ok Φ Try.prog := by
  refine ⟨by kernel_rfl, loop_rule (fun ρ => p3b_ok ρ) (loopAt_sub (by kernel_rfl)) p43_obs ?_⟩
  simp only [p43_1, p43_2, p43_3, p43_4, p43_5, and_imp, List.forall_mem_cons, List.not_mem_nil, false_implies, implies_true, and_true, Ob.ok, holds, Eqn.ok, evB_eq, evB_lt, evB_le, evB_not, evB_or, evB_app, evB_c, ev_sel, ev_len, ev_v, ev_c, ev_add, ev_sub, evL_v, evA_l, evA_i, evA_nil, negSucc_lit, decide_eq_true_eq, Bool.or_eq_true, Bool.not_eq_true', Bool.or_eq_false_iff, decide_eq_false_iff_not, Q.aB130, aB332, Q.aB130]
  repeat' apply And.intro
  all_goals intro ρ hR
  all_goals intros
  all_goals first
    | (exact ⟨by omega, by omega⟩)
    | (exfalso
       omega)
    | (have hI : invS (ρ.l 5) (ρ.l 0) (ρ.l 4) = true := by with_reducible assumption
       have r0 : 0 ≤ ρ.i 1 := by omega
       have r1 : ρ.i 1 < (ρ.l 4).length := by omega
       have rr := (invS_iff.1 hI).cpu (ρ.i 1) r0 r1
       simp only [cel] at rr
       exfalso
       omega)
theorem p4_ok (ρ : Env) : TblOK Φ ρ Try.prog p4 := addLp_ok (p3b_ok ρ) p43_ok
def p6_1 : SI := .len (.v 1008)
def p6_2 : SB := .lt p6_1 (.c 1000)
def p6_3 : SA := .i (.c 64) .nil
def p6_4 : SI := .len (.v 15)
def p6_5 : SI := .len (.v 2)
def p6_6 : SI := .c 549755813888
def p6_7 : SI := .len (.v 0)
def p6_8 : SA := .i (.c 0) .nil
def p6_9 : List SB := [.app 252 (.l (.v 1005) (.i (.v 1001) .nil)), .app 251 (.l (.v 1006) (.l (.v 1008) .nil)), .app 250 (.l (.v 1005) (.l (.v 1007) .nil)), .app 340 (.l (.v 1003) .nil), .app 332 (.l (.v 1002) (.l (.v 1003) (.l (.v 1004) .nil))), .app 130 (.l (.v 1003) (.l (.v 1000) p6_3)), .lt (.len (.v 1007)) (.c 1000), .le p6_1 (.add p6_4 (.c 8)), .le (.len (.v 1005)) (.add p6_5 (.c 1)), .le (.v 1001) p6_6, .le (.c 0) (.v 1001), .le (.len (.v 1002)) (.c 64), .eq (.len (.v 1004)) p6_7, .eq (.len (.v 1003)) p6_7, .lt (.v 1) (.c 80), .lt (.v 1) (.len (.v 12)), .le (.c 1) p6_7, .le p6_7 (.c 8), .eq (.len (.v 4)) p6_7, .le (.len (.v 5)) (.c 64), .le (.c 1) (.v 8), .le (.v 8) (.c 10000), .eq p6_7 (.v 11), .le (.c 0) (.v 1), .le (.c 0) (.v 9), .le (.v 9) p6_6, .le (.v 1) (.c 80), .c true, .le p6_5 (.v 1), .lt (.len (.v 14)) (.c 1000), .lt p6_4 (.c 1000), .app 130 (.l (.v 0) (.l (.v 1) p6_3)), .app 332 (.l (.v 5) (.l (.v 0) (.l (.v 4) .nil))), .app 340 (.l (.v 0) .nil), .app 250 (.l (.v 2) (.l (.v 14) .nil)), .app 251 (.l (.v 3) (.l (.v 15) .nil)), .app 252 (.l (.v 2) (.i (.v 9) .nil)), .app 252 (.l (.v 14) p6_8), .le p6_4 (.mul (.c 8) (.v 1))]
def p6_10 : SI := .add (.v 1) (.c 1)
set_option maxRecDepth 100000 in
theorem p6_obs : loopObs Φ Try.prog p4 1000 p6.f (loopAt Try.prog p6.f p6.id) p6.n p6.T kp6 p6.outs = some
  [⟨p6_2 :: p6_9, [.T (.lt (.sub (.c 80) p6_10) (.sub (.c 80) (.v 1))), .T (.app 252 (.l (.v 1007) p6_8)), .T (.le p6_1 (.mul (.c 8) p6_10))]⟩, ⟨.not p6_2 :: p6_9, [.T (.c false)]⟩] := by kernel_rfl
theorem p6_ok : p6.ok Φ Try.prog := by
  refine ⟨by kernel_rfl, loop_rule (fun ρ => p4_ok ρ) (loopAt_sub (by kernel_rfl)) p6_obs ?_⟩
  simp only [p6_1, p6_2, p6_3, p6_4, p6_5, p6_6, p6_7, p6_8, p6_9, p6_10, and_imp, List.forall_mem_cons, List.not_mem_nil, false_implies, implies_true, and_true, Ob.ok, holds, Eqn.ok, evB_eq, evB_lt, evB_le, evB_not, evB_app, evB_c, ev_len, ev_v, ev_c, ev_add, ev_sub, ev_mul, evL_v, evA_l, evA_i, evA_nil, decide_eq_true_eq, Bool.not_eq_true', decide_eq_false_iff_not, Q.aB130, aB340, aB332, Q.aB130, T.aB250, T.aB251, T.aB252]
  repeat' apply And.intro
  all_goals intro ρ hR
  all_goals intros
  all_goals first
    | (exfalso
       omega)
    | (have his : C18.isB (ρ.l 1005) (ρ.l 1007) = true := by with_reducible assumption
       have htm : C18.timB (ρ.l 1005) (ρ.i 1001) = true := by with_reducible assumption
       have g := C18.is_tim his htm (by omega)
       exact ⟨by omega, by omega, g, by omega⟩)
    | (have his : C18.isB (ρ.l 1005) (ρ.l 1007) = true := by with_reducible assumption
       have htm : C18.timB (ρ.l 1005) (ρ.i 1001) = true := by with_reducible assumption
       have g := C18.is_tim his htm (by omega)
       exact ⟨by omega, g, by omega⟩)
def nwG_1 : SB := .lt (.v 1) (.v 0)
def nwG_2 : SI := .len (.v 4)
def nwG_3 : SA := .i (.c (.negSucc 0)) .nil
def nwG_4 : List SB := [.le (.c 0) (.v 1), .le (.v 1) (.v 0), .le (.c 1) (.v 0), .le (.v 0) (.c 8), .eq nwG_2 (.v 1), .c true, .eqL (.v 4) (.app 5 (.i (.v 1) nwG_3))]
def nwG_5 : SI := .add (.v 1) (.c 1)
def nwG_6 : SI := .sub (.v 0) (.v 1)
def nwG_7 : SL := .app 5 (.i (.v 0) nwG_3)
def nwG_8 : SI := .len nwG_7
set_option maxRecDepth 100000 in
theorem nwG_obs : loopObs Φ Try.prog b1 1000 nwG.f (loopAt Try.prog nwG.f nwG.id) nwG.n nwG.T kN nwG.outs = some
  [⟨nwG_1 :: nwG_4, [.T (.lt (.sub (.v 0) nwG_5) nwG_6), .T (.lt (.c 0) nwG_6), .T (.eqL (.app 0 (.l (.v 4) (.l (.lit [[(Int.negSucc 0)]]) .nil))) (.app 5 (.i nwG_5 nwG_3)))]⟩, ⟨.not nwG_1 :: nwG_4, [.T (.eq nwG_8 (.v 0)), .I nwG_8 nwG_2, .L nwG_7 (.v 4)]⟩] := by kernel_rfl
theorem nwG_ok : nwG.ok Φ Try.prog := by
  refine ⟨by kernel_rfl, loop_rule (fun ρ => b1_ok ρ) (loopAt_sub (by kernel_rfl)) nwG_obs ?_⟩
  simp only [nwG_1, nwG_2, nwG_3, nwG_4, nwG_5, nwG_6, nwG_7, nwG_8, and_imp, List.forall_mem_cons, List.not_mem_nil, false_implies, implies_true, and_true, Ob.ok, holds, Eqn.ok, evB_eq, evB_lt, evB_le, evB_not, evB_eqL, evB_c, ev_len, ev_v, ev_c, ev_add, ev_sub, evL_v, evL_lit, evL_app, evA_l, evA_i, evA_nil, std_cat, std_rep, ints_cons, ints_nil, negSucc_lit, decide_eq_true_eq, Bool.not_eq_true', decide_eq_false_iff_not]
  repeat' apply And.intro
  all_goals intro ρ hR
  all_goals intros
  all_goals try simp only [show (-(0 + 1) : Int) = -1 from rfl] at *
  all_goals have h : ρ.l 4 = List.replicate (ρ.i 1).toNat [-1] := by with_reducible assumption
  all_goals repeat' apply And.intro
  all_goals first
    | omega
    | (rw [List.length_replicate]; omega)
    | (rw [h, show (ρ.i 1 + 1).toNat = (ρ.i 1).toNat + 1 by omega]; exact List.replicate_succ'.symm)
    | (rw [h, show (ρ.i 0).toNat = (ρ.i 1).toNat by omega])
theorem p5_ok (ρ : Env) : TblOK Φ ρ Try.prog p5 := addLp_ok (addLp_ok (addLp_ok (addFn_ok (addFn_ok (addFn_ok (b1_ok ρ) cKnown_ok) Q.rqNew_ok) T.rNew_ok) nwG_ok) nwR_ok) p6_ok
def lPlays0_1 : SL := .app 5 (.i (.v 0) (.i (.c (.negSucc 0)) .nil))
def lPlays0_2 : SB := .eq (.len lPlays0_1) (.v 0)
def lPlays0_3 : SB := .le (.v 1) (.c 10000)
def lPlays0_4 : SB := .le (.c 1) (.v 1)
def lPlays0_5 : SL := .app 5 (.i (.v 0) .nil)
def lPlays0_6 : SB := .eq (.len lPlays0_5) (.v 0)
def lPlays0_7 : SB := .le (.v 0) (.c 8)
def lPlays0_8 : SB := .le (.c 1) (.v 0)
def lPlays0_9 : List Eqn := [.T (.app 199 .nil)]
def lPlays0_10 : List SB := [.app 130 (.l lPlays0_5 (.l (.lit []) (.i (.c 64) .nil))), lPlays0_6, lPlays0_7, lPlays0_8]
def lPlays0_11 : List SB := lPlays0_2 :: lPlays0_3 :: lPlays0_4 :: lPlays0_10
def lPlays0_12 : List Eqn := [.T (.c false)]
set_option maxRecDepth 100000 in
theorem lPlays0_obs : callObs Φ Try.prog p5 1000 lPlays0.f lPlays0.vs lPlays0.o lPlays0.pc lPlays0.outs = some
  [⟨[lPlays0_2, lPlays0_3, lPlays0_4, lPlays0_6, lPlays0_7, lPlays0_8, .or (.lt (.v 0) (.c 1)) (.lt (.c 8) (.v 0))], lPlays0_9⟩, ⟨lPlays0_2 :: lPlays0_3 :: lPlays0_4 :: .or (.lt (.v 1) (.c 1)) (.lt (.c 10000) (.v 1)) :: lPlays0_10, lPlays0_9⟩, ⟨.not (.app 332 (.l (.lit []) (.l lPlays0_5 (.l lPlays0_1 .nil)))) :: lPlays0_11, lPlays0_12⟩, ⟨.not (.app 340 (.l lPlays0_5 .nil)) :: lPlays0_11, lPlays0_12⟩] := by kernel_rfl
theorem lPlays0_ok : lPlays0.ok Φ Try.prog := by
  refine call_rule (fun ρ => p5_ok ρ) lPlays0_obs ?_
  simp only [lPlays0_1, lPlays0_2, lPlays0_3, lPlays0_4, lPlays0_5, lPlays0_6, lPlays0_7, lPlays0_8, lPlays0_9, lPlays0_10, lPlays0_11, lPlays0_12, and_imp, List.forall_mem_cons, List.not_mem_nil, false_implies, implies_true, and_true, Ob.ok, holds, Eqn.ok, evB_eq, evB_lt, evB_le, evB_not, evB_or, evB_app, evB_c, ev_len, ev_v, ev_c, evL_lit, evL_app, evA_l, evA_i, evA_nil, std_rep, ints_cons, ints_nil, negSucc_lit, decide_eq_true_eq, Bool.or_eq_true, Bool.not_eq_true', aB199, Q.aB130, aB340, aB332, Q.aB130]
  repeat' apply And.intro
  all_goals intro ρ hR
  all_goals intros
  all_goals first
    | (exfalso
       omega)
    | (exfalso
       have h : invS [] (List.replicate (Int.toNat (ρ.i 0)) []) (List.replicate (Int.toNat (ρ.i 0)) [-(0 + 1)]) = false := by with_reducible assumption
       exact absurd ((invS_nil _).symm.trans h) (by decide))
    | (exfalso
       have h : low8 (List.replicate (Int.toNat (ρ.i 0)) []) = false := by with_reducible assumption
       exact absurd (low_new.symm.trans h) (by decide))
theorem lPlays_ok : lPlays.ok Φ Try.prog := drop_never rfl lPlays0_ok
end Go.SF.C21
