/- The document's Next, shown. -/
import Derived.Test.YtnhdohhhgfdhfaaCP
import Derived.Test.YtnhdohhhgfdhfaaPZ
import Derived.Test.YtnhdohhhgfdhfaaQD
import Derived.Test.YtnhdohhhgfdhfaaQE
import Derived.Test.YtnhdohhhgfdhfaaQM
import Derived.KernelRfl
namespace Go.SF.C21
open Go Go.SF Go.Proofs
set_option linter.unusedVariables false
set_option linter.unusedSimpArgs false

open Go.SF.C17
def rNx0_1 : SI := .sel (.v 5) (.v 0) 0
def rNx0_2 : SB := .lt rNx0_1 (.c 0)
def rNx0_3 : List SB := [.le (.c 1) (.v 1), .le (.v 1) (.c 8), .le (.c 0) (.v 2), .le (.v 2) (.c 7), .c true, .app 331 (.l (.v 5) (.i (.v 0) .nil))]
def rNx0_4 : List Eqn := [.T (.app 199 .nil)]
def rNx0_5 : SB := .lt (.c 5) rNx0_1
def rNx0_6 : List SB := .not rNx0_2 :: rNx0_3
def rNx0_7 : SI := .sel (.v 5) (.v 0) 8
def rNx0_8 : SB := .lt rNx0_7 (.c (.negSucc 1073741823))
def rNx0_9 : List SB := .not rNx0_5 :: rNx0_6
def rNx0_10 : SB := .lt (.c 1073741824) rNx0_7
def rNx0_11 : List SB := .not rNx0_8 :: rNx0_9
def rNx0_12 : SB := .eq (.v 1) (.c 2)
def rNx0_13 : SI := .sel (.v 5) (.v 0) 1
def rNx0_14 : SB := .le rNx0_13 (.c 7)
def rNx0_15 : SB := .le (.c 0) rNx0_13
def rNx0_16 : SB := .eq rNx0_1 (.c 2)
def rNx0_17 : List SB := .not rNx0_10 :: rNx0_11
def rNx0_18 : List SB := rNx0_16 :: rNx0_17
def rNx0_19 : List SB := rNx0_15 :: rNx0_18
def rNx0_20 : List SB := rNx0_14 :: rNx0_19
def rNx0_21 : SA := .l (.v 5) (.i (.v 0) (.i (.v 1) (.i (.v 2) .nil)))
def rNx0_22 : SB := .app 330 rNx0_21
def rNx0_23 : List Eqn := [.T (.not rNx0_22)]
def rNx0_24 : SB := .eq (.v 1) (.c 1)
def rNx0_25 : SB := .not rNx0_12
def rNx0_26 : List SB := rNx0_25 :: rNx0_20
def rNx0_27 : SB := .eq (.sel (.v 5) (.v 0) 3) (.c 0)
def rNx0_28 : SB := .eq (.v 1) (.c 3)
def rNx0_29 : SB := .not rNx0_24
def rNx0_30 : List SB := rNx0_29 :: rNx0_26
def rNx0_31 : List SB := rNx0_28 :: rNx0_30
def rNx0_32 : SL := .app 330 rNx0_21
def rNx0_33 : SI := .sel rNx0_32 (.c 0) 2
def rNx0_34 : Eqn := .T (.le (.c 0) rNx0_33)
def rNx0_35 : Eqn := .T (.le rNx0_33 (.c 1))
def rNx0_36 : SI := .sel rNx0_32 (.c 0) 3
def rNx0_37 : Eqn := .T (.le (.c 0) rNx0_36)
def rNx0_38 : Eqn := .T (.le rNx0_36 (.c 1))
def rNx0_39 : SI := .sel rNx0_32 (.c 0) 0
def rNx0_40 : Eqn := .I rNx0_39 (.c 1)
def rNx0_41 : SI := .sel rNx0_32 (.c 0) 1
def rNx0_42 : SI := .c (.negSucc 0)
def rNx0_43 : Eqn := .I rNx0_41 rNx0_42
def rNx0_44 : SB := .not (.eq rNx0_33 (.c 0))
def rNx0_45 : SB := .not (.eq rNx0_36 (.c 0))
def rNx0_46 : List Eqn := [.B rNx0_45 (.c false)]
def rNx0_47 : List Eqn := rNx0_43 :: .B rNx0_44 (.c false) :: rNx0_46
def rNx0_48 : List Eqn := .T rNx0_22 :: rNx0_34 :: rNx0_35 :: rNx0_37 :: rNx0_38 :: rNx0_40 :: rNx0_47
def rNx0_49 : SB := .not rNx0_27
def rNx0_50 : Eqn := .I rNx0_39 (.c 4)
def rNx0_51 : List Eqn := .T rNx0_22 :: rNx0_34 :: rNx0_35 :: rNx0_37 :: rNx0_38 :: rNx0_50 :: rNx0_47
def rNx0_52 : SB := .eq (.sel (.v 5) (.v 0) 2) (.c 0)
def rNx0_53 : SB := .eq (.v 1) (.c 4)
def rNx0_54 : SB := .not rNx0_28
def rNx0_55 : List SB := rNx0_54 :: rNx0_30
def rNx0_56 : List SB := rNx0_53 :: rNx0_55
def rNx0_57 : SB := .not rNx0_52
def rNx0_58 : Eqn := .B rNx0_44 rNx0_57
def rNx0_59 : List Eqn := [.B rNx0_45 rNx0_49]
def rNx0_60 : List Eqn := rNx0_58 :: rNx0_59
def rNx0_61 : List SB := rNx0_57 :: rNx0_56
def rNx0_62 : SB := .eq (.v 1) (.c 5)
def rNx0_63 : SB := .not rNx0_53
def rNx0_64 : List SB := rNx0_63 :: rNx0_55
def rNx0_65 : Eqn := .I rNx0_39 rNx0_1
def rNx0_66 : Eqn := .I rNx0_41 rNx0_13
def rNx0_67 : SB := .eq (.v 1) (.c 6)
def rNx0_68 : SB := .not rNx0_62
def rNx0_69 : List SB := rNx0_68 :: rNx0_64
def rNx0_70 : List Eqn := [.T rNx0_22, rNx0_34, rNx0_35, rNx0_37, rNx0_38, rNx0_65, rNx0_66, rNx0_58, .B rNx0_45 (.c true)]
def rNx0_71 : SB := .eq (.v 1) (.c 7)
def rNx0_72 : SB := .not rNx0_67
def rNx0_73 : List SB := rNx0_72 :: rNx0_69
def rNx0_74 : List Eqn := .T rNx0_22 :: rNx0_34 :: rNx0_35 :: rNx0_37 :: rNx0_38 :: rNx0_65 :: rNx0_66 :: rNx0_58 :: rNx0_46
def rNx0_75 : SB := .eq (.v 1) (.c 8)
def rNx0_76 : SB := .not rNx0_71
def rNx0_77 : List SB := rNx0_76 :: rNx0_73
def rNx0_78 : List SB := rNx0_75 :: rNx0_77
def rNx0_79 : List Eqn := .T rNx0_22 :: rNx0_34 :: rNx0_35 :: rNx0_37 :: rNx0_38 :: .I rNx0_39 (.c 5) :: rNx0_47
def rNx0_80 : SB := .not rNx0_75
def rNx0_81 : SB := .eq rNx0_1 (.c 1)
def rNx0_82 : SB := .eq rNx0_13 rNx0_42
def rNx0_83 : List SB := .not rNx0_16 :: rNx0_17
def rNx0_84 : List SB := rNx0_82 :: rNx0_83
def rNx0_85 : List SB := rNx0_52 :: rNx0_84
def rNx0_86 : List SB := rNx0_27 :: rNx0_85
def rNx0_87 : List SB := rNx0_12 :: rNx0_86
def rNx0_88 : SB := .not rNx0_81
def rNx0_89 : SB := .eq rNx0_1 (.c 0)
def rNx0_90 : List SB := rNx0_25 :: rNx0_86
def rNx0_91 : List SB := rNx0_24 :: rNx0_90
def rNx0_92 : List Eqn := rNx0_66 :: rNx0_60
def rNx0_93 : List Eqn := .T rNx0_22 :: rNx0_34 :: rNx0_35 :: rNx0_37 :: rNx0_38 :: rNx0_40 :: rNx0_92
def rNx0_94 : List SB := rNx0_29 :: rNx0_90
def rNx0_95 : List SB := rNx0_54 :: rNx0_94
def rNx0_96 : SB := .eq rNx0_1 (.c 3)
def rNx0_97 : List SB := rNx0_63 :: rNx0_95
def rNx0_98 : List SB := rNx0_62 :: rNx0_97
def rNx0_99 : SB := .not rNx0_96
def rNx0_100 : List SB := rNx0_99 :: rNx0_98
def rNx0_101 : List Eqn := .T rNx0_22 :: rNx0_34 :: rNx0_35 :: rNx0_37 :: rNx0_38 :: rNx0_65 :: rNx0_92
def rNx0_102 : SB := .eq rNx0_1 (.c 4)
def rNx0_103 : List SB := rNx0_88 :: rNx0_100
def rNx0_104 : SB := .not rNx0_102
def rNx0_105 : List SB := rNx0_68 :: rNx0_97
def rNx0_106 : List SB := rNx0_67 :: rNx0_105
def rNx0_107 : List SB := rNx0_88 :: rNx0_106
def rNx0_108 : List SB := rNx0_99 :: rNx0_107
def rNx0_109 : List SB := rNx0_72 :: rNx0_105
def rNx0_110 : List SB := rNx0_71 :: rNx0_109
def rNx0_111 : List SB := rNx0_104 :: rNx0_110
def rNx0_112 : List SB := rNx0_99 :: rNx0_111
def rNx0_113 : SB := .eq rNx0_1 (.c 5)
def rNx0_114 : List SB := rNx0_76 :: rNx0_109
def rNx0_115 : List SB := rNx0_75 :: rNx0_114
def rNx0_116 : List SB := rNx0_49 :: rNx0_85
def rNx0_117 : List SB := rNx0_96 :: rNx0_116
def rNx0_118 : List SB := rNx0_25 :: rNx0_117
def rNx0_119 : List SB := rNx0_29 :: rNx0_118
def rNx0_120 : List SB := rNx0_54 :: rNx0_119
def rNx0_121 : List SB := rNx0_63 :: rNx0_120
def rNx0_122 : List SB := rNx0_68 :: rNx0_121
def rNx0_123 : List SB := rNx0_72 :: rNx0_122
def rNx0_124 : List SB := rNx0_76 :: rNx0_123
set_option maxRecDepth 100000 in
theorem rNx0_obs : callObs Φ Try.prog noTbl 1000 rNx0.f rNx0.vs rNx0.o rNx0.pc rNx0.outs = some
  [⟨rNx0_2 :: rNx0_3, rNx0_4⟩, ⟨rNx0_5 :: rNx0_6, rNx0_4⟩, ⟨rNx0_8 :: rNx0_9, rNx0_4⟩, ⟨rNx0_10 :: rNx0_11, rNx0_4⟩, ⟨rNx0_12 :: rNx0_20, rNx0_23⟩, ⟨rNx0_24 :: rNx0_26, rNx0_23⟩, ⟨rNx0_27 :: rNx0_31, rNx0_48⟩, ⟨rNx0_49 :: rNx0_31, rNx0_51⟩, ⟨rNx0_52 :: rNx0_56, .T rNx0_22 :: rNx0_34 :: rNx0_35 :: rNx0_37 :: rNx0_38 :: .I rNx0_39 (.c 3) :: rNx0_43 :: rNx0_60⟩, ⟨rNx0_27 :: rNx0_61, rNx0_48⟩, ⟨rNx0_49 :: rNx0_61, rNx0_51⟩, ⟨rNx0_62 :: rNx0_64, .T rNx0_22 :: rNx0_34 :: rNx0_35 :: rNx0_37 :: rNx0_38 :: rNx0_65 :: rNx0_66 :: .B rNx0_44 (.c true) :: rNx0_59⟩, ⟨rNx0_67 :: rNx0_69, rNx0_70⟩, ⟨rNx0_71 :: rNx0_73, rNx0_74⟩, ⟨rNx0_27 :: rNx0_78, rNx0_79⟩, ⟨rNx0_49 :: rNx0_78, rNx0_79⟩, ⟨rNx0_80 :: rNx0_77, rNx0_23⟩, ⟨.not rNx0_14 :: rNx0_19, rNx0_4⟩, ⟨.not rNx0_15 :: rNx0_18, rNx0_4⟩, ⟨rNx0_81 :: rNx0_87, .T rNx0_22 :: rNx0_34 :: rNx0_35 :: rNx0_37 :: rNx0_38 :: .I rNx0_39 (.c 2) :: .I rNx0_41 (.v 2) :: rNx0_60⟩, ⟨rNx0_88 :: rNx0_87, rNx0_23⟩, ⟨rNx0_89 :: rNx0_91, rNx0_93⟩, ⟨.not rNx0_89 :: rNx0_91, rNx0_23⟩, ⟨rNx0_28 :: rNx0_94, rNx0_23⟩, ⟨rNx0_53 :: rNx0_95, rNx0_23⟩, ⟨rNx0_96 :: rNx0_98, rNx0_48⟩, ⟨rNx0_81 :: rNx0_100, rNx0_101⟩, ⟨rNx0_102 :: rNx0_103, rNx0_101⟩, ⟨rNx0_104 :: rNx0_103, rNx0_23⟩, ⟨rNx0_81 :: rNx0_106, .T rNx0_22 :: rNx0_34 :: rNx0_35 :: rNx0_37 :: rNx0_38 :: rNx0_50 :: rNx0_92⟩, ⟨rNx0_96 :: rNx0_107, rNx0_70⟩, ⟨rNx0_102 :: rNx0_108, rNx0_101⟩, ⟨rNx0_104 :: rNx0_108, rNx0_23⟩, ⟨rNx0_102 :: rNx0_110, rNx0_93⟩, ⟨rNx0_96 :: rNx0_111, rNx0_74⟩, ⟨rNx0_81 :: rNx0_112, rNx0_101⟩, ⟨rNx0_88 :: rNx0_112, rNx0_23⟩, ⟨rNx0_113 :: rNx0_115, rNx0_23⟩, ⟨.not rNx0_113 :: rNx0_115, rNx0_79⟩, ⟨rNx0_80 :: rNx0_114, rNx0_23⟩, ⟨rNx0_12 :: rNx0_117, rNx0_23⟩, ⟨rNx0_24 :: rNx0_118, rNx0_23⟩, ⟨rNx0_28 :: rNx0_119, rNx0_23⟩, ⟨rNx0_53 :: rNx0_120, rNx0_23⟩, ⟨rNx0_62 :: rNx0_121, rNx0_51⟩, ⟨rNx0_67 :: rNx0_122, rNx0_70⟩, ⟨rNx0_71 :: rNx0_123, rNx0_74⟩, ⟨rNx0_75 :: rNx0_124, rNx0_79⟩, ⟨rNx0_80 :: rNx0_124, rNx0_23⟩, ⟨rNx0_99 :: rNx0_116, rNx0_4⟩, ⟨rNx0_57 :: rNx0_84, rNx0_4⟩, ⟨.not rNx0_82 :: rNx0_83, rNx0_4⟩] := by kernel_rfl
set_option maxHeartbeats 2000000 in
theorem rNx0_ok : rNx0.ok Φ Try.prog := by
  refine call_rule (fun ρ => noTbl_ok) rNx0_obs ?_
  simp only [rNx0_1, rNx0_2, rNx0_3, rNx0_4, rNx0_5, rNx0_6, rNx0_7, rNx0_8, rNx0_9, rNx0_10, rNx0_11, rNx0_12, rNx0_13, rNx0_14, rNx0_15, rNx0_16, rNx0_17, rNx0_18, rNx0_19, rNx0_20, rNx0_21, rNx0_22, rNx0_23, rNx0_24, rNx0_25, rNx0_26, rNx0_27, rNx0_28, rNx0_29, rNx0_30, rNx0_31, rNx0_32, rNx0_33, rNx0_34, rNx0_35, rNx0_36, rNx0_37, rNx0_38, rNx0_39, rNx0_40, rNx0_41, rNx0_42, rNx0_43, rNx0_44, rNx0_45, rNx0_46, rNx0_47, rNx0_48, rNx0_49, rNx0_50, rNx0_51, rNx0_52, rNx0_53, rNx0_54, rNx0_55, rNx0_56, rNx0_57, rNx0_58, rNx0_59, rNx0_60, rNx0_61, rNx0_62, rNx0_63, rNx0_64, rNx0_65, rNx0_66, rNx0_67, rNx0_68, rNx0_69, rNx0_70, rNx0_71, rNx0_72, rNx0_73, rNx0_74, rNx0_75, rNx0_76, rNx0_77, rNx0_78, rNx0_79, rNx0_80, rNx0_81, rNx0_82, rNx0_83, rNx0_84, rNx0_85, rNx0_86, rNx0_87, rNx0_88, rNx0_89, rNx0_90, rNx0_91, rNx0_92, rNx0_93, rNx0_94, rNx0_95, rNx0_96, rNx0_97, rNx0_98, rNx0_99, rNx0_100, rNx0_101, rNx0_102, rNx0_103, rNx0_104, rNx0_105, rNx0_106, rNx0_107, rNx0_108, rNx0_109, rNx0_110, rNx0_111, rNx0_112, rNx0_113, rNx0_114, rNx0_115, rNx0_116, rNx0_117, rNx0_118, rNx0_119, rNx0_120, rNx0_121, rNx0_122, rNx0_123, rNx0_124, and_imp, List.forall_mem_cons, List.not_mem_nil, false_implies, implies_true, and_true, Ob.ok, holds, Eqn.ok, evB_eq, evB_lt, evB_le, evB_not, evB_app, evB_c, ev_sel, ev_v, ev_c, evL_v, evL_app, evA_l, evA_i, evA_nil, negSucc_lit, decide_eq_true_eq, Bool.not_eq_true', decide_eq_false_iff_not, aL330, aB330, aB331, aB199, Bool.not_eq_false']
  repeat' apply And.intro
  all_goals intro ρ hR
  all_goals intros
  all_goals first
    | (have hr := right_iff.1 (show right8 (ρ.l 5) (ρ.i 0) = true by with_reducible assumption)
       simp only [cel] at hr
       obtain ⟨r0, r1, r2, r3, r4, r5, r6, r7⟩ := hr
       exfalso
       omega)
    | (have hr := right_iff.1 (show right8 (ρ.l 5) (ρ.i 0) = true by with_reducible assumption)
       simp only [cel] at hr
       obtain ⟨r0, r1, r2, r3, r4, r5, r6, r7⟩ := hr
       have q : ((List.getD (List.getD (ρ.l 5) (Int.toNat (ρ.i 0)) []) 0 0) = 2 ∧ ((ρ.i 1) < 3 ∨ 8 < (ρ.i 1))) ∨ (¬ (List.getD (List.getD (ρ.l 5) (Int.toNat (ρ.i 0)) []) 0 0) = 2 ∧ ¬ ((ρ.i 1) = 8 ∧ ¬ (List.getD (List.getD (ρ.l 5) (Int.toNat (ρ.i 0)) []) 0 0) = 5) ∧ ¬ ((List.getD (List.getD (ρ.l 5) (Int.toNat (ρ.i 0)) []) 0 0) = 0 ∧ (ρ.i 1) = 1 ∨ (List.getD (List.getD (ρ.l 5) (Int.toNat (ρ.i 0)) []) 0 0) = 4 ∧ (ρ.i 1) = 7) ∧ ¬ ((List.getD (List.getD (ρ.l 5) (Int.toNat (ρ.i 0)) []) 0 0) = 1 ∧ (ρ.i 1) = 2) ∧ ¬ ((List.getD (List.getD (ρ.l 5) (Int.toNat (ρ.i 0)) []) 0 0) = 3 ∧ 5 ≤ (ρ.i 1) ∧ (ρ.i 1) ≤ 7) ∧ ¬ ((List.getD (List.getD (ρ.l 5) (Int.toNat (ρ.i 0)) []) 0 0) = 1 ∧ 5 ≤ (ρ.i 1) ∧ (ρ.i 1) ≤ 7) ∧ ¬ ((List.getD (List.getD (ρ.l 5) (Int.toNat (ρ.i 0)) []) 0 0) = 4 ∧ 5 ≤ (ρ.i 1) ∧ (ρ.i 1) ≤ 7)) := by omega
       exact nxv_no (show nxO (ρ.l 5) (ρ.i 0) (ρ.i 1) (ρ.i 2) = none from nx_no q))
    | (have hr := right_iff.1 (show right8 (ρ.l 5) (ρ.i 0) = true by with_reducible assumption)
       simp only [cel] at hr
       obtain ⟨r0, r1, r2, r3, r4, r5, r6, r7⟩ := hr
       have q0 : (ρ.i 1) = 8 := by omega
       have q1 : ¬ (List.getD (List.getD (ρ.l 5) (Int.toNat (ρ.i 0)) []) 0 0) = 5 := by omega
       have v := nxv (show nxO (ρ.l 5) (ρ.i 0) (ρ.i 1) (ρ.i 2) = _ from nx_stop q0 q1)
       obtain ⟨vb, v0, v1, v2, v3⟩ := v
       try simp only [cel] at v0 v1 v2 v3
       repeat' apply And.intro
       all_goals first
         | exact vb
         | omega
         | (simp only [v2, v3]; done)
         | (simp [v2, v3, *]; done)
         | (rw [v3]; simp only [q0]; decide)
         | (rw [v3]; simp only [q1]; decide)
         | (refine congrArg (fun x : Int => !decide (x = 0)) ?_; omega))
    | (have hr := right_iff.1 (show right8 (ρ.l 5) (ρ.i 0) = true by with_reducible assumption)
       simp only [cel] at hr
       obtain ⟨r0, r1, r2, r3, r4, r5, r6, r7⟩ := hr
       have q0 : (ρ.i 1) = 5 := by omega
       have q1 : (List.getD (List.getD (ρ.l 5) (Int.toNat (ρ.i 0)) []) 0 0) = 2 := by omega
       have v := nxv (show nxO (ρ.l 5) (ρ.i 0) (ρ.i 1) (ρ.i 2) = _ from nx_wakeR q0 q1)
       obtain ⟨vb, v0, v1, v2, v3⟩ := v
       try simp only [cel] at v0 v1 v2 v3
       repeat' apply And.intro
       all_goals first
         | exact vb
         | omega
         | (simp only [v2, v3]; done)
         | (simp [v2, v3, *]; done)
         | (rw [v3]; simp only [q0]; decide)
         | (rw [v3]; simp only [q1]; decide)
         | (refine congrArg (fun x : Int => !decide (x = 0)) ?_; omega))
    | (have hr := right_iff.1 (show right8 (ρ.l 5) (ρ.i 0) = true by with_reducible assumption)
       simp only [cel] at hr
       obtain ⟨r0, r1, r2, r3, r4, r5, r6, r7⟩ := hr
       have q0 : (ρ.i 1) = 6 := by omega
       have q1 : (List.getD (List.getD (ρ.l 5) (Int.toNat (ρ.i 0)) []) 0 0) = 2 := by omega
       have v := nxv (show nxO (ρ.l 5) (ρ.i 0) (ρ.i 1) (ρ.i 2) = _ from nx_pauseR q0 q1)
       obtain ⟨vb, v0, v1, v2, v3⟩ := v
       try simp only [cel] at v0 v1 v2 v3
       repeat' apply And.intro
       all_goals first
         | exact vb
         | omega
         | (simp only [v2, v3]; done)
         | (simp [v2, v3, *]; done)
         | (rw [v3]; simp only [q0]; decide)
         | (rw [v3]; simp only [q1]; decide)
         | (refine congrArg (fun x : Int => !decide (x = 0)) ?_; omega))
    | (have hr := right_iff.1 (show right8 (ρ.l 5) (ρ.i 0) = true by with_reducible assumption)
       simp only [cel] at hr
       obtain ⟨r0, r1, r2, r3, r4, r5, r6, r7⟩ := hr
       have q0 : (ρ.i 1) = 7 := by omega
       have q1 : (List.getD (List.getD (ρ.l 5) (Int.toNat (ρ.i 0)) []) 0 0) = 2 := by omega
       have v := nxv (show nxO (ρ.l 5) (ρ.i 0) (ρ.i 1) (ρ.i 2) = _ from nx_resR q0 q1)
       obtain ⟨vb, v0, v1, v2, v3⟩ := v
       try simp only [cel] at v0 v1 v2 v3
       repeat' apply And.intro
       all_goals first
         | exact vb
         | omega
         | (simp only [v2, v3]; done)
         | (simp [v2, v3, *]; done)
         | (rw [v3]; simp only [q0]; decide)
         | (rw [v3]; simp only [q1]; decide)
         | (refine congrArg (fun x : Int => !decide (x = 0)) ?_; omega))
    | (have hr := right_iff.1 (show right8 (ρ.l 5) (ρ.i 0) = true by with_reducible assumption)
       simp only [cel] at hr
       obtain ⟨r0, r1, r2, r3, r4, r5, r6, r7⟩ := hr
       have q0 : (ρ.i 1) = 4 := by omega
       have q1 : (List.getD (List.getD (ρ.l 5) (Int.toNat (ρ.i 0)) []) 0 0) = 2 := by omega
       have q2 : (List.getD (List.getD (ρ.l 5) (Int.toNat (ρ.i 0)) []) 2 0) = 0 := by omega
       have v := nxv (show nxO (ρ.l 5) (ρ.i 0) (ρ.i 1) (ρ.i 2) = _ from nx_block q0 q1 q2)
       obtain ⟨vb, v0, v1, v2, v3⟩ := v
       try simp only [cel] at v0 v1 v2 v3
       repeat' apply And.intro
       all_goals first
         | exact vb
         | omega
         | (simp only [v2, v3]; done)
         | (simp [v2, v3, *]; done)
         | (rw [v3]; simp only [q0]; decide)
         | (rw [v3]; simp only [q1]; decide)
         | (refine congrArg (fun x : Int => !decide (x = 0)) ?_; omega))
    | (have hr := right_iff.1 (show right8 (ρ.l 5) (ρ.i 0) = true by with_reducible assumption)
       simp only [cel] at hr
       obtain ⟨r0, r1, r2, r3, r4, r5, r6, r7⟩ := hr
       have q0 : (List.getD (List.getD (ρ.l 5) (Int.toNat (ρ.i 0)) []) 0 0) = 2 := by omega
       have q1 : (ρ.i 1) = 3 ∨ (ρ.i 1) = 4 ∧ ¬ (List.getD (List.getD (ρ.l 5) (Int.toNat (ρ.i 0)) []) 2 0) = 0 := by omega
       have v := nxv (show nxO (ρ.l 5) (ρ.i 0) (ρ.i 1) (ρ.i 2) = _ from nx_off q0 q1)
       obtain ⟨vb, v0, v1, v2, v3⟩ := v
       try simp only [cel] at v0 v1 v2 v3
       repeat' apply And.intro
       all_goals first
         | exact vb
         | omega
         | (simp only [v2, v3]; done)
         | (simp [v2, v3, *]; done)
         | (rw [v3]; simp only [q0]; decide)
         | (rw [v3]; simp only [q1]; decide)
         | (refine congrArg (fun x : Int => !decide (x = 0)) ?_; omega))
    | (have hr := right_iff.1 (show right8 (ρ.l 5) (ρ.i 0) = true by with_reducible assumption)
       simp only [cel] at hr
       obtain ⟨r0, r1, r2, r3, r4, r5, r6, r7⟩ := hr
       have q0 : (List.getD (List.getD (ρ.l 5) (Int.toNat (ρ.i 0)) []) 0 0) = 0 ∧ (ρ.i 1) = 1 ∨ (List.getD (List.getD (ρ.l 5) (Int.toNat (ρ.i 0)) []) 0 0) = 4 ∧ (ρ.i 1) = 7 := by omega
       have v := nxv (show nxO (ρ.l 5) (ρ.i 0) (ρ.i 1) (ρ.i 2) = _ from nx_ready q0)
       obtain ⟨vb, v0, v1, v2, v3⟩ := v
       try simp only [cel] at v0 v1 v2 v3
       repeat' apply And.intro
       all_goals first
         | exact vb
         | omega
         | (simp only [v2, v3]; done)
         | (simp [v2, v3, *]; done)
         | (rw [v3]; simp only [q0]; decide)
         | (rw [v3]; simp only [q1]; decide)
         | (refine congrArg (fun x : Int => !decide (x = 0)) ?_; omega))
    | (have hr := right_iff.1 (show right8 (ρ.l 5) (ρ.i 0) = true by with_reducible assumption)
       simp only [cel] at hr
       obtain ⟨r0, r1, r2, r3, r4, r5, r6, r7⟩ := hr
       have q0 : (List.getD (List.getD (ρ.l 5) (Int.toNat (ρ.i 0)) []) 0 0) = 1 := by omega
       have q1 : (ρ.i 1) = 2 := by omega
       have v := nxv (show nxO (ρ.l 5) (ρ.i 0) (ρ.i 1) (ρ.i 2) = _ from nx_pick q0 q1)
       obtain ⟨vb, v0, v1, v2, v3⟩ := v
       try simp only [cel] at v0 v1 v2 v3
       repeat' apply And.intro
       all_goals first
         | exact vb
         | omega
         | (simp only [v2, v3]; done)
         | (simp [v2, v3, *]; done)
         | (rw [v3]; simp only [q0]; decide)
         | (rw [v3]; simp only [q1]; decide)
         | (refine congrArg (fun x : Int => !decide (x = 0)) ?_; omega))
    | (have hr := right_iff.1 (show right8 (ρ.l 5) (ρ.i 0) = true by with_reducible assumption)
       simp only [cel] at hr
       obtain ⟨r0, r1, r2, r3, r4, r5, r6, r7⟩ := hr
       have q0 : (List.getD (List.getD (ρ.l 5) (Int.toNat (ρ.i 0)) []) 0 0) = 3 := by omega
       have q1 : (ρ.i 1) = 5 := by omega
       have v := nxv (show nxO (ρ.l 5) (ρ.i 0) (ρ.i 1) (ρ.i 2) = _ from nx_wakeB q0 q1)
       obtain ⟨vb, v0, v1, v2, v3⟩ := v
       try simp only [cel] at v0 v1 v2 v3
       repeat' apply And.intro
       all_goals first
         | exact vb
         | omega
         | (simp only [v2, v3]; done)
         | (simp [v2, v3, *]; done)
         | (rw [v3]; simp only [q0]; decide)
         | (rw [v3]; simp only [q1]; decide)
         | (refine congrArg (fun x : Int => !decide (x = 0)) ?_; omega))
    | (have hr := right_iff.1 (show right8 (ρ.l 5) (ρ.i 0) = true by with_reducible assumption)
       simp only [cel] at hr
       obtain ⟨r0, r1, r2, r3, r4, r5, r6, r7⟩ := hr
       have q0 : (List.getD (List.getD (ρ.l 5) (Int.toNat (ρ.i 0)) []) 0 0) = 3 := by omega
       have q1 : (ρ.i 1) = 6 := by omega
       have v := nxv (show nxO (ρ.l 5) (ρ.i 0) (ρ.i 1) (ρ.i 2) = _ from nx_pauseB q0 q1)
       obtain ⟨vb, v0, v1, v2, v3⟩ := v
       try simp only [cel] at v0 v1 v2 v3
       repeat' apply And.intro
       all_goals first
         | exact vb
         | omega
         | (simp only [v2, v3]; done)
         | (simp [v2, v3, *]; done)
         | (rw [v3]; simp only [q0]; decide)
         | (rw [v3]; simp only [q1]; decide)
         | (refine congrArg (fun x : Int => !decide (x = 0)) ?_; omega))
    | (have hr := right_iff.1 (show right8 (ρ.l 5) (ρ.i 0) = true by with_reducible assumption)
       simp only [cel] at hr
       obtain ⟨r0, r1, r2, r3, r4, r5, r6, r7⟩ := hr
       have q0 : (List.getD (List.getD (ρ.l 5) (Int.toNat (ρ.i 0)) []) 0 0) = 3 := by omega
       have q1 : (ρ.i 1) = 7 := by omega
       have v := nxv (show nxO (ρ.l 5) (ρ.i 0) (ρ.i 1) (ρ.i 2) = _ from nx_resB q0 q1)
       obtain ⟨vb, v0, v1, v2, v3⟩ := v
       try simp only [cel] at v0 v1 v2 v3
       repeat' apply And.intro
       all_goals first
         | exact vb
         | omega
         | (simp only [v2, v3]; done)
         | (simp [v2, v3, *]; done)
         | (rw [v3]; simp only [q0]; decide)
         | (rw [v3]; simp only [q1]; decide)
         | (refine congrArg (fun x : Int => !decide (x = 0)) ?_; omega))
    | (have hr := right_iff.1 (show right8 (ρ.l 5) (ρ.i 0) = true by with_reducible assumption)
       simp only [cel] at hr
       obtain ⟨r0, r1, r2, r3, r4, r5, r6, r7⟩ := hr
       have q0 : (List.getD (List.getD (ρ.l 5) (Int.toNat (ρ.i 0)) []) 0 0) = 1 := by omega
       have q1 : (ρ.i 1) = 6 := by omega
       have v := nxv (show nxO (ρ.l 5) (ρ.i 0) (ρ.i 1) (ρ.i 2) = _ from nx_pauseY q0 q1)
       obtain ⟨vb, v0, v1, v2, v3⟩ := v
       try simp only [cel] at v0 v1 v2 v3
       repeat' apply And.intro
       all_goals first
         | exact vb
         | omega
         | (simp only [v2, v3]; done)
         | (simp [v2, v3, *]; done)
         | (rw [v3]; simp only [q0]; decide)
         | (rw [v3]; simp only [q1]; decide)
         | (refine congrArg (fun x : Int => !decide (x = 0)) ?_; omega))
    | (have hr := right_iff.1 (show right8 (ρ.l 5) (ρ.i 0) = true by with_reducible assumption)
       simp only [cel] at hr
       obtain ⟨r0, r1, r2, r3, r4, r5, r6, r7⟩ := hr
       have q0 : (List.getD (List.getD (ρ.l 5) (Int.toNat (ρ.i 0)) []) 0 0) = 1 ∧ (ρ.i 1) = 5 ∨ (List.getD (List.getD (ρ.l 5) (Int.toNat (ρ.i 0)) []) 0 0) = 4 ∧ (ρ.i 1) = 5 ∨ (List.getD (List.getD (ρ.l 5) (Int.toNat (ρ.i 0)) []) 0 0) = 4 ∧ (ρ.i 1) = 6 ∨ (List.getD (List.getD (ρ.l 5) (Int.toNat (ρ.i 0)) []) 0 0) = 1 ∧ (ρ.i 1) = 7 := by omega
       have v := nxv (show nxO (ρ.l 5) (ρ.i 0) (ρ.i 1) (ρ.i 2) = _ from nx_same q0)
       obtain ⟨vb, v0, v1, v2, v3⟩ := v
       try simp only [cel] at v0 v1 v2 v3
       repeat' apply And.intro
       all_goals first
         | exact vb
         | omega
         | (simp only [v2, v3]; done)
         | (simp [v2, v3, *]; done)
         | (rw [v3]; simp only [q0]; decide)
         | (rw [v3]; simp only [q1]; decide)
         | (refine congrArg (fun x : Int => !decide (x = 0)) ?_; omega))
theorem rNx_ok : rNx.ok Φ Try.prog := never_end rfl rNx0_ok
theorem d1_ok (ρ : Env) : TblOK Φ ρ Try.prog d1 := addFn_ok (addFn_ok (addFn_ok (addFn_ok (addFn_ok (addFn_ok (addFn_ok (Q.e6_ok ρ) rNx_ok) T.rDis_ok) T.rArm_ok) T.rTick_ok) T.rCredit_ok) T.rCharge_ok) T.rRefill_ok
end Go.SF.C21
