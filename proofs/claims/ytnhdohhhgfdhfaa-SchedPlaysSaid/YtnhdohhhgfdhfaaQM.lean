/- What an event makes of one, shown. -/
import Derived.Test.YtnhdohhhgfdhfaaQ0
import Derived.Test.YtnhdohhhgfdhfaaCM
import Derived.Test.YtnhdohhhgfdhfaaPM
import Derived.KernelRfl
namespace Go.SF.C21
open Go Go.SF Go.Proofs
set_option linter.unusedVariables false
set_option linter.unusedSimpArgs false

def cNext0_1 : SI := .sel (.v 5) (.v 0) 8
def cNext0_2 : SB := .lt cNext0_1 (.c (.negSucc 1073741823))
def cNext0_3 : List SB := [.le (.c 1) (.v 1), .le (.v 1) (.c 8), .le (.c 0) (.v 2), .le (.v 2) (.c 7), .c true, .app 331 (.l (.v 5) (.i (.v 0) .nil))]
def cNext0_4 : List Eqn := [.T (.app 199 .nil)]
def cNext0_5 : SB := .lt (.c 1073741824) cNext0_1
def cNext0_6 : List SB := .not cNext0_2 :: cNext0_3
def cNext0_7 : SB := .eq (.v 1) (.c 2)
def cNext0_8 : SI := .sel (.v 5) (.v 0) 1
def cNext0_9 : SB := .lt cNext0_8 (.c 8)
def cNext0_10 : SB := .le (.c 0) cNext0_8
def cNext0_11 : SI := .sel (.v 5) (.v 0) 0
def cNext0_12 : SB := .eq cNext0_11 (.c 2)
def cNext0_13 : List SB := .not cNext0_5 :: cNext0_6
def cNext0_14 : List SB := cNext0_12 :: cNext0_13
def cNext0_15 : List SB := cNext0_10 :: cNext0_14
def cNext0_16 : List SB := cNext0_9 :: cNext0_15
def cNext0_17 : SA := .l (.v 5) (.i (.v 0) (.i (.v 1) (.i (.v 2) .nil)))
def cNext0_18 : SB := .app 330 cNext0_17
def cNext0_19 : List Eqn := [.T (.not cNext0_18)]
def cNext0_20 : SB := .eq (.sel (.v 5) (.v 0) 3) (.c 0)
def cNext0_21 : SB := .eq (.v 1) (.c 8)
def cNext0_22 : SB := .not cNext0_7
def cNext0_23 : List SB := cNext0_22 :: cNext0_16
def cNext0_24 : List SB := cNext0_21 :: cNext0_23
def cNext0_25 : SL := .app 330 cNext0_17
def cNext0_26 : SI := .sel cNext0_25 (.c 0) 2
def cNext0_27 : Eqn := .T (.le (.c 0) cNext0_26)
def cNext0_28 : Eqn := .T (.le cNext0_26 (.c 1))
def cNext0_29 : SI := .sel cNext0_25 (.c 0) 3
def cNext0_30 : Eqn := .T (.le (.c 0) cNext0_29)
def cNext0_31 : Eqn := .T (.le cNext0_29 (.c 1))
def cNext0_32 : SI := .sel cNext0_25 (.c 0) 0
def cNext0_33 : SI := .sel cNext0_25 (.c 0) 1
def cNext0_34 : SI := .c (.negSucc 0)
def cNext0_35 : Eqn := .I cNext0_33 cNext0_34
def cNext0_36 : SB := .not (.eq cNext0_26 (.c 0))
def cNext0_37 : Eqn := .B cNext0_36 (.c false)
def cNext0_38 : SB := .not (.eq cNext0_29 (.c 0))
def cNext0_39 : List Eqn := [cNext0_35, cNext0_37, .B cNext0_38 (.c false)]
def cNext0_40 : List Eqn := .T cNext0_18 :: cNext0_27 :: cNext0_28 :: cNext0_30 :: cNext0_31 :: .I cNext0_32 (.c 5) :: cNext0_39
def cNext0_41 : SB := .not cNext0_20
def cNext0_42 : SB := .eq (.v 1) (.c 5)
def cNext0_43 : SB := .not cNext0_21
def cNext0_44 : List SB := cNext0_43 :: cNext0_23
def cNext0_45 : Eqn := .I cNext0_32 cNext0_11
def cNext0_46 : Eqn := .I cNext0_33 cNext0_8
def cNext0_47 : List Eqn := [.B cNext0_38 cNext0_41]
def cNext0_48 : SB := .eq (.v 1) (.c 6)
def cNext0_49 : SB := .not cNext0_42
def cNext0_50 : List SB := cNext0_49 :: cNext0_44
def cNext0_51 : SB := .eq (.sel (.v 5) (.v 0) 2) (.c 0)
def cNext0_52 : SB := .not cNext0_51
def cNext0_53 : Eqn := .B cNext0_36 cNext0_52
def cNext0_54 : List Eqn := [.T cNext0_18, cNext0_27, cNext0_28, cNext0_30, cNext0_31, cNext0_45, cNext0_46, cNext0_53, .B cNext0_38 cNext0_48]
def cNext0_55 : SB := .eq (.v 1) (.c 7)
def cNext0_56 : SB := .not cNext0_48
def cNext0_57 : List SB := cNext0_56 :: cNext0_50
def cNext0_58 : SB := .eq (.v 1) (.c 4)
def cNext0_59 : SB := .not cNext0_55
def cNext0_60 : List SB := cNext0_59 :: cNext0_57
def cNext0_61 : List SB := cNext0_58 :: cNext0_60
def cNext0_62 : List Eqn := cNext0_35 :: cNext0_37 :: cNext0_47
def cNext0_63 : List SB := cNext0_52 :: cNext0_61
def cNext0_64 : Eqn := .I cNext0_32 (.c 1)
def cNext0_65 : List Eqn := .T cNext0_18 :: cNext0_27 :: cNext0_28 :: cNext0_30 :: cNext0_31 :: cNext0_64 :: cNext0_39
def cNext0_66 : Eqn := .I cNext0_32 (.c 4)
def cNext0_67 : List Eqn := .T cNext0_18 :: cNext0_27 :: cNext0_28 :: cNext0_30 :: cNext0_31 :: cNext0_66 :: cNext0_39
def cNext0_68 : SB := .eq (.v 1) (.c 3)
def cNext0_69 : List SB := .not cNext0_58 :: cNext0_60
def cNext0_70 : List SB := cNext0_68 :: cNext0_69
def cNext0_71 : SB := .eq cNext0_8 cNext0_34
def cNext0_72 : SB := .eq cNext0_11 (.c 0)
def cNext0_73 : List SB := .not cNext0_12 :: cNext0_13
def cNext0_74 : List SB := cNext0_72 :: cNext0_73
def cNext0_75 : List SB := cNext0_20 :: cNext0_74
def cNext0_76 : List SB := cNext0_71 :: cNext0_75
def cNext0_77 : List SB := cNext0_51 :: cNext0_76
def cNext0_78 : List SB := cNext0_22 :: cNext0_77
def cNext0_79 : SB := .eq (.v 1) (.c 1)
def cNext0_80 : List SB := cNext0_43 :: cNext0_78
def cNext0_81 : List Eqn := .T cNext0_18 :: cNext0_27 :: cNext0_28 :: cNext0_30 :: cNext0_31 :: cNext0_64 :: cNext0_62
def cNext0_82 : SB := .not cNext0_71
def cNext0_83 : SB := .eq cNext0_11 (.c 1)
def cNext0_84 : List SB := .not cNext0_72 :: cNext0_73
def cNext0_85 : List SB := cNext0_83 :: cNext0_84
def cNext0_86 : List SB := cNext0_20 :: cNext0_85
def cNext0_87 : List SB := cNext0_71 :: cNext0_86
def cNext0_88 : List SB := cNext0_51 :: cNext0_87
def cNext0_89 : List Eqn := cNext0_53 :: cNext0_47
def cNext0_90 : List SB := cNext0_22 :: cNext0_88
def cNext0_91 : List SB := cNext0_43 :: cNext0_90
def cNext0_92 : List SB := cNext0_56 :: cNext0_91
def cNext0_93 : List Eqn := .T cNext0_18 :: cNext0_27 :: cNext0_28 :: cNext0_30 :: cNext0_31 :: cNext0_45 :: cNext0_46 :: cNext0_89
def cNext0_94 : List SB := cNext0_49 :: cNext0_92
def cNext0_95 : SB := .eq cNext0_11 (.c 4)
def cNext0_96 : List SB := .not cNext0_83 :: cNext0_84
def cNext0_97 : List SB := cNext0_95 :: cNext0_96
def cNext0_98 : List SB := cNext0_20 :: cNext0_97
def cNext0_99 : List SB := cNext0_71 :: cNext0_98
def cNext0_100 : List SB := cNext0_51 :: cNext0_99
def cNext0_101 : List SB := cNext0_22 :: cNext0_100
def cNext0_102 : List SB := cNext0_43 :: cNext0_101
def cNext0_103 : List SB := cNext0_59 :: cNext0_102
def cNext0_104 : List SB := cNext0_49 :: cNext0_103
def cNext0_105 : SB := .eq cNext0_11 (.c 5)
def cNext0_106 : List SB := .not cNext0_95 :: cNext0_96
def cNext0_107 : List SB := cNext0_105 :: cNext0_106
def cNext0_108 : List SB := cNext0_20 :: cNext0_107
def cNext0_109 : List SB := cNext0_71 :: cNext0_108
def cNext0_110 : List SB := cNext0_51 :: cNext0_109
def cNext0_111 : List SB := cNext0_22 :: cNext0_110
def cNext0_112 : SB := .eq cNext0_11 (.c 3)
def cNext0_113 : List SB := .not cNext0_105 :: cNext0_106
def cNext0_114 : List SB := cNext0_112 :: cNext0_113
def cNext0_115 : List SB := cNext0_71 :: cNext0_114
def cNext0_116 : List SB := cNext0_51 :: cNext0_115
def cNext0_117 : List SB := cNext0_22 :: cNext0_116
def cNext0_118 : List SB := cNext0_21 :: cNext0_117
def cNext0_119 : List SB := cNext0_43 :: cNext0_117
def cNext0_120 : List SB := cNext0_42 :: cNext0_119
def cNext0_121 : List SB := cNext0_49 :: cNext0_119
def cNext0_122 : List SB := cNext0_56 :: cNext0_121
set_option maxRecDepth 100000 in
theorem cNext0_obs : callObs Φ Try.prog b1 1000 cNext0.f cNext0.vs cNext0.o cNext0.pc cNext0.outs = some
  [⟨cNext0_2 :: cNext0_3, cNext0_4⟩, ⟨cNext0_5 :: cNext0_6, cNext0_4⟩, ⟨cNext0_7 :: cNext0_16, cNext0_19⟩, ⟨cNext0_20 :: cNext0_24, cNext0_40⟩, ⟨cNext0_41 :: cNext0_24, cNext0_40⟩, ⟨cNext0_42 :: cNext0_44, .T cNext0_18 :: cNext0_27 :: cNext0_28 :: cNext0_30 :: cNext0_31 :: cNext0_45 :: cNext0_46 :: .B cNext0_36 (.c true) :: cNext0_47⟩, ⟨cNext0_48 :: cNext0_50, cNext0_54⟩, ⟨cNext0_55 :: cNext0_57, cNext0_54⟩, ⟨cNext0_51 :: cNext0_61, .T cNext0_18 :: cNext0_27 :: cNext0_28 :: cNext0_30 :: cNext0_31 :: .I cNext0_32 (.c 3) :: cNext0_62⟩, ⟨cNext0_20 :: cNext0_63, cNext0_65⟩, ⟨cNext0_41 :: cNext0_63, cNext0_67⟩, ⟨cNext0_20 :: cNext0_70, cNext0_65⟩, ⟨cNext0_41 :: cNext0_70, cNext0_67⟩, ⟨.not cNext0_68 :: cNext0_69, cNext0_19⟩, ⟨.not cNext0_9 :: cNext0_15, cNext0_4⟩, ⟨.not cNext0_10 :: cNext0_14, cNext0_4⟩, ⟨cNext0_7 :: cNext0_77, cNext0_19⟩, ⟨cNext0_21 :: cNext0_78, cNext0_40⟩, ⟨cNext0_79 :: cNext0_80, cNext0_81⟩, ⟨.not cNext0_79 :: cNext0_80, cNext0_19⟩, ⟨cNext0_52 :: cNext0_76, cNext0_4⟩, ⟨cNext0_82 :: cNext0_75, cNext0_4⟩, ⟨cNext0_41 :: cNext0_74, cNext0_4⟩, ⟨cNext0_7 :: cNext0_88, .T cNext0_18 :: cNext0_27 :: cNext0_28 :: cNext0_30 :: cNext0_31 :: .I cNext0_32 (.c 2) :: .I cNext0_33 (.v 2) :: cNext0_89⟩, ⟨cNext0_21 :: cNext0_90, cNext0_40⟩, ⟨cNext0_48 :: cNext0_91, .T cNext0_18 :: cNext0_27 :: cNext0_28 :: cNext0_30 :: cNext0_31 :: cNext0_66 :: cNext0_62⟩, ⟨cNext0_42 :: cNext0_92, cNext0_93⟩, ⟨cNext0_55 :: cNext0_94, cNext0_93⟩, ⟨cNext0_59 :: cNext0_94, cNext0_19⟩, ⟨cNext0_52 :: cNext0_87, cNext0_4⟩, ⟨cNext0_82 :: cNext0_86, cNext0_4⟩, ⟨cNext0_41 :: cNext0_85, cNext0_4⟩, ⟨cNext0_7 :: cNext0_100, cNext0_19⟩, ⟨cNext0_21 :: cNext0_101, cNext0_40⟩, ⟨cNext0_55 :: cNext0_102, cNext0_81⟩, ⟨cNext0_42 :: cNext0_103, cNext0_93⟩, ⟨cNext0_48 :: cNext0_104, cNext0_93⟩, ⟨cNext0_56 :: cNext0_104, cNext0_19⟩, ⟨cNext0_52 :: cNext0_99, cNext0_4⟩, ⟨cNext0_82 :: cNext0_98, cNext0_4⟩, ⟨cNext0_41 :: cNext0_97, cNext0_4⟩, ⟨cNext0_7 :: cNext0_110, cNext0_19⟩, ⟨cNext0_21 :: cNext0_111, cNext0_19⟩, ⟨cNext0_43 :: cNext0_111, cNext0_19⟩, ⟨cNext0_52 :: cNext0_109, cNext0_4⟩, ⟨cNext0_82 :: cNext0_108, cNext0_4⟩, ⟨cNext0_41 :: cNext0_107, cNext0_4⟩, ⟨cNext0_7 :: cNext0_116, cNext0_19⟩, ⟨cNext0_20 :: cNext0_118, cNext0_40⟩, ⟨cNext0_41 :: cNext0_118, cNext0_40⟩, ⟨cNext0_20 :: cNext0_120, cNext0_65⟩, ⟨cNext0_41 :: cNext0_120, cNext0_67⟩, ⟨cNext0_48 :: cNext0_121, cNext0_54⟩, ⟨cNext0_55 :: cNext0_122, cNext0_54⟩, ⟨cNext0_59 :: cNext0_122, cNext0_19⟩, ⟨cNext0_52 :: cNext0_115, cNext0_4⟩, ⟨cNext0_82 :: cNext0_114, cNext0_4⟩, ⟨.not cNext0_112 :: cNext0_113, cNext0_4⟩] := by kernel_rfl
set_option maxHeartbeats 2000000 in
theorem cNext0_ok : cNext0.ok Φ Try.prog := by
  refine call_rule (fun ρ => b1_ok ρ) cNext0_obs ?_
  simp only [cNext0_1, cNext0_2, cNext0_3, cNext0_4, cNext0_5, cNext0_6, cNext0_7, cNext0_8, cNext0_9, cNext0_10, cNext0_11, cNext0_12, cNext0_13, cNext0_14, cNext0_15, cNext0_16, cNext0_17, cNext0_18, cNext0_19, cNext0_20, cNext0_21, cNext0_22, cNext0_23, cNext0_24, cNext0_25, cNext0_26, cNext0_27, cNext0_28, cNext0_29, cNext0_30, cNext0_31, cNext0_32, cNext0_33, cNext0_34, cNext0_35, cNext0_36, cNext0_37, cNext0_38, cNext0_39, cNext0_40, cNext0_41, cNext0_42, cNext0_43, cNext0_44, cNext0_45, cNext0_46, cNext0_47, cNext0_48, cNext0_49, cNext0_50, cNext0_51, cNext0_52, cNext0_53, cNext0_54, cNext0_55, cNext0_56, cNext0_57, cNext0_58, cNext0_59, cNext0_60, cNext0_61, cNext0_62, cNext0_63, cNext0_64, cNext0_65, cNext0_66, cNext0_67, cNext0_68, cNext0_69, cNext0_70, cNext0_71, cNext0_72, cNext0_73, cNext0_74, cNext0_75, cNext0_76, cNext0_77, cNext0_78, cNext0_79, cNext0_80, cNext0_81, cNext0_82, cNext0_83, cNext0_84, cNext0_85, cNext0_86, cNext0_87, cNext0_88, cNext0_89, cNext0_90, cNext0_91, cNext0_92, cNext0_93, cNext0_94, cNext0_95, cNext0_96, cNext0_97, cNext0_98, cNext0_99, cNext0_100, cNext0_101, cNext0_102, cNext0_103, cNext0_104, cNext0_105, cNext0_106, cNext0_107, cNext0_108, cNext0_109, cNext0_110, cNext0_111, cNext0_112, cNext0_113, cNext0_114, cNext0_115, cNext0_116, cNext0_117, cNext0_118, cNext0_119, cNext0_120, cNext0_121, cNext0_122, and_imp, List.forall_mem_cons, List.not_mem_nil, false_implies, implies_true, and_true, Ob.ok, holds, Eqn.ok, evB_eq, evB_lt, evB_le, evB_not, evB_app, evB_c, ev_sel, ev_v, ev_c, evL_v, evL_app, evA_l, evA_i, evA_nil, negSucc_lit, decide_eq_true_eq, Bool.not_eq_true', decide_eq_false_iff_not, aL330, aB330, aB331, aB199, Bool.not_eq_false']
  repeat' apply And.intro
  all_goals intro ρ hR
  all_goals intros
  all_goals first
    | (have hr := right_iff.1 (show right8 (ρ.l 5) (ρ.i 0) = true by with_reducible assumption)
       simp only [cel] at hr
       obtain ⟨r0, r1, r2, r3, r4, r5, r6, r7⟩ := hr
       exfalso
       omega)
    | (have hr := right_iff.1 (show right8 (ρ.l 5) (ρ.i 0) = true by with_reducible assumption)
       simp only [cel] at hr
       obtain ⟨r0, r1, r2, r3, r4, r5, r6, r7⟩ := hr
       have q : ((List.getD (List.getD (ρ.l 5) (Int.toNat (ρ.i 0)) []) 0 0) = 2 ∧ ((ρ.i 1) < 3 ∨ 8 < (ρ.i 1))) ∨ (¬ (List.getD (List.getD (ρ.l 5) (Int.toNat (ρ.i 0)) []) 0 0) = 2 ∧ ¬ ((ρ.i 1) = 8 ∧ ¬ (List.getD (List.getD (ρ.l 5) (Int.toNat (ρ.i 0)) []) 0 0) = 5) ∧ ¬ ((List.getD (List.getD (ρ.l 5) (Int.toNat (ρ.i 0)) []) 0 0) = 0 ∧ (ρ.i 1) = 1 ∨ (List.getD (List.getD (ρ.l 5) (Int.toNat (ρ.i 0)) []) 0 0) = 4 ∧ (ρ.i 1) = 7) ∧ ¬ ((List.getD (List.getD (ρ.l 5) (Int.toNat (ρ.i 0)) []) 0 0) = 1 ∧ (ρ.i 1) = 2) ∧ ¬ ((List.getD (List.getD (ρ.l 5) (Int.toNat (ρ.i 0)) []) 0 0) = 3 ∧ 5 ≤ (ρ.i 1) ∧ (ρ.i 1) ≤ 7) ∧ ¬ ((List.getD (List.getD (ρ.l 5) (Int.toNat (ρ.i 0)) []) 0 0) = 1 ∧ 5 ≤ (ρ.i 1) ∧ (ρ.i 1) ≤ 7) ∧ ¬ ((List.getD (List.getD (ρ.l 5) (Int.toNat (ρ.i 0)) []) 0 0) = 4 ∧ 5 ≤ (ρ.i 1) ∧ (ρ.i 1) ≤ 7)) := by omega
       exact nxv_no (show nxO (ρ.l 5) (ρ.i 0) (ρ.i 1) (ρ.i 2) = none from nx_no q))
    | (have hr := right_iff.1 (show right8 (ρ.l 5) (ρ.i 0) = true by with_reducible assumption)
       simp only [cel] at hr
       obtain ⟨r0, r1, r2, r3, r4, r5, r6, r7⟩ := hr
       have q0 : (ρ.i 1) = 8 := by omega
       have q1 : ¬ (List.getD (List.getD (ρ.l 5) (Int.toNat (ρ.i 0)) []) 0 0) = 5 := by omega
       have v := nxv (show nxO (ρ.l 5) (ρ.i 0) (ρ.i 1) (ρ.i 2) = _ from nx_stop q0 q1)
       obtain ⟨vb, v0, v1, v2, v3⟩ := v
       try simp only [cel] at v0 v1 v2 v3
       repeat' apply And.intro
       all_goals first
         | exact vb
         | omega
         | (simp only [v2, v3]; done)
         | (simp [v2, v3, *]; done)
         | (rw [v3]; simp only [q0]; decide)
         | (rw [v3]; simp only [q1]; decide))
    | (have hr := right_iff.1 (show right8 (ρ.l 5) (ρ.i 0) = true by with_reducible assumption)
       simp only [cel] at hr
       obtain ⟨r0, r1, r2, r3, r4, r5, r6, r7⟩ := hr
       have q0 : (ρ.i 1) = 5 := by omega
       have q1 : (List.getD (List.getD (ρ.l 5) (Int.toNat (ρ.i 0)) []) 0 0) = 2 := by omega
       have v := nxv (show nxO (ρ.l 5) (ρ.i 0) (ρ.i 1) (ρ.i 2) = _ from nx_wakeR q0 q1)
       obtain ⟨vb, v0, v1, v2, v3⟩ := v
       try simp only [cel] at v0 v1 v2 v3
       repeat' apply And.intro
       all_goals first
         | exact vb
         | omega
         | (simp only [v2, v3]; done)
         | (simp [v2, v3, *]; done)
         | (rw [v3]; simp only [q0]; decide)
         | (rw [v3]; simp only [q1]; decide))
    | (have hr := right_iff.1 (show right8 (ρ.l 5) (ρ.i 0) = true by with_reducible assumption)
       simp only [cel] at hr
       obtain ⟨r0, r1, r2, r3, r4, r5, r6, r7⟩ := hr
       have q0 : (ρ.i 1) = 6 := by omega
       have q1 : (List.getD (List.getD (ρ.l 5) (Int.toNat (ρ.i 0)) []) 0 0) = 2 := by omega
       have v := nxv (show nxO (ρ.l 5) (ρ.i 0) (ρ.i 1) (ρ.i 2) = _ from nx_pauseR q0 q1)
       obtain ⟨vb, v0, v1, v2, v3⟩ := v
       try simp only [cel] at v0 v1 v2 v3
       repeat' apply And.intro
       all_goals first
         | exact vb
         | omega
         | (simp only [v2, v3]; done)
         | (simp [v2, v3, *]; done)
         | (rw [v3]; simp only [q0]; decide)
         | (rw [v3]; simp only [q1]; decide))
    | (have hr := right_iff.1 (show right8 (ρ.l 5) (ρ.i 0) = true by with_reducible assumption)
       simp only [cel] at hr
       obtain ⟨r0, r1, r2, r3, r4, r5, r6, r7⟩ := hr
       have q0 : (ρ.i 1) = 7 := by omega
       have q1 : (List.getD (List.getD (ρ.l 5) (Int.toNat (ρ.i 0)) []) 0 0) = 2 := by omega
       have v := nxv (show nxO (ρ.l 5) (ρ.i 0) (ρ.i 1) (ρ.i 2) = _ from nx_resR q0 q1)
       obtain ⟨vb, v0, v1, v2, v3⟩ := v
       try simp only [cel] at v0 v1 v2 v3
       repeat' apply And.intro
       all_goals first
         | exact vb
         | omega
         | (simp only [v2, v3]; done)
         | (simp [v2, v3, *]; done)
         | (rw [v3]; simp only [q0]; decide)
         | (rw [v3]; simp only [q1]; decide))
    | (have hr := right_iff.1 (show right8 (ρ.l 5) (ρ.i 0) = true by with_reducible assumption)
       simp only [cel] at hr
       obtain ⟨r0, r1, r2, r3, r4, r5, r6, r7⟩ := hr
       have q0 : (ρ.i 1) = 4 := by omega
       have q1 : (List.getD (List.getD (ρ.l 5) (Int.toNat (ρ.i 0)) []) 0 0) = 2 := by omega
       have q2 : (List.getD (List.getD (ρ.l 5) (Int.toNat (ρ.i 0)) []) 2 0) = 0 := by omega
       have v := nxv (show nxO (ρ.l 5) (ρ.i 0) (ρ.i 1) (ρ.i 2) = _ from nx_block q0 q1 q2)
       obtain ⟨vb, v0, v1, v2, v3⟩ := v
       try simp only [cel] at v0 v1 v2 v3
       repeat' apply And.intro
       all_goals first
         | exact vb
         | omega
         | (simp only [v2, v3]; done)
         | (simp [v2, v3, *]; done)
         | (rw [v3]; simp only [q0]; decide)
         | (rw [v3]; simp only [q1]; decide))
    | (have hr := right_iff.1 (show right8 (ρ.l 5) (ρ.i 0) = true by with_reducible assumption)
       simp only [cel] at hr
       obtain ⟨r0, r1, r2, r3, r4, r5, r6, r7⟩ := hr
       have q0 : (List.getD (List.getD (ρ.l 5) (Int.toNat (ρ.i 0)) []) 0 0) = 2 := by omega
       have q1 : (ρ.i 1) = 3 ∨ (ρ.i 1) = 4 ∧ ¬ (List.getD (List.getD (ρ.l 5) (Int.toNat (ρ.i 0)) []) 2 0) = 0 := by omega
       have v := nxv (show nxO (ρ.l 5) (ρ.i 0) (ρ.i 1) (ρ.i 2) = _ from nx_off q0 q1)
       obtain ⟨vb, v0, v1, v2, v3⟩ := v
       try simp only [cel] at v0 v1 v2 v3
       repeat' apply And.intro
       all_goals first
         | exact vb
         | omega
         | (simp only [v2, v3]; done)
         | (simp [v2, v3, *]; done)
         | (rw [v3]; simp only [q0]; decide)
         | (rw [v3]; simp only [q1]; decide))
    | (have hr := right_iff.1 (show right8 (ρ.l 5) (ρ.i 0) = true by with_reducible assumption)
       simp only [cel] at hr
       obtain ⟨r0, r1, r2, r3, r4, r5, r6, r7⟩ := hr
       have q0 : (List.getD (List.getD (ρ.l 5) (Int.toNat (ρ.i 0)) []) 0 0) = 0 ∧ (ρ.i 1) = 1 ∨ (List.getD (List.getD (ρ.l 5) (Int.toNat (ρ.i 0)) []) 0 0) = 4 ∧ (ρ.i 1) = 7 := by omega
       have v := nxv (show nxO (ρ.l 5) (ρ.i 0) (ρ.i 1) (ρ.i 2) = _ from nx_ready q0)
       obtain ⟨vb, v0, v1, v2, v3⟩ := v
       try simp only [cel] at v0 v1 v2 v3
       repeat' apply And.intro
       all_goals first
         | exact vb
         | omega
         | (simp only [v2, v3]; done)
         | (simp [v2, v3, *]; done)
         | (rw [v3]; simp only [q0]; decide)
         | (rw [v3]; simp only [q1]; decide))
    | (have hr := right_iff.1 (show right8 (ρ.l 5) (ρ.i 0) = true by with_reducible assumption)
       simp only [cel] at hr
       obtain ⟨r0, r1, r2, r3, r4, r5, r6, r7⟩ := hr
       have q0 : (List.getD (List.getD (ρ.l 5) (Int.toNat (ρ.i 0)) []) 0 0) = 1 := by omega
       have q1 : (ρ.i 1) = 2 := by omega
       have v := nxv (show nxO (ρ.l 5) (ρ.i 0) (ρ.i 1) (ρ.i 2) = _ from nx_pick q0 q1)
       obtain ⟨vb, v0, v1, v2, v3⟩ := v
       try simp only [cel] at v0 v1 v2 v3
       repeat' apply And.intro
       all_goals first
         | exact vb
         | omega
         | (simp only [v2, v3]; done)
         | (simp [v2, v3, *]; done)
         | (rw [v3]; simp only [q0]; decide)
         | (rw [v3]; simp only [q1]; decide))
    | (have hr := right_iff.1 (show right8 (ρ.l 5) (ρ.i 0) = true by with_reducible assumption)
       simp only [cel] at hr
       obtain ⟨r0, r1, r2, r3, r4, r5, r6, r7⟩ := hr
       have q0 : (List.getD (List.getD (ρ.l 5) (Int.toNat (ρ.i 0)) []) 0 0) = 3 := by omega
       have q1 : (ρ.i 1) = 5 := by omega
       have v := nxv (show nxO (ρ.l 5) (ρ.i 0) (ρ.i 1) (ρ.i 2) = _ from nx_wakeB q0 q1)
       obtain ⟨vb, v0, v1, v2, v3⟩ := v
       try simp only [cel] at v0 v1 v2 v3
       repeat' apply And.intro
       all_goals first
         | exact vb
         | omega
         | (simp only [v2, v3]; done)
         | (simp [v2, v3, *]; done)
         | (rw [v3]; simp only [q0]; decide)
         | (rw [v3]; simp only [q1]; decide))
    | (have hr := right_iff.1 (show right8 (ρ.l 5) (ρ.i 0) = true by with_reducible assumption)
       simp only [cel] at hr
       obtain ⟨r0, r1, r2, r3, r4, r5, r6, r7⟩ := hr
       have q0 : (List.getD (List.getD (ρ.l 5) (Int.toNat (ρ.i 0)) []) 0 0) = 3 := by omega
       have q1 : (ρ.i 1) = 6 := by omega
       have v := nxv (show nxO (ρ.l 5) (ρ.i 0) (ρ.i 1) (ρ.i 2) = _ from nx_pauseB q0 q1)
       obtain ⟨vb, v0, v1, v2, v3⟩ := v
       try simp only [cel] at v0 v1 v2 v3
       repeat' apply And.intro
       all_goals first
         | exact vb
         | omega
         | (simp only [v2, v3]; done)
         | (simp [v2, v3, *]; done)
         | (rw [v3]; simp only [q0]; decide)
         | (rw [v3]; simp only [q1]; decide))
    | (have hr := right_iff.1 (show right8 (ρ.l 5) (ρ.i 0) = true by with_reducible assumption)
       simp only [cel] at hr
       obtain ⟨r0, r1, r2, r3, r4, r5, r6, r7⟩ := hr
       have q0 : (List.getD (List.getD (ρ.l 5) (Int.toNat (ρ.i 0)) []) 0 0) = 3 := by omega
       have q1 : (ρ.i 1) = 7 := by omega
       have v := nxv (show nxO (ρ.l 5) (ρ.i 0) (ρ.i 1) (ρ.i 2) = _ from nx_resB q0 q1)
       obtain ⟨vb, v0, v1, v2, v3⟩ := v
       try simp only [cel] at v0 v1 v2 v3
       repeat' apply And.intro
       all_goals first
         | exact vb
         | omega
         | (simp only [v2, v3]; done)
         | (simp [v2, v3, *]; done)
         | (rw [v3]; simp only [q0]; decide)
         | (rw [v3]; simp only [q1]; decide))
    | (have hr := right_iff.1 (show right8 (ρ.l 5) (ρ.i 0) = true by with_reducible assumption)
       simp only [cel] at hr
       obtain ⟨r0, r1, r2, r3, r4, r5, r6, r7⟩ := hr
       have q0 : (List.getD (List.getD (ρ.l 5) (Int.toNat (ρ.i 0)) []) 0 0) = 1 := by omega
       have q1 : (ρ.i 1) = 6 := by omega
       have v := nxv (show nxO (ρ.l 5) (ρ.i 0) (ρ.i 1) (ρ.i 2) = _ from nx_pauseY q0 q1)
       obtain ⟨vb, v0, v1, v2, v3⟩ := v
       try simp only [cel] at v0 v1 v2 v3
       repeat' apply And.intro
       all_goals first
         | exact vb
         | omega
         | (simp only [v2, v3]; done)
         | (simp [v2, v3, *]; done)
         | (rw [v3]; simp only [q0]; decide)
         | (rw [v3]; simp only [q1]; decide))
    | (have hr := right_iff.1 (show right8 (ρ.l 5) (ρ.i 0) = true by with_reducible assumption)
       simp only [cel] at hr
       obtain ⟨r0, r1, r2, r3, r4, r5, r6, r7⟩ := hr
       have q0 : (List.getD (List.getD (ρ.l 5) (Int.toNat (ρ.i 0)) []) 0 0) = 1 ∧ (ρ.i 1) = 5 ∨ (List.getD (List.getD (ρ.l 5) (Int.toNat (ρ.i 0)) []) 0 0) = 4 ∧ (ρ.i 1) = 5 ∨ (List.getD (List.getD (ρ.l 5) (Int.toNat (ρ.i 0)) []) 0 0) = 4 ∧ (ρ.i 1) = 6 ∨ (List.getD (List.getD (ρ.l 5) (Int.toNat (ρ.i 0)) []) 0 0) = 1 ∧ (ρ.i 1) = 7 := by omega
       have v := nxv (show nxO (ρ.l 5) (ρ.i 0) (ρ.i 1) (ρ.i 2) = _ from nx_same q0)
       obtain ⟨vb, v0, v1, v2, v3⟩ := v
       try simp only [cel] at v0 v1 v2 v3
       repeat' apply And.intro
       all_goals first
         | exact vb
         | omega
         | (simp only [v2, v3]; done)
         | (simp [v2, v3, *]; done)
         | (rw [v3]; simp only [q0]; decide)
         | (rw [v3]; simp only [q1]; decide))
theorem never_end {P : Go.Program} {f : Nat} {vs : List AV} {o : List AObj} {pc : List SB} {l : List TOut} {y : TOut} (hy : y.pc = [.app 199 .nil]) (h : TmCall Φ P f vs o pc (l ++ [y])) : TmCall Φ P f vs o pc l := by
  intro ρ μ B w xs hd hM hp R hR
  refine h ρ μ B w xs hd hM hp R fun eo heo => ?_
  simp only [List.map_append, List.map_cons, List.map_nil, List.mem_append, List.mem_cons, List.not_mem_nil, or_false] at heo
  rcases heo with heo | rfl
  · exact hR _ heo
  · have nev : ∀ ρ' : Env, ¬ holds Φ ρ' y.pc := fun ρ' hh => by
      rw [hy] at hh
      have := hh (.app 199 .nil) (by simp)
      simp only [evB_app, evA_nil] at this
      rw [aB199] at this
      cases this
    cases hg : get 0 y.t with
    | none => exact fun ρ' _ => nev ρ'
    | some v => exact fun ρ' _ hh => absurd hh (nev ρ')
theorem cNext_ok : cNext.ok Φ Try.prog := never_end rfl cNext0_ok
theorem m1_ok (ρ : Env) : TblOK Φ ρ Try.prog m1 := addFn_ok (b1_ok ρ) cNext_ok
def cLv_1 : SI := .sel (.v 5) (.v 0) 1
def cLv_2 : SI := .len (.v 4)
def cLv_3 : SB := .lt cLv_1 cLv_2
def cLv_4 : SB := .le (.c 0) cLv_1
def cLv_5 : SI := .sel (.v 5) (.v 0) 0
def cLv_6 : SB := .eq cLv_5 (.c 2)
def cLv_7 : SI := .len (.v 0)
def cLv_8 : SI := .len (.v 5)
def cLv_9 : SA := .i (.c 64) .nil
def cLv_10 : SA := .l (.v 1) cLv_9
def cLv_11 : SB := .not cLv_6
def cLv_12 : List SB := [.le (.c 1) cLv_7, .le cLv_7 (.c 8), .eq cLv_2 cLv_7, .le cLv_8 (.c 64), .le (.c 1) (.v 8), .le (.v 8) (.c 10000), .c true, .le (.c 0) (.v 0), .lt (.v 0) cLv_8, .app 130 (.l (.v 0) cLv_10), .and (.c true) (.or cLv_11 (.and cLv_4 cLv_3))]
def cLv_13 : SA := .i (.v 0) .nil
def cLv_14 : SA := .l (.v 0) cLv_13
def cLv_15 : SL := .app 332 (.l (.v 5) cLv_14)
def cLv_16 : SI := .len cLv_15
def cLv_17 : Eqn := .T (.eq cLv_16 cLv_7)
def cLv_18 : SL := .app 333 (.l (.v 5) (.l (.v 4) cLv_13))
def cLv_19 : SI := .len cLv_18
def cLv_20 : Eqn := .T (.eq cLv_19 cLv_2)
def cLv_21 : Eqn := .T (.app 130 (.l cLv_15 cLv_10))
def cLv_22 : Eqn := .I cLv_19 cLv_2
def cLv_23 : Eqn := .I cLv_16 cLv_7
def cLv_24 : List Eqn := [.L cLv_15 (.v 0)]
def cLv_25 : SL := .app 112 cLv_14
def cLv_26 : SA := .l (.v 1000) cLv_9
def cLv_27 : SI := .len cLv_25
def cLv_28 : SB := .eq cLv_5 (.c 1)
def cLv_29 : List SB := cLv_11 :: cLv_12
def cLv_30 : Eqn := .L cLv_18 (.v 4)
set_option maxRecDepth 100000 in
theorem cLv_obs : callObs Φ Try.prog m1 1000 cLv.f cLv.vs cLv.o cLv.pc cLv.outs = some
  [⟨cLv_3 :: cLv_4 :: cLv_6 :: cLv_12, cLv_17 :: cLv_20 :: cLv_21 :: cLv_22 :: cLv_23 :: .L cLv_18 (.app 4 (.l (.v 4) (.i cLv_1 (.i (.c 0) (.i (.c (.negSucc 0)) .nil))))) :: cLv_24⟩, ⟨.app 130 (.l cLv_25 cLv_26) :: .eq cLv_27 cLv_7 :: cLv_28 :: cLv_29, [cLv_17, cLv_20, .T (.app 130 (.l cLv_15 cLv_26)), cLv_22, .I cLv_16 cLv_27, cLv_30, .L cLv_15 cLv_25]⟩, ⟨.not cLv_28 :: cLv_29, cLv_17 :: cLv_20 :: cLv_21 :: cLv_22 :: cLv_23 :: cLv_30 :: cLv_24⟩] := by kernel_rfl
theorem cLv_ok : cLv.ok Φ Try.prog := by
  refine call_rule (fun ρ => m1_ok ρ) cLv_obs ?_
  simp only [cLv_1, cLv_2, cLv_3, cLv_4, cLv_5, cLv_6, cLv_7, cLv_8, cLv_9, cLv_10, cLv_11, cLv_12, cLv_13, cLv_14, cLv_15, cLv_16, cLv_17, cLv_18, cLv_19, cLv_20, cLv_21, cLv_22, cLv_23, cLv_24, cLv_25, cLv_26, cLv_27, cLv_28, cLv_29, cLv_30, and_imp, List.forall_mem_cons, List.not_mem_nil, false_implies, implies_true, and_true, Ob.ok, holds, Eqn.ok, evB_eq, evB_lt, evB_le, evB_not, evB_and, evB_or, evB_app, evB_c, ev_sel, ev_len, ev_v, ev_c, evL_v, evL_app, evA_l, evA_i, evA_nil, std_set, negSucc_lit, decide_eq_true_eq, Bool.and_eq_true, Bool.or_eq_true, Bool.not_eq_true', decide_eq_false_iff_not, aL332, aL333, Q.aB130, Q.aL112]
  repeat' apply And.intro
  all_goals intro ρ hR
  all_goals intros
  all_goals first
    | (have q0 : (List.getD (List.getD (ρ.l 5) (Int.toNat (ρ.i 0)) []) 0 0) = 2 := by with_reducible assumption
       have v := lv_2 (O := ρ.l 5) (A := ρ.l 0) (R := ρ.l 4) (i := ρ.i 0) q0
       rw [v.1, v.2]
       repeat' apply And.intro
       all_goals first
         | rfl
         | omega
         | with_reducible assumption
         | (rw [setC_len]; done))
    | (have q0 : (List.getD (List.getD (ρ.l 5) (Int.toNat (ρ.i 0)) []) 0 0) = 1 := by with_reducible assumption
       have v := lv_1 (O := ρ.l 5) (A := ρ.l 0) (R := ρ.l 4) (i := ρ.i 0) q0
       rw [v.1, v.2]
       repeat' apply And.intro
       all_goals first
         | rfl
         | omega
         | with_reducible assumption
         | (rw [setC_len]; done))
    | (have q0 : ¬ (List.getD (List.getD (ρ.l 5) (Int.toNat (ρ.i 0)) []) 0 0) = 1 := by with_reducible assumption
       have q1 : ¬ (List.getD (List.getD (ρ.l 5) (Int.toNat (ρ.i 0)) []) 0 0) = 2 := by with_reducible assumption
       have v := lv_0 (O := ρ.l 5) (A := ρ.l 0) (R := ρ.l 4) (i := ρ.i 0) q0 q1
       rw [v.1, v.2]
       repeat' apply And.intro
       all_goals first
         | rfl
         | omega
         | with_reducible assumption
         | (rw [setC_len]; done))
def cEn_1 : SI := .sel (.v 5) (.v 0) 1
def cEn_2 : SI := .len (.v 4)
def cEn_3 : SB := .lt cEn_1 cEn_2
def cEn_4 : SB := .le (.c 0) cEn_1
def cEn_5 : SI := .sel (.v 5) (.v 0) 0
def cEn_6 : SB := .eq cEn_5 (.c 2)
def cEn_7 : SI := .len (.v 0)
def cEn_8 : SI := .len (.v 5)
def cEn_9 : SA := .i (.c 64) .nil
def cEn_10 : SA := .l (.v 1) cEn_9
def cEn_11 : SB := .not cEn_6
def cEn_12 : List SB := [.le (.c 1) cEn_7, .le cEn_7 (.c 8), .eq cEn_2 cEn_7, .le cEn_8 (.c 64), .le (.c 1) (.v 8), .le (.v 8) (.c 10000), .c true, .le (.c 0) (.v 0), .lt (.v 0) cEn_8, .app 130 (.l (.v 0) cEn_10), .le (.c 0) (.v 2), .lt (.v 2) cEn_7, .and (.c true) (.or cEn_11 (.and cEn_4 cEn_3))]
def cEn_13 : SA := .i (.v 0) .nil
def cEn_14 : SL := .app 334 (.l (.v 5) (.l (.v 0) (.i (.v 2) cEn_13)))
def cEn_15 : SI := .len cEn_14
def cEn_16 : Eqn := .T (.eq cEn_15 cEn_7)
def cEn_17 : SL := .app 335 (.l (.v 5) (.l (.v 4) cEn_13))
def cEn_18 : SI := .len cEn_17
def cEn_19 : Eqn := .T (.eq cEn_18 cEn_2)
def cEn_20 : SA := .l (.v 2) cEn_13
def cEn_21 : SL := .app 336 (.l (.v 5) cEn_20)
def cEn_22 : Eqn := .T (.le (.len cEn_21) (.len (.v 2)))
def cEn_23 : Eqn := .T (.app 130 (.l cEn_14 cEn_10))
def cEn_24 : Eqn := .I cEn_18 cEn_2
def cEn_25 : Eqn := .I cEn_15 cEn_7
def cEn_26 : Eqn := .L cEn_21 (.v 2)
def cEn_27 : List Eqn := [.L cEn_14 (.v 0)]
def cEn_28 : SL := .app 110 (.l (.v 0) (.i (.v 2) (.i (.v 0) cEn_9)))
def cEn_29 : SA := .l (.v 1000) cEn_9
def cEn_30 : SI := .len cEn_28
def cEn_31 : SB := .eq cEn_5 (.c 1)
def cEn_32 : List SB := cEn_11 :: cEn_12
def cEn_33 : Eqn := .L cEn_17 (.v 4)
def cEn_34 : SB := .eq cEn_5 (.c 5)
def cEn_35 : List SB := .not cEn_31 :: cEn_32
def cEn_36 : List Eqn := cEn_33 :: cEn_27
set_option maxRecDepth 100000 in
theorem cEn_obs : callObs Φ Try.prog m1 1000 cEn.f cEn.vs cEn.o cEn.pc cEn.outs = some
  [⟨cEn_3 :: cEn_4 :: cEn_6 :: cEn_12, cEn_16 :: cEn_19 :: cEn_22 :: cEn_23 :: cEn_24 :: cEn_25 :: cEn_26 :: .L cEn_17 (.app 4 (.l (.v 4) (.i cEn_1 (.i (.c 0) cEn_13)))) :: cEn_27⟩, ⟨.app 130 (.l cEn_28 cEn_29) :: .eq cEn_30 cEn_7 :: cEn_31 :: cEn_32, [cEn_16, cEn_19, cEn_22, .T (.app 130 (.l cEn_14 cEn_29)), cEn_24, .I cEn_15 cEn_30, cEn_26, cEn_33, .L cEn_14 cEn_28]⟩, ⟨cEn_34 :: cEn_35, cEn_16 :: cEn_19 :: cEn_22 :: cEn_23 :: cEn_24 :: cEn_25 :: .L cEn_21 (.app 8 cEn_20) :: cEn_36⟩, ⟨.not cEn_34 :: cEn_35, cEn_16 :: cEn_19 :: cEn_22 :: cEn_23 :: cEn_24 :: cEn_25 :: cEn_26 :: cEn_36⟩] := by kernel_rfl
theorem cEn_ok : cEn.ok Φ Try.prog := by
  refine call_rule (fun ρ => m1_ok ρ) cEn_obs ?_
  simp only [cEn_1, cEn_2, cEn_3, cEn_4, cEn_5, cEn_6, cEn_7, cEn_8, cEn_9, cEn_10, cEn_11, cEn_12, cEn_13, cEn_14, cEn_15, cEn_16, cEn_17, cEn_18, cEn_19, cEn_20, cEn_21, cEn_22, cEn_23, cEn_24, cEn_25, cEn_26, cEn_27, cEn_28, cEn_29, cEn_30, cEn_31, cEn_32, cEn_33, cEn_34, cEn_35, cEn_36, and_imp, List.forall_mem_cons, List.not_mem_nil, false_implies, implies_true, and_true, Ob.ok, holds, Eqn.ok, evB_eq, evB_lt, evB_le, evB_not, evB_and, evB_or, evB_app, evB_c, ev_sel, ev_len, ev_v, ev_c, evL_v, evL_app, evA_l, evA_i, evA_nil, std_set, std_del, decide_eq_true_eq, Bool.and_eq_true, Bool.or_eq_true, Bool.not_eq_true', decide_eq_false_iff_not, aL334, aL335, aL336, Q.aB130, Q.aL110]
  repeat' apply And.intro
  all_goals intro ρ hR
  all_goals intros
  all_goals first
    | (have dl := del_len (ρ.l 2) (ρ.i 0)
       have q0 : (List.getD (List.getD (ρ.l 5) (Int.toNat (ρ.i 0)) []) 0 0) = 2 := by with_reducible assumption
       have v := en_2 (O := ρ.l 5) (A := ρ.l 0) (B := ρ.l 2) (R := ρ.l 4) (i := ρ.i 0) (home := ρ.i 2) q0
       rw [v.1, v.2.1, v.2.2]
       repeat' apply And.intro
       all_goals first
         | rfl
         | omega
         | with_reducible assumption
         | (rw [setC_len]; done))
    | (have dl := del_len (ρ.l 2) (ρ.i 0)
       have q0 : (List.getD (List.getD (ρ.l 5) (Int.toNat (ρ.i 0)) []) 0 0) = 1 := by with_reducible assumption
       have v := en_1 (O := ρ.l 5) (A := ρ.l 0) (B := ρ.l 2) (R := ρ.l 4) (i := ρ.i 0) (home := ρ.i 2) q0
       rw [v.1, v.2.1, v.2.2]
       repeat' apply And.intro
       all_goals first
         | rfl
         | omega
         | with_reducible assumption
         | (rw [setC_len]; done))
    | (have dl := del_len (ρ.l 2) (ρ.i 0)
       have q0 : (List.getD (List.getD (ρ.l 5) (Int.toNat (ρ.i 0)) []) 0 0) = 5 := by with_reducible assumption
       have v := en_5 (O := ρ.l 5) (A := ρ.l 0) (B := ρ.l 2) (R := ρ.l 4) (i := ρ.i 0) (home := ρ.i 2) q0
       rw [v.1, v.2.1, v.2.2]
       repeat' apply And.intro
       all_goals first
         | rfl
         | omega
         | with_reducible assumption
         | (rw [setC_len]; done))
    | (have dl := del_len (ρ.l 2) (ρ.i 0)
       have q0 : ¬ (List.getD (List.getD (ρ.l 5) (Int.toNat (ρ.i 0)) []) 0 0) = 1 := by with_reducible assumption
       have q1 : ¬ (List.getD (List.getD (ρ.l 5) (Int.toNat (ρ.i 0)) []) 0 0) = 2 := by with_reducible assumption
       have q2 : ¬ (List.getD (List.getD (ρ.l 5) (Int.toNat (ρ.i 0)) []) 0 0) = 5 := by with_reducible assumption
       have v := en_0 (O := ρ.l 5) (A := ρ.l 0) (B := ρ.l 2) (R := ρ.l 4) (i := ρ.i 0) (home := ρ.i 2) q0 q1 q2
       rw [v.1, v.2.1, v.2.2]
       repeat' apply And.intro
       all_goals first
         | rfl
         | omega
         | with_reducible assumption
         | (rw [setC_len]; done))
theorem m2_ok (ρ : Env) : TblOK Φ ρ Try.prog m2 := addFn_ok (addFn_ok (m1_ok ρ) cLv_ok) cEn_ok
def cSt_1 : SA := .i (.v 0) (.i (.v 1) (.i (.v 4) .nil))
def cSt_2 : SA := .l (.v 5) cSt_1
def cSt_3 : SL := .app 330 cSt_2
def cSt_4 : SI := .sel cSt_3 (.c 0) 0
def cSt_5 : SI := .sel (.v 5) (.v 0) 0
def cSt_6 : SB := .eq cSt_4 cSt_5
def cSt_7 : SI := .sel cSt_3 (.c 0) 3
def cSt_8 : SI := .sel cSt_3 (.c 0) 2
def cSt_9 : SB := .app 330 cSt_2
def cSt_10 : SI := .len (.v 0)
def cSt_11 : SI := .len (.v 4)
def cSt_12 : SI := .len (.v 5)
def cSt_13 : SA := .i (.c 64) .nil
def cSt_14 : SA := .l (.v 1) cSt_13
def cSt_15 : SA := .i (.v 0) .nil
def cSt_16 : SI := .sel (.v 5) (.v 0) 1
def cSt_17 : List SB := [.le (.c 1) cSt_10, .le cSt_10 (.c 8), .eq cSt_11 cSt_10, .le cSt_12 (.c 64), .le (.c 1) (.v 8), .le (.v 8) (.c 10000), .c true, .le (.c 0) (.v 0), .lt (.v 0) cSt_12, .app 130 (.l (.v 0) cSt_14), .le (.c 0) (.v 2), .lt (.v 2) cSt_10, .le (.c 1) (.v 1), .le (.v 1) (.c 8), .le (.c 0) (.v 4), .lt (.v 4) cSt_10, .app 331 (.l (.v 5) cSt_15), .or (.not (.eq cSt_5 (.c 2))) (.and (.le (.c 0) cSt_16) (.lt cSt_16 cSt_11))]
def cSt_18 : List SB := .le cSt_7 (.c 1) :: .le (.c 0) cSt_7 :: .le cSt_8 (.c 1) :: .le (.c 0) cSt_8 :: cSt_9 :: cSt_17
def cSt_19 : SL := .app 331 cSt_2
def cSt_20 : SI := .len cSt_19
def cSt_21 : Eqn := .T (.eq cSt_20 cSt_12)
def cSt_22 : SL := .app 337 (.l (.v 5) (.l (.v 0) (.i (.v 0) (.i (.v 1) (.i (.v 4) (.i (.v 2) .nil))))))
def cSt_23 : SI := .len cSt_22
def cSt_24 : Eqn := .T (.eq cSt_23 cSt_10)
def cSt_25 : SL := .app 338 (.l (.v 5) (.l (.v 4) cSt_1))
def cSt_26 : SI := .len cSt_25
def cSt_27 : Eqn := .T (.eq cSt_26 cSt_11)
def cSt_28 : SL := .app 339 (.l (.v 5) (.l (.v 2) cSt_1))
def cSt_29 : SI := .len (.v 2)
def cSt_30 : Eqn := .T (.le (.len cSt_28) cSt_29)
def cSt_31 : Eqn := .T (.app 130 (.l cSt_22 cSt_14))
def cSt_32 : SI := .app 340 cSt_2
def cSt_33 : Eqn := .I cSt_32 (.c 0)
def cSt_34 : Eqn := .I cSt_20 cSt_12
def cSt_35 : Eqn := .I cSt_26 cSt_11
def cSt_36 : Eqn := .I cSt_23 cSt_10
def cSt_37 : Eqn := .L cSt_28 (.v 2)
def cSt_38 : Eqn := .L cSt_25 (.v 4)
def cSt_39 : SL := .app 4 (.l (.v 5) (.i (.v 0) (.i (.c 0) (.i cSt_4 .nil))))
def cSt_40 : SL := .app 4 (.l cSt_39 (.i (.v 0) (.i (.c 1) (.i (.sel cSt_3 (.c 0) 1) .nil))))
def cSt_41 : SL := .app 4 (.l (.app 4 (.l (.app 4 (.l (.app 4 (.l (.app 4 (.l (.app 4 (.l (.app 4 (.l cSt_40 (.i (.v 0) (.i (.c 2) (.i cSt_8 .nil))))) (.i (.v 0) (.i (.c 3) (.i cSt_7 .nil))))) (.i (.v 0) (.i (.c 4) (.i (.sel (.v 5) (.v 0) 4) .nil))))) (.i (.v 0) (.i (.c 5) (.i (.sel (.v 5) (.v 0) 5) .nil))))) (.i (.v 0) (.i (.c 6) (.i (.sel (.v 5) (.v 0) 6) .nil))))) (.i (.v 0) (.i (.c 7) (.i (.sel (.v 5) (.v 0) 7) .nil))))) (.i (.v 0) (.i (.c 8) (.i (.sel (.v 5) (.v 0) 8) .nil))))
def cSt_42 : Eqn := .L cSt_19 cSt_41
def cSt_43 : List Eqn := [.L cSt_22 (.v 0)]
def cSt_44 : SL := .app 332 (.l (.v 5) (.l (.v 0) cSt_15))
def cSt_45 : SL := .app 334 (.l cSt_41 (.l cSt_44 (.i (.v 2) cSt_15)))
def cSt_46 : SA := .l (.v 2000) cSt_13
def cSt_47 : SL := .app 336 (.l cSt_41 (.l (.v 2) cSt_15))
def cSt_48 : SL := .app 333 (.l (.v 5) (.l (.v 4) cSt_15))
def cSt_49 : SL := .app 335 (.l cSt_41 (.l cSt_48 cSt_15))
def cSt_50 : SI := .len cSt_49
def cSt_51 : SI := .len cSt_48
def cSt_52 : SI := .len cSt_45
def cSt_53 : SI := .len cSt_44
def cSt_54 : SI := .sel cSt_40 (.v 0) 1
def cSt_55 : SB := .or (.not (.eq (.sel cSt_39 (.v 0) 0) (.c 2))) (.and (.le (.c 0) cSt_54) (.lt cSt_54 cSt_51))
def cSt_56 : List SB := .app 130 (.l cSt_44 (.l (.v 1000) cSt_13)) :: .eq cSt_51 cSt_11 :: .eq cSt_53 cSt_10 :: .not cSt_6 :: cSt_18
set_option maxRecDepth 100000 in
theorem cSt_obs : callObs Φ Try.prog m2 1000 cSt.f cSt.vs cSt.o cSt.pc cSt.outs = some
  [⟨cSt_6 :: cSt_18, cSt_21 :: cSt_24 :: cSt_27 :: cSt_30 :: cSt_31 :: cSt_33 :: cSt_34 :: cSt_35 :: cSt_36 :: cSt_37 :: cSt_38 :: cSt_42 :: cSt_43⟩, ⟨.app 130 (.l cSt_45 cSt_46) :: .le (.len cSt_47) cSt_29 :: .eq cSt_50 cSt_51 :: .eq cSt_52 cSt_53 :: cSt_55 :: cSt_56, [cSt_21, cSt_24, cSt_27, cSt_30, .T (.app 130 (.l cSt_22 cSt_46)), cSt_33, cSt_34, .I cSt_26 cSt_50, .I cSt_23 cSt_52, .L cSt_28 cSt_47, .L cSt_25 cSt_49, cSt_42, .L cSt_22 cSt_45]⟩, ⟨.not cSt_55 :: cSt_56, [.T (.c false)]⟩, ⟨.not cSt_9 :: cSt_17, cSt_21 :: cSt_24 :: cSt_27 :: cSt_30 :: cSt_31 :: .I cSt_32 (.c 6) :: cSt_34 :: cSt_35 :: cSt_36 :: cSt_37 :: cSt_38 :: .L cSt_19 (.v 5) :: cSt_43⟩] := by kernel_rfl
theorem cSt_ok : cSt.ok Φ Try.prog := by
  refine call_rule (fun ρ => m2_ok ρ) cSt_obs ?_
  simp only [cSt_1, cSt_2, cSt_3, cSt_4, cSt_5, cSt_6, cSt_7, cSt_8, cSt_9, cSt_10, cSt_11, cSt_12, cSt_13, cSt_14, cSt_15, cSt_16, cSt_17, cSt_18, cSt_19, cSt_20, cSt_21, cSt_22, cSt_23, cSt_24, cSt_25, cSt_26, cSt_27, cSt_28, cSt_29, cSt_30, cSt_31, cSt_32, cSt_33, cSt_34, cSt_35, cSt_36, cSt_37, cSt_38, cSt_39, cSt_40, cSt_41, cSt_42, cSt_43, cSt_44, cSt_45, cSt_46, cSt_47, cSt_48, cSt_49, cSt_50, cSt_51, cSt_52, cSt_53, cSt_54, cSt_55, cSt_56, and_imp, List.forall_mem_cons, List.not_mem_nil, false_implies, implies_true, and_true, Ob.ok, holds, Eqn.ok, evB_eq, evB_lt, evB_le, evB_not, evB_and, evB_or, evB_app, evB_c, ev_sel, ev_len, ev_v, ev_c, evL_v, evL_app, ev_app, evA_l, evA_i, evA_nil, std_set, decide_eq_true_eq, Bool.and_eq_true, Bool.or_eq_true, Bool.not_eq_true', Bool.and_eq_false_iff, Bool.or_eq_false_iff, decide_eq_false_iff_not, aL330, aL331, aL332, aL333, aL334, aL335, aL336, aL337, aL338, aL339, aI340, aB330, aB331, Bool.not_eq_false', Q.aB130]
  repeat' apply And.intro
  all_goals intro ρ hR
  all_goals intros
  all_goals first
    | (have hO : ∀ row ∈ ρ.l 5, row.length = 10 := k10_len (hR.row 9 rfl rfl)
       have hb : nxB (ρ.l 5) (ρ.i 0) (ρ.i 1) (ρ.i 4) = true := by with_reducible assumption
       have hc := (ev_yes hb).trans (chain9 hO (List.getD (List.getD (nxT (ρ.l 5) (ρ.i 0) (ρ.i 1) (ρ.i 4)) (Int.toNat 0) []) 0 0) (List.getD (List.getD (nxT (ρ.l 5) (ρ.i 0) (ρ.i 1) (ρ.i 4)) (Int.toNat 0) []) 1 0) (List.getD (List.getD (nxT (ρ.l 5) (ρ.i 0) (ρ.i 1) (ρ.i 4)) (Int.toNat 0) []) 2 0) (List.getD (List.getD (nxT (ρ.l 5) (ρ.i 0) (ρ.i 1) (ρ.i 4)) (Int.toNat 0) []) 3 0)).symm
       simp only [cel] at hc
       have hs : (List.getD (List.getD (nxT (ρ.l 5) (ρ.i 0) (ρ.i 1) (ρ.i 4)) (Int.toNat 0) []) 0 0) = (List.getD (List.getD (ρ.l 5) (Int.toNat (ρ.i 0)) []) 0 0) := by with_reducible assumption
       have v := ev_same (O := ρ.l 5) (A := ρ.l 0) (B := ρ.l 2) (R := ρ.l 4) (home := ρ.i 2) hs
       rw [v.1, v.2.1, v.2.2, hc, hb]
       simp only [List.length_modify]
       repeat' apply And.intro
       all_goals first
         | rfl
         | omega
         | with_reducible assumption
         | (rw [setC_len]; done))
    | (have hO : ∀ row ∈ ρ.l 5, row.length = 10 := k10_len (hR.row 9 rfl rfl)
       have hb : nxB (ρ.l 5) (ρ.i 0) (ρ.i 1) (ρ.i 4) = true := by with_reducible assumption
       have hc := (ev_yes hb).trans (chain9 hO (List.getD (List.getD (nxT (ρ.l 5) (ρ.i 0) (ρ.i 1) (ρ.i 4)) (Int.toNat 0) []) 0 0) (List.getD (List.getD (nxT (ρ.l 5) (ρ.i 0) (ρ.i 1) (ρ.i 4)) (Int.toNat 0) []) 1 0) (List.getD (List.getD (nxT (ρ.l 5) (ρ.i 0) (ρ.i 1) (ρ.i 4)) (Int.toNat 0) []) 2 0) (List.getD (List.getD (nxT (ρ.l 5) (ρ.i 0) (ρ.i 1) (ρ.i 4)) (Int.toNat 0) []) 3 0)).symm
       simp only [cel] at hc
       have hs : ¬ (List.getD (List.getD (nxT (ρ.l 5) (ρ.i 0) (ρ.i 1) (ρ.i 4)) (Int.toNat 0) []) 0 0) = (List.getD (List.getD (ρ.l 5) (Int.toNat (ρ.i 0)) []) 0 0) := by with_reducible assumption
       have v := ev_chg (A := ρ.l 0) (B := ρ.l 2) (R := ρ.l 4) (home := ρ.i 2) hb hs
       rw [v.1, v.2.1, v.2.2, hc, hb]
       simp only [List.length_modify]
       repeat' apply And.intro
       all_goals first
         | rfl
         | omega
         | with_reducible assumption
         | (rw [setC_len]; done))
    | (have hb : nxB (ρ.l 5) (ρ.i 0) (ρ.i 1) (ρ.i 4) = false := by with_reducible assumption
       have v := ev_no (A := ρ.l 0) (B := ρ.l 2) (R := ρ.l 4) (home := ρ.i 2) hb
       rw [v.1, v.2.1, v.2.2.1, v.2.2.2, hb]
       repeat' apply And.intro
       all_goals first
         | rfl
         | omega
         | with_reducible assumption
         | (rw [setC_len]; done))
    | (exfalso
       have hO : ∀ row ∈ ρ.l 5, row.length = 10 := k10_len (hR.row 9 rfl rfl)
       have hb : nxB (ρ.l 5) (ρ.i 0) (ρ.i 1) (ρ.i 4) = true := by with_reducible assumption
       have hs : ¬ (List.getD (List.getD (nxT (ρ.l 5) (ρ.i 0) (ρ.i 1) (ρ.i 4)) (Int.toNat 0) []) 0 0) = (List.getD (List.getD (ρ.l 5) (Int.toNat (ρ.i 0)) []) 0 0) := by with_reducible assumption
       have g0 : cel ((List.modify (ρ.l 5) (Int.toNat (ρ.i 0)) fun row => List.set row (Int.toNat 0) (List.getD (List.getD (nxT (ρ.l 5) (ρ.i 0) (ρ.i 1) (ρ.i 4)) (Int.toNat 0) []) 0 0))) (ρ.i 0) 0 = (List.getD (List.getD (nxT (ρ.l 5) (ρ.i 0) (ρ.i 1) (ρ.i 4)) (Int.toNat 0) []) 0 0) := cel_set hO (by omega) (by omega) (by decide)
       have hO1 : ∀ row ∈ ((List.modify (ρ.l 5) (Int.toNat (ρ.i 0)) fun row => List.set row (Int.toNat 0) (List.getD (List.getD (nxT (ρ.l 5) (ρ.i 0) (ρ.i 1) (ρ.i 4)) (Int.toNat 0) []) 0 0))), row.length = 10 := modify_len hO
       have g1 : cel ((List.modify ((List.modify (ρ.l 5) (Int.toNat (ρ.i 0)) fun row => List.set row (Int.toNat 0) (List.getD (List.getD (nxT (ρ.l 5) (ρ.i 0) (ρ.i 1) (ρ.i 4)) (Int.toNat 0) []) 0 0))) (Int.toNat (ρ.i 0)) fun row => List.set row (Int.toNat 1) (List.getD (List.getD (nxT (ρ.l 5) (ρ.i 0) (ρ.i 1) (ρ.i 4)) (Int.toNat 0) []) 1 0))) (ρ.i 0) 1 = (List.getD (List.getD (nxT (ρ.l 5) (ρ.i 0) (ρ.i 1) (ρ.i 4)) (Int.toNat 0) []) 1 0) := cel_set hO1 (by omega) (by rw [List.length_modify]; omega) (by decide)
       have h2 : cel ((List.modify (ρ.l 5) (Int.toNat (ρ.i 0)) fun row => List.set row (Int.toNat 0) (List.getD (List.getD (nxT (ρ.l 5) (ρ.i 0) (ρ.i 1) (ρ.i 4)) (Int.toNat 0) []) 0 0))) (ρ.i 0) 0 = 2 := by with_reducible assumption
       have g2 : (List.getD (List.getD (nxT (ρ.l 5) (ρ.i 0) (ρ.i 1) (ρ.i 4)) (Int.toNat 0) []) 1 0) = ρ.i 4 := nx_to2 hb (g0.symm.trans h2) hs
       simp only [cel] at g1
       omega)
theorem m3_ok (ρ : Env) : TblOK Φ ρ Try.prog m3 := addFn_ok (m2_ok ρ) cSt_ok
end Go.SF.C21
