/- The document's step, shown. -/
import Derived.Test.YtnhdohhhgfdhfaaCP
import Derived.Test.YtnhdohhhgfdhfaaPZ
import Derived.Test.YtnhdohhhgfdhfaaQN
import Derived.KernelRfl
namespace Go.SF.C21
open Go Go.SF Go.Proofs
set_option linter.unusedVariables false
set_option linter.unusedSimpArgs false

open Go.SF.C17
def rStep_1 : SA := .i (.v 0) (.i (.v 1) (.i (.v 4) .nil))
def rStep_2 : SA := .l (.v 5) rStep_1
def rStep_3 : SL := .app 330 rStep_2
def rStep_4 : SI := .sel rStep_3 (.c 0) 0
def rStep_5 : SB := .eq rStep_4 (.c 1)
def rStep_6 : SI := .sel (.v 5) (.v 0) 0
def rStep_7 : SB := .eq rStep_6 (.c 1)
def rStep_8 : SI := .sel rStep_3 (.c 0) 3
def rStep_9 : SI := .sel rStep_3 (.c 0) 2
def rStep_10 : SB := .app 330 rStep_2
def rStep_11 : SI := .len (.v 0)
def rStep_12 : SI := .len (.v 4)
def rStep_13 : SI := .len (.v 5)
def rStep_14 : SI := .len (.v 14)
def rStep_15 : SA := .i (.v 0) .nil
def rStep_16 : SB := .eq rStep_6 (.c 2)
def rStep_17 : SB := .not rStep_16
def rStep_18 : SI := .sel (.v 5) (.v 0) 1
def rStep_19 : SB := .le (.c 0) rStep_18
def rStep_20 : SB := .lt rStep_18 rStep_12
def rStep_21 : List SB := [.le (.c 1) rStep_11, .le rStep_11 (.c 8), .eq rStep_12 rStep_11, .le rStep_13 (.c 64), .le (.c 1) (.v 8), .le (.v 8) (.c 10000), .c true, .lt rStep_14 (.c 60000), .lt (.len (.v 15)) (.c 60000), .le (.c 0) (.v 0), .lt (.v 0) rStep_13, .le (.c 0) (.v 2), .lt (.v 2) rStep_11, .le (.c 1) (.v 1), .le (.v 1) (.c 8), .le (.c 0) (.v 4), .lt (.v 4) rStep_11, .app 340 (.l (.v 0) .nil), .app 331 (.l (.v 5) rStep_15), .or rStep_17 (.and (.and rStep_19 rStep_20) (.eq (.sel (.v 4) rStep_18 0) (.v 0)))]
def rStep_22 : List SB := .le rStep_8 (.c 1) :: .le (.c 0) rStep_8 :: .le rStep_9 (.c 1) :: .le (.c 0) rStep_9 :: rStep_10 :: rStep_21
def rStep_23 : List SB := rStep_7 :: rStep_22
def rStep_24 : SL := .app 331 rStep_2
def rStep_25 : SI := .len rStep_24
def rStep_26 : Eqn := .T (.eq rStep_25 rStep_13)
def rStep_27 : SL := .app 337 (.l (.v 5) (.l (.v 0) (.i (.v 0) (.i (.v 1) (.i (.v 4) (.i (.v 2) .nil))))))
def rStep_28 : SI := .len rStep_27
def rStep_29 : Eqn := .T (.eq rStep_28 rStep_11)
def rStep_30 : SL := .app 338 (.l (.v 5) (.l (.v 4) rStep_1))
def rStep_31 : SI := .len rStep_30
def rStep_32 : Eqn := .T (.eq rStep_31 rStep_12)
def rStep_33 : SL := .app 343 (.l (.v 5) (.l (.v 14) rStep_1))
def rStep_34 : SI := .len rStep_33
def rStep_35 : Eqn := .T (.le rStep_34 rStep_14)
def rStep_36 : SI := .app 340 rStep_2
def rStep_37 : Eqn := .I rStep_36 (.c 0)
def rStep_38 : Eqn := .I rStep_25 rStep_13
def rStep_39 : Eqn := .I rStep_31 rStep_12
def rStep_40 : Eqn := .I rStep_28 rStep_11
def rStep_41 : Eqn := .I rStep_34 rStep_14
def rStep_42 : Eqn := .L rStep_30 (.v 4)
def rStep_43 : SI := .sel rStep_3 (.c 0) 1
def rStep_44 : Eqn := .L rStep_24 (.app 4 (.l (.app 4 (.l (.app 4 (.l (.app 4 (.l (.app 4 (.l (.app 4 (.l (.app 4 (.l (.app 4 (.l (.app 4 (.l (.v 5) (.i (.v 0) (.i (.c 0) (.i rStep_4 .nil))))) (.i (.v 0) (.i (.c 1) (.i rStep_43 .nil))))) (.i (.v 0) (.i (.c 2) (.i rStep_9 .nil))))) (.i (.v 0) (.i (.c 3) (.i rStep_8 .nil))))) (.i (.v 0) (.i (.c 4) (.i (.sel (.v 5) (.v 0) 4) .nil))))) (.i (.v 0) (.i (.c 5) (.i (.sel (.v 5) (.v 0) 5) .nil))))) (.i (.v 0) (.i (.c 6) (.i (.sel (.v 5) (.v 0) 6) .nil))))) (.i (.v 0) (.i (.c 7) (.i (.sel (.v 5) (.v 0) 7) .nil))))) (.i (.v 0) (.i (.c 8) (.i (.sel (.v 5) (.v 0) 8) .nil)))))
def rStep_45 : Eqn := .L rStep_27 (.v 0)
def rStep_46 : List Eqn := [.L rStep_33 (.v 14)]
def rStep_47 : List Eqn := rStep_45 :: rStep_46
def rStep_48 : List Eqn := rStep_44 :: rStep_47
def rStep_49 : List Eqn := rStep_26 :: rStep_29 :: rStep_32 :: rStep_35 :: rStep_37 :: rStep_38 :: rStep_39 :: rStep_40 :: rStep_41 :: rStep_42 :: rStep_48
def rStep_50 : SB := .lt rStep_43 rStep_12
def rStep_51 : SB := .le (.c 0) rStep_43
def rStep_52 : SB := .eq rStep_4 (.c 2)
def rStep_53 : SL := .app 112 (.l (.v 0) rStep_15)
def rStep_54 : SI := .len rStep_53
def rStep_55 : SB := .not rStep_5
def rStep_56 : List SB := .eq rStep_54 rStep_11 :: rStep_55 :: rStep_23
def rStep_57 : List SB := rStep_52 :: rStep_56
def rStep_58 : List SB := rStep_51 :: rStep_57
def rStep_59 : Eqn := .I rStep_28 rStep_54
def rStep_60 : Eqn := .L rStep_30 (.app 4 (.l (.v 4) (.i rStep_43 (.i (.c 0) rStep_15))))
def rStep_61 : Eqn := .L rStep_27 rStep_53
def rStep_62 : List Eqn := rStep_44 :: rStep_61 :: rStep_46
def rStep_63 : SB := .not rStep_50
def rStep_64 : List Eqn := [.T (.c false)]
def rStep_65 : SB := .not rStep_51
def rStep_66 : SL := .app 250 (.l (.v 14) rStep_15)
def rStep_67 : SI := .len rStep_66
def rStep_68 : SB := .le rStep_67 rStep_14
def rStep_69 : SB := .eq rStep_4 (.c 5)
def rStep_70 : SB := .not rStep_52
def rStep_71 : List SB := rStep_70 :: rStep_56
def rStep_72 : Eqn := .I rStep_34 rStep_67
def rStep_73 : List Eqn := [.L rStep_33 rStep_66]
def rStep_74 : SB := .not rStep_69
def rStep_75 : SL := .app 110 (.l (.v 0) (.i (.v 2) (.i (.v 0) (.i (.c 64) .nil))))
def rStep_76 : SI := .len rStep_75
def rStep_77 : List SB := .not rStep_7 :: rStep_22
def rStep_78 : List SB := .eq rStep_76 rStep_11 :: rStep_5 :: rStep_77
def rStep_79 : List SB := rStep_16 :: rStep_78
def rStep_80 : List SB := rStep_19 :: rStep_79
def rStep_81 : Eqn := .I rStep_28 rStep_76
def rStep_82 : Eqn := .L rStep_30 (.app 4 (.l (.v 4) (.i rStep_18 (.i (.c 0) (.i (.c (.negSucc 0)) .nil)))))
def rStep_83 : List Eqn := rStep_44 :: .L rStep_27 rStep_75 :: rStep_46
def rStep_84 : SB := .not rStep_20
def rStep_85 : SB := .not rStep_19
def rStep_86 : List SB := rStep_55 :: rStep_77
def rStep_87 : List SB := rStep_16 :: rStep_86
def rStep_88 : List SB := rStep_52 :: rStep_87
def rStep_89 : List SB := rStep_51 :: rStep_88
def rStep_90 : List Eqn := rStep_26 :: rStep_29 :: rStep_32 :: rStep_35 :: rStep_37 :: rStep_38 :: rStep_39 :: rStep_40 :: rStep_41 :: rStep_60 :: rStep_48
def rStep_91 : List SB := rStep_70 :: rStep_87
def rStep_92 : List SB := rStep_19 :: rStep_91
def rStep_93 : List SB := rStep_20 :: rStep_92
def rStep_94 : List Eqn := rStep_44 :: rStep_45 :: rStep_73
def rStep_95 : List SB := rStep_17 :: rStep_86
def rStep_96 : List SB := rStep_52 :: rStep_95
def rStep_97 : List SB := rStep_51 :: rStep_96
def rStep_98 : List SB := rStep_70 :: rStep_95
set_option maxRecDepth 100000 in
theorem rStep_obs : callObs Φ Try.prog d1 1000 rStep.f rStep.vs rStep.o rStep.pc rStep.outs = some
  [⟨rStep_5 :: rStep_23, rStep_49⟩, ⟨rStep_50 :: rStep_58, rStep_26 :: rStep_29 :: rStep_32 :: rStep_35 :: rStep_37 :: rStep_38 :: rStep_39 :: rStep_59 :: rStep_41 :: rStep_60 :: rStep_62⟩, ⟨rStep_63 :: rStep_58, rStep_64⟩, ⟨rStep_65 :: rStep_57, rStep_64⟩, ⟨rStep_68 :: rStep_69 :: rStep_71, rStep_26 :: rStep_29 :: rStep_32 :: rStep_35 :: rStep_37 :: rStep_38 :: rStep_39 :: rStep_59 :: rStep_72 :: rStep_42 :: rStep_44 :: rStep_61 :: rStep_73⟩, ⟨rStep_74 :: rStep_71, rStep_26 :: rStep_29 :: rStep_32 :: rStep_35 :: rStep_37 :: rStep_38 :: rStep_39 :: rStep_59 :: rStep_41 :: rStep_42 :: rStep_62⟩, ⟨rStep_20 :: rStep_80, rStep_26 :: rStep_29 :: rStep_32 :: rStep_35 :: rStep_37 :: rStep_38 :: rStep_39 :: rStep_81 :: rStep_41 :: rStep_82 :: rStep_83⟩, ⟨rStep_84 :: rStep_80, rStep_64⟩, ⟨rStep_85 :: rStep_79, rStep_64⟩, ⟨rStep_17 :: rStep_78, rStep_26 :: rStep_29 :: rStep_32 :: rStep_35 :: rStep_37 :: rStep_38 :: rStep_39 :: rStep_81 :: rStep_41 :: rStep_42 :: rStep_83⟩, ⟨rStep_50 :: rStep_89, rStep_90⟩, ⟨rStep_63 :: rStep_89, rStep_64⟩, ⟨rStep_65 :: rStep_88, rStep_64⟩, ⟨rStep_68 :: rStep_69 :: rStep_93, rStep_26 :: rStep_29 :: rStep_32 :: rStep_35 :: rStep_37 :: rStep_38 :: rStep_39 :: rStep_40 :: rStep_72 :: rStep_82 :: rStep_94⟩, ⟨rStep_74 :: rStep_93, rStep_26 :: rStep_29 :: rStep_32 :: rStep_35 :: rStep_37 :: rStep_38 :: rStep_39 :: rStep_40 :: rStep_41 :: rStep_82 :: rStep_48⟩, ⟨rStep_84 :: rStep_92, rStep_64⟩, ⟨rStep_85 :: rStep_91, rStep_64⟩, ⟨rStep_50 :: rStep_97, rStep_90⟩, ⟨rStep_63 :: rStep_97, rStep_64⟩, ⟨rStep_65 :: rStep_96, rStep_64⟩, ⟨rStep_68 :: rStep_69 :: rStep_98, rStep_26 :: rStep_29 :: rStep_32 :: rStep_35 :: rStep_37 :: rStep_38 :: rStep_39 :: rStep_40 :: rStep_72 :: rStep_42 :: rStep_94⟩, ⟨rStep_74 :: rStep_98, rStep_49⟩, ⟨.not rStep_10 :: rStep_21, rStep_26 :: rStep_29 :: rStep_32 :: rStep_35 :: .I rStep_36 (.c 6) :: rStep_38 :: rStep_39 :: rStep_40 :: rStep_41 :: rStep_42 :: .L rStep_24 (.v 5) :: rStep_47⟩] := by kernel_rfl
set_option maxHeartbeats 2000000 in
theorem rStep_ok : rStep.ok Φ Try.prog := by
  refine call_rule (fun ρ => d1_ok ρ) rStep_obs ?_
  simp only [rStep_1, rStep_2, rStep_3, rStep_4, rStep_5, rStep_6, rStep_7, rStep_8, rStep_9, rStep_10, rStep_11, rStep_12, rStep_13, rStep_14, rStep_15, rStep_16, rStep_17, rStep_18, rStep_19, rStep_20, rStep_21, rStep_22, rStep_23, rStep_24, rStep_25, rStep_26, rStep_27, rStep_28, rStep_29, rStep_30, rStep_31, rStep_32, rStep_33, rStep_34, rStep_35, rStep_36, rStep_37, rStep_38, rStep_39, rStep_40, rStep_41, rStep_42, rStep_43, rStep_44, rStep_45, rStep_46, rStep_47, rStep_48, rStep_49, rStep_50, rStep_51, rStep_52, rStep_53, rStep_54, rStep_55, rStep_56, rStep_57, rStep_58, rStep_59, rStep_60, rStep_61, rStep_62, rStep_63, rStep_64, rStep_65, rStep_66, rStep_67, rStep_68, rStep_69, rStep_70, rStep_71, rStep_72, rStep_73, rStep_74, rStep_75, rStep_76, rStep_77, rStep_78, rStep_79, rStep_80, rStep_81, rStep_82, rStep_83, rStep_84, rStep_85, rStep_86, rStep_87, rStep_88, rStep_89, rStep_90, rStep_91, rStep_92, rStep_93, rStep_94, rStep_95, rStep_96, rStep_97, rStep_98, and_imp, List.forall_mem_cons, List.not_mem_nil, false_implies, implies_true, and_true, Ob.ok, holds, Eqn.ok, evB_eq, evB_lt, evB_le, evB_not, evB_and, evB_or, evB_app, evB_c, ev_sel, ev_len, ev_v, ev_c, evL_v, evL_app, ev_app, evA_l, evA_i, evA_nil, std_set, negSucc_lit, decide_eq_true_eq, Bool.and_eq_true, Bool.or_eq_true, Bool.not_eq_true', decide_eq_false_iff_not, aL330, aL331, aL337, aL338, aI340, aB330, aB331, Q.aL112, Q.aL110, Q.aL110, aL343, aB340, T.aL250]
  repeat' apply And.intro
  all_goals intro ρ hR
  all_goals intros
  all_goals first
    | (have hO : ∀ row ∈ ρ.l 5, row.length = 10 := k10_len (hR.row 8 rfl rfl)
       have hb : nxB (ρ.l 5) (ρ.i 0) (ρ.i 1) (ρ.i 4) = true := by with_reducible assumption
       have hc := (ev_yes hb).trans (chain9 hO (List.getD (List.getD (nxT (ρ.l 5) (ρ.i 0) (ρ.i 1) (ρ.i 4)) (Int.toNat 0) []) 0 0) (List.getD (List.getD (nxT (ρ.l 5) (ρ.i 0) (ρ.i 1) (ρ.i 4)) (Int.toNat 0) []) 1 0) (List.getD (List.getD (nxT (ρ.l 5) (ρ.i 0) (ρ.i 1) (ρ.i 4)) (Int.toNat 0) []) 2 0) (List.getD (List.getD (nxT (ρ.l 5) (ρ.i 0) (ρ.i 1) (ρ.i 4)) (Int.toNat 0) []) 3 0)).symm
       simp only [cel] at hc
       have h0 : 0 ≤ ρ.i 0 := by omega
       have h1 : ρ.i 0 < (ρ.l 5).length := by omega
       have h5 := nx_5 hb
       simp only [cel] at h5
       have hs : ¬ (List.getD (List.getD (nxT (ρ.l 5) (ρ.i 0) (ρ.i 1) (ρ.i 4)) (Int.toNat 0) []) 0 0) = (List.getD (List.getD (ρ.l 5) (Int.toNat (ρ.i 0)) []) 0 0) := by omega
       obtain ⟨v1, v2, v3⟩ := ev_all (A := ρ.l 0) (R := ρ.l 4) (L := ρ.l 14) (home := ρ.i 2) hb hO h0 h1 hs
       simp only [nc, cel] at v1 v2 v3
       have a1 : (List.getD (List.getD (nxT (ρ.l 5) (ρ.i 0) (ρ.i 1) (ρ.i 4)) (Int.toNat 0) []) 0 0) = 1 := by omega
       have a2 : ¬ (List.getD (List.getD (nxT (ρ.l 5) (ρ.i 0) (ρ.i 1) (ρ.i 4)) (Int.toNat 0) []) 0 0) = 2 := by omega
       have a5 : ¬ (List.getD (List.getD (nxT (ρ.l 5) (ρ.i 0) (ρ.i 1) (ρ.i 4)) (Int.toNat 0) []) 0 0) = 5 := by omega
       rw [if_pos a1] at v1
       rw [if_neg a2] at v2
       rw [if_neg a5] at v3
       have b2 : ¬ (List.getD (List.getD (ρ.l 5) (Int.toNat (ρ.i 0)) []) 0 0) = 2 := by omega
       rw [if_neg b2] at v2
       rw [v1, v2, v3, hc, hb]
       simp only [List.length_modify]
       repeat' apply And.intro
       all_goals first
         | rfl
         | omega
         | with_reducible assumption
         | (rw [setC_len]; done)
         | (rw [setC_len]; omega)
         | (simp only [List.length_modify]; done)
         | exact hb)
    | (have hO : ∀ row ∈ ρ.l 5, row.length = 10 := k10_len (hR.row 8 rfl rfl)
       have hb : nxB (ρ.l 5) (ρ.i 0) (ρ.i 1) (ρ.i 4) = true := by with_reducible assumption
       have hc := (ev_yes hb).trans (chain9 hO (List.getD (List.getD (nxT (ρ.l 5) (ρ.i 0) (ρ.i 1) (ρ.i 4)) (Int.toNat 0) []) 0 0) (List.getD (List.getD (nxT (ρ.l 5) (ρ.i 0) (ρ.i 1) (ρ.i 4)) (Int.toNat 0) []) 1 0) (List.getD (List.getD (nxT (ρ.l 5) (ρ.i 0) (ρ.i 1) (ρ.i 4)) (Int.toNat 0) []) 2 0) (List.getD (List.getD (nxT (ρ.l 5) (ρ.i 0) (ρ.i 1) (ρ.i 4)) (Int.toNat 0) []) 3 0)).symm
       simp only [cel] at hc
       have h0 : 0 ≤ ρ.i 0 := by omega
       have h1 : ρ.i 0 < (ρ.l 5).length := by omega
       have h5 := nx_5 hb
       simp only [cel] at h5
       have hs : ¬ (List.getD (List.getD (nxT (ρ.l 5) (ρ.i 0) (ρ.i 1) (ρ.i 4)) (Int.toNat 0) []) 0 0) = (List.getD (List.getD (ρ.l 5) (Int.toNat (ρ.i 0)) []) 0 0) := by omega
       obtain ⟨v1, v2, v3⟩ := ev_all (A := ρ.l 0) (R := ρ.l 4) (L := ρ.l 14) (home := ρ.i 2) hb hO h0 h1 hs
       simp only [nc, cel] at v1 v2 v3
       have a1 : (List.getD (List.getD (nxT (ρ.l 5) (ρ.i 0) (ρ.i 1) (ρ.i 4)) (Int.toNat 0) []) 0 0) = 1 := by omega
       have a2 : ¬ (List.getD (List.getD (nxT (ρ.l 5) (ρ.i 0) (ρ.i 1) (ρ.i 4)) (Int.toNat 0) []) 0 0) = 2 := by omega
       have a5 : ¬ (List.getD (List.getD (nxT (ρ.l 5) (ρ.i 0) (ρ.i 1) (ρ.i 4)) (Int.toNat 0) []) 0 0) = 5 := by omega
       rw [if_pos a1] at v1
       rw [if_neg a2] at v2
       rw [if_neg a5] at v3
       have b2 : (List.getD (List.getD (ρ.l 5) (Int.toNat (ρ.i 0)) []) 0 0) = 2 := by omega
       rw [if_pos b2] at v2
       rw [v1, v2, v3, hc, hb]
       simp only [List.length_modify]
       repeat' apply And.intro
       all_goals first
         | rfl
         | omega
         | with_reducible assumption
         | (rw [setC_len]; done)
         | (rw [setC_len]; omega)
         | (simp only [List.length_modify]; done)
         | exact hb)
    | (have hO : ∀ row ∈ ρ.l 5, row.length = 10 := k10_len (hR.row 8 rfl rfl)
       have hb : nxB (ρ.l 5) (ρ.i 0) (ρ.i 1) (ρ.i 4) = true := by with_reducible assumption
       have hc := (ev_yes hb).trans (chain9 hO (List.getD (List.getD (nxT (ρ.l 5) (ρ.i 0) (ρ.i 1) (ρ.i 4)) (Int.toNat 0) []) 0 0) (List.getD (List.getD (nxT (ρ.l 5) (ρ.i 0) (ρ.i 1) (ρ.i 4)) (Int.toNat 0) []) 1 0) (List.getD (List.getD (nxT (ρ.l 5) (ρ.i 0) (ρ.i 1) (ρ.i 4)) (Int.toNat 0) []) 2 0) (List.getD (List.getD (nxT (ρ.l 5) (ρ.i 0) (ρ.i 1) (ρ.i 4)) (Int.toNat 0) []) 3 0)).symm
       simp only [cel] at hc
       have h0 : 0 ≤ ρ.i 0 := by omega
       have h1 : ρ.i 0 < (ρ.l 5).length := by omega
       have h5 := nx_5 hb
       simp only [cel] at h5
       have hs : ¬ (List.getD (List.getD (nxT (ρ.l 5) (ρ.i 0) (ρ.i 1) (ρ.i 4)) (Int.toNat 0) []) 0 0) = (List.getD (List.getD (ρ.l 5) (Int.toNat (ρ.i 0)) []) 0 0) := by omega
       obtain ⟨v1, v2, v3⟩ := ev_all (A := ρ.l 0) (R := ρ.l 4) (L := ρ.l 14) (home := ρ.i 2) hb hO h0 h1 hs
       simp only [nc, cel] at v1 v2 v3
       have a1 : (List.getD (List.getD (nxT (ρ.l 5) (ρ.i 0) (ρ.i 1) (ρ.i 4)) (Int.toNat 0) []) 0 0) = 1 := by omega
       have a2 : ¬ (List.getD (List.getD (nxT (ρ.l 5) (ρ.i 0) (ρ.i 1) (ρ.i 4)) (Int.toNat 0) []) 0 0) = 2 := by omega
       have a5 : ¬ (List.getD (List.getD (nxT (ρ.l 5) (ρ.i 0) (ρ.i 1) (ρ.i 4)) (Int.toNat 0) []) 0 0) = 5 := by omega
       rw [if_pos a1] at v1
       rw [if_neg a2] at v2
       rw [if_neg a5] at v3
       have b2 : ¬ (List.getD (List.getD (ρ.l 5) (Int.toNat (ρ.i 0)) []) 0 0) = 2 := by omega
       rw [if_neg b2] at v2
       rw [v1, v2, v3, hc, hb]
       simp only [List.length_modify]
       repeat' apply And.intro
       all_goals first
         | rfl
         | omega
         | with_reducible assumption
         | (rw [setC_len]; done)
         | (rw [setC_len]; omega)
         | (simp only [List.length_modify]; done)
         | exact hb)
    | (have hO : ∀ row ∈ ρ.l 5, row.length = 10 := k10_len (hR.row 8 rfl rfl)
       have hb : nxB (ρ.l 5) (ρ.i 0) (ρ.i 1) (ρ.i 4) = true := by with_reducible assumption
       have hc := (ev_yes hb).trans (chain9 hO (List.getD (List.getD (nxT (ρ.l 5) (ρ.i 0) (ρ.i 1) (ρ.i 4)) (Int.toNat 0) []) 0 0) (List.getD (List.getD (nxT (ρ.l 5) (ρ.i 0) (ρ.i 1) (ρ.i 4)) (Int.toNat 0) []) 1 0) (List.getD (List.getD (nxT (ρ.l 5) (ρ.i 0) (ρ.i 1) (ρ.i 4)) (Int.toNat 0) []) 2 0) (List.getD (List.getD (nxT (ρ.l 5) (ρ.i 0) (ρ.i 1) (ρ.i 4)) (Int.toNat 0) []) 3 0)).symm
       simp only [cel] at hc
       have h0 : 0 ≤ ρ.i 0 := by omega
       have h1 : ρ.i 0 < (ρ.l 5).length := by omega
       have h5 := nx_5 hb
       simp only [cel] at h5
       have hs : ¬ (List.getD (List.getD (nxT (ρ.l 5) (ρ.i 0) (ρ.i 1) (ρ.i 4)) (Int.toNat 0) []) 0 0) = (List.getD (List.getD (ρ.l 5) (Int.toNat (ρ.i 0)) []) 0 0) := by omega
       obtain ⟨v1, v2, v3⟩ := ev_all (A := ρ.l 0) (R := ρ.l 4) (L := ρ.l 14) (home := ρ.i 2) hb hO h0 h1 hs
       simp only [nc, cel] at v1 v2 v3
       have a1 : ¬ (List.getD (List.getD (nxT (ρ.l 5) (ρ.i 0) (ρ.i 1) (ρ.i 4)) (Int.toNat 0) []) 0 0) = 1 := by omega
       have a2 : (List.getD (List.getD (nxT (ρ.l 5) (ρ.i 0) (ρ.i 1) (ρ.i 4)) (Int.toNat 0) []) 0 0) = 2 := by omega
       have a5 : ¬ (List.getD (List.getD (nxT (ρ.l 5) (ρ.i 0) (ρ.i 1) (ρ.i 4)) (Int.toNat 0) []) 0 0) = 5 := by omega
       rw [if_neg a1] at v1
       rw [if_pos a2] at v2
       rw [if_neg a5] at v3
       have b1 : (List.getD (List.getD (ρ.l 5) (Int.toNat (ρ.i 0)) []) 0 0) = 1 := by omega
       rw [if_pos b1] at v1
       rw [v1, v2, v3, hc, hb]
       simp only [List.length_modify]
       repeat' apply And.intro
       all_goals first
         | rfl
         | omega
         | with_reducible assumption
         | (rw [setC_len]; done)
         | (rw [setC_len]; omega)
         | (simp only [List.length_modify]; done)
         | exact hb)
    | (have hO : ∀ row ∈ ρ.l 5, row.length = 10 := k10_len (hR.row 8 rfl rfl)
       have hb : nxB (ρ.l 5) (ρ.i 0) (ρ.i 1) (ρ.i 4) = true := by with_reducible assumption
       have hc := (ev_yes hb).trans (chain9 hO (List.getD (List.getD (nxT (ρ.l 5) (ρ.i 0) (ρ.i 1) (ρ.i 4)) (Int.toNat 0) []) 0 0) (List.getD (List.getD (nxT (ρ.l 5) (ρ.i 0) (ρ.i 1) (ρ.i 4)) (Int.toNat 0) []) 1 0) (List.getD (List.getD (nxT (ρ.l 5) (ρ.i 0) (ρ.i 1) (ρ.i 4)) (Int.toNat 0) []) 2 0) (List.getD (List.getD (nxT (ρ.l 5) (ρ.i 0) (ρ.i 1) (ρ.i 4)) (Int.toNat 0) []) 3 0)).symm
       simp only [cel] at hc
       have h0 : 0 ≤ ρ.i 0 := by omega
       have h1 : ρ.i 0 < (ρ.l 5).length := by omega
       have h5 := nx_5 hb
       simp only [cel] at h5
       have hs : ¬ (List.getD (List.getD (nxT (ρ.l 5) (ρ.i 0) (ρ.i 1) (ρ.i 4)) (Int.toNat 0) []) 0 0) = (List.getD (List.getD (ρ.l 5) (Int.toNat (ρ.i 0)) []) 0 0) := by omega
       obtain ⟨v1, v2, v3⟩ := ev_all (A := ρ.l 0) (R := ρ.l 4) (L := ρ.l 14) (home := ρ.i 2) hb hO h0 h1 hs
       simp only [nc, cel] at v1 v2 v3
       have a1 : ¬ (List.getD (List.getD (nxT (ρ.l 5) (ρ.i 0) (ρ.i 1) (ρ.i 4)) (Int.toNat 0) []) 0 0) = 1 := by omega
       have a2 : (List.getD (List.getD (nxT (ρ.l 5) (ρ.i 0) (ρ.i 1) (ρ.i 4)) (Int.toNat 0) []) 0 0) = 2 := by omega
       have a5 : ¬ (List.getD (List.getD (nxT (ρ.l 5) (ρ.i 0) (ρ.i 1) (ρ.i 4)) (Int.toNat 0) []) 0 0) = 5 := by omega
       rw [if_neg a1] at v1
       rw [if_pos a2] at v2
       rw [if_neg a5] at v3
       have b1 : ¬ (List.getD (List.getD (ρ.l 5) (Int.toNat (ρ.i 0)) []) 0 0) = 1 := by omega
       rw [if_neg b1] at v1
       rw [v1, v2, v3, hc, hb]
       simp only [List.length_modify]
       repeat' apply And.intro
       all_goals first
         | rfl
         | omega
         | with_reducible assumption
         | (rw [setC_len]; done)
         | (rw [setC_len]; omega)
         | (simp only [List.length_modify]; done)
         | exact hb)
    | (have hO : ∀ row ∈ ρ.l 5, row.length = 10 := k10_len (hR.row 8 rfl rfl)
       have hb : nxB (ρ.l 5) (ρ.i 0) (ρ.i 1) (ρ.i 4) = true := by with_reducible assumption
       have hc := (ev_yes hb).trans (chain9 hO (List.getD (List.getD (nxT (ρ.l 5) (ρ.i 0) (ρ.i 1) (ρ.i 4)) (Int.toNat 0) []) 0 0) (List.getD (List.getD (nxT (ρ.l 5) (ρ.i 0) (ρ.i 1) (ρ.i 4)) (Int.toNat 0) []) 1 0) (List.getD (List.getD (nxT (ρ.l 5) (ρ.i 0) (ρ.i 1) (ρ.i 4)) (Int.toNat 0) []) 2 0) (List.getD (List.getD (nxT (ρ.l 5) (ρ.i 0) (ρ.i 1) (ρ.i 4)) (Int.toNat 0) []) 3 0)).symm
       simp only [cel] at hc
       have h0 : 0 ≤ ρ.i 0 := by omega
       have h1 : ρ.i 0 < (ρ.l 5).length := by omega
       have h5 := nx_5 hb
       simp only [cel] at h5
       have hs : ¬ (List.getD (List.getD (nxT (ρ.l 5) (ρ.i 0) (ρ.i 1) (ρ.i 4)) (Int.toNat 0) []) 0 0) = (List.getD (List.getD (ρ.l 5) (Int.toNat (ρ.i 0)) []) 0 0) := by omega
       obtain ⟨v1, v2, v3⟩ := ev_all (A := ρ.l 0) (R := ρ.l 4) (L := ρ.l 14) (home := ρ.i 2) hb hO h0 h1 hs
       simp only [nc, cel] at v1 v2 v3
       have a1 : ¬ (List.getD (List.getD (nxT (ρ.l 5) (ρ.i 0) (ρ.i 1) (ρ.i 4)) (Int.toNat 0) []) 0 0) = 1 := by omega
       have a2 : (List.getD (List.getD (nxT (ρ.l 5) (ρ.i 0) (ρ.i 1) (ρ.i 4)) (Int.toNat 0) []) 0 0) = 2 := by omega
       have a5 : ¬ (List.getD (List.getD (nxT (ρ.l 5) (ρ.i 0) (ρ.i 1) (ρ.i 4)) (Int.toNat 0) []) 0 0) = 5 := by omega
       rw [if_neg a1] at v1
       rw [if_pos a2] at v2
       rw [if_neg a5] at v3
       have b1 : ¬ (List.getD (List.getD (ρ.l 5) (Int.toNat (ρ.i 0)) []) 0 0) = 1 := by omega
       rw [if_neg b1] at v1
       rw [v1, v2, v3, hc, hb]
       simp only [List.length_modify]
       repeat' apply And.intro
       all_goals first
         | rfl
         | omega
         | with_reducible assumption
         | (rw [setC_len]; done)
         | (rw [setC_len]; omega)
         | (simp only [List.length_modify]; done)
         | exact hb)
    | (have hO : ∀ row ∈ ρ.l 5, row.length = 10 := k10_len (hR.row 8 rfl rfl)
       have hb : nxB (ρ.l 5) (ρ.i 0) (ρ.i 1) (ρ.i 4) = true := by with_reducible assumption
       have hc := (ev_yes hb).trans (chain9 hO (List.getD (List.getD (nxT (ρ.l 5) (ρ.i 0) (ρ.i 1) (ρ.i 4)) (Int.toNat 0) []) 0 0) (List.getD (List.getD (nxT (ρ.l 5) (ρ.i 0) (ρ.i 1) (ρ.i 4)) (Int.toNat 0) []) 1 0) (List.getD (List.getD (nxT (ρ.l 5) (ρ.i 0) (ρ.i 1) (ρ.i 4)) (Int.toNat 0) []) 2 0) (List.getD (List.getD (nxT (ρ.l 5) (ρ.i 0) (ρ.i 1) (ρ.i 4)) (Int.toNat 0) []) 3 0)).symm
       simp only [cel] at hc
       have h0 : 0 ≤ ρ.i 0 := by omega
       have h1 : ρ.i 0 < (ρ.l 5).length := by omega
       have h5 := nx_5 hb
       simp only [cel] at h5
       have hs : ¬ (List.getD (List.getD (nxT (ρ.l 5) (ρ.i 0) (ρ.i 1) (ρ.i 4)) (Int.toNat 0) []) 0 0) = (List.getD (List.getD (ρ.l 5) (Int.toNat (ρ.i 0)) []) 0 0) := by omega
       obtain ⟨v1, v2, v3⟩ := ev_all (A := ρ.l 0) (R := ρ.l 4) (L := ρ.l 14) (home := ρ.i 2) hb hO h0 h1 hs
       simp only [nc, cel] at v1 v2 v3
       have a1 : ¬ (List.getD (List.getD (nxT (ρ.l 5) (ρ.i 0) (ρ.i 1) (ρ.i 4)) (Int.toNat 0) []) 0 0) = 1 := by omega
       have a2 : ¬ (List.getD (List.getD (nxT (ρ.l 5) (ρ.i 0) (ρ.i 1) (ρ.i 4)) (Int.toNat 0) []) 0 0) = 2 := by omega
       have a5 : (List.getD (List.getD (nxT (ρ.l 5) (ρ.i 0) (ρ.i 1) (ρ.i 4)) (Int.toNat 0) []) 0 0) = 5 := by omega
       rw [if_neg a1] at v1
       rw [if_neg a2] at v2
       rw [if_pos a5] at v3
       have b1 : (List.getD (List.getD (ρ.l 5) (Int.toNat (ρ.i 0)) []) 0 0) = 1 := by omega
       rw [if_pos b1] at v1
       have b2 : ¬ (List.getD (List.getD (ρ.l 5) (Int.toNat (ρ.i 0)) []) 0 0) = 2 := by omega
       rw [if_neg b2] at v2
       rw [v1, v2, v3, hc, hb]
       simp only [List.length_modify]
       repeat' apply And.intro
       all_goals first
         | rfl
         | omega
         | with_reducible assumption
         | (rw [setC_len]; done)
         | (rw [setC_len]; omega)
         | (simp only [List.length_modify]; done)
         | exact hb)
    | (have hO : ∀ row ∈ ρ.l 5, row.length = 10 := k10_len (hR.row 8 rfl rfl)
       have hb : nxB (ρ.l 5) (ρ.i 0) (ρ.i 1) (ρ.i 4) = true := by with_reducible assumption
       have hc := (ev_yes hb).trans (chain9 hO (List.getD (List.getD (nxT (ρ.l 5) (ρ.i 0) (ρ.i 1) (ρ.i 4)) (Int.toNat 0) []) 0 0) (List.getD (List.getD (nxT (ρ.l 5) (ρ.i 0) (ρ.i 1) (ρ.i 4)) (Int.toNat 0) []) 1 0) (List.getD (List.getD (nxT (ρ.l 5) (ρ.i 0) (ρ.i 1) (ρ.i 4)) (Int.toNat 0) []) 2 0) (List.getD (List.getD (nxT (ρ.l 5) (ρ.i 0) (ρ.i 1) (ρ.i 4)) (Int.toNat 0) []) 3 0)).symm
       simp only [cel] at hc
       have h0 : 0 ≤ ρ.i 0 := by omega
       have h1 : ρ.i 0 < (ρ.l 5).length := by omega
       have h5 := nx_5 hb
       simp only [cel] at h5
       have hs : ¬ (List.getD (List.getD (nxT (ρ.l 5) (ρ.i 0) (ρ.i 1) (ρ.i 4)) (Int.toNat 0) []) 0 0) = (List.getD (List.getD (ρ.l 5) (Int.toNat (ρ.i 0)) []) 0 0) := by omega
       obtain ⟨v1, v2, v3⟩ := ev_all (A := ρ.l 0) (R := ρ.l 4) (L := ρ.l 14) (home := ρ.i 2) hb hO h0 h1 hs
       simp only [nc, cel] at v1 v2 v3
       have a1 : ¬ (List.getD (List.getD (nxT (ρ.l 5) (ρ.i 0) (ρ.i 1) (ρ.i 4)) (Int.toNat 0) []) 0 0) = 1 := by omega
       have a2 : ¬ (List.getD (List.getD (nxT (ρ.l 5) (ρ.i 0) (ρ.i 1) (ρ.i 4)) (Int.toNat 0) []) 0 0) = 2 := by omega
       have a5 : (List.getD (List.getD (nxT (ρ.l 5) (ρ.i 0) (ρ.i 1) (ρ.i 4)) (Int.toNat 0) []) 0 0) = 5 := by omega
       rw [if_neg a1] at v1
       rw [if_neg a2] at v2
       rw [if_pos a5] at v3
       have b1 : ¬ (List.getD (List.getD (ρ.l 5) (Int.toNat (ρ.i 0)) []) 0 0) = 1 := by omega
       rw [if_neg b1] at v1
       have b2 : (List.getD (List.getD (ρ.l 5) (Int.toNat (ρ.i 0)) []) 0 0) = 2 := by omega
       rw [if_pos b2] at v2
       rw [v1, v2, v3, hc, hb]
       simp only [List.length_modify]
       repeat' apply And.intro
       all_goals first
         | rfl
         | omega
         | with_reducible assumption
         | (rw [setC_len]; done)
         | (rw [setC_len]; omega)
         | (simp only [List.length_modify]; done)
         | exact hb)
    | (have hO : ∀ row ∈ ρ.l 5, row.length = 10 := k10_len (hR.row 8 rfl rfl)
       have hb : nxB (ρ.l 5) (ρ.i 0) (ρ.i 1) (ρ.i 4) = true := by with_reducible assumption
       have hc := (ev_yes hb).trans (chain9 hO (List.getD (List.getD (nxT (ρ.l 5) (ρ.i 0) (ρ.i 1) (ρ.i 4)) (Int.toNat 0) []) 0 0) (List.getD (List.getD (nxT (ρ.l 5) (ρ.i 0) (ρ.i 1) (ρ.i 4)) (Int.toNat 0) []) 1 0) (List.getD (List.getD (nxT (ρ.l 5) (ρ.i 0) (ρ.i 1) (ρ.i 4)) (Int.toNat 0) []) 2 0) (List.getD (List.getD (nxT (ρ.l 5) (ρ.i 0) (ρ.i 1) (ρ.i 4)) (Int.toNat 0) []) 3 0)).symm
       simp only [cel] at hc
       have h0 : 0 ≤ ρ.i 0 := by omega
       have h1 : ρ.i 0 < (ρ.l 5).length := by omega
       have h5 := nx_5 hb
       simp only [cel] at h5
       have hs : ¬ (List.getD (List.getD (nxT (ρ.l 5) (ρ.i 0) (ρ.i 1) (ρ.i 4)) (Int.toNat 0) []) 0 0) = (List.getD (List.getD (ρ.l 5) (Int.toNat (ρ.i 0)) []) 0 0) := by omega
       obtain ⟨v1, v2, v3⟩ := ev_all (A := ρ.l 0) (R := ρ.l 4) (L := ρ.l 14) (home := ρ.i 2) hb hO h0 h1 hs
       simp only [nc, cel] at v1 v2 v3
       have a1 : ¬ (List.getD (List.getD (nxT (ρ.l 5) (ρ.i 0) (ρ.i 1) (ρ.i 4)) (Int.toNat 0) []) 0 0) = 1 := by omega
       have a2 : ¬ (List.getD (List.getD (nxT (ρ.l 5) (ρ.i 0) (ρ.i 1) (ρ.i 4)) (Int.toNat 0) []) 0 0) = 2 := by omega
       have a5 : (List.getD (List.getD (nxT (ρ.l 5) (ρ.i 0) (ρ.i 1) (ρ.i 4)) (Int.toNat 0) []) 0 0) = 5 := by omega
       rw [if_neg a1] at v1
       rw [if_neg a2] at v2
       rw [if_pos a5] at v3
       have b1 : ¬ (List.getD (List.getD (ρ.l 5) (Int.toNat (ρ.i 0)) []) 0 0) = 1 := by omega
       rw [if_neg b1] at v1
       have b2 : ¬ (List.getD (List.getD (ρ.l 5) (Int.toNat (ρ.i 0)) []) 0 0) = 2 := by omega
       rw [if_neg b2] at v2
       rw [v1, v2, v3, hc, hb]
       simp only [List.length_modify]
       repeat' apply And.intro
       all_goals first
         | rfl
         | omega
         | with_reducible assumption
         | (rw [setC_len]; done)
         | (rw [setC_len]; omega)
         | (simp only [List.length_modify]; done)
         | exact hb)
    | (have hO : ∀ row ∈ ρ.l 5, row.length = 10 := k10_len (hR.row 8 rfl rfl)
       have hb : nxB (ρ.l 5) (ρ.i 0) (ρ.i 1) (ρ.i 4) = true := by with_reducible assumption
       have hc := (ev_yes hb).trans (chain9 hO (List.getD (List.getD (nxT (ρ.l 5) (ρ.i 0) (ρ.i 1) (ρ.i 4)) (Int.toNat 0) []) 0 0) (List.getD (List.getD (nxT (ρ.l 5) (ρ.i 0) (ρ.i 1) (ρ.i 4)) (Int.toNat 0) []) 1 0) (List.getD (List.getD (nxT (ρ.l 5) (ρ.i 0) (ρ.i 1) (ρ.i 4)) (Int.toNat 0) []) 2 0) (List.getD (List.getD (nxT (ρ.l 5) (ρ.i 0) (ρ.i 1) (ρ.i 4)) (Int.toNat 0) []) 3 0)).symm
       simp only [cel] at hc
       have h0 : 0 ≤ ρ.i 0 := by omega
       have h1 : ρ.i 0 < (ρ.l 5).length := by omega
       have h5 := nx_5 hb
       simp only [cel] at h5
       have hs : ¬ (List.getD (List.getD (nxT (ρ.l 5) (ρ.i 0) (ρ.i 1) (ρ.i 4)) (Int.toNat 0) []) 0 0) = (List.getD (List.getD (ρ.l 5) (Int.toNat (ρ.i 0)) []) 0 0) := by omega
       obtain ⟨v1, v2, v3⟩ := ev_all (A := ρ.l 0) (R := ρ.l 4) (L := ρ.l 14) (home := ρ.i 2) hb hO h0 h1 hs
       simp only [nc, cel] at v1 v2 v3
       have a1 : ¬ (List.getD (List.getD (nxT (ρ.l 5) (ρ.i 0) (ρ.i 1) (ρ.i 4)) (Int.toNat 0) []) 0 0) = 1 := by omega
       have a2 : ¬ (List.getD (List.getD (nxT (ρ.l 5) (ρ.i 0) (ρ.i 1) (ρ.i 4)) (Int.toNat 0) []) 0 0) = 2 := by omega
       have a5 : ¬ (List.getD (List.getD (nxT (ρ.l 5) (ρ.i 0) (ρ.i 1) (ρ.i 4)) (Int.toNat 0) []) 0 0) = 5 := by omega
       rw [if_neg a1] at v1
       rw [if_neg a2] at v2
       rw [if_neg a5] at v3
       have b1 : (List.getD (List.getD (ρ.l 5) (Int.toNat (ρ.i 0)) []) 0 0) = 1 := by omega
       rw [if_pos b1] at v1
       have b2 : ¬ (List.getD (List.getD (ρ.l 5) (Int.toNat (ρ.i 0)) []) 0 0) = 2 := by omega
       rw [if_neg b2] at v2
       rw [v1, v2, v3, hc, hb]
       simp only [List.length_modify]
       repeat' apply And.intro
       all_goals first
         | rfl
         | omega
         | with_reducible assumption
         | (rw [setC_len]; done)
         | (rw [setC_len]; omega)
         | (simp only [List.length_modify]; done)
         | exact hb)
    | (have hO : ∀ row ∈ ρ.l 5, row.length = 10 := k10_len (hR.row 8 rfl rfl)
       have hb : nxB (ρ.l 5) (ρ.i 0) (ρ.i 1) (ρ.i 4) = true := by with_reducible assumption
       have hc := (ev_yes hb).trans (chain9 hO (List.getD (List.getD (nxT (ρ.l 5) (ρ.i 0) (ρ.i 1) (ρ.i 4)) (Int.toNat 0) []) 0 0) (List.getD (List.getD (nxT (ρ.l 5) (ρ.i 0) (ρ.i 1) (ρ.i 4)) (Int.toNat 0) []) 1 0) (List.getD (List.getD (nxT (ρ.l 5) (ρ.i 0) (ρ.i 1) (ρ.i 4)) (Int.toNat 0) []) 2 0) (List.getD (List.getD (nxT (ρ.l 5) (ρ.i 0) (ρ.i 1) (ρ.i 4)) (Int.toNat 0) []) 3 0)).symm
       simp only [cel] at hc
       have h0 : 0 ≤ ρ.i 0 := by omega
       have h1 : ρ.i 0 < (ρ.l 5).length := by omega
       have h5 := nx_5 hb
       simp only [cel] at h5
       have hs : ¬ (List.getD (List.getD (nxT (ρ.l 5) (ρ.i 0) (ρ.i 1) (ρ.i 4)) (Int.toNat 0) []) 0 0) = (List.getD (List.getD (ρ.l 5) (Int.toNat (ρ.i 0)) []) 0 0) := by omega
       obtain ⟨v1, v2, v3⟩ := ev_all (A := ρ.l 0) (R := ρ.l 4) (L := ρ.l 14) (home := ρ.i 2) hb hO h0 h1 hs
       simp only [nc, cel] at v1 v2 v3
       have a1 : ¬ (List.getD (List.getD (nxT (ρ.l 5) (ρ.i 0) (ρ.i 1) (ρ.i 4)) (Int.toNat 0) []) 0 0) = 1 := by omega
       have a2 : ¬ (List.getD (List.getD (nxT (ρ.l 5) (ρ.i 0) (ρ.i 1) (ρ.i 4)) (Int.toNat 0) []) 0 0) = 2 := by omega
       have a5 : ¬ (List.getD (List.getD (nxT (ρ.l 5) (ρ.i 0) (ρ.i 1) (ρ.i 4)) (Int.toNat 0) []) 0 0) = 5 := by omega
       rw [if_neg a1] at v1
       rw [if_neg a2] at v2
       rw [if_neg a5] at v3
       have b1 : ¬ (List.getD (List.getD (ρ.l 5) (Int.toNat (ρ.i 0)) []) 0 0) = 1 := by omega
       rw [if_neg b1] at v1
       have b2 : (List.getD (List.getD (ρ.l 5) (Int.toNat (ρ.i 0)) []) 0 0) = 2 := by omega
       rw [if_pos b2] at v2
       rw [v1, v2, v3, hc, hb]
       simp only [List.length_modify]
       repeat' apply And.intro
       all_goals first
         | rfl
         | omega
         | with_reducible assumption
         | (rw [setC_len]; done)
         | (rw [setC_len]; omega)
         | (simp only [List.length_modify]; done)
         | exact hb)
    | (have hO : ∀ row ∈ ρ.l 5, row.length = 10 := k10_len (hR.row 8 rfl rfl)
       have hb : nxB (ρ.l 5) (ρ.i 0) (ρ.i 1) (ρ.i 4) = true := by with_reducible assumption
       have hc := (ev_yes hb).trans (chain9 hO (List.getD (List.getD (nxT (ρ.l 5) (ρ.i 0) (ρ.i 1) (ρ.i 4)) (Int.toNat 0) []) 0 0) (List.getD (List.getD (nxT (ρ.l 5) (ρ.i 0) (ρ.i 1) (ρ.i 4)) (Int.toNat 0) []) 1 0) (List.getD (List.getD (nxT (ρ.l 5) (ρ.i 0) (ρ.i 1) (ρ.i 4)) (Int.toNat 0) []) 2 0) (List.getD (List.getD (nxT (ρ.l 5) (ρ.i 0) (ρ.i 1) (ρ.i 4)) (Int.toNat 0) []) 3 0)).symm
       simp only [cel] at hc
       have h0 : 0 ≤ ρ.i 0 := by omega
       have h1 : ρ.i 0 < (ρ.l 5).length := by omega
       have h5 := nx_5 hb
       simp only [cel] at h5
       have hs : ¬ (List.getD (List.getD (nxT (ρ.l 5) (ρ.i 0) (ρ.i 1) (ρ.i 4)) (Int.toNat 0) []) 0 0) = (List.getD (List.getD (ρ.l 5) (Int.toNat (ρ.i 0)) []) 0 0) := by omega
       obtain ⟨v1, v2, v3⟩ := ev_all (A := ρ.l 0) (R := ρ.l 4) (L := ρ.l 14) (home := ρ.i 2) hb hO h0 h1 hs
       simp only [nc, cel] at v1 v2 v3
       have a1 : ¬ (List.getD (List.getD (nxT (ρ.l 5) (ρ.i 0) (ρ.i 1) (ρ.i 4)) (Int.toNat 0) []) 0 0) = 1 := by omega
       have a2 : ¬ (List.getD (List.getD (nxT (ρ.l 5) (ρ.i 0) (ρ.i 1) (ρ.i 4)) (Int.toNat 0) []) 0 0) = 2 := by omega
       have a5 : ¬ (List.getD (List.getD (nxT (ρ.l 5) (ρ.i 0) (ρ.i 1) (ρ.i 4)) (Int.toNat 0) []) 0 0) = 5 := by omega
       rw [if_neg a1] at v1
       rw [if_neg a2] at v2
       rw [if_neg a5] at v3
       have b1 : ¬ (List.getD (List.getD (ρ.l 5) (Int.toNat (ρ.i 0)) []) 0 0) = 1 := by omega
       rw [if_neg b1] at v1
       have b2 : ¬ (List.getD (List.getD (ρ.l 5) (Int.toNat (ρ.i 0)) []) 0 0) = 2 := by omega
       rw [if_neg b2] at v2
       rw [v1, v2, v3, hc, hb]
       simp only [List.length_modify]
       repeat' apply And.intro
       all_goals first
         | rfl
         | omega
         | with_reducible assumption
         | (rw [setC_len]; done)
         | (rw [setC_len]; omega)
         | (simp only [List.length_modify]; done)
         | exact hb)
    | (have hO : ∀ row ∈ ρ.l 5, row.length = 10 := k10_len (hR.row 8 rfl rfl)
       have hb : nxB (ρ.l 5) (ρ.i 0) (ρ.i 1) (ρ.i 4) = true := by with_reducible assumption
       have hc := (ev_yes hb).trans (chain9 hO (List.getD (List.getD (nxT (ρ.l 5) (ρ.i 0) (ρ.i 1) (ρ.i 4)) (Int.toNat 0) []) 0 0) (List.getD (List.getD (nxT (ρ.l 5) (ρ.i 0) (ρ.i 1) (ρ.i 4)) (Int.toNat 0) []) 1 0) (List.getD (List.getD (nxT (ρ.l 5) (ρ.i 0) (ρ.i 1) (ρ.i 4)) (Int.toNat 0) []) 2 0) (List.getD (List.getD (nxT (ρ.l 5) (ρ.i 0) (ρ.i 1) (ρ.i 4)) (Int.toNat 0) []) 3 0)).symm
       simp only [cel] at hc
       have hs : (List.getD (List.getD (nxT (ρ.l 5) (ρ.i 0) (ρ.i 1) (ρ.i 4)) (Int.toNat 0) []) 0 0) = (List.getD (List.getD (ρ.l 5) (Int.toNat (ρ.i 0)) []) 0 0) := by omega
       have v := ev_same (O := ρ.l 5) (A := ρ.l 0) (B := []) (R := ρ.l 4) (home := ρ.i 2) hs
       have v3 := evL_same (O := ρ.l 5) (L := ρ.l 14) hs
       rw [v.1, v.2.1, v3, hc, hb]
       simp only [List.length_modify]
       repeat' apply And.intro
       all_goals first
         | rfl
         | omega
         | with_reducible assumption
         | (rw [setC_len]; done)
         | (rw [setC_len]; omega)
         | (simp only [List.length_modify]; done)
         | exact hb)
    | (have hO : ∀ row ∈ ρ.l 5, row.length = 10 := k10_len (hR.row 8 rfl rfl)
       have hb : nxB (ρ.l 5) (ρ.i 0) (ρ.i 1) (ρ.i 4) = true := by with_reducible assumption
       have hc := (ev_yes hb).trans (chain9 hO (List.getD (List.getD (nxT (ρ.l 5) (ρ.i 0) (ρ.i 1) (ρ.i 4)) (Int.toNat 0) []) 0 0) (List.getD (List.getD (nxT (ρ.l 5) (ρ.i 0) (ρ.i 1) (ρ.i 4)) (Int.toNat 0) []) 1 0) (List.getD (List.getD (nxT (ρ.l 5) (ρ.i 0) (ρ.i 1) (ρ.i 4)) (Int.toNat 0) []) 2 0) (List.getD (List.getD (nxT (ρ.l 5) (ρ.i 0) (ρ.i 1) (ρ.i 4)) (Int.toNat 0) []) 3 0)).symm
       simp only [cel] at hc
       have hR1 : ∀ row ∈ ρ.l 4, row.length = 1 := one_len (hR.row 7 rfl rfl)
       have hs : (List.getD (List.getD (nxT (ρ.l 5) (ρ.i 0) (ρ.i 1) (ρ.i 4)) (Int.toNat 0) []) 0 0) = (List.getD (List.getD (ρ.l 5) (Int.toNat (ρ.i 0)) []) 0 0) := by omega
       have s2 : (List.getD (List.getD (ρ.l 5) (Int.toNat (ρ.i 0)) []) 0 0) = 2 := by omega
       have n2 : (List.getD (List.getD (nxT (ρ.l 5) (ρ.i 0) (ρ.i 1) (ρ.i 4)) (Int.toNat 0) []) 0 0) = 2 := by omega
       have hn := nx_on hb s2 n2
       simp only [nc, cel] at hn
       have hr : cel (ρ.l 4) ((List.getD (List.getD (ρ.l 5) (Int.toNat (ρ.i 0)) []) 1 0)) 0 = ρ.i 0 := by simp only [cel]; omega
       have hset := setC_same hr hR1
       have v := ev_same (O := ρ.l 5) (A := ρ.l 0) (B := []) (R := ρ.l 4) (home := ρ.i 2) hs
       have v3 := evL_same (O := ρ.l 5) (L := ρ.l 14) hs
       rw [v.1, v.2.1, v3, hc, hb, hn]
       unfold setC at hset
       rw [hset]
       simp only [List.length_modify]
       repeat' apply And.intro
       all_goals first
         | rfl
         | omega
         | with_reducible assumption
         | (rw [setC_len]; done)
         | (rw [setC_len]; omega)
         | (simp only [List.length_modify]; done)
         | exact hb)
    | (by_cases hs0 : (List.getD (List.getD (nxT (ρ.l 5) (ρ.i 0) (ρ.i 1) (ρ.i 4)) (Int.toNat 0) []) 0 0) = (List.getD (List.getD (ρ.l 5) (Int.toNat (ρ.i 0)) []) 0 0)
       · skip
         have hO : ∀ row ∈ ρ.l 5, row.length = 10 := k10_len (hR.row 8 rfl rfl)
         have hb : nxB (ρ.l 5) (ρ.i 0) (ρ.i 1) (ρ.i 4) = true := by with_reducible assumption
         have hc := (ev_yes hb).trans (chain9 hO (List.getD (List.getD (nxT (ρ.l 5) (ρ.i 0) (ρ.i 1) (ρ.i 4)) (Int.toNat 0) []) 0 0) (List.getD (List.getD (nxT (ρ.l 5) (ρ.i 0) (ρ.i 1) (ρ.i 4)) (Int.toNat 0) []) 1 0) (List.getD (List.getD (nxT (ρ.l 5) (ρ.i 0) (ρ.i 1) (ρ.i 4)) (Int.toNat 0) []) 2 0) (List.getD (List.getD (nxT (ρ.l 5) (ρ.i 0) (ρ.i 1) (ρ.i 4)) (Int.toNat 0) []) 3 0)).symm
         simp only [cel] at hc
         have hs : (List.getD (List.getD (nxT (ρ.l 5) (ρ.i 0) (ρ.i 1) (ρ.i 4)) (Int.toNat 0) []) 0 0) = (List.getD (List.getD (ρ.l 5) (Int.toNat (ρ.i 0)) []) 0 0) := by omega
         have v := ev_same (O := ρ.l 5) (A := ρ.l 0) (B := []) (R := ρ.l 4) (home := ρ.i 2) hs
         have v3 := evL_same (O := ρ.l 5) (L := ρ.l 14) hs
         rw [v.1, v.2.1, v3, hc, hb]
         simp only [List.length_modify]
         repeat' apply And.intro
         all_goals first
           | rfl
           | omega
           | with_reducible assumption
           | (rw [setC_len]; done)
           | (rw [setC_len]; omega)
           | (simp only [List.length_modify]; done)
           | exact hb
       · skip
         have hO : ∀ row ∈ ρ.l 5, row.length = 10 := k10_len (hR.row 8 rfl rfl)
         have hb : nxB (ρ.l 5) (ρ.i 0) (ρ.i 1) (ρ.i 4) = true := by with_reducible assumption
         have hc := (ev_yes hb).trans (chain9 hO (List.getD (List.getD (nxT (ρ.l 5) (ρ.i 0) (ρ.i 1) (ρ.i 4)) (Int.toNat 0) []) 0 0) (List.getD (List.getD (nxT (ρ.l 5) (ρ.i 0) (ρ.i 1) (ρ.i 4)) (Int.toNat 0) []) 1 0) (List.getD (List.getD (nxT (ρ.l 5) (ρ.i 0) (ρ.i 1) (ρ.i 4)) (Int.toNat 0) []) 2 0) (List.getD (List.getD (nxT (ρ.l 5) (ρ.i 0) (ρ.i 1) (ρ.i 4)) (Int.toNat 0) []) 3 0)).symm
         simp only [cel] at hc
         have h0 : 0 ≤ ρ.i 0 := by omega
         have h1 : ρ.i 0 < (ρ.l 5).length := by omega
         have h5 := nx_5 hb
         simp only [cel] at h5
         have hs : ¬ (List.getD (List.getD (nxT (ρ.l 5) (ρ.i 0) (ρ.i 1) (ρ.i 4)) (Int.toNat 0) []) 0 0) = (List.getD (List.getD (ρ.l 5) (Int.toNat (ρ.i 0)) []) 0 0) := by omega
         obtain ⟨v1, v2, v3⟩ := ev_all (A := ρ.l 0) (R := ρ.l 4) (L := ρ.l 14) (home := ρ.i 2) hb hO h0 h1 hs
         simp only [nc, cel] at v1 v2 v3
         have a1 : ¬ (List.getD (List.getD (nxT (ρ.l 5) (ρ.i 0) (ρ.i 1) (ρ.i 4)) (Int.toNat 0) []) 0 0) = 1 := by omega
         have a2 : ¬ (List.getD (List.getD (nxT (ρ.l 5) (ρ.i 0) (ρ.i 1) (ρ.i 4)) (Int.toNat 0) []) 0 0) = 2 := by omega
         have a5 : ¬ (List.getD (List.getD (nxT (ρ.l 5) (ρ.i 0) (ρ.i 1) (ρ.i 4)) (Int.toNat 0) []) 0 0) = 5 := by omega
         rw [if_neg a1] at v1
         rw [if_neg a2] at v2
         rw [if_neg a5] at v3
         have b1 : ¬ (List.getD (List.getD (ρ.l 5) (Int.toNat (ρ.i 0)) []) 0 0) = 1 := by omega
         rw [if_neg b1] at v1
         have b2 : ¬ (List.getD (List.getD (ρ.l 5) (Int.toNat (ρ.i 0)) []) 0 0) = 2 := by omega
         rw [if_neg b2] at v2
         rw [v1, v2, v3, hc, hb]
         simp only [List.length_modify]
         repeat' apply And.intro
         all_goals first
           | rfl
           | omega
           | with_reducible assumption
           | (rw [setC_len]; done)
           | (rw [setC_len]; omega)
           | (simp only [List.length_modify]; done)
           | exact hb)
    | (have hb : nxB (ρ.l 5) (ρ.i 0) (ρ.i 1) (ρ.i 4) = false := by with_reducible assumption
       have v := ev_no (A := ρ.l 0) (B := []) (R := ρ.l 4) (home := ρ.i 2) hb
       have v3 := evL_no (L := ρ.l 14) hb
       rw [v.1, v.2.1, v.2.2.1, v3, hb]
       repeat' apply And.intro
       all_goals first
         | rfl
         | omega
         | with_reducible assumption
         | (rw [setC_len]; done)
         | (rw [setC_len]; omega)
         | (simp only [List.length_modify]; done)
         | exact hb)
    | (exfalso
       have hb : nxB (ρ.l 5) (ρ.i 0) (ρ.i 1) (ρ.i 4) = true := by with_reducible assumption
       have n2 : (List.getD (List.getD (nxT (ρ.l 5) (ρ.i 0) (ρ.i 1) (ρ.i 4)) (Int.toNat 0) []) 0 0) = 2 := by omega
       have hs : ¬ (List.getD (List.getD (nxT (ρ.l 5) (ρ.i 0) (ρ.i 1) (ρ.i 4)) (Int.toNat 0) []) 0 0) = (List.getD (List.getD (ρ.l 5) (Int.toNat (ρ.i 0)) []) 0 0) := by omega
       have g2 := nx_to2 hb n2 hs
       simp only [cel] at g2
       omega)
    | (have hO : ∀ row ∈ ρ.l 5, row.length = 10 := k10_len (hR.row 8 rfl rfl)
       have hb : nxB (ρ.l 5) (ρ.i 0) (ρ.i 1) (ρ.i 4) = true := by with_reducible assumption
       have hc := (ev_yes hb).trans (chain9 hO (List.getD (List.getD (nxT (ρ.l 5) (ρ.i 0) (ρ.i 1) (ρ.i 4)) (Int.toNat 0) []) 0 0) (List.getD (List.getD (nxT (ρ.l 5) (ρ.i 0) (ρ.i 1) (ρ.i 4)) (Int.toNat 0) []) 1 0) (List.getD (List.getD (nxT (ρ.l 5) (ρ.i 0) (ρ.i 1) (ρ.i 4)) (Int.toNat 0) []) 2 0) (List.getD (List.getD (nxT (ρ.l 5) (ρ.i 0) (ρ.i 1) (ρ.i 4)) (Int.toNat 0) []) 3 0)).symm
       simp only [cel] at hc
       have hR1 : ∀ row ∈ ρ.l 4, row.length = 1 := one_len (hR.row 7 rfl rfl)
       have hs : (List.getD (List.getD (nxT (ρ.l 5) (ρ.i 0) (ρ.i 1) (ρ.i 4)) (Int.toNat 0) []) 0 0) = (List.getD (List.getD (ρ.l 5) (Int.toNat (ρ.i 0)) []) 0 0) := by omega
       have s2 : (List.getD (List.getD (ρ.l 5) (Int.toNat (ρ.i 0)) []) 0 0) = 2 := by omega
       have n2 : (List.getD (List.getD (nxT (ρ.l 5) (ρ.i 0) (ρ.i 1) (ρ.i 4)) (Int.toNat 0) []) 0 0) = 2 := by omega
       have hn := nx_on hb s2 n2
       simp only [nc, cel] at hn
       exfalso
       omega)
    | (exfalso
       omega)
theorem d2_ok (ρ : Env) : TblOK Φ ρ Try.prog d2 := addFn_ok (d1_ok ρ) rStep_ok
end Go.SF.C21
