/- Time goes on, in the document's package, shown. -/
import Derived.Test.YtnhdohhhgfdhfaaCP
import Derived.Test.YtnhdohhhgfdhfaaPZ
import Derived.Test.YtnhdohhhgfdhfaaQP
import Derived.KernelRfl
namespace Go.SF.C21
open Go Go.SF Go.Proofs
set_option linter.unusedVariables false
set_option linter.unusedSimpArgs false

open Go.SF.C17
theorem d3_ok (ρ : Env) : TblOK Φ ρ Try.prog d3 := addFn_ok (addFn_ok (addFn_ok (addFn_ok (addFn_ok (addFn_ok (d2_ok ρ) rDo_ok) rLe_ok) rDp_ok) rAr_ok) rAd_ok) rOf_ok
def tr8_1 : SI := .sel (.v 4) (.v 2) 0
def tr8_2 : SB := .lt tr8_1 (.c 0)
def tr8_3 : SI := .len (.v 4)
def tr8_4 : SB := .lt (.v 2) tr8_3
def tr8_5 : SI := .len (.v 0)
def tr8_6 : SI := .len (.v 5)
def tr8_7 : SI := .len (.v 6)
def tr8_8 : SI := .len (.v 14)
def tr8_9 : SI := .len (.v 15)
def tr8_10 : SI := .sub tr8_3 (.v 2)
def tr8_11 : SI := .add tr8_9 tr8_10
def tr8_12 : List SB := [.le (.c 1) tr8_5, .le tr8_5 (.c 8), .eq tr8_3 tr8_5, .le tr8_6 (.c 64), .le (.c 1) (.v 8), .le (.v 8) (.c 10000), .le (.c 0) (.v 2), .le (.v 2) tr8_3, .le tr8_7 (.v 2), .c true, .lt tr8_8 (.c 60000), .lt tr8_9 (.c 60000), .app 340 (.l (.v 0) .nil), .app 332 (.l (.v 5) (.l (.v 0) (.l (.v 4) .nil))), .lt tr8_11 (.c 60000)]
def tr8_13 : List SB := tr8_4 :: tr8_12
def tr8_14 : List SB := tr8_2 :: tr8_13
def tr8_15 : SI := .add (.v 2) (.c 1)
def tr8_16 : SI := .sub tr8_3 tr8_15
def tr8_17 : Eqn := .T (.lt tr8_16 tr8_10)
def tr8_18 : Eqn := .T (.lt (.c 0) tr8_10)
def tr8_19 : SI := .add tr8_9 tr8_16
def tr8_20 : SA := .i (.v 1) .nil
def tr8_21 : SA := .i tr8_15 tr8_20
def tr8_22 : SA := .l (.v 6) tr8_21
def tr8_23 : SA := .l (.v 5) (.l (.v 0) (.l (.v 4) (.l (.v 15) tr8_22)))
def tr8_24 : SL := .app 360 tr8_23
def tr8_25 : SL := .app 361 tr8_23
def tr8_26 : SL := .app 362 tr8_23
def tr8_27 : SL := .app 363 tr8_23
def tr8_28 : SI := .len tr8_27
def tr8_29 : SL := .app 364 tr8_23
def tr8_30 : SI := .len tr8_29
def tr8_31 : SI := .len tr8_26
def tr8_32 : SI := .len tr8_25
def tr8_33 : SI := .len tr8_24
def tr8_34 : SA := .l (.v 5) (.l (.v 0) (.l (.v 4) (.l (.v 15) (.l (.v 6) (.i (.v 2) tr8_20)))))
def tr8_35 : SL := .app 360 tr8_34
def tr8_36 : SI := .len tr8_35
def tr8_37 : Eqn := .T (.eq tr8_36 tr8_6)
def tr8_38 : SL := .app 361 tr8_34
def tr8_39 : SI := .len tr8_38
def tr8_40 : Eqn := .T (.eq tr8_39 tr8_5)
def tr8_41 : SL := .app 362 tr8_34
def tr8_42 : SI := .len tr8_41
def tr8_43 : Eqn := .T (.eq tr8_42 tr8_3)
def tr8_44 : SL := .app 364 tr8_34
def tr8_45 : SI := .len tr8_44
def tr8_46 : Eqn := .T (.le tr8_45 tr8_3)
def tr8_47 : SL := .app 363 tr8_34
def tr8_48 : SI := .len tr8_47
def tr8_49 : Eqn := .T (.lt tr8_48 (.c 60000))
def tr8_50 : Eqn := .T (.le tr8_48 tr8_11)
def tr8_51 : Eqn := .T (.app 340 (.l tr8_38 .nil))
def tr8_52 : Eqn := .T (.app 332 (.l tr8_35 (.l tr8_38 (.l tr8_41 .nil))))
def tr8_53 : SA := .i (.c 0) .nil
def tr8_54 : SA := .i tr8_1 (.i (.c 3) tr8_53)
def tr8_55 : SL := .app 331 (.l (.v 5) tr8_54)
def tr8_56 : SL := .app 337 (.l (.v 5) (.l (.v 0) (.i tr8_1 (.i (.c 3) (.i (.c 0) (.i (.v 2) .nil))))))
def tr8_57 : SL := .app 338 (.l (.v 5) (.l (.v 4) tr8_54))
def tr8_58 : SL := .app 343 (.l (.v 5) (.l (.v 14) tr8_54))
def tr8_59 : SI := .len tr8_58
def tr8_60 : SI := .len tr8_57
def tr8_61 : SI := .len tr8_56
def tr8_62 : SI := .len tr8_55
def tr8_63 : SI := .app 251 (.l (.v 15) (.i tr8_1 tr8_20))
def tr8_64 : SL := .app 258 (.l (.v 15) (.i tr8_1 (.i tr8_63 tr8_53)))
def tr8_65 : SI := .len tr8_64
def tr8_66 : SB := .lt tr8_65 (.c 60000)
def tr8_67 : SB := .lt tr8_63 (.c 1)
def tr8_68 : List SB := .le tr8_65 (.add tr8_9 (.c 1)) :: .not tr8_2 :: tr8_13
def tr8_69 : List SB := tr8_67 :: tr8_68
def tr8_70 : List SB := .app 332 (.l tr8_55 (.l tr8_56 (.l tr8_57 .nil))) :: .app 340 (.l tr8_56 .nil) :: .le tr8_59 tr8_8 :: .eq tr8_60 tr8_3 :: .eq tr8_61 tr8_5 :: .eq tr8_62 tr8_6 :: .lt tr8_1 tr8_6 :: tr8_66 :: tr8_69
def tr8_71 : SI := .sub tr8_60 tr8_15
def tr8_72 : SI := .add tr8_65 tr8_71
def tr8_73 : SA := .l tr8_55 (.l tr8_56 (.l tr8_57 (.l tr8_64 (.l (.app 0 (.l (.v 6) (.l (.app 3 (.i tr8_1 .nil)) .nil))) tr8_21))))
def tr8_74 : SL := .app 360 tr8_73
def tr8_75 : SL := .app 361 tr8_73
def tr8_76 : SL := .app 362 tr8_73
def tr8_77 : SL := .app 363 tr8_73
def tr8_78 : SI := .len tr8_77
def tr8_79 : SL := .app 364 tr8_73
def tr8_80 : SI := .len tr8_79
def tr8_81 : SI := .len tr8_76
def tr8_82 : SI := .len tr8_75
def tr8_83 : SI := .len tr8_74
def tr8_84 : List SB := .not tr8_67 :: tr8_68
def tr8_85 : SI := .add tr8_65 tr8_16
def tr8_86 : SA := .l (.v 5) (.l (.v 0) (.l (.v 4) (.l tr8_64 tr8_22)))
def tr8_87 : SL := .app 360 tr8_86
def tr8_88 : SL := .app 361 tr8_86
def tr8_89 : SL := .app 362 tr8_86
def tr8_90 : SL := .app 363 tr8_86
def tr8_91 : SI := .len tr8_90
def tr8_92 : SL := .app 364 tr8_86
def tr8_93 : SI := .len tr8_92
def tr8_94 : SI := .len tr8_89
def tr8_95 : SI := .len tr8_88
def tr8_96 : SI := .len tr8_87
set_option maxRecDepth 100000 in
theorem tr8_obs : loopObs Φ Try.prog d3 1000 tr8.f (loopAt Try.prog tr8.f tr8.id) tr8.n tr8.T kr8 tr8.outs = some
  [⟨tr8_14, [tr8_17, tr8_18, .T (.lt tr8_19 (.c 60000))]⟩, ⟨.app 332 (.l tr8_24 (.l tr8_25 (.l tr8_26 .nil))) :: .app 340 (.l tr8_25 .nil) :: .le tr8_28 tr8_19 :: .lt tr8_28 (.c 60000) :: .le tr8_30 tr8_3 :: .eq tr8_31 tr8_3 :: .eq tr8_32 tr8_5 :: .eq tr8_33 tr8_6 :: tr8_14, [tr8_37, tr8_40, tr8_43, tr8_46, tr8_49, tr8_50, tr8_51, tr8_52, .I tr8_45 tr8_30, .I tr8_36 tr8_33, .I tr8_42 tr8_31, .I tr8_39 tr8_32, .I tr8_48 tr8_28, .L tr8_41 tr8_26, .L tr8_35 tr8_24, .L tr8_38 tr8_25, .L tr8_47 tr8_27, .L tr8_44 tr8_29]⟩, ⟨tr8_70, [.T (.lt tr8_71 tr8_10), tr8_18, .T (.lt tr8_72 (.c 60000))]⟩, ⟨.app 332 (.l tr8_74 (.l tr8_75 (.l tr8_76 .nil))) :: .app 340 (.l tr8_75 .nil) :: .le tr8_78 tr8_72 :: .lt tr8_78 (.c 60000) :: .le tr8_80 tr8_60 :: .eq tr8_81 tr8_60 :: .eq tr8_82 tr8_61 :: .eq tr8_83 tr8_62 :: tr8_70, [tr8_37, tr8_40, tr8_43, tr8_46, tr8_49, tr8_50, tr8_51, tr8_52, .I tr8_45 tr8_80, .I tr8_36 tr8_83, .I tr8_42 tr8_81, .I tr8_39 tr8_82, .I tr8_8 tr8_59, .I tr8_48 tr8_78, .L tr8_41 tr8_76, .L tr8_35 tr8_74, .L tr8_38 tr8_75, .L (.v 14) tr8_58, .L tr8_47 tr8_77, .L tr8_44 tr8_79]⟩, ⟨.not tr8_66 :: tr8_69, [.T (.c false)]⟩, ⟨tr8_84, [tr8_17, tr8_18, .T tr8_66, .T (.lt tr8_85 (.c 60000))]⟩, ⟨.app 332 (.l tr8_87 (.l tr8_88 (.l tr8_89 .nil))) :: .app 340 (.l tr8_88 .nil) :: .le tr8_91 tr8_85 :: .lt tr8_91 (.c 60000) :: .le tr8_93 tr8_3 :: .eq tr8_94 tr8_3 :: .eq tr8_95 tr8_5 :: .eq tr8_96 tr8_6 :: tr8_84, [tr8_37, tr8_40, tr8_43, tr8_46, tr8_49, tr8_50, tr8_51, tr8_52, .I tr8_45 tr8_93, .I tr8_36 tr8_96, .I tr8_42 tr8_94, .I tr8_39 tr8_95, .I tr8_48 tr8_91, .L tr8_41 tr8_89, .L tr8_35 tr8_87, .L tr8_38 tr8_88, .L tr8_47 tr8_90, .L tr8_44 tr8_92]⟩, ⟨.not tr8_4 :: tr8_12, [tr8_37, tr8_40, tr8_43, tr8_46, tr8_49, tr8_50, tr8_51, tr8_52, .I tr8_45 tr8_7, .I tr8_36 tr8_6, .I tr8_42 tr8_3, .I tr8_39 tr8_5, .I tr8_48 tr8_9, .L tr8_41 (.v 4), .L tr8_35 (.v 5), .L tr8_38 (.v 0), .L tr8_47 (.v 15), .L tr8_44 (.v 6)]⟩] := by kernel_rfl
theorem tr8_ok : tr8.ok Φ Try.prog := by
  refine ⟨by kernel_rfl, loop_rule (fun ρ => d3_ok ρ) (loopAt_sub (by kernel_rfl)) tr8_obs ?_⟩
  simp only [tr8_1, tr8_2, tr8_3, tr8_4, tr8_5, tr8_6, tr8_7, tr8_8, tr8_9, tr8_10, tr8_11, tr8_12, tr8_13, tr8_14, tr8_15, tr8_16, tr8_17, tr8_18, tr8_19, tr8_20, tr8_21, tr8_22, tr8_23, tr8_24, tr8_25, tr8_26, tr8_27, tr8_28, tr8_29, tr8_30, tr8_31, tr8_32, tr8_33, tr8_34, tr8_35, tr8_36, tr8_37, tr8_38, tr8_39, tr8_40, tr8_41, tr8_42, tr8_43, tr8_44, tr8_45, tr8_46, tr8_47, tr8_48, tr8_49, tr8_50, tr8_51, tr8_52, tr8_53, tr8_54, tr8_55, tr8_56, tr8_57, tr8_58, tr8_59, tr8_60, tr8_61, tr8_62, tr8_63, tr8_64, tr8_65, tr8_66, tr8_67, tr8_68, tr8_69, tr8_70, tr8_71, tr8_72, tr8_73, tr8_74, tr8_75, tr8_76, tr8_77, tr8_78, tr8_79, tr8_80, tr8_81, tr8_82, tr8_83, tr8_84, tr8_85, tr8_86, tr8_87, tr8_88, tr8_89, tr8_90, tr8_91, tr8_92, tr8_93, tr8_94, tr8_95, tr8_96, and_imp, List.forall_mem_cons, List.not_mem_nil, false_implies, implies_true, and_true, Ob.ok, holds, Eqn.ok, evB_eq, evB_lt, evB_le, evB_not, evB_app, evB_c, ev_sel, ev_len, ev_v, ev_c, ev_add, ev_sub, evL_v, evL_app, ev_app, evA_l, evA_i, evA_nil, std_cat, std_row, ints_cons, ints_nil, decide_eq_true_eq, Bool.not_eq_true', decide_eq_false_iff_not, aL331, aL337, aL338, aL343, aB340, aB332, T.aI251, T.aL258, aL360, aL361, aL362, aL363, aL364]
  try simp only [show ∀ (D : Tab) (i t : Int), max (-1073741824) (C18.W (C18.crG D i 0 - max 0 (min t 1073741824))) = chD D i t from fun _ _ _ => rfl]
  repeat' apply And.intro
  all_goals intro ρ hR
  all_goals intros
  all_goals first
    | (exact ⟨by omega, by omega, by omega⟩)
    | (exact ⟨by omega, by omega, by omega, by omega⟩)
    | (have hO : ∀ row ∈ ρ.l 5, okRow KO row := hR.row 8 rfl rfl
       have hI : invS (ρ.l 5) (ρ.l 0) (ρ.l 4) = true := by with_reducible assumption
       have c0 : 0 ≤ ρ.i 2 := by omega
       have c1 : ρ.i 2 < (ρ.l 4).length := by omega
       have rr := (invS_iff.1 hI).cpu (ρ.i 2) c0 c1
       simp only [cel] at rr
       have q2 : ((List.getD (ρ.l 4) (Int.toNat (ρ.i 2)) []).getD 0 0) = -1 := by omega
       have e := td_skip (O := ρ.l 5) (A := ρ.l 0) (R := ρ.l 4) (D := ρ.l 15) (L := ρ.l 6) (c := ρ.i 2) (t := ρ.i 1) c0 c1 q2
       try simp only [cel] at e
       rw [e]
       repeat' apply And.intro
       all_goals first
         | rfl
         | omega
         | with_reducible assumption)
    | (have hO : ∀ row ∈ ρ.l 5, okRow KO row := hR.row 8 rfl rfl
       have hI : invS (ρ.l 5) (ρ.l 0) (ρ.l 4) = true := by with_reducible assumption
       have c0 : 0 ≤ ρ.i 2 := by omega
       have c1 : ρ.i 2 < (ρ.l 4).length := by omega
       have rr := (invS_iff.1 hI).cpu (ρ.i 2) c0 c1
       simp only [cel] at rr
       have q2 : ¬ ((List.getD (ρ.l 4) (Int.toNat (ρ.i 2)) []).getD 0 0) = -1 := by omega
       have q3 : (chD (ρ.l 15) ((List.getD (ρ.l 4) (Int.toNat (ρ.i 2)) []).getD 0 0) (ρ.i 1)) < 1 := by with_reducible assumption
       have q4 : ((evR (ρ.l 5) (ρ.l 4) ((List.getD (ρ.l 4) (Int.toNat (ρ.i 2)) []).getD 0 0) 3 0).length : Int) = (ρ.l 4).length := by with_reducible assumption
       have e := td_low (O := ρ.l 5) (A := ρ.l 0) (R := ρ.l 4) (D := ρ.l 15) (L := ρ.l 6) (c := ρ.i 2) (t := ρ.i 1) c0 c1 q2 q3 q4
       have kl : evL (ρ.l 5) (ρ.l 14) ((List.getD (ρ.l 4) (Int.toNat (ρ.i 2)) []).getD 0 0) 3 0 = ρ.l 14 := evL_keep hO (by omega) (by omega) (by decide)
       try simp only [cel] at e
       rw [e, kl]
       repeat' apply And.intro
       all_goals first
         | rfl
         | omega
         | with_reducible assumption)
    | (have hO : ∀ row ∈ ρ.l 5, okRow KO row := hR.row 8 rfl rfl
       have hI : invS (ρ.l 5) (ρ.l 0) (ρ.l 4) = true := by with_reducible assumption
       have c0 : 0 ≤ ρ.i 2 := by omega
       have c1 : ρ.i 2 < (ρ.l 4).length := by omega
       have rr := (invS_iff.1 hI).cpu (ρ.i 2) c0 c1
       simp only [cel] at rr
       have q2 : ¬ ((List.getD (ρ.l 4) (Int.toNat (ρ.i 2)) []).getD 0 0) = -1 := by omega
       have q3 : ¬ (chD (ρ.l 15) ((List.getD (ρ.l 4) (Int.toNat (ρ.i 2)) []).getD 0 0) (ρ.i 1)) < 1 := by with_reducible assumption
       have e := td_high (O := ρ.l 5) (A := ρ.l 0) (R := ρ.l 4) (D := ρ.l 15) (L := ρ.l 6) (c := ρ.i 2) (t := ρ.i 1) c0 c1 q2 q3
       try simp only [cel] at e
       rw [e]
       repeat' apply And.intro
       all_goals first
         | rfl
         | omega
         | with_reducible assumption)
    | (have hO : ∀ row ∈ ρ.l 5, okRow KO row := hR.row 8 rfl rfl
       have hI : invS (ρ.l 5) (ρ.l 0) (ρ.l 4) = true := by with_reducible assumption
       have c0 : 0 ≤ ρ.i 2 := by omega
       have q0 : ¬ ρ.i 2 < (ρ.l 4).length := by omega
       have e := td_end (O := ρ.l 5) (A := ρ.l 0) (R := ρ.l 4) (D := ρ.l 15) (L := ρ.l 6) (c := ρ.i 2) (t := ρ.i 1) q0
       rw [e]
       dsimp only
       repeat' apply And.intro
       all_goals first
         | rfl
         | omega
         | with_reducible assumption)
    | (exfalso
       omega)
def tr17_1 : SI := .sel (.v 7) (.v 2) 0
def tr17_2 : SI := .len (.v 5)
def tr17_3 : SI := .len (.v 7)
def tr17_4 : SB := .lt (.v 2) tr17_3
def tr17_5 : SI := .len (.v 0)
def tr17_6 : SI := .len (.v 4)
def tr17_7 : SI := .len (.v 10)
def tr17_8 : SI := .len (.v 14)
def tr17_9 : List SB := [.le (.c 1) tr17_5, .le tr17_5 (.c 8), .eq tr17_6 tr17_5, .le tr17_2 (.c 64), .le (.c 1) (.v 8), .le (.v 8) (.c 10000), .lt tr17_3 (.c 80000), .le (.c 0) (.v 2), .le (.v 2) tr17_3, .le tr17_7 (.v 2), .c true, .lt tr17_8 (.c 60000), .lt (.len (.v 15)) (.c 60000), .app 340 (.l (.v 0) .nil), .app 332 (.l (.v 5) (.l (.v 0) (.l (.v 4) .nil)))]
def tr17_10 : List SB := tr17_4 :: tr17_9
def tr17_11 : List SB := .or (.lt tr17_1 (.c 0)) (.le tr17_2 tr17_1) :: tr17_10
def tr17_12 : SI := .add (.v 2) (.c 1)
def tr17_13 : SI := .sub tr17_3 (.v 2)
def tr17_14 : List Eqn := [.T (.lt (.sub tr17_3 tr17_12) tr17_13), .T (.lt (.c 0) tr17_13)]
def tr17_15 : SA := .l (.v 7) (.l (.app 0 (.l (.v 10) (.l (.app 3 (.i tr17_1 .nil)) .nil))) (.i tr17_12 .nil))
def tr17_16 : SA := .l (.v 5) (.l (.v 0) (.l (.v 4) tr17_15))
def tr17_17 : SL := .app 355 tr17_16
def tr17_18 : SL := .app 356 tr17_16
def tr17_19 : SL := .app 357 tr17_16
def tr17_20 : SL := .app 358 tr17_16
def tr17_21 : SI := .len tr17_20
def tr17_22 : SI := .len tr17_19
def tr17_23 : SI := .len tr17_18
def tr17_24 : SI := .len tr17_17
def tr17_25 : SA := .l (.v 5) (.l (.v 0) (.l (.v 4) (.l (.v 7) (.l (.v 10) (.i (.v 2) .nil)))))
def tr17_26 : SL := .app 355 tr17_25
def tr17_27 : SI := .len tr17_26
def tr17_28 : Eqn := .T (.eq tr17_27 tr17_2)
def tr17_29 : SL := .app 356 tr17_25
def tr17_30 : SI := .len tr17_29
def tr17_31 : Eqn := .T (.eq tr17_30 tr17_5)
def tr17_32 : SL := .app 357 tr17_25
def tr17_33 : SI := .len tr17_32
def tr17_34 : Eqn := .T (.eq tr17_33 tr17_6)
def tr17_35 : SL := .app 358 tr17_25
def tr17_36 : SI := .len tr17_35
def tr17_37 : Eqn := .T (.le tr17_36 tr17_3)
def tr17_38 : Eqn := .T (.app 340 (.l tr17_29 .nil))
def tr17_39 : Eqn := .T (.app 332 (.l tr17_26 (.l tr17_29 (.l tr17_32 .nil))))
def tr17_40 : SA := .i tr17_1 (.i (.c 5) (.i (.c 0) .nil))
def tr17_41 : SL := .app 331 (.l (.v 5) tr17_40)
def tr17_42 : SL := .app 337 (.l (.v 5) (.l (.v 0) (.i tr17_1 (.i (.c 5) (.i (.c 0) (.i (.rem tr17_1 tr17_6) .nil))))))
def tr17_43 : SL := .app 338 (.l (.v 5) (.l (.v 4) tr17_40))
def tr17_44 : SL := .app 343 (.l (.v 5) (.l (.v 14) tr17_40))
def tr17_45 : SI := .len tr17_44
def tr17_46 : SI := .len tr17_43
def tr17_47 : SI := .len tr17_42
def tr17_48 : SI := .len tr17_41
def tr17_49 : List SB := .app 332 (.l tr17_41 (.l tr17_42 (.l tr17_43 .nil))) :: .app 340 (.l tr17_42 .nil) :: .le tr17_45 tr17_8 :: .eq tr17_46 tr17_6 :: .eq tr17_47 tr17_5 :: .eq tr17_48 tr17_2 :: .lt tr17_1 tr17_2 :: .le (.c 0) tr17_1 :: tr17_10
def tr17_50 : SA := .l tr17_41 (.l tr17_42 (.l tr17_43 tr17_15))
def tr17_51 : SL := .app 355 tr17_50
def tr17_52 : SL := .app 356 tr17_50
def tr17_53 : SL := .app 357 tr17_50
def tr17_54 : SL := .app 358 tr17_50
def tr17_55 : SI := .len tr17_54
def tr17_56 : SI := .len tr17_53
def tr17_57 : SI := .len tr17_52
def tr17_58 : SI := .len tr17_51
set_option maxRecDepth 100000 in
theorem tr17_obs : loopObs Φ Try.prog d3 1000 tr17.f (loopAt Try.prog tr17.f tr17.id) tr17.n tr17.T kr17 tr17.outs = some
  [⟨tr17_11, tr17_14⟩, ⟨.app 332 (.l tr17_17 (.l tr17_18 (.l tr17_19 .nil))) :: .app 340 (.l tr17_18 .nil) :: .le tr17_21 tr17_3 :: .eq tr17_22 tr17_6 :: .eq tr17_23 tr17_5 :: .eq tr17_24 tr17_2 :: tr17_11, [tr17_28, tr17_31, tr17_34, tr17_37, tr17_38, tr17_39, .I tr17_36 tr17_21, .I tr17_27 tr17_24, .I tr17_33 tr17_22, .I tr17_30 tr17_23, .L tr17_32 tr17_19, .L tr17_26 tr17_17, .L tr17_29 tr17_18, .L tr17_35 tr17_20]⟩, ⟨tr17_49, tr17_14⟩, ⟨.app 332 (.l tr17_51 (.l tr17_52 (.l tr17_53 .nil))) :: .app 340 (.l tr17_52 .nil) :: .le tr17_55 tr17_3 :: .eq tr17_56 tr17_46 :: .eq tr17_57 tr17_47 :: .eq tr17_58 tr17_48 :: tr17_49, [tr17_28, tr17_31, tr17_34, tr17_37, tr17_38, tr17_39, .I tr17_36 tr17_55, .I tr17_27 tr17_58, .I tr17_33 tr17_56, .I tr17_30 tr17_57, .I tr17_8 tr17_45, .L tr17_32 tr17_53, .L tr17_26 tr17_51, .L tr17_29 tr17_52, .L (.v 14) tr17_44, .L tr17_35 tr17_54]⟩, ⟨.not tr17_4 :: tr17_9, [tr17_28, tr17_31, tr17_34, tr17_37, tr17_38, tr17_39, .I tr17_36 tr17_7, .I tr17_27 tr17_2, .I tr17_33 tr17_6, .I tr17_30 tr17_5, .L tr17_32 (.v 4), .L tr17_26 (.v 5), .L tr17_29 (.v 0), .L tr17_35 (.v 10)]⟩] := by kernel_rfl
theorem tr17_ok : tr17.ok Φ Try.prog := by
  refine ⟨by kernel_rfl, loop_rule (fun ρ => d3_ok ρ) (loopAt_sub (by kernel_rfl)) tr17_obs ?_⟩
  simp only [tr17_1, tr17_2, tr17_3, tr17_4, tr17_5, tr17_6, tr17_7, tr17_8, tr17_9, tr17_10, tr17_11, tr17_12, tr17_13, tr17_14, tr17_15, tr17_16, tr17_17, tr17_18, tr17_19, tr17_20, tr17_21, tr17_22, tr17_23, tr17_24, tr17_25, tr17_26, tr17_27, tr17_28, tr17_29, tr17_30, tr17_31, tr17_32, tr17_33, tr17_34, tr17_35, tr17_36, tr17_37, tr17_38, tr17_39, tr17_40, tr17_41, tr17_42, tr17_43, tr17_44, tr17_45, tr17_46, tr17_47, tr17_48, tr17_49, tr17_50, tr17_51, tr17_52, tr17_53, tr17_54, tr17_55, tr17_56, tr17_57, tr17_58, and_imp, List.forall_mem_cons, List.not_mem_nil, false_implies, implies_true, and_true, Ob.ok, holds, Eqn.ok, evB_eq, evB_lt, evB_le, evB_not, evB_or, evB_app, evB_c, ev_sel, ev_len, ev_v, ev_c, ev_add, ev_sub, ev_rem, evL_v, evL_app, evA_l, evA_i, evA_nil, std_cat, std_row, ints_cons, ints_nil, decide_eq_true_eq, Bool.or_eq_true, Bool.not_eq_true', decide_eq_false_iff_not, aL331, aL337, aL338, aL343, aB340, aB332, aL355, aL356, aL357, aL358]
  repeat' apply And.intro
  all_goals intro ρ hR
  all_goals intros
  all_goals first
    | (exact ⟨by omega, by omega⟩)
    | (have hO : ∀ row ∈ ρ.l 5, okRow KO row := hR.row 8 rfl rfl
       have hI : invS (ρ.l 5) (ρ.l 0) (ρ.l 4) = true := by with_reducible assumption
       have c0 : 0 ≤ ρ.i 2 := by omega
       have q1 : ρ.i 2 < (ρ.l 7).length := by omega
       have q2 : ((List.getD (ρ.l 7) (Int.toNat (ρ.i 2)) []).getD 0 0) < 0 ∨ ((ρ.l 5).length : Int) ≤ ((List.getD (ρ.l 7) (Int.toNat (ρ.i 2)) []).getD 0 0) := by omega
       have e := wk_no (O := ρ.l 5) (A := ρ.l 0) (R := ρ.l 4) (F := ρ.l 7) (W := ρ.l 10) (k := ρ.i 2) c0 q1 q2
       try simp only [cel] at e
       rw [e]
       repeat' apply And.intro
       all_goals first
         | rfl
         | omega
         | with_reducible assumption)
    | (have hO : ∀ row ∈ ρ.l 5, okRow KO row := hR.row 8 rfl rfl
       have hI : invS (ρ.l 5) (ρ.l 0) (ρ.l 4) = true := by with_reducible assumption
       have c0 : 0 ≤ ρ.i 2 := by omega
       have q1 : ρ.i 2 < (ρ.l 7).length := by omega
       have q2 : 0 ≤ ((List.getD (ρ.l 7) (Int.toNat (ρ.i 2)) []).getD 0 0) := by omega
       have q3 : ((List.getD (ρ.l 7) (Int.toNat (ρ.i 2)) []).getD 0 0) < (ρ.l 5).length := by omega
       have e := wk_yes (O := ρ.l 5) (A := ρ.l 0) (R := ρ.l 4) (F := ρ.l 7) (W := ρ.l 10) (k := ρ.i 2) c0 q1 q2 q3
       have kl : evL (ρ.l 5) (ρ.l 14) ((List.getD (ρ.l 7) (Int.toNat (ρ.i 2)) []).getD 0 0) 5 0 = ρ.l 14 := evL_keep hO (by omega) (by omega) (by decide)
       try simp only [cel] at e
       rw [e, kl]
       repeat' apply And.intro
       all_goals first
         | rfl
         | omega
         | with_reducible assumption)
    | (have hO : ∀ row ∈ ρ.l 5, okRow KO row := hR.row 8 rfl rfl
       have hI : invS (ρ.l 5) (ρ.l 0) (ρ.l 4) = true := by with_reducible assumption
       have c0 : 0 ≤ ρ.i 2 := by omega
       have q0 : ¬ ρ.i 2 < (ρ.l 7).length := by omega
       have e := wk_end (O := ρ.l 5) (A := ρ.l 0) (R := ρ.l 4) (F := ρ.l 7) (W := ρ.l 10) (k := ρ.i 2) q0
       rw [e]
       dsimp only
       repeat' apply And.intro
       all_goals first
         | rfl
         | omega
         | with_reducible assumption)
theorem d4_ok (ρ : Env) : TblOK Φ ρ Try.prog d4 := addLp_ok (addLp_ok (d3_ok ρ) tr8_ok) tr17_ok
def rTk_1 : SI := .sub (.v 0) (.v 9)
def rTk_2 : SA := .l (.v 5) (.l (.v 0) (.l (.v 4) (.l (.v 15) (.l (.lit []) (.i (.c 0) (.i (.wrap IntKind.i64 rTk_1) .nil))))))
def rTk_3 : SL := .app 360 rTk_2
def rTk_4 : SL := .app 361 rTk_2
def rTk_5 : SL := .app 362 rTk_2
def rTk_6 : SA := .l (.v 14) (.i (.v 0) .nil)
def rTk_7 : SL := .app 254 rTk_6
def rTk_8 : SA := .i (.c 0) .nil
def rTk_9 : SA := .l rTk_7 (.l (.lit []) rTk_8)
def rTk_10 : SA := .l rTk_3 (.l rTk_4 (.l rTk_5 rTk_9))
def rTk_11 : SL := .app 355 rTk_10
def rTk_12 : SL := .app 356 rTk_10
def rTk_13 : SL := .app 357 rTk_10
def rTk_14 : SL := .app 358 rTk_10
def rTk_15 : SI := .len rTk_14
def rTk_16 : SI := .len rTk_7
def rTk_17 : SI := .len rTk_13
def rTk_18 : SI := .len rTk_5
def rTk_19 : SI := .len rTk_12
def rTk_20 : SI := .len rTk_4
def rTk_21 : SI := .len rTk_11
def rTk_22 : SI := .len rTk_3
def rTk_23 : SL := .app 363 rTk_2
def rTk_24 : SI := .len rTk_23
def rTk_25 : SI := .len (.v 15)
def rTk_26 : SI := .len (.v 4)
def rTk_27 : SL := .app 364 rTk_2
def rTk_28 : SI := .len rTk_27
def rTk_29 : SI := .len (.v 0)
def rTk_30 : SI := .len (.v 5)
def rTk_31 : SI := .len (.app 253 rTk_6)
def rTk_32 : SB := .lt rTk_31 (.c 60000)
def rTk_33 : SI := .c 549755813888
def rTk_34 : List SB := [.lt rTk_31 (.c 80000), .lt rTk_16 (.c 80000), .le (.v 0) rTk_33, .le (.v 9) (.v 0), .le (.c 1) rTk_29, .le rTk_29 (.c 8), .eq rTk_26 rTk_29, .le rTk_30 (.c 64), .le (.c 1) (.v 8), .le (.v 8) (.c 10000), .le (.c 0) (.v 9), .le (.v 9) rTk_33, .c true, .lt (.len (.v 14)) (.c 60000), .lt rTk_25 (.c 60000), .app 340 (.l (.v 0) .nil), .app 332 (.l (.v 5) (.l (.v 0) (.l (.v 4) .nil))), .lt rTk_25 (.c 50000), .app 252 (.l (.v 14) rTk_8)]
def rTk_35 : SA := .l (.v 5) (.l (.v 0) (.l (.v 4) (.l (.v 15) (.l (.lit []) (.i (.c 0) (.i rTk_1 .nil))))))
def rTk_36 : SA := .l (.app 360 rTk_35) (.l (.app 361 rTk_35) (.l (.app 362 rTk_35) rTk_9))
def rTk_37 : SL := .app 355 rTk_36
def rTk_38 : SI := .len rTk_37
def rTk_39 : SL := .app 356 rTk_36
def rTk_40 : SI := .len rTk_39
def rTk_41 : SL := .app 357 rTk_36
def rTk_42 : SI := .len rTk_41
def rTk_43 : SL := .app 364 rTk_35
def rTk_44 : SI := .len rTk_43
def rTk_45 : SL := .app 358 rTk_36
def rTk_46 : SI := .len rTk_45
def rTk_47 : SL := .app 363 rTk_35
def rTk_48 : SI := .len rTk_47
set_option maxRecDepth 100000 in
theorem rTk_obs : callObs Φ Try.prog d4 1000 rTk.f rTk.vs rTk.o rTk.pc rTk.outs = some
  [⟨.app 332 (.l rTk_11 (.l rTk_12 (.l rTk_13 .nil))) :: .app 340 (.l rTk_12 .nil) :: .le rTk_15 rTk_16 :: .eq rTk_17 rTk_18 :: .eq rTk_19 rTk_20 :: .eq rTk_21 rTk_22 :: .app 332 (.l rTk_3 (.l rTk_4 (.l rTk_5 .nil))) :: .app 340 (.l rTk_4 .nil) :: .le rTk_24 (.add rTk_25 rTk_26) :: .lt rTk_24 (.c 60000) :: .le rTk_28 rTk_26 :: .eq rTk_18 rTk_26 :: .eq rTk_20 rTk_29 :: .eq rTk_22 rTk_30 :: rTk_32 :: rTk_34, [.T (.eq rTk_38 rTk_30), .T (.eq rTk_40 rTk_29), .T (.eq rTk_42 rTk_26), .T (.le rTk_44 (.c 8)), .T (.lt rTk_46 (.c 80000)), .T (.le rTk_48 (.add rTk_25 (.c 8))), .T (.app 340 (.l rTk_39 .nil)), .I rTk_44 rTk_28, .I rTk_46 rTk_15, .I rTk_38 rTk_21, .I rTk_42 rTk_17, .I rTk_40 rTk_19, .I rTk_48 rTk_24, .L rTk_41 rTk_13, .L rTk_37 rTk_11, .L rTk_39 rTk_12, .L rTk_47 rTk_23, .L rTk_43 rTk_27, .L rTk_45 rTk_14]⟩, ⟨.not rTk_32 :: rTk_34, [.T (.c false)]⟩] := by kernel_rfl
theorem rTk_ok : rTk.ok Φ Try.prog := by
  refine call_rule (fun ρ => d4_ok ρ) rTk_obs ?_
  simp only [rTk_1, rTk_2, rTk_3, rTk_4, rTk_5, rTk_6, rTk_7, rTk_8, rTk_9, rTk_10, rTk_11, rTk_12, rTk_13, rTk_14, rTk_15, rTk_16, rTk_17, rTk_18, rTk_19, rTk_20, rTk_21, rTk_22, rTk_23, rTk_24, rTk_25, rTk_26, rTk_27, rTk_28, rTk_29, rTk_30, rTk_31, rTk_32, rTk_33, rTk_34, rTk_35, rTk_36, rTk_37, rTk_38, rTk_39, rTk_40, rTk_41, rTk_42, rTk_43, rTk_44, rTk_45, rTk_46, rTk_47, rTk_48, and_imp, List.forall_mem_cons, List.not_mem_nil, false_implies, implies_true, and_true, Ob.ok, holds, Eqn.ok, evB_eq, evB_lt, evB_le, evB_not, evB_app, evB_c, ev_len, ev_v, ev_c, ev_add, ev_sub, ev_wrap, evL_v, evL_lit, evL_app, evA_l, evA_i, evA_nil, decide_eq_true_eq, Bool.not_eq_true', decide_eq_false_iff_not, aB340, aB332, T.aL253, T.aL254, aL355, aL356, aL357, aL358, aL360, aL361, aL362, aL363, aL364]
  repeat' apply And.intro
  all_goals intro ρ hR
  all_goals intros
  all_goals first
    | (exfalso
       have h := tck_len (ρ.l 14) (ρ.i 0)
       omega)
    | (have hw : IntKind.i64.wrap (ρ.i 0 - ρ.i 9) = ρ.i 0 - ρ.i 9 := wrap_in (by simp only [kmin]; omega) (by simp only [kmax]; omega)
       simp only [hw] at *
       repeat' apply And.intro
       all_goals first
         | rfl
         | omega
         | with_reducible assumption)
end Go.SF.C21
