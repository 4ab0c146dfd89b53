/- Time goes on, shown. -/
import Derived.Test.YtnhdohhhgfdhfaaQO
import Derived.Test.YtnhdohhhgfdhfaaCM
import Derived.Test.YtnhdohhhgfdhfaaPM
import Derived.KernelRfl
namespace Go.SF.C21
open Go Go.SF Go.Proofs
set_option linter.unusedVariables false
set_option linter.unusedSimpArgs false

def tk9_1 : SI := .sel (.v 4) (.v 2) 0
def tk9_2 : SB := .eq tk9_1 (.c (.negSucc 0))
def tk9_3 : SB := .lt (.v 2) (.v 11)
def tk9_4 : SI := .len (.v 0)
def tk9_5 : SI := .len (.v 4)
def tk9_6 : SI := .len (.v 5)
def tk9_7 : SI := .len (.v 6)
def tk9_8 : SA := .i (.c 64) .nil
def tk9_9 : SA := .l (.v 1) tk9_8
def tk9_10 : List SB := [.le (.c 1) tk9_4, .le tk9_4 (.c 8), .eq tk9_5 tk9_4, .le tk9_6 (.c 64), .le (.c 1) (.v 8), .le (.v 8) (.c 10000), .eq tk9_5 (.v 11), .le (.c 0) (.v 1), .le (.v 1) (.v 0), .le (.v 0) (.c 549755813888), .le (.c 0) (.v 2), .le (.v 2) tk9_5, .le tk9_7 (.v 2), .c true, .app 130 (.l (.v 0) tk9_9), .app 332 (.l (.v 5) (.l (.v 0) (.l (.v 4) .nil)))]
def tk9_11 : List SB := tk9_3 :: tk9_10
def tk9_12 : List SB := tk9_2 :: tk9_11
def tk9_13 : SI := .add (.v 2) (.c 1)
def tk9_14 : SI := .sub tk9_5 (.v 2)
def tk9_15 : List Eqn := [.T (.lt (.c 0) tk9_14)]
def tk9_16 : List Eqn := .T (.lt (.sub tk9_5 tk9_13) tk9_14) :: tk9_15
def tk9_17 : SA := .i (.sub (.v 0) (.v 1)) .nil
def tk9_18 : SA := .i tk9_13 tk9_17
def tk9_19 : SA := .l (.v 6) tk9_18
def tk9_20 : SA := .l (.v 5) (.l (.v 0) (.l (.v 4) (.l (.v 3) tk9_19)))
def tk9_21 : SL := .app 350 tk9_20
def tk9_22 : SL := .app 351 tk9_20
def tk9_23 : SL := .app 352 tk9_20
def tk9_24 : SA := .l (.v 1000) tk9_8
def tk9_25 : SL := .app 354 tk9_20
def tk9_26 : SI := .len tk9_25
def tk9_27 : SI := .len tk9_23
def tk9_28 : SI := .len tk9_22
def tk9_29 : SI := .len tk9_21
def tk9_30 : SA := .l (.v 5) (.l (.v 0) (.l (.v 4) (.l (.v 3) (.l (.v 6) (.i (.v 2) tk9_17)))))
def tk9_31 : SL := .app 350 tk9_30
def tk9_32 : SI := .len tk9_31
def tk9_33 : Eqn := .T (.eq tk9_32 tk9_6)
def tk9_34 : SL := .app 351 tk9_30
def tk9_35 : SI := .len tk9_34
def tk9_36 : Eqn := .T (.eq tk9_35 tk9_4)
def tk9_37 : SL := .app 352 tk9_30
def tk9_38 : SI := .len tk9_37
def tk9_39 : Eqn := .T (.eq tk9_38 tk9_5)
def tk9_40 : SL := .app 354 tk9_30
def tk9_41 : SI := .len tk9_40
def tk9_42 : Eqn := .T (.le tk9_41 tk9_5)
def tk9_43 : Eqn := .T (.app 130 (.l tk9_34 tk9_24))
def tk9_44 : Eqn := .T (.app 332 (.l tk9_31 (.l tk9_34 (.l tk9_37 .nil))))
def tk9_45 : SL := .app 353 tk9_30
def tk9_46 : SA := .i tk9_1 (.i (.c 3) (.i (.c 0) .nil))
def tk9_47 : SL := .app 331 (.l (.v 5) tk9_46)
def tk9_48 : SL := .app 337 (.l (.v 5) (.l (.v 0) (.i tk9_1 (.i (.c 3) (.i (.c 0) (.i (.v 2) .nil))))))
def tk9_49 : SL := .app 338 (.l (.v 5) (.l (.v 4) tk9_46))
def tk9_50 : SL := .app 339 (.l (.v 5) (.l (.v 2) tk9_46))
def tk9_51 : SI := .len tk9_49
def tk9_52 : SI := .len tk9_48
def tk9_53 : SI := .len tk9_47
def tk9_54 : SI := .app 213 (.l (.v 3) (.i tk9_1 tk9_17))
def tk9_55 : SB := .lt tk9_54 (.c 1)
def tk9_56 : List SB := .not tk9_2 :: tk9_11
def tk9_57 : List SB := .app 332 (.l tk9_47 (.l tk9_48 (.l tk9_49 .nil))) :: .app 130 (.l tk9_48 tk9_24) :: .le (.len tk9_50) (.len (.v 2)) :: .eq tk9_51 tk9_5 :: .eq tk9_52 tk9_4 :: .eq tk9_53 tk9_6 :: .lt tk9_1 tk9_6 :: .le (.c 0) tk9_1 :: tk9_55 :: tk9_56
def tk9_58 : SL := .app 7 (.l (.v 3) (.i tk9_1 (.i tk9_54 .nil)))
def tk9_59 : SA := .l tk9_47 (.l tk9_48 (.l tk9_49 (.l tk9_58 (.l (.app 0 (.l (.v 6) (.l (.app 3 (.i tk9_1 .nil)) .nil))) tk9_18))))
def tk9_60 : SL := .app 350 tk9_59
def tk9_61 : SL := .app 351 tk9_59
def tk9_62 : SL := .app 352 tk9_59
def tk9_63 : SA := .l (.v 2000) tk9_8
def tk9_64 : SL := .app 354 tk9_59
def tk9_65 : SI := .len tk9_64
def tk9_66 : SI := .len tk9_62
def tk9_67 : SI := .len tk9_61
def tk9_68 : SI := .len tk9_60
def tk9_69 : List SB := .not tk9_55 :: tk9_56
def tk9_70 : SA := .l (.v 5) (.l (.v 0) (.l (.v 4) (.l tk9_58 tk9_19)))
def tk9_71 : SL := .app 350 tk9_70
def tk9_72 : SL := .app 351 tk9_70
def tk9_73 : SL := .app 352 tk9_70
def tk9_74 : SL := .app 354 tk9_70
def tk9_75 : SI := .len tk9_74
def tk9_76 : SI := .len tk9_73
def tk9_77 : SI := .len tk9_72
def tk9_78 : SI := .len tk9_71
set_option maxRecDepth 100000 in
theorem tk9_obs : loopObs Φ Try.prog m5 1000 tk9.f (loopAt Try.prog tk9.f tk9.id) tk9.n tk9.T kT9 tk9.outs = some
  [⟨tk9_12, tk9_16⟩, ⟨.app 332 (.l tk9_21 (.l tk9_22 (.l tk9_23 .nil))) :: .app 130 (.l tk9_22 tk9_24) :: .le tk9_26 tk9_5 :: .eq tk9_27 tk9_5 :: .eq tk9_28 tk9_4 :: .eq tk9_29 tk9_6 :: tk9_12, [tk9_33, tk9_36, tk9_39, tk9_42, tk9_43, tk9_44, .I tk9_41 tk9_26, .I tk9_32 tk9_29, .I tk9_38 tk9_27, .I tk9_35 tk9_28, .L tk9_45 (.app 353 tk9_20), .L tk9_37 tk9_23, .L tk9_31 tk9_21, .L tk9_34 tk9_22, .L tk9_40 tk9_25]⟩, ⟨tk9_57, .T (.lt (.sub tk9_51 tk9_13) tk9_14) :: tk9_15⟩, ⟨.app 332 (.l tk9_60 (.l tk9_61 (.l tk9_62 .nil))) :: .app 130 (.l tk9_61 tk9_63) :: .le tk9_65 tk9_51 :: .eq tk9_66 tk9_51 :: .eq tk9_67 tk9_52 :: .eq tk9_68 tk9_53 :: tk9_57, [tk9_33, tk9_36, tk9_39, tk9_42, .T (.app 130 (.l tk9_34 tk9_63)), tk9_44, .I tk9_41 tk9_65, .I tk9_32 tk9_68, .I tk9_38 tk9_66, .I tk9_35 tk9_67, .L (.v 2) tk9_50, .L tk9_45 (.app 353 tk9_59), .L tk9_37 tk9_62, .L tk9_31 tk9_60, .L tk9_34 tk9_61, .L tk9_40 tk9_64]⟩, ⟨tk9_69, tk9_16⟩, ⟨.app 332 (.l tk9_71 (.l tk9_72 (.l tk9_73 .nil))) :: .app 130 (.l tk9_72 tk9_24) :: .le tk9_75 tk9_5 :: .eq tk9_76 tk9_5 :: .eq tk9_77 tk9_4 :: .eq tk9_78 tk9_6 :: tk9_69, [tk9_33, tk9_36, tk9_39, tk9_42, tk9_43, tk9_44, .I tk9_41 tk9_75, .I tk9_32 tk9_78, .I tk9_38 tk9_76, .I tk9_35 tk9_77, .L tk9_45 (.app 353 tk9_70), .L tk9_37 tk9_73, .L tk9_31 tk9_71, .L tk9_34 tk9_72, .L tk9_40 tk9_74]⟩, ⟨.not tk9_3 :: tk9_10, [tk9_33, tk9_36, tk9_39, tk9_42, .T (.app 130 (.l tk9_34 tk9_9)), tk9_44, .I tk9_41 tk9_7, .I tk9_32 tk9_6, .I tk9_38 tk9_5, .I tk9_35 tk9_4, .L tk9_45 (.v 3), .L tk9_37 (.v 4), .L tk9_31 (.v 5), .L tk9_34 (.v 0), .L tk9_40 (.v 6)]⟩] := by kernel_rfl
theorem tk9_ok : tk9.ok Φ Try.prog := by
  refine ⟨by kernel_rfl, loop_rule (fun ρ => m5_ok ρ) (loopAt_sub (by kernel_rfl)) tk9_obs ?_⟩
  simp only [tk9_1, tk9_2, tk9_3, tk9_4, tk9_5, tk9_6, tk9_7, tk9_8, tk9_9, tk9_10, tk9_11, tk9_12, tk9_13, tk9_14, tk9_15, tk9_16, tk9_17, tk9_18, tk9_19, tk9_20, tk9_21, tk9_22, tk9_23, tk9_24, tk9_25, tk9_26, tk9_27, tk9_28, tk9_29, tk9_30, tk9_31, tk9_32, tk9_33, tk9_34, tk9_35, tk9_36, tk9_37, tk9_38, tk9_39, tk9_40, tk9_41, tk9_42, tk9_43, tk9_44, tk9_45, tk9_46, tk9_47, tk9_48, tk9_49, tk9_50, tk9_51, tk9_52, tk9_53, tk9_54, tk9_55, tk9_56, tk9_57, tk9_58, tk9_59, tk9_60, tk9_61, tk9_62, tk9_63, tk9_64, tk9_65, tk9_66, tk9_67, tk9_68, tk9_69, tk9_70, tk9_71, tk9_72, tk9_73, tk9_74, tk9_75, tk9_76, tk9_77, tk9_78, and_imp, List.forall_mem_cons, List.not_mem_nil, false_implies, implies_true, and_true, Ob.ok, holds, Eqn.ok, evB_eq, evB_lt, evB_le, evB_not, evB_app, evB_c, ev_sel, ev_len, ev_v, ev_c, ev_add, ev_sub, evL_v, evL_app, ev_app, evA_l, evA_i, evA_nil, std_cat, std_row, std_put, ints_cons, ints_nil, negSucc_lit, decide_eq_true_eq, Bool.not_eq_true', decide_eq_false_iff_not, aL331, aL337, aL338, aL339, Q.aB130, aB332, std_row, T.aI213, aL350, aL351, aL352, aL353, aL354]
  repeat' apply And.intro
  all_goals intro ρ hR
  all_goals intros
  all_goals first
    | (exact ⟨by omega, by omega⟩)
    | (have hO : ∀ row ∈ ρ.l 5, okRow KO row := hR.row 9 rfl rfl
       have q0 : 0 ≤ ρ.i 2 := by omega
       have q1 : ρ.i 2 < (ρ.l 4).length := by omega
       have q2 : ((List.getD (ρ.l 4) (Int.toNat (ρ.i 2)) []).getD 0 0) = -1 := by omega
       have e := tk_skip (O := ρ.l 5) (A := ρ.l 0) (R := ρ.l 4) (C := ρ.l 3) (L := ρ.l 6) (c := ρ.i 2) (t := ρ.i 0 - ρ.i 1) q0 q1 q2
       try simp only [cel] at e
       rw [e]
       repeat' apply And.intro
       all_goals first
         | rfl
         | omega
         | with_reducible assumption)
    | (have hO : ∀ row ∈ ρ.l 5, okRow KO row := hR.row 9 rfl rfl
       have q0 : 0 ≤ ρ.i 2 := by omega
       have q1 : ρ.i 2 < (ρ.l 4).length := by omega
       have q2 : ¬ ((List.getD (ρ.l 4) (Int.toNat (ρ.i 2)) []).getD 0 0) = -1 := by omega
       have q3 : (C18.chI (ρ.l 3) ((List.getD (ρ.l 4) (Int.toNat (ρ.i 2)) []).getD 0 0) (ρ.i 0 - ρ.i 1)) < 1 := by with_reducible assumption
       have q4 : ((evR (ρ.l 5) (ρ.l 4) ((List.getD (ρ.l 4) (Int.toNat (ρ.i 2)) []).getD 0 0) 3 0).length : Int) = (ρ.l 4).length := by with_reducible assumption
       have e := tk_low (O := ρ.l 5) (A := ρ.l 0) (R := ρ.l 4) (C := ρ.l 3) (L := ρ.l 6) (c := ρ.i 2) (t := ρ.i 0 - ρ.i 1) q0 q1 q2 q3 q4
       have kb : evB (ρ.l 5) (ρ.l 2) ((List.getD (ρ.l 4) (Int.toNat (ρ.i 2)) []).getD 0 0) 3 0 = ρ.l 2 := evB_keep hO (by omega) (by omega) (by decide)
       try simp only [cel] at e
       rw [e, kb]
       repeat' apply And.intro
       all_goals first
         | rfl
         | omega
         | with_reducible assumption)
    | (have hO : ∀ row ∈ ρ.l 5, okRow KO row := hR.row 9 rfl rfl
       have q0 : 0 ≤ ρ.i 2 := by omega
       have q1 : ρ.i 2 < (ρ.l 4).length := by omega
       have q2 : ¬ ((List.getD (ρ.l 4) (Int.toNat (ρ.i 2)) []).getD 0 0) = -1 := by omega
       have q3 : ¬ (C18.chI (ρ.l 3) ((List.getD (ρ.l 4) (Int.toNat (ρ.i 2)) []).getD 0 0) (ρ.i 0 - ρ.i 1)) < 1 := by with_reducible assumption
       have e := tk_high (O := ρ.l 5) (A := ρ.l 0) (R := ρ.l 4) (C := ρ.l 3) (L := ρ.l 6) (c := ρ.i 2) (t := ρ.i 0 - ρ.i 1) q0 q1 q2 q3
       try simp only [cel] at e
       rw [e]
       repeat' apply And.intro
       all_goals first
         | rfl
         | omega
         | with_reducible assumption)
    | (have hO : ∀ row ∈ ρ.l 5, okRow KO row := hR.row 9 rfl rfl
       have q0 : ¬ ρ.i 2 < (ρ.l 4).length := by omega
       have e := tk_end (O := ρ.l 5) (A := ρ.l 0) (R := ρ.l 4) (C := ρ.l 3) (L := ρ.l 6) (c := ρ.i 2) (t := ρ.i 0 - ρ.i 1) q0
       rw [e]
       dsimp only
       repeat' apply And.intro
       all_goals first
         | rfl
         | omega
         | with_reducible assumption)
def tk17_1 : SI := .sel (.v 7) (.v 2) 0
def tk17_2 : SI := .len (.v 5)
def tk17_3 : SI := .len (.v 7)
def tk17_4 : SB := .lt (.v 2) tk17_3
def tk17_5 : SI := .len (.v 0)
def tk17_6 : SI := .len (.v 4)
def tk17_7 : SI := .len (.v 10)
def tk17_8 : SA := .i (.c 64) .nil
def tk17_9 : SA := .l (.v 1) tk17_8
def tk17_10 : List SB := [.le (.c 1) tk17_5, .le tk17_5 (.c 8), .eq tk17_6 tk17_5, .le tk17_2 (.c 64), .le (.c 1) (.v 8), .le (.v 8) (.c 10000), .lt tk17_3 (.c 80000), .le (.c 0) (.v 2), .le (.v 2) tk17_3, .le tk17_7 (.v 2), .c true, .app 130 (.l (.v 0) tk17_9), .app 332 (.l (.v 5) (.l (.v 0) (.l (.v 4) .nil)))]
def tk17_11 : List SB := tk17_4 :: tk17_10
def tk17_12 : List SB := .or (.lt tk17_1 (.c 0)) (.le tk17_2 tk17_1) :: tk17_11
def tk17_13 : SI := .add (.v 2) (.c 1)
def tk17_14 : SI := .sub tk17_3 (.v 2)
def tk17_15 : List Eqn := [.T (.lt (.sub tk17_3 tk17_13) tk17_14), .T (.lt (.c 0) tk17_14)]
def tk17_16 : SA := .l (.v 7) (.l (.app 0 (.l (.v 10) (.l (.app 3 (.i tk17_1 .nil)) .nil))) (.i tk17_13 .nil))
def tk17_17 : SA := .l (.v 5) (.l (.v 0) (.l (.v 4) tk17_16))
def tk17_18 : SL := .app 355 tk17_17
def tk17_19 : SL := .app 356 tk17_17
def tk17_20 : SL := .app 357 tk17_17
def tk17_21 : SA := .l (.v 1000) tk17_8
def tk17_22 : SL := .app 358 tk17_17
def tk17_23 : SI := .len tk17_22
def tk17_24 : SI := .len tk17_20
def tk17_25 : SI := .len tk17_19
def tk17_26 : SI := .len tk17_18
def tk17_27 : SA := .l (.v 5) (.l (.v 0) (.l (.v 4) (.l (.v 7) (.l (.v 10) (.i (.v 2) .nil)))))
def tk17_28 : SL := .app 355 tk17_27
def tk17_29 : SI := .len tk17_28
def tk17_30 : Eqn := .T (.eq tk17_29 tk17_2)
def tk17_31 : SL := .app 356 tk17_27
def tk17_32 : SI := .len tk17_31
def tk17_33 : Eqn := .T (.eq tk17_32 tk17_5)
def tk17_34 : SL := .app 357 tk17_27
def tk17_35 : SI := .len tk17_34
def tk17_36 : Eqn := .T (.eq tk17_35 tk17_6)
def tk17_37 : SL := .app 358 tk17_27
def tk17_38 : SI := .len tk17_37
def tk17_39 : Eqn := .T (.le tk17_38 tk17_3)
def tk17_40 : Eqn := .T (.app 332 (.l tk17_28 (.l tk17_31 (.l tk17_34 .nil))))
def tk17_41 : SA := .i tk17_1 (.i (.c 5) (.i (.c 0) .nil))
def tk17_42 : SL := .app 331 (.l (.v 5) tk17_41)
def tk17_43 : SL := .app 337 (.l (.v 5) (.l (.v 0) (.i tk17_1 (.i (.c 5) (.i (.c 0) (.i (.rem tk17_1 tk17_6) .nil))))))
def tk17_44 : SL := .app 338 (.l (.v 5) (.l (.v 4) tk17_41))
def tk17_45 : SL := .app 339 (.l (.v 5) (.l (.v 2) tk17_41))
def tk17_46 : SI := .len tk17_44
def tk17_47 : SI := .len tk17_43
def tk17_48 : SI := .len tk17_42
def tk17_49 : List SB := .app 332 (.l tk17_42 (.l tk17_43 (.l tk17_44 .nil))) :: .app 130 (.l tk17_43 tk17_21) :: .le (.len tk17_45) (.len (.v 2)) :: .eq tk17_46 tk17_6 :: .eq tk17_47 tk17_5 :: .eq tk17_48 tk17_2 :: .lt tk17_1 tk17_2 :: .le (.c 0) tk17_1 :: tk17_11
def tk17_50 : SA := .l tk17_42 (.l tk17_43 (.l tk17_44 tk17_16))
def tk17_51 : SL := .app 355 tk17_50
def tk17_52 : SL := .app 356 tk17_50
def tk17_53 : SL := .app 357 tk17_50
def tk17_54 : SA := .l (.v 2000) tk17_8
def tk17_55 : SL := .app 358 tk17_50
def tk17_56 : SI := .len tk17_55
def tk17_57 : SI := .len tk17_53
def tk17_58 : SI := .len tk17_52
def tk17_59 : SI := .len tk17_51
set_option maxRecDepth 100000 in
theorem tk17_obs : loopObs Φ Try.prog m5 1000 tk17.f (loopAt Try.prog tk17.f tk17.id) tk17.n tk17.T kT17 tk17.outs = some
  [⟨tk17_12, tk17_15⟩, ⟨.app 332 (.l tk17_18 (.l tk17_19 (.l tk17_20 .nil))) :: .app 130 (.l tk17_19 tk17_21) :: .le tk17_23 tk17_3 :: .eq tk17_24 tk17_6 :: .eq tk17_25 tk17_5 :: .eq tk17_26 tk17_2 :: tk17_12, [tk17_30, tk17_33, tk17_36, tk17_39, .T (.app 130 (.l tk17_31 tk17_21)), tk17_40, .I tk17_38 tk17_23, .I tk17_29 tk17_26, .I tk17_35 tk17_24, .I tk17_32 tk17_25, .L tk17_34 tk17_20, .L tk17_28 tk17_18, .L tk17_31 tk17_19, .L tk17_37 tk17_22]⟩, ⟨tk17_49, tk17_15⟩, ⟨.app 332 (.l tk17_51 (.l tk17_52 (.l tk17_53 .nil))) :: .app 130 (.l tk17_52 tk17_54) :: .le tk17_56 tk17_3 :: .eq tk17_57 tk17_46 :: .eq tk17_58 tk17_47 :: .eq tk17_59 tk17_48 :: tk17_49, [tk17_30, tk17_33, tk17_36, tk17_39, .T (.app 130 (.l tk17_31 tk17_54)), tk17_40, .I tk17_38 tk17_56, .I tk17_29 tk17_59, .I tk17_35 tk17_57, .I tk17_32 tk17_58, .L (.v 2) tk17_45, .L tk17_34 tk17_53, .L tk17_28 tk17_51, .L tk17_31 tk17_52, .L tk17_37 tk17_55]⟩, ⟨.not tk17_4 :: tk17_10, [tk17_30, tk17_33, tk17_36, tk17_39, .T (.app 130 (.l tk17_31 tk17_9)), tk17_40, .I tk17_38 tk17_7, .I tk17_29 tk17_2, .I tk17_35 tk17_6, .I tk17_32 tk17_5, .L tk17_34 (.v 4), .L tk17_28 (.v 5), .L tk17_31 (.v 0), .L tk17_37 (.v 10)]⟩] := by kernel_rfl
theorem tk17_ok : tk17.ok Φ Try.prog := by
  refine ⟨by kernel_rfl, loop_rule (fun ρ => m5_ok ρ) (loopAt_sub (by kernel_rfl)) tk17_obs ?_⟩
  simp only [tk17_1, tk17_2, tk17_3, tk17_4, tk17_5, tk17_6, tk17_7, tk17_8, tk17_9, tk17_10, tk17_11, tk17_12, tk17_13, tk17_14, tk17_15, tk17_16, tk17_17, tk17_18, tk17_19, tk17_20, tk17_21, tk17_22, tk17_23, tk17_24, tk17_25, tk17_26, tk17_27, tk17_28, tk17_29, tk17_30, tk17_31, tk17_32, tk17_33, tk17_34, tk17_35, tk17_36, tk17_37, tk17_38, tk17_39, tk17_40, tk17_41, tk17_42, tk17_43, tk17_44, tk17_45, tk17_46, tk17_47, tk17_48, tk17_49, tk17_50, tk17_51, tk17_52, tk17_53, tk17_54, tk17_55, tk17_56, tk17_57, tk17_58, tk17_59, and_imp, List.forall_mem_cons, List.not_mem_nil, false_implies, implies_true, and_true, Ob.ok, holds, Eqn.ok, evB_eq, evB_lt, evB_le, evB_not, evB_or, evB_app, evB_c, ev_sel, ev_len, ev_v, ev_c, ev_add, ev_sub, ev_rem, evL_v, evL_app, evA_l, evA_i, evA_nil, std_cat, std_row, ints_cons, ints_nil, decide_eq_true_eq, Bool.or_eq_true, Bool.not_eq_true', decide_eq_false_iff_not, aL331, aL337, aL338, aL339, Q.aB130, aB332, std_row, aL355, aL356, aL357, aL358]
  repeat' apply And.intro
  all_goals intro ρ hR
  all_goals intros
  all_goals first
    | (exact ⟨by omega, by omega⟩)
    | (have hO : ∀ row ∈ ρ.l 5, okRow KO row := hR.row 9 rfl rfl
       have q0 : 0 ≤ ρ.i 2 := by omega
       have q1 : ρ.i 2 < (ρ.l 7).length := by omega
       have q2 : ((List.getD (ρ.l 7) (Int.toNat (ρ.i 2)) []).getD 0 0) < 0 ∨ ((ρ.l 5).length : Int) ≤ ((List.getD (ρ.l 7) (Int.toNat (ρ.i 2)) []).getD 0 0) := by omega
       have e := wk_no (O := ρ.l 5) (A := ρ.l 0) (R := ρ.l 4) (F := ρ.l 7) (W := ρ.l 10) (k := ρ.i 2) q0 q1 q2
       try simp only [cel] at e
       rw [e]
       repeat' apply And.intro
       all_goals first
         | rfl
         | omega
         | with_reducible assumption)
    | (have hO : ∀ row ∈ ρ.l 5, okRow KO row := hR.row 9 rfl rfl
       have q0 : 0 ≤ ρ.i 2 := by omega
       have q1 : ρ.i 2 < (ρ.l 7).length := by omega
       have q2 : 0 ≤ ((List.getD (ρ.l 7) (Int.toNat (ρ.i 2)) []).getD 0 0) := by omega
       have q3 : ((List.getD (ρ.l 7) (Int.toNat (ρ.i 2)) []).getD 0 0) < (ρ.l 5).length := by omega
       have e := wk_yes (O := ρ.l 5) (A := ρ.l 0) (R := ρ.l 4) (F := ρ.l 7) (W := ρ.l 10) (k := ρ.i 2) q0 q1 q2 q3
       have kb : evB (ρ.l 5) (ρ.l 2) ((List.getD (ρ.l 7) (Int.toNat (ρ.i 2)) []).getD 0 0) 5 0 = ρ.l 2 := evB_keep hO (by omega) (by omega) (by decide)
       try simp only [cel] at e
       rw [e, kb]
       repeat' apply And.intro
       all_goals first
         | rfl
         | omega
         | with_reducible assumption)
    | (have hO : ∀ row ∈ ρ.l 5, okRow KO row := hR.row 9 rfl rfl
       have q0 : ¬ ρ.i 2 < (ρ.l 7).length := by omega
       have e := wk_end (O := ρ.l 5) (A := ρ.l 0) (R := ρ.l 4) (F := ρ.l 7) (W := ρ.l 10) (k := ρ.i 2) q0
       rw [e]
       dsimp only
       repeat' apply And.intro
       all_goals first
         | rfl
         | omega
         | with_reducible assumption)
theorem m6_ok (ρ : Env) : TblOK Φ ρ Try.prog m6 := addLp_ok (addLp_ok (m5_ok ρ) tk9_ok) tk17_ok
set_option maxRecDepth 100000 in
theorem cTk_obs : callObs Φ Try.prog m6 1000 cTk.f cTk.vs cTk.o cTk.pc cTk.outs = some
  [] := by kernel_rfl
theorem cTk_ok : cTk.ok Φ Try.prog := by
  refine call_rule (fun ρ => m6_ok ρ) cTk_obs ?_
  intro ob h; cases h
end Go.SF.C21
