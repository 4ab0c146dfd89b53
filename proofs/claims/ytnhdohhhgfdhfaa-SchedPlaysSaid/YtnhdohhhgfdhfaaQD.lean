/- The document's timers, shown, in chapter 21. -/
import Derived.Test.YtnhdohhhgfdhfaaCD
import Derived.Test.YtnhdohhhgfdhfaaQT
import Derived.Test.YtnhdohhhgfdhfaaPT7
import Derived.KernelRfl
namespace Go.SF.C21.T
open Go Go.SF Go.Proofs
set_option linter.unusedVariables false
set_option linter.unusedSimpArgs false

open Go.SF.C18
set_option maxRecDepth 100000 in
theorem rNew_obs : callObs Φ Try.prog noTbl 1000 rNew.f rNew.vs rNew.o rNew.pc rNew.outs = some
  [] := by kernel_rfl
theorem rNew_ok : rNew.ok Φ Try.prog := by
  refine call_rule (fun ρ => noTbl_ok) rNew_obs ?_
  intro ob h; cases h
def rd0_1 : SI := .sel (.v 2) (.v 1) 0
def rd0_2 : SB := .eq rd0_1 (.v 0)
def rd0_3 : SI := .len (.v 2)
def rd0_4 : SB := .lt (.v 1) rd0_3
def rd0_5 : SI := .len (.v 5)
def rd0_6 : SA := .i (.v 0) .nil
def rd0_7 : List SB := [.le (.c 0) (.v 1), .le (.v 1) rd0_3, .lt rd0_3 (.c 90000), .le rd0_5 (.v 1), .c true, .eqL (.v 5) (.app 250 (.l (.app 1 (.l (.v 2) (.i (.v 1) .nil))) rd0_6))]
def rd0_8 : List SB := rd0_4 :: rd0_7
def rd0_9 : SI := .add (.v 1) (.c 1)
def rd0_10 : SI := .sub rd0_3 (.v 1)
def rd0_11 : Eqn := .T (.lt (.sub rd0_3 rd0_9) rd0_10)
def rd0_12 : Eqn := .T (.lt (.c 0) rd0_10)
def rd0_13 : SL := .app 250 (.l (.app 1 (.l (.v 2) (.i rd0_9 .nil))) rd0_6)
def rd0_14 : SL := .app 250 (.l (.v 2) rd0_6)
def rd0_15 : SI := .len rd0_14
set_option maxRecDepth 100000 in
theorem rd0_obs : loopObs Φ Try.prog noTbl 1000 rd0.f (loopAt Try.prog rd0.f rd0.id) rd0.n rd0.T i7 rd0.outs = some
  [⟨rd0_2 :: rd0_8, [rd0_11, rd0_12, .T (.eqL (.v 5) rd0_13)]⟩, ⟨.not rd0_2 :: rd0_8, [rd0_11, rd0_12, .T (.eqL (.app 0 (.l (.v 5) (.l (.app 3 (.i rd0_1 (.i (.sel (.v 2) (.v 1) 1) (.i (.sel (.v 2) (.v 1) 2) .nil)))) .nil))) rd0_13)]⟩, ⟨.not rd0_4 :: rd0_7, [.T (.le rd0_15 rd0_3), .I rd0_15 rd0_5, .L rd0_14 (.v 5)]⟩] := by kernel_rfl
theorem rd0_ok : rd0.ok Φ Try.prog := by
  refine ⟨by kernel_rfl, loop_rule (fun ρ => noTbl_ok) (loopAt_sub (by kernel_rfl)) rd0_obs ?_⟩
  simp only [rd0_1, rd0_2, rd0_3, rd0_4, rd0_5, rd0_6, rd0_7, rd0_8, rd0_9, rd0_10, rd0_11, rd0_12, rd0_13, rd0_14, rd0_15, and_imp, List.forall_mem_cons, List.not_mem_nil, false_implies, implies_true, and_true, Ob.ok, holds, Eqn.ok, evB_eq, evB_lt, evB_le, evB_not, evB_eqL, evB_c, ev_sel, ev_len, ev_v, ev_c, ev_add, ev_sub, evL_v, evL_app, evA_l, evA_i, evA_nil, std_cat, std_take, std_row, ints_cons, ints_nil, decide_eq_true_eq, Bool.not_eq_true', decide_eq_false_iff_not, aL250]
  repeat' apply And.intro
  all_goals intro ρ hR
  all_goals intros
  all_goals first
    | (omega)
    | (have e5 : ρ.l 5 = disL (List.take (ρ.i 1).toNat (ρ.l 2)) (ρ.i 0) := by with_reducible assumption
       have t := take_step (A := ρ.l 2) (i := ρ.i 1) (by omega) (by omega)
       rw [e5]
       exact ⟨by omega, by omega, (dis_same (by with_reducible assumption) t).symm⟩)
    | (have e5 : ρ.l 5 = disL (List.take (ρ.i 1).toNat (ρ.l 2)) (ρ.i 0) := by with_reducible assumption
       have hr : ∀ r ∈ ρ.l 2, okRow K3 r := hR.row 1 rfl rfl
       have t := take_step (A := ρ.l 2) (i := ρ.i 1) (by omega) (by omega)
       rw [e5, row3 (hr _ (getD_mem (by omega) (by omega)))]
       exact ⟨by omega, by omega, (dis_more (by with_reducible assumption) t).symm⟩)
    | (have e5 : ρ.l 5 = disL (List.take (ρ.i 1).toNat (ρ.l 2)) (ρ.i 0) := by with_reducible assumption
       rw [List.take_of_length_le (by omega)] at e5
       rw [e5]
       exact ⟨by have := disL_len (ρ.l 2) (ρ.i 0); omega, rfl, rfl⟩)
theorem r1_ok (ρ : Env) : TblOK Φ ρ Try.prog r1 := addLp_ok noTbl_ok rd0_ok
set_option maxRecDepth 100000 in
theorem rDis_obs : callObs Φ Try.prog r1 1000 rDis.f rDis.vs rDis.o rDis.pc rDis.outs = some
  [⟨[.not (.eqL (.lit []) (.app 250 (.l (.app 1 (.l (.v 2) (.i (.c 0) .nil))) (.i (.v 0) .nil)))), .lt (.len (.v 2)) (.c 90000)], [.T (.c false)]⟩] := by kernel_rfl
theorem rDis_ok : rDis.ok Φ Try.prog := by
  refine call_rule (fun ρ => r1_ok ρ) rDis_obs ?_
  simp only [and_imp, List.forall_mem_cons, List.not_mem_nil, false_implies, implies_true, and_true, Ob.ok, holds, Eqn.ok, evB_lt, evB_not, evB_eqL, evB_c, ev_len, ev_v, ev_c, evL_v, evL_lit, evL_app, evA_l, evA_i, evA_nil, std_take, decide_eq_true_eq, Bool.not_eq_true', decide_eq_false_iff_not, aL250]
  repeat' apply And.intro
  all_goals intro ρ hR
  all_goals intros
  all_goals first
    | (exfalso
       exact absurd rfl (by assumption))
def rp0_1 : SI := .sel (.v 2) (.v 3) 1
def rp0_2 : SB := .lt rp0_1 (.v 1)
def rp0_3 : SI := .len (.v 2)
def rp0_4 : SB := .lt (.v 3) rp0_3
def rp0_5 : SI := .len (.v 5)
def rp0_6 : SA := .i (.v 3) .nil
def rp0_7 : List SB := [.le (.c 0) (.v 3), .le (.v 3) rp0_3, .lt rp0_3 (.c 90000), .le rp0_5 (.v 3), .c true, .eqL (.v 5) (.app 1 (.l (.v 2) rp0_6))]
def rp0_8 : List SB := rp0_4 :: rp0_7
def rp0_9 : List SB := rp0_2 :: rp0_8
def rp0_10 : SI := .add (.v 3) (.c 1)
def rp0_11 : SI := .sub rp0_3 (.v 3)
def rp0_12 : SI := .sel (.v 2) (.v 3) 0
def rp0_13 : SA := .i rp0_10 .nil
def rp0_14 : List Eqn := [.T (.lt (.sub rp0_3 rp0_10) rp0_11), .T (.lt (.c 0) rp0_11), .T (.eqL (.app 0 (.l (.v 5) (.l (.app 3 (.i rp0_12 (.i rp0_1 (.i (.sel (.v 2) (.v 3) 2) .nil)))) .nil))) (.app 1 (.l (.v 2) rp0_13)))]
def rp0_15 : SI := .app 220 (.l (.v 2) (.i (.v 0) (.i (.v 1) rp0_13)))
def rp0_16 : SL := .app 1 (.l (.v 2) (.i rp0_15 .nil))
def rp0_17 : SI := .len rp0_16
def rp0_18 : SB := .eq rp0_17 rp0_15
def rp0_19 : SB := .le rp0_15 rp0_3
def rp0_20 : SB := .le (.c 0) rp0_15
def rp0_21 : SI := .app 220 (.l (.v 2) (.i (.v 0) (.i (.v 1) rp0_6)))
def rp0_22 : Eqn := .T (.le (.c 0) rp0_21)
def rp0_23 : Eqn := .T (.le rp0_21 rp0_3)
def rp0_24 : SL := .app 1 (.l (.v 2) (.i rp0_21 .nil))
def rp0_25 : SI := .len rp0_24
def rp0_26 : Eqn := .T (.eq rp0_25 rp0_21)
def rp0_27 : List Eqn := [rp0_22, rp0_23, rp0_26, .I rp0_25 rp0_17, .I rp0_21 rp0_15, .L rp0_24 rp0_16]
def rp0_28 : SB := .lt rp0_12 (.v 0)
def rp0_29 : SB := .eq rp0_1 (.v 1)
def rp0_30 : List SB := .not rp0_2 :: rp0_8
def rp0_31 : List SB := rp0_29 :: rp0_30
def rp0_32 : List SB := rp0_28 :: rp0_31
def rp0_33 : List Eqn := [rp0_22, rp0_23, rp0_26, .I rp0_25 rp0_5, .I rp0_21 (.v 3), .L rp0_24 (.v 5)]
set_option maxRecDepth 100000 in
theorem rp0_obs : loopObs Φ Try.prog r1 1000 rp0.f (loopAt Try.prog rp0.f rp0.id) rp0.n rp0.T i8 rp0.outs = some
  [⟨rp0_9, rp0_14⟩, ⟨rp0_18 :: rp0_19 :: rp0_20 :: rp0_9, rp0_27⟩, ⟨rp0_32, rp0_14⟩, ⟨rp0_18 :: rp0_19 :: rp0_20 :: rp0_32, rp0_27⟩, ⟨.not rp0_28 :: rp0_31, rp0_33⟩, ⟨.not rp0_29 :: rp0_30, rp0_33⟩, ⟨.not rp0_4 :: rp0_7, rp0_33⟩] := by kernel_rfl
theorem rp0_ok : rp0.ok Φ Try.prog := by
  refine ⟨by kernel_rfl, loop_rule (fun ρ => r1_ok ρ) (loopAt_sub (by kernel_rfl)) rp0_obs ?_⟩
  simp only [rp0_1, rp0_2, rp0_3, rp0_4, rp0_5, rp0_6, rp0_7, rp0_8, rp0_9, rp0_10, rp0_11, rp0_12, rp0_13, rp0_14, rp0_15, rp0_16, rp0_17, rp0_18, rp0_19, rp0_20, rp0_21, rp0_22, rp0_23, rp0_24, rp0_25, rp0_26, rp0_27, rp0_28, rp0_29, rp0_30, rp0_31, rp0_32, rp0_33, and_imp, List.forall_mem_cons, List.not_mem_nil, false_implies, implies_true, and_true, Ob.ok, holds, Eqn.ok, evB_eq, evB_lt, evB_le, evB_not, evB_eqL, evB_c, ev_sel, ev_len, ev_v, ev_c, ev_add, ev_sub, evL_v, evL_app, ev_app, evA_l, evA_i, evA_nil, std_cat, std_take, std_row, ints_cons, ints_nil, decide_eq_true_eq, Bool.not_eq_true', decide_eq_false_iff_not, aI220]
  repeat' apply And.intro
  all_goals intro ρ hR
  all_goals intros
  all_goals first
    | (omega)
    | (have e5 : ρ.l 5 = List.take (ρ.i 3).toNat (ρ.l 2) := by with_reducible assumption
       have hr : ∀ r ∈ ρ.l 2, okRow K3 r := hR.row 1 rfl rfl
       rw [e5, row3 (hr _ (getD_mem (by omega) (by omega))), take_step (by omega) (by omega)]
       exact ⟨by omega, by omega, rfl⟩)
    | (have ll := List.length_take (i := (ρ.i 3).toNat) (l := ρ.l 2)
       have e := rank_step (L := ρ.l 2) (id := ρ.i 0) (a := ρ.i 1) (i := ρ.i 3) (by omega) (by omega) (by simp only [aheadB, Bool.or_eq_true, Bool.and_eq_true, decide_eq_true_eq]; omega)
       rw [e]
       exact ⟨by omega, by omega, by omega, rfl, rfl, rfl⟩)
    | (have ll := List.length_take (i := (ρ.i 3).toNat) (l := ρ.l 2)
       have e5 : ρ.l 5 = List.take (ρ.i 3).toNat (ρ.l 2) := by with_reducible assumption
       have e := rank_stop (L := ρ.l 2) (id := ρ.i 0) (a := ρ.i 1) (i := ρ.i 3) (by omega) (.inr (by simp only [aheadB, Bool.or_eq_false_iff, Bool.and_eq_false_iff, decide_eq_false_iff_not]; omega))
       rw [e, e5]
       exact ⟨by omega, by omega, by omega, rfl, rfl, rfl⟩)
    | (have ll := List.length_take (i := (ρ.i 3).toNat) (l := ρ.l 2)
       have e5 : ρ.l 5 = List.take (ρ.i 3).toNat (ρ.l 2) := by with_reducible assumption
       have e := rank_stop (L := ρ.l 2) (id := ρ.i 0) (a := ρ.i 1) (i := ρ.i 3) (by omega) (.inl (by omega))
       rw [e, e5]
       exact ⟨by omega, by omega, by omega, rfl, rfl, rfl⟩)
theorem r2_ok (ρ : Env) : TblOK Φ ρ Try.prog r2 := addLp_ok (addFn_ok (r1_ok ρ) rDis_ok) rp0_ok
def rPut_1 : SL := .app 250 (.l (.v 2) (.i (.v 0) .nil))
def rPut_2 : SA := .i (.c 0) .nil
def rPut_3 : SI := .app 220 (.l rPut_1 (.i (.v 0) (.i (.v 1) rPut_2)))
def rPut_4 : SA := .l rPut_1 (.i rPut_3 .nil)
def rPut_5 : SL := .app 1 rPut_4
def rPut_6 : SI := .len rPut_5
def rPut_7 : SI := .len rPut_1
def rPut_8 : SB := .eqL (.lit []) (.app 1 (.l rPut_1 rPut_2))
def rPut_9 : SI := .len (.v 2)
def rPut_10 : List SB := [.le rPut_7 rPut_9, .lt rPut_9 (.c 90000)]
def rPut_11 : SA := .i (.v 0) (.i (.v 1) (.i (.v 2) .nil))
def rPut_12 : SL := .app 251 (.l (.v 2) rPut_11)
def rPut_13 : SI := .len rPut_12
def rPut_14 : SL := .app 2 rPut_4
set_option maxRecDepth 100000 in
theorem rPut_obs : callObs Φ Try.prog r2 1000 rPut.f rPut.vs rPut.o rPut.pc rPut.outs = some
  [⟨.eq rPut_6 rPut_3 :: .le rPut_3 rPut_7 :: .le (.c 0) rPut_3 :: rPut_8 :: rPut_10, [.T (.le rPut_13 (.add rPut_9 (.c 1))), .I rPut_13 (.add (.add rPut_6 (.c 1)) (.len rPut_14)), .L rPut_12 (.app 0 (.l (.app 0 (.l rPut_5 (.l (.app 3 rPut_11) .nil))) (.l rPut_14 .nil)))]⟩, ⟨.not rPut_8 :: rPut_10, [.T (.c false)]⟩] := by kernel_rfl
theorem rPut_ok : rPut.ok Φ Try.prog := by
  refine call_rule (fun ρ => r2_ok ρ) rPut_obs ?_
  simp only [rPut_1, rPut_2, rPut_3, rPut_4, rPut_5, rPut_6, rPut_7, rPut_8, rPut_9, rPut_10, rPut_11, rPut_12, rPut_13, rPut_14, and_imp, List.forall_mem_cons, List.not_mem_nil, false_implies, implies_true, and_true, Ob.ok, holds, Eqn.ok, evB_eq, evB_lt, evB_le, evB_not, evB_eqL, evB_c, ev_len, ev_v, ev_c, ev_add, evL_v, evL_lit, evL_app, ev_app, evA_l, evA_i, evA_nil, std_cat, std_take, std_drop, std_row, ints_cons, ints_nil, decide_eq_true_eq, Bool.not_eq_true', decide_eq_false_iff_not, aI220, aL250, aL251]
  repeat' apply And.intro
  all_goals intro ρ hR
  all_goals intros
  all_goals first
    | (exfalso
       exact absurd rfl (by assumption))
    | (have hl := putL_len (ρ.l 2) (ρ.i 0) (ρ.i 1) (ρ.i 2)
       have e : putL (ρ.l 2) (ρ.i 0) (ρ.i 1) (ρ.i 2) = _ := insF_eq (ρ.i 0) (ρ.i 1) (ρ.i 2) (disL (ρ.l 2) (ρ.i 0))
       have e2 := congrArg (fun x : Tab => (x.length : Int)) e
       simp only [List.length_append, List.length_cons] at e2
       exact ⟨by omega, by omega, by rw [e]; simp⟩)
theorem r3_ok (ρ : Env) : TblOK Φ ρ Try.prog r3 := addFn_ok (r2_ok ρ) rPut_ok
def rArm_1 : SB := .lt (.v 0) (.c 0)
def rArm_2 : SI := .len (.v 2)
def rArm_3 : List SB := [.lt rArm_2 (.c 90000)]
def rArm_4 : SA := .i (.v 0) (.i (.v 1) (.i (.v 2) (.i (.v 9) .nil)))
def rArm_5 : SL := .app 252 (.l (.v 2) rArm_4)
def rArm_6 : SI := .len rArm_5
def rArm_7 : SI := .add rArm_2 (.c 1)
def rArm_8 : Eqn := .T (.le rArm_6 rArm_7)
def rArm_9 : SI := .app 210 rArm_4
def rArm_10 : List Eqn := [rArm_8, .I rArm_9 (.c 1), .I rArm_6 rArm_2, .L rArm_5 (.v 2)]
def rArm_11 : SB := .lt (.v 2) (.c 0)
def rArm_12 : List SB := .not rArm_1 :: rArm_3
def rArm_13 : SB := .lt (.c 1073741824) (.v 2)
def rArm_14 : List SB := .not rArm_11 :: rArm_12
def rArm_15 : SB := .le (.v 1) (.v 9)
def rArm_16 : List SB := .not rArm_13 :: rArm_14
def rArm_17 : SB := .lt (.c 1099511627776) (.v 1)
def rArm_18 : List SB := .not rArm_15 :: rArm_16
def rArm_19 : SL := .app 251 (.l (.v 2) (.i (.v 0) (.i (.v 1) (.i (.v 2) .nil))))
def rArm_20 : SI := .len rArm_19
set_option maxRecDepth 100000 in
theorem rArm_obs : callObs Φ Try.prog r3 1000 rArm.f rArm.vs rArm.o rArm.pc rArm.outs = some
  [⟨rArm_1 :: rArm_3, rArm_10⟩, ⟨rArm_11 :: rArm_12, rArm_10⟩, ⟨rArm_13 :: rArm_14, rArm_10⟩, ⟨rArm_15 :: rArm_16, rArm_10⟩, ⟨rArm_17 :: rArm_18, rArm_10⟩, ⟨.le rArm_20 rArm_7 :: .not rArm_17 :: rArm_18, [rArm_8, .I rArm_9 (.c 0), .I rArm_6 rArm_20, .L rArm_5 rArm_19]⟩] := by kernel_rfl
theorem rArm_ok : rArm.ok Φ Try.prog := by
  refine call_rule (fun ρ => r3_ok ρ) rArm_obs ?_
  simp only [rArm_1, rArm_2, rArm_3, rArm_4, rArm_5, rArm_6, rArm_7, rArm_8, rArm_9, rArm_10, rArm_11, rArm_12, rArm_13, rArm_14, rArm_15, rArm_16, rArm_17, rArm_18, rArm_19, rArm_20, and_imp, List.forall_mem_cons, List.not_mem_nil, false_implies, implies_true, and_true, Ob.ok, holds, Eqn.ok, evB_lt, evB_le, evB_not, ev_len, ev_v, ev_c, ev_add, evL_v, evL_app, ev_app, evA_l, evA_i, evA_nil, decide_eq_true_eq, Bool.not_eq_true', decide_eq_false_iff_not, aI210, aL251, aL252]
  repeat' apply And.intro
  all_goals intro ρ hR
  all_goals intros
  all_goals first
    | (obtain ⟨e1, e2⟩ := armL_no (L := ρ.l 2) (id := ρ.i 0) (a := ρ.i 1) (e := ρ.i 2) (now := ρ.i 9) (by omega)
       rw [e2]
       exact ⟨by omega, e1, rfl, rfl⟩)
    | (obtain ⟨e1, e2⟩ := armL_yes (L := ρ.l 2) (id := ρ.i 0) (a := ρ.i 1) (e := ρ.i 2) (now := ρ.i 9) (by omega)
       rw [e2]
       exact ⟨by omega, e1, rfl, rfl⟩)
def rt0_1 : SI := .sel (.v 2) (.c 0) 2
def rt0_2 : SB := .lt (.c 0) rt0_1
def rt0_3 : SI := .sel (.v 2) (.c 0) 1
def rt0_4 : SB := .le rt0_3 (.v 0)
def rt0_5 : SI := .len (.v 2)
def rt0_6 : SB := .lt (.c 0) rt0_5
def rt0_7 : SI := .len (.v 5)
def rt0_8 : SI := .len (.v 4)
def rt0_9 : SA := .i (.c 0) .nil
def rt0_10 : List SB := [.le (.c 0) (.v 0), .le (.v 0) (.c 549755813888), .lt (.add rt0_7 rt0_5) (.c 80000), .lt (.add rt0_8 rt0_5) (.c 80000), .lt rt0_7 (.c 80000), .lt rt0_8 (.c 80000), .lt rt0_5 (.c 80000), .c true, .app 252 (.l (.v 2) rt0_9)]
def rt0_11 : List SB := rt0_6 :: rt0_10
def rt0_12 : List SB := rt0_4 :: rt0_11
def rt0_13 : List SB := rt0_2 :: rt0_12
def rt0_14 : SA := .i (.c 1) .nil
def rt0_15 : SL := .app 2 (.l (.v 2) rt0_14)
def rt0_16 : SI := .len rt0_15
def rt0_17 : Eqn := .T (.lt rt0_16 rt0_5)
def rt0_18 : SI := .add rt0_7 (.c 1)
def rt0_19 : Eqn := .T (.lt (.add rt0_18 rt0_16) (.c 80000))
def rt0_20 : SI := .add rt0_8 (.c 1)
def rt0_21 : Eqn := .T (.lt rt0_18 (.c 80000))
def rt0_22 : List Eqn := [.T (.app 252 (.l rt0_15 rt0_9))]
def rt0_23 : SA := .i (.v 0) .nil
def rt0_24 : SA := .l rt0_15 rt0_23
def rt0_25 : SL := .app 256 rt0_24
def rt0_26 : SI := .len rt0_25
def rt0_27 : SB := .lt rt0_26 (.c 80000)
def rt0_28 : SL := .app 255 rt0_24
def rt0_29 : SI := .len rt0_28
def rt0_30 : SI := .add rt0_20 rt0_29
def rt0_31 : SL := .app 254 rt0_24
def rt0_32 : SI := .add rt0_18 (.len rt0_31)
def rt0_33 : SB := .lt rt0_32 (.c 80000)
def rt0_34 : SA := .l (.v 2) rt0_23
def rt0_35 : SL := .app 0 (.l (.v 5) (.l (.app 254 rt0_34) .nil))
def rt0_36 : SI := .len rt0_35
def rt0_37 : Eqn := .T (.lt rt0_36 (.c 80000))
def rt0_38 : SL := .app 0 (.l (.v 4) (.l (.app 255 rt0_34) .nil))
def rt0_39 : SI := .len rt0_38
def rt0_40 : Eqn := .T (.lt rt0_39 (.c 80000))
def rt0_41 : SL := .app 256 rt0_34
def rt0_42 : SI := .len rt0_41
def rt0_43 : Eqn := .T (.lt (.add rt0_42 rt0_39) (.c 80000))
def rt0_44 : Eqn := .T (.lt rt0_42 (.c 80000))
def rt0_45 : Eqn := .I rt0_36 rt0_32
def rt0_46 : Eqn := .I rt0_42 rt0_26
def rt0_47 : SI := .sel (.v 2) (.c 0) 0
def rt0_48 : SI := .wrap IntKind.i64 (.add (.wrap IntKind.i64 (.quo (.wrap IntKind.i64 (.sub (.v 0) rt0_3)) rt0_1)) (.c 1))
def rt0_49 : SA := .l rt0_31 .nil
def rt0_50 : SA := .l rt0_28 .nil
def rt0_51 : List Eqn := [.L rt0_41 rt0_25]
def rt0_52 : List SB := .not rt0_2 :: rt0_12
def rt0_53 : SI := .add rt0_8 rt0_29
def rt0_54 : List Eqn := [rt0_37, rt0_40, rt0_43, rt0_44, .I rt0_36 rt0_7, .I rt0_39 rt0_8, .I rt0_42 rt0_5, .L rt0_35 (.v 5), .L rt0_38 (.v 4), .L rt0_41 (.v 2)]
set_option maxRecDepth 100000 in
theorem rt0_obs : loopObs Φ Try.prog r3 1000 rt0.f (loopAt Try.prog rt0.f rt0.id) rt0.n rt0.T i11 rt0.outs = some
  [⟨rt0_13, rt0_17 :: rt0_19 :: .T (.lt (.add rt0_20 rt0_16) (.c 80000)) :: rt0_21 :: .T (.lt rt0_20 (.c 80000)) :: rt0_22⟩, ⟨rt0_27 :: .lt (.add rt0_26 rt0_30) (.c 80000) :: .lt rt0_30 (.c 80000) :: rt0_33 :: rt0_13, rt0_37 :: rt0_40 :: rt0_43 :: rt0_44 :: rt0_45 :: .I rt0_39 rt0_30 :: rt0_46 :: .L rt0_35 (.app 0 (.l (.app 0 (.l (.v 5) (.l (.app 3 (.i rt0_47 (.i rt0_3 (.i rt0_48 .nil)))) .nil))) rt0_49)) :: .L rt0_38 (.app 0 (.l (.app 0 (.l (.v 4) (.l (.app 3 (.i rt0_47 (.i (.wrap IntKind.i64 (.add rt0_3 (.wrap IntKind.i64 (.mul rt0_48 rt0_1)))) (.i rt0_1 .nil)))) .nil))) rt0_50)) :: rt0_51⟩, ⟨rt0_52, rt0_17 :: rt0_19 :: .T (.lt (.add rt0_8 rt0_16) (.c 80000)) :: rt0_21 :: rt0_22⟩, ⟨rt0_27 :: .lt (.add rt0_26 rt0_53) (.c 80000) :: .lt rt0_53 (.c 80000) :: rt0_33 :: rt0_52, rt0_37 :: rt0_40 :: rt0_43 :: rt0_44 :: rt0_45 :: .I rt0_39 rt0_53 :: rt0_46 :: .L rt0_35 (.app 0 (.l (.app 0 (.l (.v 5) (.l (.app 3 (.i rt0_47 (.i rt0_3 rt0_14))) .nil))) rt0_49)) :: .L rt0_38 (.app 0 (.l (.v 4) rt0_50)) :: rt0_51⟩, ⟨.not rt0_4 :: rt0_11, rt0_54⟩, ⟨.not rt0_6 :: rt0_10, rt0_54⟩] := by kernel_rfl
theorem rt0_ok : rt0.ok Φ Try.prog := by
  refine ⟨by kernel_rfl, loop_rule (fun ρ => r3_ok ρ) (loopAt_sub (by kernel_rfl)) rt0_obs ?_⟩
  simp only [rt0_1, rt0_2, rt0_3, rt0_4, rt0_5, rt0_6, rt0_7, rt0_8, rt0_9, rt0_10, rt0_11, rt0_12, rt0_13, rt0_14, rt0_15, rt0_16, rt0_17, rt0_18, rt0_19, rt0_20, rt0_21, rt0_22, rt0_23, rt0_24, rt0_25, rt0_26, rt0_27, rt0_28, rt0_29, rt0_30, rt0_31, rt0_32, rt0_33, rt0_34, rt0_35, rt0_36, rt0_37, rt0_38, rt0_39, rt0_40, rt0_41, rt0_42, rt0_43, rt0_44, rt0_45, rt0_46, rt0_47, rt0_48, rt0_49, rt0_50, rt0_51, rt0_52, rt0_53, rt0_54, and_imp, List.forall_mem_cons, List.not_mem_nil, false_implies, implies_true, and_true, Ob.ok, holds, Eqn.ok, evB_lt, evB_le, evB_not, evB_app, evB_c, ev_sel, ev_len, ev_v, ev_c, ev_add, ev_sub, ev_mul, ev_quo, ev_wrap, evL_v, evL_app, evA_l, evA_i, evA_nil, std_cat, std_drop, std_row, ints_cons, ints_nil, decide_eq_true_eq, Bool.not_eq_true', decide_eq_false_iff_not, aL254, aL255, aL256, aB252]
  repeat' apply And.intro
  all_goals intro ρ hR
  all_goals intros
  all_goals first
    | (have ht := tim_drop (L := ρ.l 2) (n := 0) (by with_reducible assumption)
       have ld := List.length_drop (i := (1 : Int).toNat) (l := ρ.l 2)
       rw [show (1 : Int).toNat = 1 from rfl] at *
       refine ⟨by omega, ?_⟩
       repeat' apply And.intro
       all_goals first | omega | exact ht)
    | (have hd := due_cons (L := ρ.l 2) (now := ρ.i 0) (by omega) (by omega)
       have l1 := due_len (ρ.l 2) (ρ.i 0)
       have l2 := due_len ((ρ.l 2).drop (1 : Int).toNat) (ρ.i 0)
       have l3 := out_len (ρ.i 0) (dueL (ρ.l 2) (ρ.i 0))
       have l4 := aga_len (ρ.i 0) (dueL (ρ.l 2) (ρ.i 0))
       have l5 := out_len (ρ.i 0) (dueL ((ρ.l 2).drop (1 : Int).toNat) (ρ.i 0))
       have l6 := aga_len (ρ.i 0) (dueL ((ρ.l 2).drop (1 : Int).toNat) (ρ.i 0))
       have hz : ¬ ((ρ.l 2).getD (0 : Int).toNat []).getD 2 0 = 0 := by omega
       rw [hd.1, hd.2, out_cons, aga_cons _ _ hz, if_neg hz]
       rw [hd.1] at l1 l3 l4
       rw [hd.2] at l1
       simp only [List.length_append, List.length_cons] at *
       repeat' apply And.intro
       all_goals first | exact True.intro | omega | rfl | (simp [timesI]; done) | (simp [nextI, timesI]; done))
    | (have hd := due_cons (L := ρ.l 2) (now := ρ.i 0) (by omega) (by omega)
       have l1 := due_len (ρ.l 2) (ρ.i 0)
       have l2 := due_len ((ρ.l 2).drop (1 : Int).toNat) (ρ.i 0)
       have l3 := out_len (ρ.i 0) (dueL (ρ.l 2) (ρ.i 0))
       have l4 := aga_len (ρ.i 0) (dueL (ρ.l 2) (ρ.i 0))
       have l5 := out_len (ρ.i 0) (dueL ((ρ.l 2).drop (1 : Int).toNat) (ρ.i 0))
       have l6 := aga_len (ρ.i 0) (dueL ((ρ.l 2).drop (1 : Int).toNat) (ρ.i 0))
       have hz : ((ρ.l 2).getD (0 : Int).toNat []).getD 2 0 = 0 := by have := tim_head (L := ρ.l 2) (n := 0) (by with_reducible assumption) (by omega); omega
       rw [hd.1, hd.2, out_cons, aga_skip _ _ hz, if_pos hz]
       rw [hd.1] at l1 l3 l4
       rw [hd.2] at l1
       simp only [List.length_append, List.length_cons] at *
       repeat' apply And.intro
       all_goals first | exact True.intro | omega | rfl | (simp [timesI]; done) | (simp [nextI, timesI]; done))
    | (have hd := due_none (L := ρ.l 2) (now := ρ.i 0) (by omega)
       rw [hd.1, hd.2]
       simp only [outL, agaL, List.map_nil, List.filterMap_nil, List.append_nil]
       repeat' apply And.intro
       all_goals first | exact True.intro | omega | rfl | (simp [timesI]; done) | (simp [nextI, timesI]; done))
def rt1_1 : SL := .app 251 (.l (.v 2) (.i (.sel (.v 4) (.v 1) 0) (.i (.sel (.v 4) (.v 1) 1) (.i (.sel (.v 4) (.v 1) 2) .nil))))
def rt1_2 : SI := .len rt1_1
def rt1_3 : SI := .len (.v 2)
def rt1_4 : SI := .len (.v 4)
def rt1_5 : SB := .lt (.v 1) rt1_4
def rt1_6 : List SB := [.le (.c 0) (.v 1), .le (.v 1) rt1_4, .lt rt1_4 (.c 80000), .c true, .lt (.sub (.add rt1_3 rt1_4) (.v 1)) (.c 80000), .lt rt1_3 (.c 80000)]
def rt1_7 : List SB := .le rt1_2 (.add rt1_3 (.c 1)) :: rt1_5 :: rt1_6
def rt1_8 : SI := .add (.v 1) (.c 1)
def rt1_9 : SI := .sub rt1_4 (.v 1)
def rt1_10 : SL := .app 257 (.l rt1_1 (.l (.v 4) (.i rt1_8 .nil)))
def rt1_11 : SI := .len rt1_10
def rt1_12 : SL := .app 257 (.l (.v 2) (.l (.v 4) (.i (.v 1) .nil)))
def rt1_13 : SI := .len rt1_12
def rt1_14 : Eqn := .T (.lt rt1_13 (.c 80000))
set_option maxRecDepth 100000 in
theorem rt1_obs : loopObs Φ Try.prog r3 1000 rt1.f (loopAt Try.prog rt1.f rt1.id) rt1.n rt1.T i9 rt1.outs = some
  [⟨rt1_7, [.T (.lt (.sub rt1_4 rt1_8) rt1_9), .T (.lt (.c 0) rt1_9), .T (.lt (.sub (.add rt1_2 rt1_4) rt1_8) (.c 80000)), .T (.lt rt1_2 (.c 80000))]⟩, ⟨.lt rt1_11 (.c 80000) :: rt1_7, [rt1_14, .I rt1_13 rt1_11, .L rt1_12 rt1_10]⟩, ⟨.not rt1_5 :: rt1_6, [rt1_14, .I rt1_13 rt1_3, .L rt1_12 (.v 2)]⟩] := by kernel_rfl
theorem rt1_ok : rt1.ok Φ Try.prog := by
  refine ⟨by kernel_rfl, loop_rule (fun ρ => r3_ok ρ) (loopAt_sub (by kernel_rfl)) rt1_obs ?_⟩
  simp only [rt1_1, rt1_2, rt1_3, rt1_4, rt1_5, rt1_6, rt1_7, rt1_8, rt1_9, rt1_10, rt1_11, rt1_12, rt1_13, rt1_14, and_imp, List.forall_mem_cons, List.not_mem_nil, false_implies, implies_true, and_true, Ob.ok, holds, Eqn.ok, evB_lt, evB_le, evB_not, evB_c, ev_sel, ev_len, ev_v, ev_c, ev_add, ev_sub, evL_v, evL_app, evA_l, evA_i, evA_nil, decide_eq_true_eq, Bool.not_eq_true', decide_eq_false_iff_not, aL251, aL257]
  repeat' apply And.intro
  all_goals intro ρ hR
  all_goals intros
  all_goals first
    | (omega)
    | (have e := putAll_step (L := ρ.l 2) (G := ρ.l 4) (i := ρ.i 1) (by omega) (by omega)
       rw [e]
       exact ⟨by with_reducible assumption, rfl, rfl⟩)
    | (have e := putAll_end (L := ρ.l 2) (G := ρ.l 4) (i := ρ.i 1) (by omega)
       rw [e]
       exact ⟨by omega, rfl, rfl⟩)
theorem r4_ok (ρ : Env) : TblOK Φ ρ Try.prog r4 := addLp_ok (addLp_ok (r3_ok ρ) rt0_ok) rt1_ok
def rTick_1 : SA := .l (.v 2) (.i (.v 0) .nil)
def rTick_2 : SL := .app 256 rTick_1
def rTick_3 : SL := .app 255 rTick_1
def rTick_4 : SA := .i (.c 0) .nil
def rTick_5 : SL := .app 257 (.l rTick_2 (.l rTick_3 rTick_4))
def rTick_6 : SI := .len rTick_5
def rTick_7 : SI := .len rTick_2
def rTick_8 : SI := .len rTick_3
def rTick_9 : SL := .app 253 rTick_1
def rTick_10 : SI := .len rTick_9
set_option maxRecDepth 100000 in
theorem rTick_obs : callObs Φ Try.prog r4 1000 rTick.f rTick.vs rTick.o rTick.pc rTick.outs = some
  [⟨[.lt rTick_6 (.c 80000), .lt rTick_7 (.c 80000), .lt (.add rTick_7 rTick_8) (.c 80000), .lt rTick_8 (.c 80000), .lt (.len (.app 254 rTick_1)) (.c 80000), .not (.lt (.c 549755813888) (.v 0)), .not (.lt (.v 0) (.v 9)), .le (.c 0) (.v 9), .lt (.len (.v 2)) (.c 70000), .c true, .app 252 (.l (.v 2) rTick_4)], [.T (.lt rTick_10 (.c 80000)), .I rTick_10 rTick_6, .L rTick_9 rTick_5]⟩] := by kernel_rfl
theorem rTick_ok : rTick.ok Φ Try.prog := by
  refine call_rule (fun ρ => r4_ok ρ) rTick_obs ?_
  simp only [rTick_1, rTick_2, rTick_3, rTick_4, rTick_5, rTick_6, rTick_7, rTick_8, rTick_9, rTick_10, and_imp, List.forall_mem_cons, List.not_mem_nil, false_implies, implies_true, and_true, Ob.ok, holds, Eqn.ok, evB_lt, evB_le, evB_not, evB_app, evB_c, ev_len, ev_v, ev_c, ev_add, evL_v, evL_app, evA_l, evA_i, evA_nil, decide_eq_true_eq, Bool.not_eq_true', decide_eq_false_iff_not, aL253, aL254, aL255, aL256, aL257, aB252]
  repeat' apply And.intro
  all_goals intro ρ hR
  all_goals intros
  all_goals first
    | (have h : ((C18.putAll (restL (ρ.l 2) (ρ.i 0)) (List.drop (Int.toNat 0) (agaL (ρ.i 0) (dueL (ρ.l 2) (ρ.i 0))))).length : Int) < 80000 := by with_reducible assumption
       have e : C18.putAll (restL (ρ.l 2) (ρ.i 0)) (List.drop (Int.toNat 0) (agaL (ρ.i 0) (dueL (ρ.l 2) (ρ.i 0)))) = tckL (ρ.l 2) (ρ.i 0) := rfl
       rw [e] at *
       exact ⟨h, rfl, rfl⟩)
def rc0_1 : SB := .eq (.sel (.v 3) (.v 1) 0) (.v 0)
def rc0_2 : SI := .len (.v 3)
def rc0_3 : SB := .lt (.v 1) rc0_2
def rc0_4 : List SB := [.le (.c 0) (.v 1), .le (.v 1) rc0_2, .lt rc0_2 (.c 90000)]
def rc0_5 : List SB := rc0_3 :: rc0_4
def rc0_6 : SA := .l (.v 3) (.i (.v 0) (.i (.v 1) .nil))
def rc0_7 : SB := .app 253 rc0_6
def rc0_8 : SI := .app 250 rc0_6
def rc0_9 : List SB := .not rc0_1 :: rc0_5
def rc0_10 : SI := .add (.v 1) (.c 1)
def rc0_11 : SI := .sub rc0_2 (.v 1)
def rc0_12 : SA := .l (.v 3) (.i (.v 0) (.i rc0_10 .nil))
def rc0_13 : SB := .app 253 rc0_12
def rc0_14 : SI := .app 250 rc0_12
def rc0_15 : List Eqn := [.T (.not rc0_7), .T (.eq rc0_8 (.c 0))]
set_option maxRecDepth 100000 in
theorem rc0_obs : loopObs Φ Try.prog noTbl 1000 rc0.f (loopAt Try.prog rc0.f rc0.id) rc0.n rc0.T i10 rc0.outs = some
  [⟨rc0_1 :: rc0_5, [.T rc0_7, .I rc0_8 (.sel (.v 3) (.v 1) 1)]⟩, ⟨rc0_9, [.T (.lt (.sub rc0_2 rc0_10) rc0_11), .T (.lt (.c 0) rc0_11)]⟩, ⟨rc0_13 :: rc0_9, [.T rc0_7, .I rc0_8 rc0_14]⟩, ⟨.eq rc0_14 (.c 0) :: .not rc0_13 :: rc0_9, rc0_15⟩, ⟨.not rc0_3 :: rc0_4, rc0_15⟩] := by kernel_rfl
theorem rc0_ok : rc0.ok Φ Try.prog := by
  refine ⟨by kernel_rfl, loop_rule (fun ρ => noTbl_ok) (loopAt_sub (by kernel_rfl)) rc0_obs ?_⟩
  simp only [rc0_1, rc0_2, rc0_3, rc0_4, rc0_5, rc0_6, rc0_7, rc0_8, rc0_9, rc0_10, rc0_11, rc0_12, rc0_13, rc0_14, rc0_15, and_imp, List.forall_mem_cons, List.not_mem_nil, false_implies, implies_true, and_true, Ob.ok, holds, Eqn.ok, evB_eq, evB_lt, evB_le, evB_not, evB_app, ev_sel, ev_len, ev_v, ev_c, ev_add, ev_sub, evL_v, ev_app, evA_l, evA_i, evA_nil, decide_eq_true_eq, Bool.not_eq_true', decide_eq_false_iff_not, aI250, aB253]
  repeat' apply And.intro
  all_goals intro ρ hR
  all_goals intros
  all_goals first
    | (omega)
    | (exact cr_yes (by omega) (by omega) (by with_reducible assumption))
    | (have hk : ¬ ((ρ.l 3).getD (ρ.i 1).toNat []).getD 0 0 = ρ.i 0 := by with_reducible assumption
       obtain ⟨e1, e2⟩ := cr_no (D := ρ.l 3) (id := ρ.i 0) (i := ρ.i 1) (by omega) (by omega) hk
       rw [e1, e2]
       refine ⟨?_, ?_⟩
       · with_reducible assumption
       · first | omega | rfl)
    | (exact cr_end (by omega))
theorem r5_ok (ρ : Env) : TblOK Φ ρ Try.prog r5 := addLp_ok noTbl_ok rc0_ok
def rs0_1 : SB := .eq (.sel (.v 3) (.v 1) 0) (.v 0)
def rs0_2 : SI := .len (.v 3)
def rs0_3 : SB := .lt (.v 1) rs0_2
def rs0_4 : List SB := [.le (.c 0) (.v 1), .le (.v 1) rs0_2, .lt rs0_2 (.c 90000)]
def rs0_5 : List SB := rs0_3 :: rs0_4
def rs0_6 : SA := .i (.v 1) .nil
def rs0_7 : SB := .app 253 (.l (.v 3) (.i (.v 0) rs0_6))
def rs0_8 : SL := .app 258 (.l (.v 3) (.i (.v 0) (.i (.v 2) rs0_6)))
def rs0_9 : SI := .len rs0_8
def rs0_10 : Eqn := .T (.eq rs0_9 rs0_2)
def rs0_11 : List SB := .not rs0_1 :: rs0_5
def rs0_12 : SI := .add (.v 1) (.c 1)
def rs0_13 : SI := .sub rs0_2 (.v 1)
def rs0_14 : SA := .i rs0_12 .nil
def rs0_15 : SL := .app 258 (.l (.v 3) (.i (.v 0) (.i (.v 2) rs0_14)))
def rs0_16 : SI := .len rs0_15
def rs0_17 : SB := .app 253 (.l (.v 3) (.i (.v 0) rs0_14))
def rs0_18 : List Eqn := [.T (.not rs0_7)]
set_option maxRecDepth 100000 in
theorem rs0_obs : loopObs Φ Try.prog noTbl 1000 rs0.f (loopAt Try.prog rs0.f rs0.id) rs0.n rs0.T i10 rs0.outs = some
  [⟨rs0_1 :: rs0_5, [.T rs0_7, rs0_10, .I rs0_9 rs0_2, .L rs0_8 (.app 4 (.l (.v 3) (.i (.v 1) (.i (.c 1) (.i (.v 2) .nil)))))]⟩, ⟨rs0_11, [.T (.lt (.sub rs0_2 rs0_12) rs0_13), .T (.lt (.c 0) rs0_13)]⟩, ⟨.eq rs0_16 rs0_2 :: rs0_17 :: rs0_11, [.T rs0_7, rs0_10, .I rs0_9 rs0_16, .L rs0_8 rs0_15]⟩, ⟨.not rs0_17 :: rs0_11, rs0_18⟩, ⟨.not rs0_3 :: rs0_4, rs0_18⟩] := by kernel_rfl
theorem rs0_ok : rs0.ok Φ Try.prog := by
  refine ⟨by kernel_rfl, loop_rule (fun ρ => noTbl_ok) (loopAt_sub (by kernel_rfl)) rs0_obs ?_⟩
  simp only [rs0_1, rs0_2, rs0_3, rs0_4, rs0_5, rs0_6, rs0_7, rs0_8, rs0_9, rs0_10, rs0_11, rs0_12, rs0_13, rs0_14, rs0_15, rs0_16, rs0_17, rs0_18, and_imp, List.forall_mem_cons, List.not_mem_nil, false_implies, implies_true, and_true, Ob.ok, holds, Eqn.ok, evB_eq, evB_lt, evB_le, evB_not, evB_app, ev_sel, ev_len, ev_v, ev_c, ev_add, ev_sub, evL_v, evL_app, evA_l, evA_i, evA_nil, std_set, decide_eq_true_eq, Bool.not_eq_true', decide_eq_false_iff_not, aL258, aB253]
  repeat' apply And.intro
  all_goals intro ρ hR
  all_goals intros
  all_goals first
    | (omega)
    | (have hr : ∀ r ∈ ρ.l 3, okRow [.i .i64, .i .i64] r := hR.row 2 rfl rfl
       have e := set_yes (n := ρ.i 2) hr (i := ρ.i 1) (id := ρ.i 0) (by omega) (by omega) (by with_reducible assumption)
       rw [e]
       exact ⟨(cr_yes (by omega) (by omega) (by with_reducible assumption)).1, by simp, by simp, rfl⟩)
    | (obtain ⟨e1, _⟩ := cr_no (D := ρ.l 3) (id := ρ.i 0) (i := ρ.i 1) (by omega) (by omega) (by with_reducible assumption)
       have e2 := set_no (D := ρ.l 3) (id := ρ.i 0) (n := ρ.i 2) (i := ρ.i 1) (by omega) (by omega) (by with_reducible assumption)
       rw [e1, e2]
       exact ⟨by with_reducible assumption, by with_reducible assumption, rfl, rfl⟩)
    | (obtain ⟨e1, _⟩ := cr_no (D := ρ.l 3) (id := ρ.i 0) (i := ρ.i 1) (by omega) (by omega) (by with_reducible assumption)
       rw [e1]
       with_reducible assumption)
    | (exact (cr_end (D := ρ.l 3) (id := ρ.i 0) (i := ρ.i 1) (by omega)).1)
theorem r6_ok (ρ : Env) : TblOK Φ ρ Try.prog r6 := addLp_ok noTbl_ok rs0_ok
def rCredit_1 : SA := .l (.v 3) (.i (.v 0) (.i (.c 0) .nil))
def rCredit_2 : SI := .app 250 rCredit_1
set_option maxRecDepth 100000 in
theorem rCredit_obs : callObs Φ Try.prog r5 1000 rCredit.f rCredit.vs rCredit.o rCredit.pc rCredit.outs = some
  [⟨[.eq rCredit_2 (.c 0), .not (.app 253 rCredit_1), .lt (.len (.v 3)) (.c 90000)], [.I rCredit_2 (.c 0)]⟩] := by kernel_rfl
theorem rCredit_ok : rCredit.ok Φ Try.prog := by
  refine call_rule (fun ρ => r5_ok ρ) rCredit_obs ?_
  simp only [rCredit_1, rCredit_2, and_imp, List.forall_mem_cons, List.not_mem_nil, false_implies, implies_true, and_true, Ob.ok, holds, Eqn.ok, evB_eq, evB_lt, evB_not, evB_app, ev_len, ev_v, ev_c, evL_v, ev_app, evA_l, evA_i, evA_nil, decide_eq_true_eq, Bool.not_eq_true', aI250, aB253]
  repeat' apply And.intro
  all_goals intro ρ hR
  all_goals intros
  all_goals first
    | (with_reducible assumption)
def rSet_1 : SA := .i (.c 0) .nil
def rSet_2 : SI := .len (.v 3)
def rSet_3 : SL := .app 258 (.l (.v 3) (.i (.v 0) (.i (.v 2) rSet_1)))
def rSet_4 : SI := .len rSet_3
def rSet_5 : SI := .add rSet_2 (.c 1)
set_option maxRecDepth 100000 in
theorem rSet_obs : callObs Φ Try.prog r6 1000 rSet.f rSet.vs rSet.o rSet.pc rSet.outs = some
  [⟨[.not (.app 253 (.l (.v 3) (.i (.v 0) rSet_1))), .lt rSet_2 (.c 90000)], [.T (.le rSet_4 rSet_5), .I rSet_4 rSet_5, .L rSet_3 (.app 0 (.l (.v 3) (.l (.app 3 (.i (.v 0) (.i (.v 2) .nil))) .nil)))]⟩] := by kernel_rfl
theorem rSet_ok : rSet.ok Φ Try.prog := by
  refine call_rule (fun ρ => r6_ok ρ) rSet_obs ?_
  simp only [rSet_1, rSet_2, rSet_3, rSet_4, rSet_5, and_imp, List.forall_mem_cons, List.not_mem_nil, false_implies, implies_true, and_true, Ob.ok, holds, Eqn.ok, evB_lt, evB_le, evB_not, evB_app, ev_len, ev_v, ev_c, ev_add, evL_v, evL_app, evA_l, evA_i, evA_nil, std_cat, std_row, ints_cons, ints_nil, decide_eq_true_eq, Bool.not_eq_true', aL258, aB253]
  repeat' apply And.intro
  all_goals intro ρ hR
  all_goals intros
  all_goals first
    | (have e := set_none (n := ρ.i 2) (D := ρ.l 3) (id := ρ.i 0) (by with_reducible assumption)
       rw [e]
       simp)
theorem r7_ok (ρ : Env) : TblOK Φ ρ Try.prog r7 := addFn_ok (addFn_ok (r5_ok ρ) rCredit_ok) rSet_ok
def rCharge_1 : SA := .i (.c 0) .nil
def rCharge_2 : SI := .app 1 (.i (.wrap IntKind.i64 (.sub (.app 250 (.l (.v 3) (.i (.v 0) rCharge_1))) (.app 1 (.i (.c 0) (.i (.app 0 (.i (.v 1) (.i (.c 1073741824) .nil))) .nil))))) (.i (.c (.negSucc 1073741823)) .nil))
def rCharge_3 : SL := .app 258 (.l (.v 3) (.i (.v 0) (.i rCharge_2 rCharge_1)))
def rCharge_4 : SI := .len rCharge_3
def rCharge_5 : SI := .len (.v 3)
def rCharge_6 : SI := .add rCharge_5 (.c 1)
def rCharge_7 : SI := .app 251 (.l (.v 3) (.i (.v 0) (.i (.v 1) .nil)))
def rCharge_8 : SL := .app 258 (.l (.v 3) (.i (.v 0) (.i rCharge_7 rCharge_1)))
def rCharge_9 : SI := .len rCharge_8
set_option maxRecDepth 100000 in
theorem rCharge_obs : callObs Φ Try.prog r7 1000 rCharge.f rCharge.vs rCharge.o rCharge.pc rCharge.outs = some
  [⟨[.le rCharge_4 rCharge_6, .lt rCharge_5 (.c 90000)], [.T (.le rCharge_9 rCharge_6), .I rCharge_7 rCharge_2, .B (.lt rCharge_7 (.c 1)) (.lt rCharge_2 (.c 1)), .I rCharge_9 rCharge_4, .L rCharge_8 rCharge_3]⟩] := by kernel_rfl
theorem rCharge_ok : rCharge.ok Φ Try.prog := by
  refine call_rule (fun ρ => r7_ok ρ) rCharge_obs ?_
  simp only [rCharge_1, rCharge_2, rCharge_3, rCharge_4, rCharge_5, rCharge_6, rCharge_7, rCharge_8, rCharge_9, and_imp, List.forall_mem_cons, List.not_mem_nil, false_implies, implies_true, and_true, Ob.ok, holds, Eqn.ok, evB_lt, evB_le, ev_len, ev_v, ev_c, ev_add, ev_sub, ev_wrap, evL_v, evL_app, ev_app, evA_l, evA_i, evA_nil, std_min, std_max, negSucc_lit, decide_eq_true_eq, aI250, aI251, aL258]
  repeat' apply And.intro
  all_goals intro ρ hR
  all_goals intros
  all_goals first
    | (rw [show (-(1073741823 + 1) : Int) = -1073741824 from rfl] at *
       simp only [Int.max_comm _ (-1073741824)] at *
       repeat' apply And.intro
       all_goals first | exact True.intro | assumption | rfl)
def rRefill_1 : SA := .i (.c 0) .nil
def rRefill_2 : SI := .wrap IntKind.i64 (.mul (.v 8) (.app 1 (.i (.c 1) (.i (.app 0 (.i (.v 1) (.i (.c 1000) .nil))) .nil))))
def rRefill_3 : SI := .app 0 (.i (.wrap IntKind.i64 (.add (.app 250 (.l (.v 3) (.i (.v 0) rRefill_1))) rRefill_2)) (.i rRefill_2 .nil))
def rRefill_4 : SL := .app 258 (.l (.v 3) (.i (.v 0) (.i rRefill_3 rRefill_1)))
def rRefill_5 : SI := .len rRefill_4
def rRefill_6 : SI := .len (.v 3)
def rRefill_7 : SI := .add rRefill_6 (.c 1)
def rRefill_8 : SI := .app 252 (.l (.v 3) (.i (.v 0) (.i (.v 8) (.i (.v 1) .nil))))
def rRefill_9 : SL := .app 258 (.l (.v 3) (.i (.v 0) (.i rRefill_8 rRefill_1)))
def rRefill_10 : SI := .len rRefill_9
set_option maxRecDepth 100000 in
theorem rRefill_obs : callObs Φ Try.prog r7 1000 rRefill.f rRefill.vs rRefill.o rRefill.pc rRefill.outs = some
  [⟨[.le rRefill_5 rRefill_7, .lt rRefill_6 (.c 90000)], [.T (.le rRefill_10 rRefill_7), .I rRefill_8 rRefill_3, .I rRefill_10 rRefill_5, .L rRefill_9 rRefill_4]⟩] := by kernel_rfl
theorem rRefill_ok : rRefill.ok Φ Try.prog := by
  refine call_rule (fun ρ => r7_ok ρ) rRefill_obs ?_
  simp only [rRefill_1, rRefill_2, rRefill_3, rRefill_4, rRefill_5, rRefill_6, rRefill_7, rRefill_8, rRefill_9, rRefill_10, and_imp, List.forall_mem_cons, List.not_mem_nil, false_implies, implies_true, and_true, Ob.ok, holds, Eqn.ok, evB_lt, evB_le, ev_len, ev_v, ev_c, ev_add, ev_mul, ev_wrap, evL_v, evL_app, ev_app, evA_l, evA_i, evA_nil, std_min, std_max, decide_eq_true_eq, aI250, aI252, aL258]
  repeat' apply And.intro
  all_goals intro ρ hR
  all_goals intros
  all_goals first
    | (unfold moreI
       have h : ((setG (ρ.l 3) (ρ.i 0) (min (IntKind.i64.wrap (crG (ρ.l 3) (ρ.i 0) 0 + IntKind.i64.wrap (ρ.i 8 * max 1 (min (ρ.i 1) 1000)))) (IntKind.i64.wrap (ρ.i 8 * max 1 (min (ρ.i 1) 1000)))) 0).length : Int) ≤ ((ρ.l 3).length : Int) + 1 := by with_reducible assumption
       rw [Int.min_comm (IntKind.i64.wrap (crG (ρ.l 3) (ρ.i 0) 0 + IntKind.i64.wrap (ρ.i 8 * max 1 (min (ρ.i 1) 1000))))] at h ⊢
       exact ⟨h, rfl, rfl, rfl⟩)
end Go.SF.C21.T
