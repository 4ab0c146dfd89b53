/- The package runq, shown. -/
import Derived.Test.YtnhdohhhgfdhfaaCQ
import Derived.Test.YtnhdohhhgfdhfaaPQ4
import Derived.KernelRfl
namespace Go.SF.C21.Q
open Go Go.SF Go.Proofs
set_option linter.unusedVariables false
set_option linter.unusedSimpArgs false

open Go.SF.C17
def cNew_1 : SL := .app 5 (.i (.v 0) .nil)
set_option maxRecDepth 100000 in
theorem cNew_obs : callObs Φ Try.prog noTbl 1000 cNew.f cNew.vs cNew.o cNew.pc cNew.outs = some
  [⟨[.not (.lt (.c 64) (.v 3)), .not (.lt (.v 3) (.c 1)), .not (.lt (.c 8) (.v 0)), .not (.lt (.v 0) (.c 1))], [.T (.eq (.len cNew_1) (.v 0)), .T (.app 130 (.l cNew_1 (.l (.lit []) (.i (.v 3) .nil))))]⟩] := by kernel_rfl
theorem cNew_ok : cNew.ok Φ Try.prog := by
  refine call_rule (fun ρ => noTbl_ok) cNew_obs ?_
  simp only [cNew_1, and_imp, List.forall_mem_cons, List.not_mem_nil, false_implies, implies_true, and_true, Ob.ok, holds, Eqn.ok, evB_eq, evB_lt, evB_not, evB_app, ev_len, ev_v, ev_c, evL_lit, evL_app, evA_l, evA_i, evA_nil, std_rep, ints_nil, decide_eq_true_eq, Bool.not_eq_true', decide_eq_false_iff_not, aB130]
  repeat' apply And.intro
  all_goals intro ρ hR
  all_goals intros
  all_goals first
    | (exact ⟨by rw [List.length_replicate]; omega, inv_new (by omega)⟩)
def cLay_1 : SI := .len (.v 0)
def cLay_2 : SL := .app 14 (.l (.v 0) (.i (.v 0) .nil))
def cLay_3 : SA := .i (.v 1) .nil
def cLay_4 : SL := .app 115 (.l (.v 0) (.i (.v 0) cLay_3))
def cLay_5 : SI := .len cLay_4
set_option maxRecDepth 100000 in
theorem cLay_obs : callObs Φ Try.prog noTbl 1000 cLay.f cLay.vs cLay.o cLay.pc cLay.outs = some
  [⟨[.le (.c 1) cLay_1, .le cLay_1 (.c 8), .le (.c 1) (.v 3), .le (.v 3) (.c 64), .le (.c 0) (.v 0), .lt (.v 0) cLay_1, .c true, .lt (.len cLay_2) (.c 64)], [.T (.eq cLay_5 cLay_1), .I cLay_5 cLay_1, .L cLay_4 (.app 15 (.l (.v 0) (.i (.v 0) (.l (.app 0 (.l cLay_2 (.l (.app 3 cLay_3) .nil))) .nil))))]⟩] := by kernel_rfl
theorem cLay_ok : cLay.ok Φ Try.prog := by
  refine call_rule (fun ρ => noTbl_ok) cLay_obs ?_
  simp only [cLay_1, cLay_2, cLay_3, cLay_4, cLay_5, and_imp, List.forall_mem_cons, List.not_mem_nil, false_implies, implies_true, and_true, Ob.ok, holds, Eqn.ok, evB_eq, evB_lt, evB_le, evB_c, ev_len, ev_v, ev_c, evL_v, evL_app, evA_l, evA_i, evA_nil, std_cat, std_row, ints_cons, ints_nil, decide_eq_true_eq, std_rowT, std_setT, lenR_rowT, aL115]
  repeat' apply And.intro
  all_goals intro ρ hR
  all_goals intros
  all_goals first
    | (have h := layT_len (ρ.l 0) (ρ.i 0) (ρ.i 1)
       exact ⟨by omega, by omega, (lay_eq _ _ _).symm⟩)
def cCut_1 : SI := .len (.v 0)
def cCut_2 : SL := .app 14 (.l (.v 0) (.i (.v 0) .nil))
def cCut_3 : SI := .len cCut_2
def cCut_4 : SA := .i (.v 1) .nil
def cCut_5 : SL := .app 116 (.l (.v 0) (.i (.v 0) cCut_4))
def cCut_6 : SI := .len cCut_5
set_option maxRecDepth 100000 in
theorem cCut_obs : callObs Φ Try.prog noTbl 1000 cCut.f cCut.vs cCut.o cCut.pc cCut.outs = some
  [⟨[.le (.c 1) cCut_1, .le cCut_1 (.c 8), .le (.c 1) (.v 3), .le (.v 3) (.c 64), .le (.c 0) (.v 0), .lt (.v 0) cCut_1, .c true, .le (.c 0) (.v 1), .lt (.v 1) cCut_3, .le cCut_3 (.c 64)], [.T (.eq cCut_6 cCut_1), .I cCut_6 cCut_1, .L cCut_5 (.app 15 (.l (.v 0) (.i (.v 0) (.l (.app 0 (.l (.app 1 (.l cCut_2 cCut_4)) (.l (.app 2 (.l cCut_2 (.i (.add (.v 1) (.c 1)) .nil))) .nil))) .nil))))]⟩] := by kernel_rfl
theorem cCut_ok : cCut.ok Φ Try.prog := by
  refine call_rule (fun ρ => noTbl_ok) cCut_obs ?_
  simp only [cCut_1, cCut_2, cCut_3, cCut_4, cCut_5, cCut_6, and_imp, List.forall_mem_cons, List.not_mem_nil, false_implies, implies_true, and_true, Ob.ok, holds, Eqn.ok, evB_eq, evB_lt, evB_le, evB_c, ev_len, ev_v, ev_c, ev_add, evL_v, evL_app, evA_l, evA_i, evA_nil, std_cat, std_take, std_drop, decide_eq_true_eq, std_rowT, std_setT, lenR_rowT, aL116]
  repeat' apply And.intro
  all_goals intro ρ hR
  all_goals intros
  all_goals first
    | (have h := cutT_len (ρ.l 0) (ρ.i 0) (ρ.i 1)
       exact ⟨by omega, by omega, (cut_eq _ _ _ (by omega)).symm⟩)
def be1_1 : SA := .i (.v 1) .nil
def be1_2 : SA := .i (.v 0) .nil
def be1_3 : SB := .lt (.len (.app 14 (.l (.v 0) be1_1))) (.len (.app 14 (.l (.v 0) be1_2)))
def be1_4 : SI := .len (.v 0)
def be1_5 : SB := .lt (.v 0) be1_4
def be1_6 : List SB := [.le (.c 1) be1_4, .le be1_4 (.c 8), .le (.c 1) (.v 3), .le (.v 3) (.c 64), .le (.c 0) (.v 0), .le (.v 0) be1_4, .le (.c 0) (.v 1), .lt (.v 1) be1_4]
def be1_7 : List SB := be1_5 :: be1_6
def be1_8 : List SB := be1_3 :: be1_7
def be1_9 : SI := .add (.v 0) (.c 1)
def be1_10 : SI := .sub be1_4 (.v 0)
def be1_11 : List Eqn := [.T (.lt (.sub be1_4 be1_9) be1_10), .T (.lt (.c 0) be1_10)]
def be1_12 : SI := .app 100 (.l (.v 0) (.i (.c 1) (.i be1_9 be1_2)))
def be1_13 : SI := .app 100 (.l (.v 0) (.i (.c 1) (.i (.v 0) be1_1)))
def be1_14 : Eqn := .T (.le (.c 0) be1_13)
def be1_15 : Eqn := .T (.lt be1_13 be1_4)
def be1_16 : List SB := .not be1_3 :: be1_7
def be1_17 : SI := .app 100 (.l (.v 0) (.i (.c 1) (.i be1_9 be1_1)))
set_option maxRecDepth 100000 in
theorem be1_obs : loopObs Φ Try.prog noTbl 1000 be1.f (loopAt Try.prog be1.f be1.id) be1.n be1.T k0 be1.outs = some
  [⟨be1_8, be1_11⟩, ⟨.lt be1_12 be1_4 :: .le (.c 0) be1_12 :: be1_8, [be1_14, be1_15, .I be1_13 be1_12]⟩, ⟨be1_16, be1_11⟩, ⟨.lt be1_17 be1_4 :: .le (.c 0) be1_17 :: be1_16, [be1_14, be1_15, .I be1_13 be1_17]⟩, ⟨.not be1_5 :: be1_6, [be1_14, be1_15, .I be1_13 (.v 1)]⟩] := by kernel_rfl
theorem be1_ok : be1.ok Φ Try.prog := by
  refine ⟨by kernel_rfl, loop_rule (fun ρ => noTbl_ok) (loopAt_sub (by kernel_rfl)) be1_obs ?_⟩
  simp only [be1_1, be1_2, be1_3, be1_4, be1_5, be1_6, be1_7, be1_8, be1_9, be1_10, be1_11, be1_12, be1_13, be1_14, be1_15, be1_16, be1_17, and_imp, List.forall_mem_cons, List.not_mem_nil, false_implies, implies_true, and_true, Ob.ok, holds, Eqn.ok, evB_lt, evB_le, evB_not, ev_len, ev_v, ev_c, ev_add, ev_sub, evL_v, evL_app, ev_app, evA_l, evA_i, evA_nil, decide_eq_true_eq, Bool.not_eq_true', decide_eq_false_iff_not, std_rowT, lenR_rowT, aI100]
  repeat' apply And.intro
  all_goals intro ρ hR
  all_goals intros
  all_goals first
    | (omega)
    | (have e := long_yes (T := ρ.l 0) (c := ρ.i 0) (b := ρ.i 1) (by omega) (by omega) (by omega)
       omega)
    | (have e := long_no (T := ρ.l 0) (c := ρ.i 0) (b := ρ.i 1) (by omega) (by omega) (by omega)
       omega)
    | (have e := best_end (T := ρ.l 0) (s := 1) (c := ρ.i 0) (b := ρ.i 1) (by omega)
       omega)
theorem t1_ok (ρ : Env) : TblOK Φ ρ Try.prog t1 := addLp_ok noTbl_ok be1_ok
def cLong_1 : SI := .app 100 (.l (.v 0) (.i (.c 1) (.i (.c 0) (.i (.c 0) .nil))))
def cLong_2 : SI := .len (.v 0)
set_option maxRecDepth 100000 in
theorem cLong_obs : callObs Φ Try.prog t1 1000 cLong.f cLong.vs cLong.o cLong.pc cLong.outs = some
  [⟨[.lt cLong_1 cLong_2, .le (.c 0) cLong_1, .le (.c 1) cLong_2, .le cLong_2 (.c 8), .le (.c 1) (.v 3), .le (.v 3) (.c 64), .c true, .app 130 (.l (.v 0) (.l (.v 1) (.i (.v 3) .nil)))], [.T (.le (.len (.app 14 (.l (.v 0) (.i cLong_1 .nil)))) (.v 3))]⟩] := by kernel_rfl
theorem cLong_ok : cLong.ok Φ Try.prog := by
  refine call_rule (fun ρ => t1_ok ρ) cLong_obs ?_
  simp only [cLong_1, cLong_2, and_imp, List.forall_mem_cons, List.not_mem_nil, false_implies, implies_true, and_true, Ob.ok, holds, Eqn.ok, evB_lt, evB_le, evB_app, evB_c, ev_len, ev_v, ev_c, evL_v, evL_app, ev_app, evA_l, evA_i, evA_nil, decide_eq_true_eq, std_rowT, lenR_rowT, aI100, aB130]
  repeat' apply And.intro
  all_goals intro ρ hR
  all_goals intros
  all_goals first
    | (have hi : invB (ρ.l 0) (ρ.l 1) (ρ.i 3) = true := by with_reducible assumption
       exact inv_row hi (by omega) (by omega))
theorem t2_ok (ρ : Env) : TblOK Φ ρ Try.prog t2 := addFn_ok (addFn_ok (addFn_ok (t1_ok ρ) cLong_ok) cLay_ok) cCut_ok
def cPush_1 : SB := .lt (.v 1) (.c 0)
def cPush_2 : SI := .len (.v 0)
def cPush_3 : SB := .lt (.v 0) cPush_2
def cPush_4 : SB := .le (.c 0) (.v 0)
def cPush_5 : SA := .i (.v 3) .nil
def cPush_6 : SA := .l (.v 1) cPush_5
def cPush_7 : List SB := [.le (.c 1) cPush_2, .le cPush_2 (.c 8), .le (.c 1) (.v 3), .le (.v 3) (.c 64), .c true, .app 130 (.l (.v 0) cPush_6)]
def cPush_8 : List SB := cPush_4 :: cPush_7
def cPush_9 : List SB := cPush_3 :: cPush_8
def cPush_10 : SA := .l (.v 0) (.i (.v 0) (.i (.v 1) cPush_5))
def cPush_11 : SL := .app 110 cPush_10
def cPush_12 : SI := .len cPush_11
def cPush_13 : Eqn := .T (.eq cPush_12 cPush_2)
def cPush_14 : Eqn := .T (.app 130 (.l cPush_11 cPush_6))
def cPush_15 : SI := .app 110 cPush_10
def cPush_16 : List Eqn := [.I cPush_12 cPush_2, .L cPush_11 (.v 0)]
def cPush_17 : SA := .i (.v 1) .nil
def cPush_18 : SB := .lt (.c 0) (.len (.app 6 (.l (.v 1) cPush_17)))
def cPush_19 : List SB := .not cPush_1 :: cPush_9
def cPush_20 : SA := .i (.v 0) .nil
def cPush_21 : SI := .len (.app 14 (.l (.v 0) cPush_20))
def cPush_22 : SB := .eq cPush_21 (.v 3)
def cPush_23 : List SB := .not cPush_18 :: cPush_19
def cPush_24 : SL := .app 115 (.l (.v 0) (.i (.v 0) cPush_17))
def cPush_25 : SI := .len cPush_24
def cPush_26 : SB := .lt cPush_21 (.c 64)
def cPush_27 : List SB := .not cPush_22 :: cPush_23
def cPush_28 : List Eqn := cPush_13 :: cPush_14 :: .I cPush_15 (.c 2) :: cPush_16
set_option maxRecDepth 100000 in
theorem cPush_obs : callObs Φ Try.prog t2 1000 cPush.f cPush.vs cPush.o cPush.pc cPush.outs = some
  [⟨cPush_1 :: cPush_9, cPush_13 :: cPush_14 :: .I cPush_15 (.c 1) :: cPush_16⟩, ⟨cPush_18 :: cPush_19, cPush_13 :: cPush_14 :: .I cPush_15 (.c 5) :: cPush_16⟩, ⟨cPush_22 :: cPush_23, cPush_13 :: cPush_14 :: .I cPush_15 (.c 3) :: cPush_16⟩, ⟨.eq cPush_25 cPush_2 :: cPush_26 :: cPush_27, [cPush_13, .T (.app 130 (.l cPush_11 (.l (.app 7 (.l (.v 1) (.i (.v 1) cPush_20))) cPush_5))), .I cPush_15 (.c 0), .I cPush_12 cPush_25, .L cPush_11 cPush_24]⟩, ⟨.not cPush_26 :: cPush_27, [.T (.c false)]⟩, ⟨.not cPush_3 :: cPush_8, cPush_28⟩, ⟨.not cPush_4 :: cPush_7, cPush_28⟩] := by kernel_rfl
theorem cPush_ok : cPush.ok Φ Try.prog := by
  refine call_rule (fun ρ => t2_ok ρ) cPush_obs ?_
  simp only [cPush_1, cPush_2, cPush_3, cPush_4, cPush_5, cPush_6, cPush_7, cPush_8, cPush_9, cPush_10, cPush_11, cPush_12, cPush_13, cPush_14, cPush_15, cPush_16, cPush_17, cPush_18, cPush_19, cPush_20, cPush_21, cPush_22, cPush_23, cPush_24, cPush_25, cPush_26, cPush_27, cPush_28, and_imp, List.forall_mem_cons, List.not_mem_nil, false_implies, implies_true, and_true, Ob.ok, holds, Eqn.ok, evB_eq, evB_lt, evB_le, evB_not, evB_app, evB_c, ev_len, ev_v, ev_c, evL_v, evL_app, ev_app, evA_l, evA_i, evA_nil, std_find, std_put, ints_cons, ints_nil, decide_eq_true_eq, Bool.not_eq_true', decide_eq_false_iff_not, std_rowT, lenR_rowT, aI110, aL110, aL115, aB130]
  repeat' apply And.intro
  all_goals intro ρ hR
  all_goals intros
  all_goals first
    | (have e := push_range (T := ρ.l 0) (c := ρ.i 0) (id := ρ.i 1) (rm := ρ.i 3) (by omega)
       rw [push_no e (by decide)]
       exact ⟨rfl, by with_reducible assumption, e, rfl, rfl⟩)
    | (have e := push_arg (T := ρ.l 0) (c := ρ.i 0) (id := ρ.i 1) (rm := ρ.i 3) (by omega) (by omega) (by omega)
       rw [push_no e (by decide)]
       exact ⟨rfl, by with_reducible assumption, e, rfl, rfl⟩)
    | (have hi : invB (ρ.l 0) (ρ.l 1) (ρ.i 3) = true := by with_reducible assumption
       have hM : (ρ.l 1).Pairwise (fun a b => hdK a < hdK b) := hR.keys 3 rfl rfl
       have hk : hasB (ρ.l 0) (ρ.i 1) = true := has_of hi hM (by with_reducible assumption)
       have e := push_twice (T := ρ.l 0) (c := ρ.i 0) (id := ρ.i 1) (rm := ρ.i 3) (by omega) (by omega) (by omega) hk
       rw [push_no e (by decide)]
       exact ⟨rfl, by with_reducible assumption, e, rfl, rfl⟩)
    | (have hi : invB (ρ.l 0) (ρ.l 1) (ρ.i 3) = true := by with_reducible assumption
       have hM : (ρ.l 1).Pairwise (fun a b => hdK a < hdK b) := hR.keys 3 rfl rfl
       have hk : hasB (ρ.l 0) (ρ.i 1) = false := has_not hi hM (by with_reducible assumption)
       have e := push_full (T := ρ.l 0) (c := ρ.i 0) (id := ρ.i 1) (rm := ρ.i 3) (by omega) (by omega) (by omega) hk (by omega)
       rw [push_no e (by decide)]
       exact ⟨rfl, by with_reducible assumption, e, rfl, rfl⟩)
    | (have hi : invB (ρ.l 0) (ρ.l 1) (ρ.i 3) = true := by with_reducible assumption
       have hM : (ρ.l 1).Pairwise (fun a b => hdK a < hdK b) := hR.keys 3 rfl rfl
       have hk : hasB (ρ.l 0) (ρ.i 1) = false := has_not hi hM (by with_reducible assumption)
       obtain ⟨e, e2⟩ := push_ok (T := ρ.l 0) (c := ρ.i 0) (id := ρ.i 1) (rm := ρ.i 3) (by omega) (by omega) (by omega) hk (by omega)
       have hl := layT_len (ρ.l 0) (ρ.i 0) (ρ.i 1)
       have hr := inv_row hi (c := ρ.i 0) (by omega) (by omega)
       rw [e2]
       exact ⟨by omega, inv_lay hi hk (by omega) (by omega) (by omega), e, rfl, rfl⟩)
    | (have hi : invB (ρ.l 0) (ρ.l 1) (ρ.i 3) = true := by with_reducible assumption
       have hr := inv_row hi (c := ρ.i 0) (by omega) (by omega)
       exfalso
       omega)
def wh0_1 : SL := .app 14 (.l (.v 0) (.i (.v 0) .nil))
def wh0_2 : SB := .eq (.sel wh0_1 (.v 2) 0) (.v 1)
def wh0_3 : SI := .len wh0_1
def wh0_4 : SB := .lt (.v 2) wh0_3
def wh0_5 : SI := .len (.v 0)
def wh0_6 : SI := .app 103 (.l (.v 0) (.i (.v 0) (.i (.v 1) (.i (.v 2) .nil))))
def wh0_7 : List SB := [.le (.c 1) wh0_5, .le wh0_5 (.c 8), .le (.c 1) (.v 3), .le (.v 3) (.c 64), .le (.c 0) (.v 0), .lt (.v 0) wh0_5, .le (.c 0) (.v 2), .c true, .lt wh0_6 wh0_3, .le wh0_3 (.c 64)]
def wh0_8 : List SB := wh0_4 :: wh0_7
def wh0_9 : List SB := .not wh0_2 :: wh0_8
def wh0_10 : SI := .add (.v 2) (.c 1)
def wh0_11 : SI := .sub wh0_3 (.v 2)
def wh0_12 : SI := .app 103 (.l (.v 0) (.i (.v 0) (.i (.v 1) (.i wh0_10 .nil))))
set_option maxRecDepth 100000 in
theorem wh0_obs : loopObs Φ Try.prog t2 1000 wh0.f (loopAt Try.prog wh0.f wh0.id) wh0.n wh0.T k1 wh0.outs = some
  [⟨wh0_2 :: wh0_8, [.I wh0_6 (.v 2)]⟩, ⟨wh0_9, [.T (.lt (.sub wh0_3 wh0_10) wh0_11), .T (.lt (.c 0) wh0_11), .T (.lt wh0_12 wh0_3)]⟩, ⟨wh0_9, [.I wh0_6 wh0_12]⟩, ⟨.not wh0_4 :: wh0_7, [.T (.c false)]⟩] := by kernel_rfl
theorem wh0_ok : wh0.ok Φ Try.prog := by
  refine ⟨by kernel_rfl, loop_rule (fun ρ => t2_ok ρ) (loopAt_sub (by kernel_rfl)) wh0_obs ?_⟩
  simp only [wh0_1, wh0_2, wh0_3, wh0_4, wh0_5, wh0_6, wh0_7, wh0_8, wh0_9, wh0_10, wh0_11, wh0_12, and_imp, List.forall_mem_cons, List.not_mem_nil, false_implies, implies_true, and_true, Ob.ok, holds, Eqn.ok, evB_eq, evB_lt, evB_le, evB_not, evB_c, ev_sel, ev_len, ev_v, ev_c, ev_add, ev_sub, evL_v, evL_app, ev_app, evA_l, evA_i, evA_nil, decide_eq_true_eq, Bool.not_eq_true', decide_eq_false_iff_not, std_rowT, lenR_rowT, rowT_get, aI103]
  repeat' apply And.intro
  all_goals intro ρ hR
  all_goals intros
  all_goals first
    | (exact atG_stop (T := ρ.l 0) (by omega) (by omega) (by with_reducible assumption))
    | (have e := atG_step (T := ρ.l 0) (c := ρ.i 0) (i := ρ.i 2) (id := ρ.i 1) (by omega) (by omega) (by with_reducible assumption)
       omega)
    | (have e := atG_ge (T := ρ.l 0) (c := ρ.i 0) (i := ρ.i 2) (id := ρ.i 1)
       exfalso
       omega)
theorem t3_ok (ρ : Env) : TblOK Φ ρ Try.prog t3 := addLp_ok (t2_ok ρ) wh0_ok
def cWhere_1 : SA := .i (.v 1) .nil
def cWhere_2 : SL := .app 6 (.l (.v 1) cWhere_1)
def cWhere_3 : SI := .sel cWhere_2 (.c 0) 1
def cWhere_4 : SL := .app 14 (.l (.v 0) (.i cWhere_3 .nil))
def cWhere_5 : SB := .eq (.sel cWhere_4 (.c 0) 0) (.v 1)
def cWhere_6 : SI := .len cWhere_4
def cWhere_7 : SB := .lt (.c 0) cWhere_6
def cWhere_8 : SI := .len (.v 0)
def cWhere_9 : SB := .lt cWhere_3 cWhere_8
def cWhere_10 : SB := .le (.c 0) cWhere_3
def cWhere_11 : SB := .lt (.c 0) (.len cWhere_2)
def cWhere_12 : List SB := [.le (.c 1) cWhere_8, .le cWhere_8 (.c 8), .le (.c 1) (.v 3), .le (.v 3) (.c 64), .c true, .app 130 (.l (.v 0) (.l (.v 1) (.i (.v 3) .nil)))]
def cWhere_13 : List SB := cWhere_11 :: cWhere_12
def cWhere_14 : List SB := cWhere_10 :: cWhere_13
def cWhere_15 : List SB := cWhere_9 :: cWhere_14
def cWhere_16 : List SB := cWhere_7 :: cWhere_15
def cWhere_17 : SA := .l (.v 0) cWhere_1
def cWhere_18 : SB := .app 131 cWhere_17
def cWhere_19 : SI := .app 101 cWhere_17
def cWhere_20 : Eqn := .T (.le (.c 0) cWhere_19)
def cWhere_21 : Eqn := .T (.lt cWhere_19 cWhere_8)
def cWhere_22 : SI := .app 102 cWhere_17
def cWhere_23 : Eqn := .T (.le (.c 0) cWhere_22)
def cWhere_24 : SL := .app 14 (.l (.v 0) (.i cWhere_19 .nil))
def cWhere_25 : SI := .len cWhere_24
def cWhere_26 : Eqn := .T (.lt cWhere_22 cWhere_25)
def cWhere_27 : Eqn := .T (.le cWhere_25 (.v 3))
def cWhere_28 : Eqn := .T (.eq (.sel cWhere_24 cWhere_22 0) (.v 1))
def cWhere_29 : Eqn := .I cWhere_19 cWhere_3
def cWhere_30 : SI := .app 103 (.l (.v 0) (.i cWhere_3 (.i (.v 1) (.i (.c 1) .nil))))
def cWhere_31 : SB := .lt cWhere_30 cWhere_6
def cWhere_32 : SB := .le cWhere_6 (.c 64)
def cWhere_33 : List SB := .not cWhere_5 :: cWhere_16
def cWhere_34 : List Eqn := [.T (.c false)]
set_option maxRecDepth 100000 in
theorem cWhere_obs : callObs Φ Try.prog t3 1000 cWhere.f cWhere.vs cWhere.o cWhere.pc cWhere.outs = some
  [⟨cWhere_5 :: cWhere_16, [.T cWhere_18, cWhere_20, cWhere_21, cWhere_23, cWhere_26, cWhere_27, cWhere_28, cWhere_29, .I cWhere_22 (.c 0)]⟩, ⟨cWhere_31 :: cWhere_32 :: cWhere_33, [.T cWhere_18, cWhere_20, cWhere_21, cWhere_23, cWhere_26, cWhere_27, cWhere_28, cWhere_29, .I cWhere_22 cWhere_30]⟩, ⟨.not cWhere_31 :: cWhere_33, cWhere_34⟩, ⟨.not cWhere_32 :: cWhere_33, cWhere_34⟩, ⟨.not cWhere_7 :: cWhere_15, cWhere_34⟩, ⟨.not cWhere_9 :: cWhere_14, cWhere_34⟩, ⟨.not cWhere_10 :: cWhere_13, cWhere_34⟩, ⟨.not cWhere_11 :: cWhere_12, [.T (.not cWhere_18)]⟩] := by kernel_rfl
theorem cWhere_ok : cWhere.ok Φ Try.prog := by
  refine call_rule (fun ρ => t3_ok ρ) cWhere_obs ?_
  simp only [cWhere_1, cWhere_2, cWhere_3, cWhere_4, cWhere_5, cWhere_6, cWhere_7, cWhere_8, cWhere_9, cWhere_10, cWhere_11, cWhere_12, cWhere_13, cWhere_14, cWhere_15, cWhere_16, cWhere_17, cWhere_18, cWhere_19, cWhere_20, cWhere_21, cWhere_22, cWhere_23, cWhere_24, cWhere_25, cWhere_26, cWhere_27, cWhere_28, cWhere_29, cWhere_30, cWhere_31, cWhere_32, cWhere_33, cWhere_34, and_imp, List.forall_mem_cons, List.not_mem_nil, false_implies, implies_true, and_true, Ob.ok, holds, Eqn.ok, evB_eq, evB_lt, evB_le, evB_not, evB_app, evB_c, ev_sel, ev_len, ev_v, ev_c, evL_v, evL_app, ev_app, evA_l, evA_i, evA_nil, std_find, decide_eq_true_eq, Bool.not_eq_true', decide_eq_false_iff_not, std_rowT, lenR_rowT, rowT_get, aI101, aI102, aI103, aB130, aB131]
  repeat' apply And.intro
  all_goals intro ρ hR
  all_goals intros
  all_goals first
    | (have hi : invB (ρ.l 0) (ρ.l 1) (ρ.i 3) = true := by with_reducible assumption
       have hM : (ρ.l 1).Pairwise (fun a b => hdK a < hdK b) := hR.keys 3 rfl rfl
       have hk : hasB (ρ.l 0) (ρ.i 1) = true := has_of hi hM (by with_reducible assumption)
       rw [where_has hi hM hk] at *
       obtain ⟨c0, c1, c2⟩ := cpu_row hk
       obtain ⟨a0, a1, a2⟩ := at_row hk
       have hl := inv_row hi c0 c1
       have hg := atG0 (T := ρ.l 0) (id := ρ.i 1)
       have hz := atG_stop (T := ρ.l 0) (c := cpuF (ρ.l 0) (ρ.i 1)) (i := 0) (id := ρ.i 1) (by omega) (by omega) (by with_reducible assumption)
       exact ⟨hk, by omega, by omega, by omega, by omega, by omega, a2, by omega, by omega⟩)
    | (have hi : invB (ρ.l 0) (ρ.l 1) (ρ.i 3) = true := by with_reducible assumption
       have hM : (ρ.l 1).Pairwise (fun a b => hdK a < hdK b) := hR.keys 3 rfl rfl
       have hk : hasB (ρ.l 0) (ρ.i 1) = true := has_of hi hM (by with_reducible assumption)
       rw [where_has hi hM hk] at *
       obtain ⟨c0, c1, c2⟩ := cpu_row hk
       obtain ⟨a0, a1, a2⟩ := at_row hk
       have hl := inv_row hi c0 c1
       have hg := atG0 (T := ρ.l 0) (id := ρ.i 1)
       have hz := atG_step (T := ρ.l 0) (c := cpuF (ρ.l 0) (ρ.i 1)) (i := 0) (id := ρ.i 1) (by omega) (by omega) (by with_reducible assumption)
       rw [show (0 : Int) + 1 = 1 from rfl] at hz
       exact ⟨hk, by omega, by omega, by omega, by omega, by omega, a2, by omega, by omega⟩)
    | (have hi : invB (ρ.l 0) (ρ.l 1) (ρ.i 3) = true := by with_reducible assumption
       have hM : (ρ.l 1).Pairwise (fun a b => hdK a < hdK b) := hR.keys 3 rfl rfl
       have hk : hasB (ρ.l 0) (ρ.i 1) = true := has_of hi hM (by with_reducible assumption)
       rw [where_has hi hM hk] at *
       obtain ⟨c0, c1, c2⟩ := cpu_row hk
       obtain ⟨a0, a1, a2⟩ := at_row hk
       have hl := inv_row hi c0 c1
       have hg := atG0 (T := ρ.l 0) (id := ρ.i 1)
       have hz := atG_step (T := ρ.l 0) (c := cpuF (ρ.l 0) (ρ.i 1)) (i := 0) (id := ρ.i 1) (by omega) (by omega) (by with_reducible assumption)
       rw [show (0 : Int) + 1 = 1 from rfl] at hz
       exfalso
       omega)
    | (have hi : invB (ρ.l 0) (ρ.l 1) (ρ.i 3) = true := by with_reducible assumption
       have hM : (ρ.l 1).Pairwise (fun a b => hdK a < hdK b) := hR.keys 3 rfl rfl
       have hk : hasB (ρ.l 0) (ρ.i 1) = true := has_of hi hM (by with_reducible assumption)
       rw [where_has hi hM hk] at *
       obtain ⟨c0, c1, c2⟩ := cpu_row hk
       obtain ⟨a0, a1, a2⟩ := at_row hk
       have hl := inv_row hi c0 c1
       have hg := atG0 (T := ρ.l 0) (id := ρ.i 1)
       exfalso
       omega)
    | (have hi : invB (ρ.l 0) (ρ.l 1) (ρ.i 3) = true := by with_reducible assumption
       have hM : (ρ.l 1).Pairwise (fun a b => hdK a < hdK b) := hR.keys 3 rfl rfl
       exact has_not hi hM (by with_reducible assumption))
theorem t4_ok (ρ : Env) : TblOK Φ ρ Try.prog t4 := addFn_ok (t3_ok ρ) cWhere_ok
def cPop_1 : SA := .i (.c 0) .nil
def cPop_2 : SL := .app 116 (.l (.v 0) (.i (.v 0) cPop_1))
def cPop_3 : SI := .len cPop_2
def cPop_4 : SI := .len (.v 0)
def cPop_5 : SA := .l (.v 0) (.i (.v 0) .nil)
def cPop_6 : SL := .app 14 cPop_5
def cPop_7 : SI := .len cPop_6
def cPop_8 : SB := .le cPop_7 (.c 64)
def cPop_9 : SB := .lt (.c 0) cPop_7
def cPop_10 : SA := .i (.v 3) .nil
def cPop_11 : List SB := [.lt (.v 0) cPop_4, .le (.c 0) (.v 0), .le (.c 1) cPop_4, .le cPop_4 (.c 8), .le (.c 1) (.v 3), .le (.v 3) (.c 64), .c true, .app 130 (.l (.v 0) (.l (.v 1) cPop_10))]
def cPop_12 : List SB := cPop_9 :: cPop_11
def cPop_13 : SB := .app 132 (.l (.v 0) .nil)
def cPop_14 : SI := .app 111 cPop_5
def cPop_15 : Eqn := .T (.le (.c 0) cPop_14)
def cPop_16 : Eqn := .T (.lt cPop_14 cPop_4)
def cPop_17 : SL := .app 111 cPop_5
def cPop_18 : SI := .len cPop_17
def cPop_19 : Eqn := .T (.eq cPop_18 cPop_4)
def cPop_20 : SI := .sel cPop_6 (.c 0) 0
def cPop_21 : SI := .app 112 cPop_5
def cPop_22 : List Eqn := [.T (.c false)]
def cPop_23 : SI := .app 100 (.l (.v 0) (.i (.c 1) (.i (.c 0) cPop_1)))
def cPop_24 : SL := .app 14 (.l (.v 0) (.i cPop_23 .nil))
def cPop_25 : SI := .len cPop_24
def cPop_26 : SB := .eq cPop_25 (.c 0)
def cPop_27 : List SB := .le cPop_25 (.v 3) :: .lt cPop_23 cPop_4 :: .le (.c 0) cPop_23 :: .not cPop_9 :: cPop_11
def cPop_28 : SI := .sub cPop_25 (.c 1)
def cPop_29 : SL := .app 116 (.l (.v 0) (.i cPop_23 (.i cPop_28 .nil)))
def cPop_30 : SI := .len cPop_29
def cPop_31 : SB := .le (.c 0) cPop_28
def cPop_32 : List SB := .not cPop_26 :: cPop_27
def cPop_33 : SI := .sel cPop_24 cPop_28 0
set_option maxRecDepth 100000 in
theorem cPop_obs : callObs Φ Try.prog t4 1000 cPop.f cPop.vs cPop.o cPop.pc cPop.outs = some
  [⟨.eq cPop_3 cPop_4 :: cPop_8 :: cPop_12, [.T cPop_13, cPop_15, cPop_16, cPop_19, .T (.app 130 (.l cPop_17 (.l (.app 8 (.l (.v 1) (.i cPop_20 .nil))) cPop_10))), .I cPop_21 cPop_20, .I cPop_14 (.v 0), .I cPop_18 cPop_3, .L cPop_17 cPop_2]⟩, ⟨.not cPop_8 :: cPop_12, cPop_22⟩, ⟨cPop_26 :: cPop_27, [.T (.not cPop_13)]⟩, ⟨.eq cPop_30 cPop_4 :: cPop_31 :: cPop_32, [.T cPop_13, cPop_15, cPop_16, cPop_19, .T (.app 130 (.l cPop_17 (.l (.app 8 (.l (.v 1) (.i cPop_33 .nil))) cPop_10))), .I cPop_21 cPop_33, .I cPop_14 cPop_23, .I cPop_18 cPop_30, .L cPop_17 cPop_29]⟩, ⟨.not cPop_31 :: cPop_32, cPop_22⟩] := by kernel_rfl
theorem cPop_ok : cPop.ok Φ Try.prog := by
  refine call_rule (fun ρ => t4_ok ρ) cPop_obs ?_
  simp only [cPop_1, cPop_2, cPop_3, cPop_4, cPop_5, cPop_6, cPop_7, cPop_8, cPop_9, cPop_10, cPop_11, cPop_12, cPop_13, cPop_14, cPop_15, cPop_16, cPop_17, cPop_18, cPop_19, cPop_20, cPop_21, cPop_22, cPop_23, cPop_24, cPop_25, cPop_26, cPop_27, cPop_28, cPop_29, cPop_30, cPop_31, cPop_32, cPop_33, and_imp, List.forall_mem_cons, List.not_mem_nil, false_implies, implies_true, and_true, Ob.ok, holds, Eqn.ok, evB_eq, evB_lt, evB_le, evB_not, evB_app, evB_c, ev_sel, ev_len, ev_v, ev_c, ev_sub, evL_v, evL_app, ev_app, evA_l, evA_i, evA_nil, std_del, decide_eq_true_eq, Bool.not_eq_true', decide_eq_false_iff_not, std_rowT, lenR_rowT, rowT_get, aI100, aI111, aI112, aL111, aL116, aB130, aB132]
  repeat' apply And.intro
  all_goals intro ρ hR
  all_goals intros
  all_goals first
    | (have hi : invB (ρ.l 0) (ρ.l 1) (ρ.i 3) = true := by with_reducible assumption
       obtain ⟨p1, p2, p3⟩ := pop_own (T := ρ.l 0) (c := ρ.i 0) (by with_reducible assumption)
       have hc := inv_cut hi (c := ρ.i 0) (i := 0) (by omega) (by omega) (by omega) (by omega)
       rw [p1, p2, p3]
       exact ⟨any_of (T := ρ.l 0) (c := ρ.i 0) (by omega) (by omega) (by omega), by omega, by omega, by omega, hc.1, rfl, rfl, rfl, rfl⟩)
    | (have hi : invB (ρ.l 0) (ρ.l 1) (ρ.i 3) = true := by with_reducible assumption
       have hr := inv_row hi (c := ρ.i 0) (by omega) (by omega)
       exfalso
       omega)
    | (exact any_not (T := ρ.l 0) (by omega) (by with_reducible assumption))
    | (have hi : invB (ρ.l 0) (ρ.l 1) (ρ.i 3) = true := by with_reducible assumption
       have hp := lenR_pos (ρ.l 0) (bestF 1 (ρ.l 0) 0 0)
       obtain ⟨p1, p2, p3⟩ := pop_long (T := ρ.l 0) (c := ρ.i 0) (by with_reducible assumption)
       have hc := inv_cut hi (c := (bestF 1 (ρ.l 0) 0 0)) (i := lenR (ρ.l 0) (bestF 1 (ρ.l 0) 0 0) - 1) (by omega) (by omega) (by omega) (by omega)
       rw [p1, p2, p3]
       exact ⟨any_of (T := ρ.l 0) (c := (bestF 1 (ρ.l 0) 0 0)) (by omega) (by omega) (by omega), by omega, by omega, by omega, hc.1, rfl, rfl, rfl, rfl⟩)
    | (have hp := lenR_pos (ρ.l 0) (bestF 1 (ρ.l 0) 0 0)
       exfalso
       omega)
def cDrop_1 : SA := .l (.v 0) (.i (.v 1) .nil)
def cDrop_2 : SB := .app 131 cDrop_1
def cDrop_3 : SI := .len (.v 0)
def cDrop_4 : SA := .i (.v 3) .nil
def cDrop_5 : SA := .l (.v 1) cDrop_4
def cDrop_6 : List SB := [.le (.c 1) cDrop_3, .le cDrop_3 (.c 8), .le (.c 1) (.v 3), .le (.v 3) (.c 64), .c true, .app 130 (.l (.v 0) cDrop_5)]
def cDrop_7 : SL := .app 112 cDrop_1
def cDrop_8 : SI := .len cDrop_7
def cDrop_9 : Eqn := .T (.eq cDrop_8 cDrop_3)
def cDrop_10 : SI := .app 101 cDrop_1
def cDrop_11 : SI := .app 102 cDrop_1
def cDrop_12 : SL := .app 116 (.l (.v 0) (.i cDrop_10 (.i cDrop_11 .nil)))
def cDrop_13 : SI := .len cDrop_12
def cDrop_14 : SL := .app 14 (.l (.v 0) (.i cDrop_10 .nil))
def cDrop_15 : SI := .sel cDrop_14 cDrop_11 0
def cDrop_16 : SI := .len cDrop_14
set_option maxRecDepth 100000 in
theorem cDrop_obs : callObs Φ Try.prog t4 1000 cDrop.f cDrop.vs cDrop.o cDrop.pc cDrop.outs = some
  [⟨.not cDrop_2 :: cDrop_6, [cDrop_9, .T (.app 130 (.l cDrop_7 cDrop_5)), .B cDrop_2 (.c false), .I cDrop_8 cDrop_3, .L cDrop_7 (.v 0)]⟩, ⟨.eq cDrop_13 cDrop_3 :: .eq cDrop_15 (.v 1) :: .le cDrop_16 (.v 3) :: .lt cDrop_11 cDrop_16 :: .le (.c 0) cDrop_11 :: .lt cDrop_10 cDrop_3 :: .le (.c 0) cDrop_10 :: cDrop_2 :: cDrop_6, [cDrop_9, .T (.app 130 (.l cDrop_7 (.l (.app 8 (.l (.v 1) (.i cDrop_15 .nil))) cDrop_4))), .B cDrop_2 (.c true), .I cDrop_8 cDrop_13, .L cDrop_7 cDrop_12]⟩] := by kernel_rfl
theorem cDrop_ok : cDrop.ok Φ Try.prog := by
  refine call_rule (fun ρ => t4_ok ρ) cDrop_obs ?_
  simp only [cDrop_1, cDrop_2, cDrop_3, cDrop_4, cDrop_5, cDrop_6, cDrop_7, cDrop_8, cDrop_9, cDrop_10, cDrop_11, cDrop_12, cDrop_13, cDrop_14, cDrop_15, cDrop_16, and_imp, List.forall_mem_cons, List.not_mem_nil, false_implies, implies_true, and_true, Ob.ok, holds, Eqn.ok, evB_eq, evB_lt, evB_le, evB_not, evB_app, evB_c, ev_sel, ev_len, ev_v, ev_c, evL_v, evL_app, ev_app, evA_l, evA_i, evA_nil, std_del, decide_eq_true_eq, Bool.not_eq_true', std_rowT, lenR_rowT, rowT_get, aI101, aI102, aL112, aL116, aB130, aB131]
  repeat' apply And.intro
  all_goals intro ρ hR
  all_goals intros
  all_goals first
    | (have hi : invB (ρ.l 0) (ρ.l 1) (ρ.i 3) = true := by with_reducible assumption
       rw [drop_not (by with_reducible assumption)]
       exact ⟨rfl, hi, by with_reducible assumption, rfl, rfl⟩)
    | (have hi : invB (ρ.l 0) (ρ.l 1) (ρ.i 3) = true := by with_reducible assumption
       have hc := inv_cut hi (c := cpuF (ρ.l 0) (ρ.i 1)) (i := atF (ρ.l 0) (ρ.i 1)) (by omega) (by omega) (by omega) (by omega)
       have hl := cutT_len (ρ.l 0) (cpuF (ρ.l 0) (ρ.i 1)) (atF (ρ.l 0) (ρ.i 1))
       rw [drop_has (by with_reducible assumption)]
       exact ⟨by omega, hc.1, by with_reducible assumption, rfl, rfl⟩)
set_option maxRecDepth 100000 in
theorem cList_obs : callObs Φ Try.prog t4 1000 cList.f cList.vs cList.o cList.pc cList.outs = some
  [{pc := [.lt (.v 0) (.len (.v 0)), .le (.c 0) (.v 0), .le (.c 1) (.len (.v 0)), .le (.len (.v 0)) (.c 8), .le (.c 1) (.v 3), .le (.v 3) (.c 64), .c true, .app 130 (.l (.v 0) (.l (.v 1) (.i (.v 3) .nil))), .le (.len (.app 14 (.l (.v 0) (.i (.v 0) .nil)))) (.c 64)], eqs := [.T (.le (.len (.app 14 (.l (.v 0) (.i (.v 0) .nil)))) (.v 3))]}] := by kernel_rfl
theorem cList_ok : cList.ok Φ Try.prog := by
  refine call_rule (fun ρ => t4_ok ρ) cList_obs ?_
  simp only [and_imp, List.forall_mem_cons, List.not_mem_nil, false_implies, implies_true, and_true, Ob.ok, holds, Eqn.ok, evB_lt, evB_le, evB_app, evB_c, ev_len, ev_v, ev_c, evL_v, evL_app, evA_l, evA_i, evA_nil, decide_eq_true_eq, std_rowT, lenR_rowT, aB130]
  repeat' apply And.intro
  all_goals intro ρ hR
  all_goals intros
  all_goals first
    | (have hi : invB (ρ.l 0) (ρ.l 1) (ρ.i 3) = true := by with_reducible assumption
       exact inv_row hi (by omega) (by omega))
theorem t6_ok (ρ : Env) : TblOK Φ ρ Try.prog t6 := addFn_ok (addFn_ok (addFn_ok (addFn_ok (addFn_ok (t4_ok ρ) cNew_ok) cPush_ok) cPop_ok) cDrop_ok) cList_ok
end Go.SF.C21.Q
