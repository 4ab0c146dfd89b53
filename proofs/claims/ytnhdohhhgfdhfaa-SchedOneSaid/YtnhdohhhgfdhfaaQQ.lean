/- The package runq, shown. -/
import Derived.Test.YtnhdohhhgfdhfaaCQ
import Derived.Test.YtnhdohhhgfdhfaaPQ4
import Derived.KernelRfl
namespace Go.SF.C21.Q
open Go Go.SF Go.Proofs
set_option linter.unusedVariables false
set_option linter.unusedSimpArgs false

open Go.SF.C17
set_option maxRecDepth 100000 in
theorem cNew_obs : callObs Φ Try.prog noTbl 1000 cNew.f cNew.vs cNew.o cNew.pc cNew.outs = some
  [{pc := [.not (.lt (.c 64) (.v 3)), .not (.lt (.v 3) (.c 1)), .not (.lt (.c 8) (.v 0)), .not (.lt (.v 0) (.c 1))], eqs := [.T (.eq (.len (.app 5 (.i (.v 0) .nil))) (.v 0)), .T (.app 130 (.l (.app 5 (.i (.v 0) .nil)) (.l (.lit []) (.i (.v 3) .nil))))]}] := by kernel_rfl
theorem cNew_ok : cNew.ok Φ Try.prog := by
  refine call_rule (fun ρ => noTbl_ok) cNew_obs ?_
  simp only [and_imp, List.forall_mem_cons, List.not_mem_nil, false_implies, implies_true, and_true, Ob.ok, holds, Eqn.ok, evB_eq, evB_lt, evB_le, evB_not, evB_and, evB_or, evB_eqL, evB_app, evB_v, evB_c, ev_sel, ev_len, ev_v, ev_c, ev_add, ev_sub, ev_mul, ev_quo, ev_rem, ev_bits, ev_wrap, evL_v, evL_lit, evL_app, ev_app, evA_l, evA_i, evA_nil, std_min, std_max, std_cat, std_take, std_drop, std_row, std_set, std_rep, std_find, std_put, std_del, std_flag, std_unflag, std_clr, std_left, std_copy, ints_cons, ints_nil, ofNat_lit, negSucc_lit, decide_eq_true_eq, Bool.and_eq_true, Bool.or_eq_true, Bool.not_eq_true', Bool.and_eq_false_iff, Bool.or_eq_false_iff, decide_eq_false_iff_not, std_rowT, std_setT, lenR_rowT, rowT_get, aI100, aI101, aI102, aI103, aI104, aI105, aI106, aI107, aI110, aI111, aI112, aI113, aI114, aL110, aL111, aL112, aL113, aL115, aL116, aL120, aL121, aB130, aB131, aB132, aB133, aB134, aB135, aB136, aB199, Bool.not_eq_false']
  repeat' apply And.intro
  all_goals intro ρ hR
  all_goals intros
  all_goals first
    | (exact ⟨by rw [List.length_replicate]; omega, inv_new (by omega)⟩)
set_option maxRecDepth 100000 in
theorem cLay_obs : callObs Φ Try.prog noTbl 1000 cLay.f cLay.vs cLay.o cLay.pc cLay.outs = some
  [{pc := [.le (.c 1) (.len (.v 0)), .le (.len (.v 0)) (.c 8), .le (.c 1) (.v 3), .le (.v 3) (.c 64), .le (.c 0) (.v 0), .lt (.v 0) (.len (.v 0)), .c true, .lt (.len (.app 14 (.l (.v 0) (.i (.v 0) .nil)))) (.c 64)], eqs := [.T (.eq (.len (.app 115 (.l (.v 0) (.i (.v 0) (.i (.v 1) .nil))))) (.len (.v 0))), .I (.len (.app 115 (.l (.v 0) (.i (.v 0) (.i (.v 1) .nil))))) (.len (.v 0)), .L (.app 115 (.l (.v 0) (.i (.v 0) (.i (.v 1) .nil)))) (.app 15 (.l (.v 0) (.i (.v 0) (.l (.app 0 (.l (.app 14 (.l (.v 0) (.i (.v 0) .nil))) (.l (.app 3 (.i (.v 1) .nil)) .nil))) .nil))))]}] := by kernel_rfl
theorem cLay_ok : cLay.ok Φ Try.prog := by
  refine call_rule (fun ρ => noTbl_ok) cLay_obs ?_
  simp only [and_imp, List.forall_mem_cons, List.not_mem_nil, false_implies, implies_true, and_true, Ob.ok, holds, Eqn.ok, evB_eq, evB_lt, evB_le, evB_not, evB_and, evB_or, evB_eqL, evB_app, evB_v, evB_c, ev_sel, ev_len, ev_v, ev_c, ev_add, ev_sub, ev_mul, ev_quo, ev_rem, ev_bits, ev_wrap, evL_v, evL_lit, evL_app, ev_app, evA_l, evA_i, evA_nil, std_min, std_max, std_cat, std_take, std_drop, std_row, std_set, std_rep, std_find, std_put, std_del, std_flag, std_unflag, std_clr, std_left, std_copy, ints_cons, ints_nil, ofNat_lit, negSucc_lit, decide_eq_true_eq, Bool.and_eq_true, Bool.or_eq_true, Bool.not_eq_true', Bool.and_eq_false_iff, Bool.or_eq_false_iff, decide_eq_false_iff_not, std_rowT, std_setT, lenR_rowT, rowT_get, aI100, aI101, aI102, aI103, aI104, aI105, aI106, aI107, aI110, aI111, aI112, aI113, aI114, aL110, aL111, aL112, aL113, aL115, aL116, aL120, aL121, aB130, aB131, aB132, aB133, aB134, aB135, aB136, aB199, Bool.not_eq_false']
  repeat' apply And.intro
  all_goals intro ρ hR
  all_goals intros
  all_goals first
    | (have h := layT_len (ρ.l 0) (ρ.i 0) (ρ.i 1)
       exact ⟨by omega, by omega, (lay_eq _ _ _).symm⟩)
set_option maxRecDepth 100000 in
theorem cCut_obs : callObs Φ Try.prog noTbl 1000 cCut.f cCut.vs cCut.o cCut.pc cCut.outs = some
  [{pc := [.le (.c 1) (.len (.v 0)), .le (.len (.v 0)) (.c 8), .le (.c 1) (.v 3), .le (.v 3) (.c 64), .le (.c 0) (.v 0), .lt (.v 0) (.len (.v 0)), .c true, .le (.c 0) (.v 1), .lt (.v 1) (.len (.app 14 (.l (.v 0) (.i (.v 0) .nil)))), .le (.len (.app 14 (.l (.v 0) (.i (.v 0) .nil)))) (.c 64)], eqs := [.T (.eq (.len (.app 116 (.l (.v 0) (.i (.v 0) (.i (.v 1) .nil))))) (.len (.v 0))), .I (.len (.app 116 (.l (.v 0) (.i (.v 0) (.i (.v 1) .nil))))) (.len (.v 0)), .L (.app 116 (.l (.v 0) (.i (.v 0) (.i (.v 1) .nil)))) (.app 15 (.l (.v 0) (.i (.v 0) (.l (.app 0 (.l (.app 1 (.l (.app 14 (.l (.v 0) (.i (.v 0) .nil))) (.i (.v 1) .nil))) (.l (.app 2 (.l (.app 14 (.l (.v 0) (.i (.v 0) .nil))) (.i (.add (.v 1) (.c 1)) .nil))) .nil))) .nil))))]}] := by kernel_rfl
theorem cCut_ok : cCut.ok Φ Try.prog := by
  refine call_rule (fun ρ => noTbl_ok) cCut_obs ?_
  simp only [and_imp, List.forall_mem_cons, List.not_mem_nil, false_implies, implies_true, and_true, Ob.ok, holds, Eqn.ok, evB_eq, evB_lt, evB_le, evB_not, evB_and, evB_or, evB_eqL, evB_app, evB_v, evB_c, ev_sel, ev_len, ev_v, ev_c, ev_add, ev_sub, ev_mul, ev_quo, ev_rem, ev_bits, ev_wrap, evL_v, evL_lit, evL_app, ev_app, evA_l, evA_i, evA_nil, std_min, std_max, std_cat, std_take, std_drop, std_row, std_set, std_rep, std_find, std_put, std_del, std_flag, std_unflag, std_clr, std_left, std_copy, ints_cons, ints_nil, ofNat_lit, negSucc_lit, decide_eq_true_eq, Bool.and_eq_true, Bool.or_eq_true, Bool.not_eq_true', Bool.and_eq_false_iff, Bool.or_eq_false_iff, decide_eq_false_iff_not, std_rowT, std_setT, lenR_rowT, rowT_get, aI100, aI101, aI102, aI103, aI104, aI105, aI106, aI107, aI110, aI111, aI112, aI113, aI114, aL110, aL111, aL112, aL113, aL115, aL116, aL120, aL121, aB130, aB131, aB132, aB133, aB134, aB135, aB136, aB199, Bool.not_eq_false']
  repeat' apply And.intro
  all_goals intro ρ hR
  all_goals intros
  all_goals first
    | (have h := cutT_len (ρ.l 0) (ρ.i 0) (ρ.i 1)
       exact ⟨by omega, by omega, (cut_eq _ _ _ (by omega)).symm⟩)
set_option maxRecDepth 100000 in
theorem be1_obs : loopObs Φ Try.prog noTbl 1000 be1.f (loopAt Try.prog be1.f be1.id) be1.n be1.T k0 be1.outs = some
  [{pc := [.lt (.len (.app 14 (.l (.v 0) (.i (.v 1) .nil)))) (.len (.app 14 (.l (.v 0) (.i (.v 0) .nil)))), .lt (.v 0) (.len (.v 0)), .le (.c 1) (.len (.v 0)), .le (.len (.v 0)) (.c 8), .le (.c 1) (.v 3), .le (.v 3) (.c 64), .le (.c 0) (.v 0), .le (.v 0) (.len (.v 0)), .le (.c 0) (.v 1), .lt (.v 1) (.len (.v 0))], eqs := [.T (.lt (.sub (.len (.v 0)) (.add (.v 0) (.c 1))) (.sub (.len (.v 0)) (.v 0))), .T (.lt (.c 0) (.sub (.len (.v 0)) (.v 0)))]}, {pc := [.lt (.app 100 (.l (.v 0) (.i (.c 1) (.i (.add (.v 0) (.c 1)) (.i (.v 0) .nil))))) (.len (.v 0)), .le (.c 0) (.app 100 (.l (.v 0) (.i (.c 1) (.i (.add (.v 0) (.c 1)) (.i (.v 0) .nil))))), .lt (.len (.app 14 (.l (.v 0) (.i (.v 1) .nil)))) (.len (.app 14 (.l (.v 0) (.i (.v 0) .nil)))), .lt (.v 0) (.len (.v 0)), .le (.c 1) (.len (.v 0)), .le (.len (.v 0)) (.c 8), .le (.c 1) (.v 3), .le (.v 3) (.c 64), .le (.c 0) (.v 0), .le (.v 0) (.len (.v 0)), .le (.c 0) (.v 1), .lt (.v 1) (.len (.v 0))], eqs := [.T (.le (.c 0) (.app 100 (.l (.v 0) (.i (.c 1) (.i (.v 0) (.i (.v 1) .nil)))))), .T (.lt (.app 100 (.l (.v 0) (.i (.c 1) (.i (.v 0) (.i (.v 1) .nil))))) (.len (.v 0))), .I (.app 100 (.l (.v 0) (.i (.c 1) (.i (.v 0) (.i (.v 1) .nil))))) (.app 100 (.l (.v 0) (.i (.c 1) (.i (.add (.v 0) (.c 1)) (.i (.v 0) .nil)))))]}, {pc := [.not (.lt (.len (.app 14 (.l (.v 0) (.i (.v 1) .nil)))) (.len (.app 14 (.l (.v 0) (.i (.v 0) .nil))))), .lt (.v 0) (.len (.v 0)), .le (.c 1) (.len (.v 0)), .le (.len (.v 0)) (.c 8), .le (.c 1) (.v 3), .le (.v 3) (.c 64), .le (.c 0) (.v 0), .le (.v 0) (.len (.v 0)), .le (.c 0) (.v 1), .lt (.v 1) (.len (.v 0))], eqs := [.T (.lt (.sub (.len (.v 0)) (.add (.v 0) (.c 1))) (.sub (.len (.v 0)) (.v 0))), .T (.lt (.c 0) (.sub (.len (.v 0)) (.v 0)))]}, {pc := [.lt (.app 100 (.l (.v 0) (.i (.c 1) (.i (.add (.v 0) (.c 1)) (.i (.v 1) .nil))))) (.len (.v 0)), .le (.c 0) (.app 100 (.l (.v 0) (.i (.c 1) (.i (.add (.v 0) (.c 1)) (.i (.v 1) .nil))))), .not (.lt (.len (.app 14 (.l (.v 0) (.i (.v 1) .nil)))) (.len (.app 14 (.l (.v 0) (.i (.v 0) .nil))))), .lt (.v 0) (.len (.v 0)), .le (.c 1) (.len (.v 0)), .le (.len (.v 0)) (.c 8), .le (.c 1) (.v 3), .le (.v 3) (.c 64), .le (.c 0) (.v 0), .le (.v 0) (.len (.v 0)), .le (.c 0) (.v 1), .lt (.v 1) (.len (.v 0))], eqs := [.T (.le (.c 0) (.app 100 (.l (.v 0) (.i (.c 1) (.i (.v 0) (.i (.v 1) .nil)))))), .T (.lt (.app 100 (.l (.v 0) (.i (.c 1) (.i (.v 0) (.i (.v 1) .nil))))) (.len (.v 0))), .I (.app 100 (.l (.v 0) (.i (.c 1) (.i (.v 0) (.i (.v 1) .nil))))) (.app 100 (.l (.v 0) (.i (.c 1) (.i (.add (.v 0) (.c 1)) (.i (.v 1) .nil)))))]}, {pc := [.not (.lt (.v 0) (.len (.v 0))), .le (.c 1) (.len (.v 0)), .le (.len (.v 0)) (.c 8), .le (.c 1) (.v 3), .le (.v 3) (.c 64), .le (.c 0) (.v 0), .le (.v 0) (.len (.v 0)), .le (.c 0) (.v 1), .lt (.v 1) (.len (.v 0))], eqs := [.T (.le (.c 0) (.app 100 (.l (.v 0) (.i (.c 1) (.i (.v 0) (.i (.v 1) .nil)))))), .T (.lt (.app 100 (.l (.v 0) (.i (.c 1) (.i (.v 0) (.i (.v 1) .nil))))) (.len (.v 0))), .I (.app 100 (.l (.v 0) (.i (.c 1) (.i (.v 0) (.i (.v 1) .nil))))) (.v 1)]}] := by kernel_rfl
theorem be1_ok : be1.ok Φ Try.prog := by
  refine ⟨by kernel_rfl, loop_rule (fun ρ => noTbl_ok) (loopAt_sub (by kernel_rfl)) be1_obs ?_⟩
  simp only [and_imp, List.forall_mem_cons, List.not_mem_nil, false_implies, implies_true, and_true, Ob.ok, holds, Eqn.ok, evB_eq, evB_lt, evB_le, evB_not, evB_and, evB_or, evB_eqL, evB_app, evB_v, evB_c, ev_sel, ev_len, ev_v, ev_c, ev_add, ev_sub, ev_mul, ev_quo, ev_rem, ev_bits, ev_wrap, evL_v, evL_lit, evL_app, ev_app, evA_l, evA_i, evA_nil, std_min, std_max, std_cat, std_take, std_drop, std_row, std_set, std_rep, std_find, std_put, std_del, std_flag, std_unflag, std_clr, std_left, std_copy, ints_cons, ints_nil, ofNat_lit, negSucc_lit, decide_eq_true_eq, Bool.and_eq_true, Bool.or_eq_true, Bool.not_eq_true', Bool.and_eq_false_iff, Bool.or_eq_false_iff, decide_eq_false_iff_not, std_rowT, std_setT, lenR_rowT, rowT_get, aI100, aI101, aI102, aI103, aI104, aI105, aI106, aI107, aI110, aI111, aI112, aI113, aI114, aL110, aL111, aL112, aL113, aL115, aL116, aL120, aL121, aB130, aB131, aB132, aB133, aB134, aB135, aB136, aB199, Bool.not_eq_false']
  repeat' apply And.intro
  all_goals intro ρ hR
  all_goals intros
  all_goals first
    | (omega)
    | (have e := long_yes (T := ρ.l 0) (c := ρ.i 0) (b := ρ.i 1) (by omega) (by omega) (by omega)
       omega)
    | (have e := long_no (T := ρ.l 0) (c := ρ.i 0) (b := ρ.i 1) (by omega) (by omega) (by omega)
       omega)
    | (have e := best_end (T := ρ.l 0) (s := 1) (c := ρ.i 0) (b := ρ.i 1) (by omega)
       omega)
theorem t1_ok (ρ : Env) : TblOK Φ ρ Try.prog t1 := addLp_ok noTbl_ok be1_ok
set_option maxRecDepth 100000 in
theorem cLong_obs : callObs Φ Try.prog t1 1000 cLong.f cLong.vs cLong.o cLong.pc cLong.outs = some
  [{pc := [.lt (.app 100 (.l (.v 0) (.i (.c 1) (.i (.c 0) (.i (.c 0) .nil))))) (.len (.v 0)), .le (.c 0) (.app 100 (.l (.v 0) (.i (.c 1) (.i (.c 0) (.i (.c 0) .nil))))), .le (.c 1) (.len (.v 0)), .le (.len (.v 0)) (.c 8), .le (.c 1) (.v 3), .le (.v 3) (.c 64), .c true, .app 130 (.l (.v 0) (.l (.v 1) (.i (.v 3) .nil)))], eqs := [.T (.le (.len (.app 14 (.l (.v 0) (.i (.app 100 (.l (.v 0) (.i (.c 1) (.i (.c 0) (.i (.c 0) .nil))))) .nil)))) (.v 3))]}] := by kernel_rfl
theorem cLong_ok : cLong.ok Φ Try.prog := by
  refine call_rule (fun ρ => t1_ok ρ) cLong_obs ?_
  simp only [and_imp, List.forall_mem_cons, List.not_mem_nil, false_implies, implies_true, and_true, Ob.ok, holds, Eqn.ok, evB_eq, evB_lt, evB_le, evB_not, evB_and, evB_or, evB_eqL, evB_app, evB_v, evB_c, ev_sel, ev_len, ev_v, ev_c, ev_add, ev_sub, ev_mul, ev_quo, ev_rem, ev_bits, ev_wrap, evL_v, evL_lit, evL_app, ev_app, evA_l, evA_i, evA_nil, std_min, std_max, std_cat, std_take, std_drop, std_row, std_set, std_rep, std_find, std_put, std_del, std_flag, std_unflag, std_clr, std_left, std_copy, ints_cons, ints_nil, ofNat_lit, negSucc_lit, decide_eq_true_eq, Bool.and_eq_true, Bool.or_eq_true, Bool.not_eq_true', Bool.and_eq_false_iff, Bool.or_eq_false_iff, decide_eq_false_iff_not, std_rowT, std_setT, lenR_rowT, rowT_get, aI100, aI101, aI102, aI103, aI104, aI105, aI106, aI107, aI110, aI111, aI112, aI113, aI114, aL110, aL111, aL112, aL113, aL115, aL116, aL120, aL121, aB130, aB131, aB132, aB133, aB134, aB135, aB136, aB199, Bool.not_eq_false']
  repeat' apply And.intro
  all_goals intro ρ hR
  all_goals intros
  all_goals first
    | (have hi : invB (ρ.l 0) (ρ.l 1) (ρ.i 3) = true := by with_reducible assumption
       exact inv_row hi (by omega) (by omega))
theorem t2_ok (ρ : Env) : TblOK Φ ρ Try.prog t2 := addFn_ok (addFn_ok (addFn_ok (t1_ok ρ) cLong_ok) cLay_ok) cCut_ok
set_option maxRecDepth 100000 in
theorem cPush_obs : callObs Φ Try.prog t2 1000 cPush.f cPush.vs cPush.o cPush.pc cPush.outs = some
  [{pc := [.lt (.v 1) (.c 0), .lt (.v 0) (.len (.v 0)), .le (.c 0) (.v 0), .le (.c 1) (.len (.v 0)), .le (.len (.v 0)) (.c 8), .le (.c 1) (.v 3), .le (.v 3) (.c 64), .c true, .app 130 (.l (.v 0) (.l (.v 1) (.i (.v 3) .nil)))], eqs := [.T (.eq (.len (.app 110 (.l (.v 0) (.i (.v 0) (.i (.v 1) (.i (.v 3) .nil)))))) (.len (.v 0))), .T (.app 130 (.l (.app 110 (.l (.v 0) (.i (.v 0) (.i (.v 1) (.i (.v 3) .nil))))) (.l (.v 1) (.i (.v 3) .nil)))), .I (.app 110 (.l (.v 0) (.i (.v 0) (.i (.v 1) (.i (.v 3) .nil))))) (.c 1), .I (.len (.app 110 (.l (.v 0) (.i (.v 0) (.i (.v 1) (.i (.v 3) .nil)))))) (.len (.v 0)), .L (.app 110 (.l (.v 0) (.i (.v 0) (.i (.v 1) (.i (.v 3) .nil))))) (.v 0)]}, {pc := [.lt (.c 0) (.len (.app 6 (.l (.v 1) (.i (.v 1) .nil)))), .not (.lt (.v 1) (.c 0)), .lt (.v 0) (.len (.v 0)), .le (.c 0) (.v 0), .le (.c 1) (.len (.v 0)), .le (.len (.v 0)) (.c 8), .le (.c 1) (.v 3), .le (.v 3) (.c 64), .c true, .app 130 (.l (.v 0) (.l (.v 1) (.i (.v 3) .nil)))], eqs := [.T (.eq (.len (.app 110 (.l (.v 0) (.i (.v 0) (.i (.v 1) (.i (.v 3) .nil)))))) (.len (.v 0))), .T (.app 130 (.l (.app 110 (.l (.v 0) (.i (.v 0) (.i (.v 1) (.i (.v 3) .nil))))) (.l (.v 1) (.i (.v 3) .nil)))), .I (.app 110 (.l (.v 0) (.i (.v 0) (.i (.v 1) (.i (.v 3) .nil))))) (.c 5), .I (.len (.app 110 (.l (.v 0) (.i (.v 0) (.i (.v 1) (.i (.v 3) .nil)))))) (.len (.v 0)), .L (.app 110 (.l (.v 0) (.i (.v 0) (.i (.v 1) (.i (.v 3) .nil))))) (.v 0)]}, {pc := [.eq (.len (.app 14 (.l (.v 0) (.i (.v 0) .nil)))) (.v 3), .not (.lt (.c 0) (.len (.app 6 (.l (.v 1) (.i (.v 1) .nil))))), .not (.lt (.v 1) (.c 0)), .lt (.v 0) (.len (.v 0)), .le (.c 0) (.v 0), .le (.c 1) (.len (.v 0)), .le (.len (.v 0)) (.c 8), .le (.c 1) (.v 3), .le (.v 3) (.c 64), .c true, .app 130 (.l (.v 0) (.l (.v 1) (.i (.v 3) .nil)))], eqs := [.T (.eq (.len (.app 110 (.l (.v 0) (.i (.v 0) (.i (.v 1) (.i (.v 3) .nil)))))) (.len (.v 0))), .T (.app 130 (.l (.app 110 (.l (.v 0) (.i (.v 0) (.i (.v 1) (.i (.v 3) .nil))))) (.l (.v 1) (.i (.v 3) .nil)))), .I (.app 110 (.l (.v 0) (.i (.v 0) (.i (.v 1) (.i (.v 3) .nil))))) (.c 3), .I (.len (.app 110 (.l (.v 0) (.i (.v 0) (.i (.v 1) (.i (.v 3) .nil)))))) (.len (.v 0)), .L (.app 110 (.l (.v 0) (.i (.v 0) (.i (.v 1) (.i (.v 3) .nil))))) (.v 0)]}, {pc := [.eq (.len (.app 115 (.l (.v 0) (.i (.v 0) (.i (.v 1) .nil))))) (.len (.v 0)), .lt (.len (.app 14 (.l (.v 0) (.i (.v 0) .nil)))) (.c 64), .not (.eq (.len (.app 14 (.l (.v 0) (.i (.v 0) .nil)))) (.v 3)), .not (.lt (.c 0) (.len (.app 6 (.l (.v 1) (.i (.v 1) .nil))))), .not (.lt (.v 1) (.c 0)), .lt (.v 0) (.len (.v 0)), .le (.c 0) (.v 0), .le (.c 1) (.len (.v 0)), .le (.len (.v 0)) (.c 8), .le (.c 1) (.v 3), .le (.v 3) (.c 64), .c true, .app 130 (.l (.v 0) (.l (.v 1) (.i (.v 3) .nil)))], eqs := [.T (.eq (.len (.app 110 (.l (.v 0) (.i (.v 0) (.i (.v 1) (.i (.v 3) .nil)))))) (.len (.v 0))), .T (.app 130 (.l (.app 110 (.l (.v 0) (.i (.v 0) (.i (.v 1) (.i (.v 3) .nil))))) (.l (.app 7 (.l (.v 1) (.i (.v 1) (.i (.v 0) .nil)))) (.i (.v 3) .nil)))), .I (.app 110 (.l (.v 0) (.i (.v 0) (.i (.v 1) (.i (.v 3) .nil))))) (.c 0), .I (.len (.app 110 (.l (.v 0) (.i (.v 0) (.i (.v 1) (.i (.v 3) .nil)))))) (.len (.app 115 (.l (.v 0) (.i (.v 0) (.i (.v 1) .nil))))), .L (.app 110 (.l (.v 0) (.i (.v 0) (.i (.v 1) (.i (.v 3) .nil))))) (.app 115 (.l (.v 0) (.i (.v 0) (.i (.v 1) .nil))))]}, {pc := [.not (.lt (.len (.app 14 (.l (.v 0) (.i (.v 0) .nil)))) (.c 64)), .not (.eq (.len (.app 14 (.l (.v 0) (.i (.v 0) .nil)))) (.v 3)), .not (.lt (.c 0) (.len (.app 6 (.l (.v 1) (.i (.v 1) .nil))))), .not (.lt (.v 1) (.c 0)), .lt (.v 0) (.len (.v 0)), .le (.c 0) (.v 0), .le (.c 1) (.len (.v 0)), .le (.len (.v 0)) (.c 8), .le (.c 1) (.v 3), .le (.v 3) (.c 64), .c true, .app 130 (.l (.v 0) (.l (.v 1) (.i (.v 3) .nil)))], eqs := [.T (.c false)]}, {pc := [.not (.lt (.v 0) (.len (.v 0))), .le (.c 0) (.v 0), .le (.c 1) (.len (.v 0)), .le (.len (.v 0)) (.c 8), .le (.c 1) (.v 3), .le (.v 3) (.c 64), .c true, .app 130 (.l (.v 0) (.l (.v 1) (.i (.v 3) .nil)))], eqs := [.T (.eq (.len (.app 110 (.l (.v 0) (.i (.v 0) (.i (.v 1) (.i (.v 3) .nil)))))) (.len (.v 0))), .T (.app 130 (.l (.app 110 (.l (.v 0) (.i (.v 0) (.i (.v 1) (.i (.v 3) .nil))))) (.l (.v 1) (.i (.v 3) .nil)))), .I (.app 110 (.l (.v 0) (.i (.v 0) (.i (.v 1) (.i (.v 3) .nil))))) (.c 2), .I (.len (.app 110 (.l (.v 0) (.i (.v 0) (.i (.v 1) (.i (.v 3) .nil)))))) (.len (.v 0)), .L (.app 110 (.l (.v 0) (.i (.v 0) (.i (.v 1) (.i (.v 3) .nil))))) (.v 0)]}, {pc := [.not (.le (.c 0) (.v 0)), .le (.c 1) (.len (.v 0)), .le (.len (.v 0)) (.c 8), .le (.c 1) (.v 3), .le (.v 3) (.c 64), .c true, .app 130 (.l (.v 0) (.l (.v 1) (.i (.v 3) .nil)))], eqs := [.T (.eq (.len (.app 110 (.l (.v 0) (.i (.v 0) (.i (.v 1) (.i (.v 3) .nil)))))) (.len (.v 0))), .T (.app 130 (.l (.app 110 (.l (.v 0) (.i (.v 0) (.i (.v 1) (.i (.v 3) .nil))))) (.l (.v 1) (.i (.v 3) .nil)))), .I (.app 110 (.l (.v 0) (.i (.v 0) (.i (.v 1) (.i (.v 3) .nil))))) (.c 2), .I (.len (.app 110 (.l (.v 0) (.i (.v 0) (.i (.v 1) (.i (.v 3) .nil)))))) (.len (.v 0)), .L (.app 110 (.l (.v 0) (.i (.v 0) (.i (.v 1) (.i (.v 3) .nil))))) (.v 0)]}] := by kernel_rfl
theorem cPush_ok : cPush.ok Φ Try.prog := by
  refine call_rule (fun ρ => t2_ok ρ) cPush_obs ?_
  simp only [and_imp, List.forall_mem_cons, List.not_mem_nil, false_implies, implies_true, and_true, Ob.ok, holds, Eqn.ok, evB_eq, evB_lt, evB_le, evB_not, evB_and, evB_or, evB_eqL, evB_app, evB_v, evB_c, ev_sel, ev_len, ev_v, ev_c, ev_add, ev_sub, ev_mul, ev_quo, ev_rem, ev_bits, ev_wrap, evL_v, evL_lit, evL_app, ev_app, evA_l, evA_i, evA_nil, std_min, std_max, std_cat, std_take, std_drop, std_row, std_set, std_rep, std_find, std_put, std_del, std_flag, std_unflag, std_clr, std_left, std_copy, ints_cons, ints_nil, ofNat_lit, negSucc_lit, decide_eq_true_eq, Bool.and_eq_true, Bool.or_eq_true, Bool.not_eq_true', Bool.and_eq_false_iff, Bool.or_eq_false_iff, decide_eq_false_iff_not, std_rowT, std_setT, lenR_rowT, rowT_get, aI100, aI101, aI102, aI103, aI104, aI105, aI106, aI107, aI110, aI111, aI112, aI113, aI114, aL110, aL111, aL112, aL113, aL115, aL116, aL120, aL121, aB130, aB131, aB132, aB133, aB134, aB135, aB136, aB199, Bool.not_eq_false']
  repeat' apply And.intro
  all_goals intro ρ hR
  all_goals intros
  all_goals first
    | (have e := push_range (T := ρ.l 0) (c := ρ.i 0) (id := ρ.i 1) (rm := ρ.i 3) (by omega)
       rw [push_no e (by decide)]
       exact ⟨rfl, by with_reducible assumption, e, rfl, rfl⟩)
    | (have e := push_arg (T := ρ.l 0) (c := ρ.i 0) (id := ρ.i 1) (rm := ρ.i 3) (by omega) (by omega) (by omega)
       rw [push_no e (by decide)]
       exact ⟨rfl, by with_reducible assumption, e, rfl, rfl⟩)
    | (have hi : invB (ρ.l 0) (ρ.l 1) (ρ.i 3) = true := by with_reducible assumption
       have hM : (ρ.l 1).Pairwise (fun a b => hdK a < hdK b) := hR.keys 3 rfl rfl
       have hk : hasB (ρ.l 0) (ρ.i 1) = true := has_of hi hM (by with_reducible assumption)
       have e := push_twice (T := ρ.l 0) (c := ρ.i 0) (id := ρ.i 1) (rm := ρ.i 3) (by omega) (by omega) (by omega) hk
       rw [push_no e (by decide)]
       exact ⟨rfl, by with_reducible assumption, e, rfl, rfl⟩)
    | (have hi : invB (ρ.l 0) (ρ.l 1) (ρ.i 3) = true := by with_reducible assumption
       have hM : (ρ.l 1).Pairwise (fun a b => hdK a < hdK b) := hR.keys 3 rfl rfl
       have hk : hasB (ρ.l 0) (ρ.i 1) = false := has_not hi hM (by with_reducible assumption)
       have e := push_full (T := ρ.l 0) (c := ρ.i 0) (id := ρ.i 1) (rm := ρ.i 3) (by omega) (by omega) (by omega) hk (by omega)
       rw [push_no e (by decide)]
       exact ⟨rfl, by with_reducible assumption, e, rfl, rfl⟩)
    | (have hi : invB (ρ.l 0) (ρ.l 1) (ρ.i 3) = true := by with_reducible assumption
       have hM : (ρ.l 1).Pairwise (fun a b => hdK a < hdK b) := hR.keys 3 rfl rfl
       have hk : hasB (ρ.l 0) (ρ.i 1) = false := has_not hi hM (by with_reducible assumption)
       obtain ⟨e, e2⟩ := push_ok (T := ρ.l 0) (c := ρ.i 0) (id := ρ.i 1) (rm := ρ.i 3) (by omega) (by omega) (by omega) hk (by omega)
       have hl := layT_len (ρ.l 0) (ρ.i 0) (ρ.i 1)
       have hr := inv_row hi (c := ρ.i 0) (by omega) (by omega)
       rw [e2]
       exact ⟨by omega, inv_lay hi hk (by omega) (by omega) (by omega), e, rfl, rfl⟩)
    | (have hi : invB (ρ.l 0) (ρ.l 1) (ρ.i 3) = true := by with_reducible assumption
       have hr := inv_row hi (c := ρ.i 0) (by omega) (by omega)
       exfalso
       omega)
set_option maxRecDepth 100000 in
theorem wh0_obs : loopObs Φ Try.prog t2 1000 wh0.f (loopAt Try.prog wh0.f wh0.id) wh0.n wh0.T k1 wh0.outs = some
  [{pc := [.eq (.sel (.app 14 (.l (.v 0) (.i (.v 0) .nil))) (.v 2) 0) (.v 1), .lt (.v 2) (.len (.app 14 (.l (.v 0) (.i (.v 0) .nil)))), .le (.c 1) (.len (.v 0)), .le (.len (.v 0)) (.c 8), .le (.c 1) (.v 3), .le (.v 3) (.c 64), .le (.c 0) (.v 0), .lt (.v 0) (.len (.v 0)), .le (.c 0) (.v 2), .c true, .lt (.app 103 (.l (.v 0) (.i (.v 0) (.i (.v 1) (.i (.v 2) .nil))))) (.len (.app 14 (.l (.v 0) (.i (.v 0) .nil)))), .le (.len (.app 14 (.l (.v 0) (.i (.v 0) .nil)))) (.c 64)], eqs := [.I (.app 103 (.l (.v 0) (.i (.v 0) (.i (.v 1) (.i (.v 2) .nil))))) (.v 2)]}, {pc := [.not (.eq (.sel (.app 14 (.l (.v 0) (.i (.v 0) .nil))) (.v 2) 0) (.v 1)), .lt (.v 2) (.len (.app 14 (.l (.v 0) (.i (.v 0) .nil)))), .le (.c 1) (.len (.v 0)), .le (.len (.v 0)) (.c 8), .le (.c 1) (.v 3), .le (.v 3) (.c 64), .le (.c 0) (.v 0), .lt (.v 0) (.len (.v 0)), .le (.c 0) (.v 2), .c true, .lt (.app 103 (.l (.v 0) (.i (.v 0) (.i (.v 1) (.i (.v 2) .nil))))) (.len (.app 14 (.l (.v 0) (.i (.v 0) .nil)))), .le (.len (.app 14 (.l (.v 0) (.i (.v 0) .nil)))) (.c 64)], eqs := [.T (.lt (.sub (.len (.app 14 (.l (.v 0) (.i (.v 0) .nil)))) (.add (.v 2) (.c 1))) (.sub (.len (.app 14 (.l (.v 0) (.i (.v 0) .nil)))) (.v 2))), .T (.lt (.c 0) (.sub (.len (.app 14 (.l (.v 0) (.i (.v 0) .nil)))) (.v 2))), .T (.lt (.app 103 (.l (.v 0) (.i (.v 0) (.i (.v 1) (.i (.add (.v 2) (.c 1)) .nil))))) (.len (.app 14 (.l (.v 0) (.i (.v 0) .nil)))))]}, {pc := [.not (.eq (.sel (.app 14 (.l (.v 0) (.i (.v 0) .nil))) (.v 2) 0) (.v 1)), .lt (.v 2) (.len (.app 14 (.l (.v 0) (.i (.v 0) .nil)))), .le (.c 1) (.len (.v 0)), .le (.len (.v 0)) (.c 8), .le (.c 1) (.v 3), .le (.v 3) (.c 64), .le (.c 0) (.v 0), .lt (.v 0) (.len (.v 0)), .le (.c 0) (.v 2), .c true, .lt (.app 103 (.l (.v 0) (.i (.v 0) (.i (.v 1) (.i (.v 2) .nil))))) (.len (.app 14 (.l (.v 0) (.i (.v 0) .nil)))), .le (.len (.app 14 (.l (.v 0) (.i (.v 0) .nil)))) (.c 64)], eqs := [.I (.app 103 (.l (.v 0) (.i (.v 0) (.i (.v 1) (.i (.v 2) .nil))))) (.app 103 (.l (.v 0) (.i (.v 0) (.i (.v 1) (.i (.add (.v 2) (.c 1)) .nil)))))]}, {pc := [.not (.lt (.v 2) (.len (.app 14 (.l (.v 0) (.i (.v 0) .nil))))), .le (.c 1) (.len (.v 0)), .le (.len (.v 0)) (.c 8), .le (.c 1) (.v 3), .le (.v 3) (.c 64), .le (.c 0) (.v 0), .lt (.v 0) (.len (.v 0)), .le (.c 0) (.v 2), .c true, .lt (.app 103 (.l (.v 0) (.i (.v 0) (.i (.v 1) (.i (.v 2) .nil))))) (.len (.app 14 (.l (.v 0) (.i (.v 0) .nil)))), .le (.len (.app 14 (.l (.v 0) (.i (.v 0) .nil)))) (.c 64)], eqs := [.T (.c false)]}] := by kernel_rfl
theorem wh0_ok : wh0.ok Φ Try.prog := by
  refine ⟨by kernel_rfl, loop_rule (fun ρ => t2_ok ρ) (loopAt_sub (by kernel_rfl)) wh0_obs ?_⟩
  simp only [and_imp, List.forall_mem_cons, List.not_mem_nil, false_implies, implies_true, and_true, Ob.ok, holds, Eqn.ok, evB_eq, evB_lt, evB_le, evB_not, evB_and, evB_or, evB_eqL, evB_app, evB_v, evB_c, ev_sel, ev_len, ev_v, ev_c, ev_add, ev_sub, ev_mul, ev_quo, ev_rem, ev_bits, ev_wrap, evL_v, evL_lit, evL_app, ev_app, evA_l, evA_i, evA_nil, std_min, std_max, std_cat, std_take, std_drop, std_row, std_set, std_rep, std_find, std_put, std_del, std_flag, std_unflag, std_clr, std_left, std_copy, ints_cons, ints_nil, ofNat_lit, negSucc_lit, decide_eq_true_eq, Bool.and_eq_true, Bool.or_eq_true, Bool.not_eq_true', Bool.and_eq_false_iff, Bool.or_eq_false_iff, decide_eq_false_iff_not, std_rowT, std_setT, lenR_rowT, rowT_get, aI100, aI101, aI102, aI103, aI104, aI105, aI106, aI107, aI110, aI111, aI112, aI113, aI114, aL110, aL111, aL112, aL113, aL115, aL116, aL120, aL121, aB130, aB131, aB132, aB133, aB134, aB135, aB136, aB199, Bool.not_eq_false']
  repeat' apply And.intro
  all_goals intro ρ hR
  all_goals intros
  all_goals first
    | (exact atG_stop (T := ρ.l 0) (by omega) (by omega) (by with_reducible assumption))
    | (have e := atG_step (T := ρ.l 0) (c := ρ.i 0) (i := ρ.i 2) (id := ρ.i 1) (by omega) (by omega) (by with_reducible assumption)
       omega)
    | (have e := atG_ge (T := ρ.l 0) (c := ρ.i 0) (i := ρ.i 2) (id := ρ.i 1)
       exfalso
       omega)
theorem t3_ok (ρ : Env) : TblOK Φ ρ Try.prog t3 := addLp_ok (t2_ok ρ) wh0_ok
set_option maxRecDepth 100000 in
theorem cWhere_obs : callObs Φ Try.prog t3 1000 cWhere.f cWhere.vs cWhere.o cWhere.pc cWhere.outs = some
  [{pc := [.eq (.sel (.app 14 (.l (.v 0) (.i (.sel (.app 6 (.l (.v 1) (.i (.v 1) .nil))) (.c 0) 1) .nil))) (.c 0) 0) (.v 1), .lt (.c 0) (.len (.app 14 (.l (.v 0) (.i (.sel (.app 6 (.l (.v 1) (.i (.v 1) .nil))) (.c 0) 1) .nil)))), .lt (.sel (.app 6 (.l (.v 1) (.i (.v 1) .nil))) (.c 0) 1) (.len (.v 0)), .le (.c 0) (.sel (.app 6 (.l (.v 1) (.i (.v 1) .nil))) (.c 0) 1), .lt (.c 0) (.len (.app 6 (.l (.v 1) (.i (.v 1) .nil)))), .le (.c 1) (.len (.v 0)), .le (.len (.v 0)) (.c 8), .le (.c 1) (.v 3), .le (.v 3) (.c 64), .c true, .app 130 (.l (.v 0) (.l (.v 1) (.i (.v 3) .nil)))], eqs := [.T (.app 131 (.l (.v 0) (.i (.v 1) .nil))), .T (.le (.c 0) (.app 101 (.l (.v 0) (.i (.v 1) .nil)))), .T (.lt (.app 101 (.l (.v 0) (.i (.v 1) .nil))) (.len (.v 0))), .T (.le (.c 0) (.app 102 (.l (.v 0) (.i (.v 1) .nil)))), .T (.lt (.app 102 (.l (.v 0) (.i (.v 1) .nil))) (.len (.app 14 (.l (.v 0) (.i (.app 101 (.l (.v 0) (.i (.v 1) .nil))) .nil))))), .T (.le (.len (.app 14 (.l (.v 0) (.i (.app 101 (.l (.v 0) (.i (.v 1) .nil))) .nil)))) (.v 3)), .T (.eq (.sel (.app 14 (.l (.v 0) (.i (.app 101 (.l (.v 0) (.i (.v 1) .nil))) .nil))) (.app 102 (.l (.v 0) (.i (.v 1) .nil))) 0) (.v 1)), .I (.app 101 (.l (.v 0) (.i (.v 1) .nil))) (.sel (.app 6 (.l (.v 1) (.i (.v 1) .nil))) (.c 0) 1), .I (.app 102 (.l (.v 0) (.i (.v 1) .nil))) (.c 0)]}, {pc := [.lt (.app 103 (.l (.v 0) (.i (.sel (.app 6 (.l (.v 1) (.i (.v 1) .nil))) (.c 0) 1) (.i (.v 1) (.i (.c 1) .nil))))) (.len (.app 14 (.l (.v 0) (.i (.sel (.app 6 (.l (.v 1) (.i (.v 1) .nil))) (.c 0) 1) .nil)))), .le (.len (.app 14 (.l (.v 0) (.i (.sel (.app 6 (.l (.v 1) (.i (.v 1) .nil))) (.c 0) 1) .nil)))) (.c 64), .not (.eq (.sel (.app 14 (.l (.v 0) (.i (.sel (.app 6 (.l (.v 1) (.i (.v 1) .nil))) (.c 0) 1) .nil))) (.c 0) 0) (.v 1)), .lt (.c 0) (.len (.app 14 (.l (.v 0) (.i (.sel (.app 6 (.l (.v 1) (.i (.v 1) .nil))) (.c 0) 1) .nil)))), .lt (.sel (.app 6 (.l (.v 1) (.i (.v 1) .nil))) (.c 0) 1) (.len (.v 0)), .le (.c 0) (.sel (.app 6 (.l (.v 1) (.i (.v 1) .nil))) (.c 0) 1), .lt (.c 0) (.len (.app 6 (.l (.v 1) (.i (.v 1) .nil)))), .le (.c 1) (.len (.v 0)), .le (.len (.v 0)) (.c 8), .le (.c 1) (.v 3), .le (.v 3) (.c 64), .c true, .app 130 (.l (.v 0) (.l (.v 1) (.i (.v 3) .nil)))], eqs := [.T (.app 131 (.l (.v 0) (.i (.v 1) .nil))), .T (.le (.c 0) (.app 101 (.l (.v 0) (.i (.v 1) .nil)))), .T (.lt (.app 101 (.l (.v 0) (.i (.v 1) .nil))) (.len (.v 0))), .T (.le (.c 0) (.app 102 (.l (.v 0) (.i (.v 1) .nil)))), .T (.lt (.app 102 (.l (.v 0) (.i (.v 1) .nil))) (.len (.app 14 (.l (.v 0) (.i (.app 101 (.l (.v 0) (.i (.v 1) .nil))) .nil))))), .T (.le (.len (.app 14 (.l (.v 0) (.i (.app 101 (.l (.v 0) (.i (.v 1) .nil))) .nil)))) (.v 3)), .T (.eq (.sel (.app 14 (.l (.v 0) (.i (.app 101 (.l (.v 0) (.i (.v 1) .nil))) .nil))) (.app 102 (.l (.v 0) (.i (.v 1) .nil))) 0) (.v 1)), .I (.app 101 (.l (.v 0) (.i (.v 1) .nil))) (.sel (.app 6 (.l (.v 1) (.i (.v 1) .nil))) (.c 0) 1), .I (.app 102 (.l (.v 0) (.i (.v 1) .nil))) (.app 103 (.l (.v 0) (.i (.sel (.app 6 (.l (.v 1) (.i (.v 1) .nil))) (.c 0) 1) (.i (.v 1) (.i (.c 1) .nil)))))]}, {pc := [.not (.lt (.app 103 (.l (.v 0) (.i (.sel (.app 6 (.l (.v 1) (.i (.v 1) .nil))) (.c 0) 1) (.i (.v 1) (.i (.c 1) .nil))))) (.len (.app 14 (.l (.v 0) (.i (.sel (.app 6 (.l (.v 1) (.i (.v 1) .nil))) (.c 0) 1) .nil))))), .not (.eq (.sel (.app 14 (.l (.v 0) (.i (.sel (.app 6 (.l (.v 1) (.i (.v 1) .nil))) (.c 0) 1) .nil))) (.c 0) 0) (.v 1)), .lt (.c 0) (.len (.app 14 (.l (.v 0) (.i (.sel (.app 6 (.l (.v 1) (.i (.v 1) .nil))) (.c 0) 1) .nil)))), .lt (.sel (.app 6 (.l (.v 1) (.i (.v 1) .nil))) (.c 0) 1) (.len (.v 0)), .le (.c 0) (.sel (.app 6 (.l (.v 1) (.i (.v 1) .nil))) (.c 0) 1), .lt (.c 0) (.len (.app 6 (.l (.v 1) (.i (.v 1) .nil)))), .le (.c 1) (.len (.v 0)), .le (.len (.v 0)) (.c 8), .le (.c 1) (.v 3), .le (.v 3) (.c 64), .c true, .app 130 (.l (.v 0) (.l (.v 1) (.i (.v 3) .nil)))], eqs := [.T (.c false)]}, {pc := [.not (.le (.len (.app 14 (.l (.v 0) (.i (.sel (.app 6 (.l (.v 1) (.i (.v 1) .nil))) (.c 0) 1) .nil)))) (.c 64)), .not (.eq (.sel (.app 14 (.l (.v 0) (.i (.sel (.app 6 (.l (.v 1) (.i (.v 1) .nil))) (.c 0) 1) .nil))) (.c 0) 0) (.v 1)), .lt (.c 0) (.len (.app 14 (.l (.v 0) (.i (.sel (.app 6 (.l (.v 1) (.i (.v 1) .nil))) (.c 0) 1) .nil)))), .lt (.sel (.app 6 (.l (.v 1) (.i (.v 1) .nil))) (.c 0) 1) (.len (.v 0)), .le (.c 0) (.sel (.app 6 (.l (.v 1) (.i (.v 1) .nil))) (.c 0) 1), .lt (.c 0) (.len (.app 6 (.l (.v 1) (.i (.v 1) .nil)))), .le (.c 1) (.len (.v 0)), .le (.len (.v 0)) (.c 8), .le (.c 1) (.v 3), .le (.v 3) (.c 64), .c true, .app 130 (.l (.v 0) (.l (.v 1) (.i (.v 3) .nil)))], eqs := [.T (.c false)]}, {pc := [.not (.lt (.c 0) (.len (.app 14 (.l (.v 0) (.i (.sel (.app 6 (.l (.v 1) (.i (.v 1) .nil))) (.c 0) 1) .nil))))), .lt (.sel (.app 6 (.l (.v 1) (.i (.v 1) .nil))) (.c 0) 1) (.len (.v 0)), .le (.c 0) (.sel (.app 6 (.l (.v 1) (.i (.v 1) .nil))) (.c 0) 1), .lt (.c 0) (.len (.app 6 (.l (.v 1) (.i (.v 1) .nil)))), .le (.c 1) (.len (.v 0)), .le (.len (.v 0)) (.c 8), .le (.c 1) (.v 3), .le (.v 3) (.c 64), .c true, .app 130 (.l (.v 0) (.l (.v 1) (.i (.v 3) .nil)))], eqs := [.T (.c false)]}, {pc := [.not (.lt (.sel (.app 6 (.l (.v 1) (.i (.v 1) .nil))) (.c 0) 1) (.len (.v 0))), .le (.c 0) (.sel (.app 6 (.l (.v 1) (.i (.v 1) .nil))) (.c 0) 1), .lt (.c 0) (.len (.app 6 (.l (.v 1) (.i (.v 1) .nil)))), .le (.c 1) (.len (.v 0)), .le (.len (.v 0)) (.c 8), .le (.c 1) (.v 3), .le (.v 3) (.c 64), .c true, .app 130 (.l (.v 0) (.l (.v 1) (.i (.v 3) .nil)))], eqs := [.T (.c false)]}, {pc := [.not (.le (.c 0) (.sel (.app 6 (.l (.v 1) (.i (.v 1) .nil))) (.c 0) 1)), .lt (.c 0) (.len (.app 6 (.l (.v 1) (.i (.v 1) .nil)))), .le (.c 1) (.len (.v 0)), .le (.len (.v 0)) (.c 8), .le (.c 1) (.v 3), .le (.v 3) (.c 64), .c true, .app 130 (.l (.v 0) (.l (.v 1) (.i (.v 3) .nil)))], eqs := [.T (.c false)]}, {pc := [.not (.lt (.c 0) (.len (.app 6 (.l (.v 1) (.i (.v 1) .nil))))), .le (.c 1) (.len (.v 0)), .le (.len (.v 0)) (.c 8), .le (.c 1) (.v 3), .le (.v 3) (.c 64), .c true, .app 130 (.l (.v 0) (.l (.v 1) (.i (.v 3) .nil)))], eqs := [.T (.not (.app 131 (.l (.v 0) (.i (.v 1) .nil))))]}] := by kernel_rfl
theorem cWhere_ok : cWhere.ok Φ Try.prog := by
  refine call_rule (fun ρ => t3_ok ρ) cWhere_obs ?_
  simp only [and_imp, List.forall_mem_cons, List.not_mem_nil, false_implies, implies_true, and_true, Ob.ok, holds, Eqn.ok, evB_eq, evB_lt, evB_le, evB_not, evB_and, evB_or, evB_eqL, evB_app, evB_v, evB_c, ev_sel, ev_len, ev_v, ev_c, ev_add, ev_sub, ev_mul, ev_quo, ev_rem, ev_bits, ev_wrap, evL_v, evL_lit, evL_app, ev_app, evA_l, evA_i, evA_nil, std_min, std_max, std_cat, std_take, std_drop, std_row, std_set, std_rep, std_find, std_put, std_del, std_flag, std_unflag, std_clr, std_left, std_copy, ints_cons, ints_nil, ofNat_lit, negSucc_lit, decide_eq_true_eq, Bool.and_eq_true, Bool.or_eq_true, Bool.not_eq_true', Bool.and_eq_false_iff, Bool.or_eq_false_iff, decide_eq_false_iff_not, std_rowT, std_setT, lenR_rowT, rowT_get, aI100, aI101, aI102, aI103, aI104, aI105, aI106, aI107, aI110, aI111, aI112, aI113, aI114, aL110, aL111, aL112, aL113, aL115, aL116, aL120, aL121, aB130, aB131, aB132, aB133, aB134, aB135, aB136, aB199, Bool.not_eq_false']
  repeat' apply And.intro
  all_goals intro ρ hR
  all_goals intros
  all_goals first
    | (have hi : invB (ρ.l 0) (ρ.l 1) (ρ.i 3) = true := by with_reducible assumption
       have hM : (ρ.l 1).Pairwise (fun a b => hdK a < hdK b) := hR.keys 3 rfl rfl
       have hk : hasB (ρ.l 0) (ρ.i 1) = true := has_of hi hM (by with_reducible assumption)
       rw [where_has hi hM hk] at *
       obtain ⟨c0, c1, c2⟩ := cpu_row hk
       obtain ⟨a0, a1, a2⟩ := at_row hk
       have hl := inv_row hi c0 c1
       have hg := atG0 (T := ρ.l 0) (id := ρ.i 1)
       have hz := atG_stop (T := ρ.l 0) (c := cpuF (ρ.l 0) (ρ.i 1)) (i := 0) (id := ρ.i 1) (by omega) (by omega) (by with_reducible assumption)
       exact ⟨hk, by omega, by omega, by omega, by omega, by omega, a2, by omega, by omega⟩)
    | (have hi : invB (ρ.l 0) (ρ.l 1) (ρ.i 3) = true := by with_reducible assumption
       have hM : (ρ.l 1).Pairwise (fun a b => hdK a < hdK b) := hR.keys 3 rfl rfl
       have hk : hasB (ρ.l 0) (ρ.i 1) = true := has_of hi hM (by with_reducible assumption)
       rw [where_has hi hM hk] at *
       obtain ⟨c0, c1, c2⟩ := cpu_row hk
       obtain ⟨a0, a1, a2⟩ := at_row hk
       have hl := inv_row hi c0 c1
       have hg := atG0 (T := ρ.l 0) (id := ρ.i 1)
       have hz := atG_step (T := ρ.l 0) (c := cpuF (ρ.l 0) (ρ.i 1)) (i := 0) (id := ρ.i 1) (by omega) (by omega) (by with_reducible assumption)
       rw [show (0 : Int) + 1 = 1 from rfl] at hz
       exact ⟨hk, by omega, by omega, by omega, by omega, by omega, a2, by omega, by omega⟩)
    | (have hi : invB (ρ.l 0) (ρ.l 1) (ρ.i 3) = true := by with_reducible assumption
       have hM : (ρ.l 1).Pairwise (fun a b => hdK a < hdK b) := hR.keys 3 rfl rfl
       have hk : hasB (ρ.l 0) (ρ.i 1) = true := has_of hi hM (by with_reducible assumption)
       rw [where_has hi hM hk] at *
       obtain ⟨c0, c1, c2⟩ := cpu_row hk
       obtain ⟨a0, a1, a2⟩ := at_row hk
       have hl := inv_row hi c0 c1
       have hg := atG0 (T := ρ.l 0) (id := ρ.i 1)
       have hz := atG_step (T := ρ.l 0) (c := cpuF (ρ.l 0) (ρ.i 1)) (i := 0) (id := ρ.i 1) (by omega) (by omega) (by with_reducible assumption)
       rw [show (0 : Int) + 1 = 1 from rfl] at hz
       exfalso
       omega)
    | (have hi : invB (ρ.l 0) (ρ.l 1) (ρ.i 3) = true := by with_reducible assumption
       have hM : (ρ.l 1).Pairwise (fun a b => hdK a < hdK b) := hR.keys 3 rfl rfl
       have hk : hasB (ρ.l 0) (ρ.i 1) = true := has_of hi hM (by with_reducible assumption)
       rw [where_has hi hM hk] at *
       obtain ⟨c0, c1, c2⟩ := cpu_row hk
       obtain ⟨a0, a1, a2⟩ := at_row hk
       have hl := inv_row hi c0 c1
       have hg := atG0 (T := ρ.l 0) (id := ρ.i 1)
       exfalso
       omega)
    | (have hi : invB (ρ.l 0) (ρ.l 1) (ρ.i 3) = true := by with_reducible assumption
       have hM : (ρ.l 1).Pairwise (fun a b => hdK a < hdK b) := hR.keys 3 rfl rfl
       exact has_not hi hM (by with_reducible assumption))
theorem t4_ok (ρ : Env) : TblOK Φ ρ Try.prog t4 := addFn_ok (t3_ok ρ) cWhere_ok
set_option maxRecDepth 100000 in
theorem cPop_obs : callObs Φ Try.prog t4 1000 cPop.f cPop.vs cPop.o cPop.pc cPop.outs = some
  [{pc := [.eq (.len (.app 116 (.l (.v 0) (.i (.v 0) (.i (.c 0) .nil))))) (.len (.v 0)), .le (.len (.app 14 (.l (.v 0) (.i (.v 0) .nil)))) (.c 64), .lt (.c 0) (.len (.app 14 (.l (.v 0) (.i (.v 0) .nil)))), .lt (.v 0) (.len (.v 0)), .le (.c 0) (.v 0), .le (.c 1) (.len (.v 0)), .le (.len (.v 0)) (.c 8), .le (.c 1) (.v 3), .le (.v 3) (.c 64), .c true, .app 130 (.l (.v 0) (.l (.v 1) (.i (.v 3) .nil)))], eqs := [.T (.app 132 (.l (.v 0) .nil)), .T (.le (.c 0) (.app 111 (.l (.v 0) (.i (.v 0) .nil)))), .T (.lt (.app 111 (.l (.v 0) (.i (.v 0) .nil))) (.len (.v 0))), .T (.eq (.len (.app 111 (.l (.v 0) (.i (.v 0) .nil)))) (.len (.v 0))), .T (.app 130 (.l (.app 111 (.l (.v 0) (.i (.v 0) .nil))) (.l (.app 8 (.l (.v 1) (.i (.sel (.app 14 (.l (.v 0) (.i (.v 0) .nil))) (.c 0) 0) .nil))) (.i (.v 3) .nil)))), .I (.app 112 (.l (.v 0) (.i (.v 0) .nil))) (.sel (.app 14 (.l (.v 0) (.i (.v 0) .nil))) (.c 0) 0), .I (.app 111 (.l (.v 0) (.i (.v 0) .nil))) (.v 0), .I (.len (.app 111 (.l (.v 0) (.i (.v 0) .nil)))) (.len (.app 116 (.l (.v 0) (.i (.v 0) (.i (.c 0) .nil))))), .L (.app 111 (.l (.v 0) (.i (.v 0) .nil))) (.app 116 (.l (.v 0) (.i (.v 0) (.i (.c 0) .nil))))]}, {pc := [.not (.le (.len (.app 14 (.l (.v 0) (.i (.v 0) .nil)))) (.c 64)), .lt (.c 0) (.len (.app 14 (.l (.v 0) (.i (.v 0) .nil)))), .lt (.v 0) (.len (.v 0)), .le (.c 0) (.v 0), .le (.c 1) (.len (.v 0)), .le (.len (.v 0)) (.c 8), .le (.c 1) (.v 3), .le (.v 3) (.c 64), .c true, .app 130 (.l (.v 0) (.l (.v 1) (.i (.v 3) .nil)))], eqs := [.T (.c false)]}, {pc := [.eq (.len (.app 14 (.l (.v 0) (.i (.app 100 (.l (.v 0) (.i (.c 1) (.i (.c 0) (.i (.c 0) .nil))))) .nil)))) (.c 0), .le (.len (.app 14 (.l (.v 0) (.i (.app 100 (.l (.v 0) (.i (.c 1) (.i (.c 0) (.i (.c 0) .nil))))) .nil)))) (.v 3), .lt (.app 100 (.l (.v 0) (.i (.c 1) (.i (.c 0) (.i (.c 0) .nil))))) (.len (.v 0)), .le (.c 0) (.app 100 (.l (.v 0) (.i (.c 1) (.i (.c 0) (.i (.c 0) .nil))))), .not (.lt (.c 0) (.len (.app 14 (.l (.v 0) (.i (.v 0) .nil))))), .lt (.v 0) (.len (.v 0)), .le (.c 0) (.v 0), .le (.c 1) (.len (.v 0)), .le (.len (.v 0)) (.c 8), .le (.c 1) (.v 3), .le (.v 3) (.c 64), .c true, .app 130 (.l (.v 0) (.l (.v 1) (.i (.v 3) .nil)))], eqs := [.T (.not (.app 132 (.l (.v 0) .nil)))]}, {pc := [.eq (.len (.app 116 (.l (.v 0) (.i (.app 100 (.l (.v 0) (.i (.c 1) (.i (.c 0) (.i (.c 0) .nil))))) (.i (.sub (.len (.app 14 (.l (.v 0) (.i (.app 100 (.l (.v 0) (.i (.c 1) (.i (.c 0) (.i (.c 0) .nil))))) .nil)))) (.c 1)) .nil))))) (.len (.v 0)), .le (.c 0) (.sub (.len (.app 14 (.l (.v 0) (.i (.app 100 (.l (.v 0) (.i (.c 1) (.i (.c 0) (.i (.c 0) .nil))))) .nil)))) (.c 1)), .not (.eq (.len (.app 14 (.l (.v 0) (.i (.app 100 (.l (.v 0) (.i (.c 1) (.i (.c 0) (.i (.c 0) .nil))))) .nil)))) (.c 0)), .le (.len (.app 14 (.l (.v 0) (.i (.app 100 (.l (.v 0) (.i (.c 1) (.i (.c 0) (.i (.c 0) .nil))))) .nil)))) (.v 3), .lt (.app 100 (.l (.v 0) (.i (.c 1) (.i (.c 0) (.i (.c 0) .nil))))) (.len (.v 0)), .le (.c 0) (.app 100 (.l (.v 0) (.i (.c 1) (.i (.c 0) (.i (.c 0) .nil))))), .not (.lt (.c 0) (.len (.app 14 (.l (.v 0) (.i (.v 0) .nil))))), .lt (.v 0) (.len (.v 0)), .le (.c 0) (.v 0), .le (.c 1) (.len (.v 0)), .le (.len (.v 0)) (.c 8), .le (.c 1) (.v 3), .le (.v 3) (.c 64), .c true, .app 130 (.l (.v 0) (.l (.v 1) (.i (.v 3) .nil)))], eqs := [.T (.app 132 (.l (.v 0) .nil)), .T (.le (.c 0) (.app 111 (.l (.v 0) (.i (.v 0) .nil)))), .T (.lt (.app 111 (.l (.v 0) (.i (.v 0) .nil))) (.len (.v 0))), .T (.eq (.len (.app 111 (.l (.v 0) (.i (.v 0) .nil)))) (.len (.v 0))), .T (.app 130 (.l (.app 111 (.l (.v 0) (.i (.v 0) .nil))) (.l (.app 8 (.l (.v 1) (.i (.sel (.app 14 (.l (.v 0) (.i (.app 100 (.l (.v 0) (.i (.c 1) (.i (.c 0) (.i (.c 0) .nil))))) .nil))) (.sub (.len (.app 14 (.l (.v 0) (.i (.app 100 (.l (.v 0) (.i (.c 1) (.i (.c 0) (.i (.c 0) .nil))))) .nil)))) (.c 1)) 0) .nil))) (.i (.v 3) .nil)))), .I (.app 112 (.l (.v 0) (.i (.v 0) .nil))) (.sel (.app 14 (.l (.v 0) (.i (.app 100 (.l (.v 0) (.i (.c 1) (.i (.c 0) (.i (.c 0) .nil))))) .nil))) (.sub (.len (.app 14 (.l (.v 0) (.i (.app 100 (.l (.v 0) (.i (.c 1) (.i (.c 0) (.i (.c 0) .nil))))) .nil)))) (.c 1)) 0), .I (.app 111 (.l (.v 0) (.i (.v 0) .nil))) (.app 100 (.l (.v 0) (.i (.c 1) (.i (.c 0) (.i (.c 0) .nil))))), .I (.len (.app 111 (.l (.v 0) (.i (.v 0) .nil)))) (.len (.app 116 (.l (.v 0) (.i (.app 100 (.l (.v 0) (.i (.c 1) (.i (.c 0) (.i (.c 0) .nil))))) (.i (.sub (.len (.app 14 (.l (.v 0) (.i (.app 100 (.l (.v 0) (.i (.c 1) (.i (.c 0) (.i (.c 0) .nil))))) .nil)))) (.c 1)) .nil))))), .L (.app 111 (.l (.v 0) (.i (.v 0) .nil))) (.app 116 (.l (.v 0) (.i (.app 100 (.l (.v 0) (.i (.c 1) (.i (.c 0) (.i (.c 0) .nil))))) (.i (.sub (.len (.app 14 (.l (.v 0) (.i (.app 100 (.l (.v 0) (.i (.c 1) (.i (.c 0) (.i (.c 0) .nil))))) .nil)))) (.c 1)) .nil))))]}, {pc := [.not (.le (.c 0) (.sub (.len (.app 14 (.l (.v 0) (.i (.app 100 (.l (.v 0) (.i (.c 1) (.i (.c 0) (.i (.c 0) .nil))))) .nil)))) (.c 1))), .not (.eq (.len (.app 14 (.l (.v 0) (.i (.app 100 (.l (.v 0) (.i (.c 1) (.i (.c 0) (.i (.c 0) .nil))))) .nil)))) (.c 0)), .le (.len (.app 14 (.l (.v 0) (.i (.app 100 (.l (.v 0) (.i (.c 1) (.i (.c 0) (.i (.c 0) .nil))))) .nil)))) (.v 3), .lt (.app 100 (.l (.v 0) (.i (.c 1) (.i (.c 0) (.i (.c 0) .nil))))) (.len (.v 0)), .le (.c 0) (.app 100 (.l (.v 0) (.i (.c 1) (.i (.c 0) (.i (.c 0) .nil))))), .not (.lt (.c 0) (.len (.app 14 (.l (.v 0) (.i (.v 0) .nil))))), .lt (.v 0) (.len (.v 0)), .le (.c 0) (.v 0), .le (.c 1) (.len (.v 0)), .le (.len (.v 0)) (.c 8), .le (.c 1) (.v 3), .le (.v 3) (.c 64), .c true, .app 130 (.l (.v 0) (.l (.v 1) (.i (.v 3) .nil)))], eqs := [.T (.c false)]}] := by kernel_rfl
theorem cPop_ok : cPop.ok Φ Try.prog := by
  refine call_rule (fun ρ => t4_ok ρ) cPop_obs ?_
  simp only [and_imp, List.forall_mem_cons, List.not_mem_nil, false_implies, implies_true, and_true, Ob.ok, holds, Eqn.ok, evB_eq, evB_lt, evB_le, evB_not, evB_and, evB_or, evB_eqL, evB_app, evB_v, evB_c, ev_sel, ev_len, ev_v, ev_c, ev_add, ev_sub, ev_mul, ev_quo, ev_rem, ev_bits, ev_wrap, evL_v, evL_lit, evL_app, ev_app, evA_l, evA_i, evA_nil, std_min, std_max, std_cat, std_take, std_drop, std_row, std_set, std_rep, std_find, std_put, std_del, std_flag, std_unflag, std_clr, std_left, std_copy, ints_cons, ints_nil, ofNat_lit, negSucc_lit, decide_eq_true_eq, Bool.and_eq_true, Bool.or_eq_true, Bool.not_eq_true', Bool.and_eq_false_iff, Bool.or_eq_false_iff, decide_eq_false_iff_not, std_rowT, std_setT, lenR_rowT, rowT_get, aI100, aI101, aI102, aI103, aI104, aI105, aI106, aI107, aI110, aI111, aI112, aI113, aI114, aL110, aL111, aL112, aL113, aL115, aL116, aL120, aL121, aB130, aB131, aB132, aB133, aB134, aB135, aB136, aB199, Bool.not_eq_false']
  repeat' apply And.intro
  all_goals intro ρ hR
  all_goals intros
  all_goals first
    | (have hi : invB (ρ.l 0) (ρ.l 1) (ρ.i 3) = true := by with_reducible assumption
       obtain ⟨p1, p2, p3⟩ := pop_own (T := ρ.l 0) (c := ρ.i 0) (by with_reducible assumption)
       have hc := inv_cut hi (c := ρ.i 0) (i := 0) (by omega) (by omega) (by omega) (by omega)
       rw [p1, p2, p3]
       exact ⟨any_of (T := ρ.l 0) (c := ρ.i 0) (by omega) (by omega) (by omega), by omega, by omega, by omega, hc.1, rfl, rfl, rfl, rfl⟩)
    | (have hi : invB (ρ.l 0) (ρ.l 1) (ρ.i 3) = true := by with_reducible assumption
       have hr := inv_row hi (c := ρ.i 0) (by omega) (by omega)
       exfalso
       omega)
    | (exact any_not (T := ρ.l 0) (by omega) (by with_reducible assumption))
    | (have hi : invB (ρ.l 0) (ρ.l 1) (ρ.i 3) = true := by with_reducible assumption
       have hp := lenR_pos (ρ.l 0) (bestF 1 (ρ.l 0) 0 0)
       obtain ⟨p1, p2, p3⟩ := pop_long (T := ρ.l 0) (c := ρ.i 0) (by with_reducible assumption)
       have hc := inv_cut hi (c := (bestF 1 (ρ.l 0) 0 0)) (i := lenR (ρ.l 0) (bestF 1 (ρ.l 0) 0 0) - 1) (by omega) (by omega) (by omega) (by omega)
       rw [p1, p2, p3]
       exact ⟨any_of (T := ρ.l 0) (c := (bestF 1 (ρ.l 0) 0 0)) (by omega) (by omega) (by omega), by omega, by omega, by omega, hc.1, rfl, rfl, rfl, rfl⟩)
    | (have hp := lenR_pos (ρ.l 0) (bestF 1 (ρ.l 0) 0 0)
       exfalso
       omega)
set_option maxRecDepth 100000 in
theorem cDrop_obs : callObs Φ Try.prog t4 1000 cDrop.f cDrop.vs cDrop.o cDrop.pc cDrop.outs = some
  [{pc := [.not (.app 131 (.l (.v 0) (.i (.v 1) .nil))), .le (.c 1) (.len (.v 0)), .le (.len (.v 0)) (.c 8), .le (.c 1) (.v 3), .le (.v 3) (.c 64), .c true, .app 130 (.l (.v 0) (.l (.v 1) (.i (.v 3) .nil)))], eqs := [.T (.eq (.len (.app 112 (.l (.v 0) (.i (.v 1) .nil)))) (.len (.v 0))), .T (.app 130 (.l (.app 112 (.l (.v 0) (.i (.v 1) .nil))) (.l (.v 1) (.i (.v 3) .nil)))), .B (.app 131 (.l (.v 0) (.i (.v 1) .nil))) (.c false), .I (.len (.app 112 (.l (.v 0) (.i (.v 1) .nil)))) (.len (.v 0)), .L (.app 112 (.l (.v 0) (.i (.v 1) .nil))) (.v 0)]}, {pc := [.eq (.len (.app 116 (.l (.v 0) (.i (.app 101 (.l (.v 0) (.i (.v 1) .nil))) (.i (.app 102 (.l (.v 0) (.i (.v 1) .nil))) .nil))))) (.len (.v 0)), .eq (.sel (.app 14 (.l (.v 0) (.i (.app 101 (.l (.v 0) (.i (.v 1) .nil))) .nil))) (.app 102 (.l (.v 0) (.i (.v 1) .nil))) 0) (.v 1), .le (.len (.app 14 (.l (.v 0) (.i (.app 101 (.l (.v 0) (.i (.v 1) .nil))) .nil)))) (.v 3), .lt (.app 102 (.l (.v 0) (.i (.v 1) .nil))) (.len (.app 14 (.l (.v 0) (.i (.app 101 (.l (.v 0) (.i (.v 1) .nil))) .nil)))), .le (.c 0) (.app 102 (.l (.v 0) (.i (.v 1) .nil))), .lt (.app 101 (.l (.v 0) (.i (.v 1) .nil))) (.len (.v 0)), .le (.c 0) (.app 101 (.l (.v 0) (.i (.v 1) .nil))), .app 131 (.l (.v 0) (.i (.v 1) .nil)), .le (.c 1) (.len (.v 0)), .le (.len (.v 0)) (.c 8), .le (.c 1) (.v 3), .le (.v 3) (.c 64), .c true, .app 130 (.l (.v 0) (.l (.v 1) (.i (.v 3) .nil)))], eqs := [.T (.eq (.len (.app 112 (.l (.v 0) (.i (.v 1) .nil)))) (.len (.v 0))), .T (.app 130 (.l (.app 112 (.l (.v 0) (.i (.v 1) .nil))) (.l (.app 8 (.l (.v 1) (.i (.sel (.app 14 (.l (.v 0) (.i (.app 101 (.l (.v 0) (.i (.v 1) .nil))) .nil))) (.app 102 (.l (.v 0) (.i (.v 1) .nil))) 0) .nil))) (.i (.v 3) .nil)))), .B (.app 131 (.l (.v 0) (.i (.v 1) .nil))) (.c true), .I (.len (.app 112 (.l (.v 0) (.i (.v 1) .nil)))) (.len (.app 116 (.l (.v 0) (.i (.app 101 (.l (.v 0) (.i (.v 1) .nil))) (.i (.app 102 (.l (.v 0) (.i (.v 1) .nil))) .nil))))), .L (.app 112 (.l (.v 0) (.i (.v 1) .nil))) (.app 116 (.l (.v 0) (.i (.app 101 (.l (.v 0) (.i (.v 1) .nil))) (.i (.app 102 (.l (.v 0) (.i (.v 1) .nil))) .nil))))]}] := by kernel_rfl
theorem cDrop_ok : cDrop.ok Φ Try.prog := by
  refine call_rule (fun ρ => t4_ok ρ) cDrop_obs ?_
  simp only [and_imp, List.forall_mem_cons, List.not_mem_nil, false_implies, implies_true, and_true, Ob.ok, holds, Eqn.ok, evB_eq, evB_lt, evB_le, evB_not, evB_and, evB_or, evB_eqL, evB_app, evB_v, evB_c, ev_sel, ev_len, ev_v, ev_c, ev_add, ev_sub, ev_mul, ev_quo, ev_rem, ev_bits, ev_wrap, evL_v, evL_lit, evL_app, ev_app, evA_l, evA_i, evA_nil, std_min, std_max, std_cat, std_take, std_drop, std_row, std_set, std_rep, std_find, std_put, std_del, std_flag, std_unflag, std_clr, std_left, std_copy, ints_cons, ints_nil, ofNat_lit, negSucc_lit, decide_eq_true_eq, Bool.and_eq_true, Bool.or_eq_true, Bool.not_eq_true', Bool.and_eq_false_iff, Bool.or_eq_false_iff, decide_eq_false_iff_not, std_rowT, std_setT, lenR_rowT, rowT_get, aI100, aI101, aI102, aI103, aI104, aI105, aI106, aI107, aI110, aI111, aI112, aI113, aI114, aL110, aL111, aL112, aL113, aL115, aL116, aL120, aL121, aB130, aB131, aB132, aB133, aB134, aB135, aB136, aB199, Bool.not_eq_false']
  repeat' apply And.intro
  all_goals intro ρ hR
  all_goals intros
  all_goals first
    | (have hi : invB (ρ.l 0) (ρ.l 1) (ρ.i 3) = true := by with_reducible assumption
       rw [drop_not (by with_reducible assumption)]
       exact ⟨rfl, hi, by with_reducible assumption, rfl, rfl⟩)
    | (have hi : invB (ρ.l 0) (ρ.l 1) (ρ.i 3) = true := by with_reducible assumption
       have hc := inv_cut hi (c := cpuF (ρ.l 0) (ρ.i 1)) (i := atF (ρ.l 0) (ρ.i 1)) (by omega) (by omega) (by omega) (by omega)
       have hl := cutT_len (ρ.l 0) (cpuF (ρ.l 0) (ρ.i 1)) (atF (ρ.l 0) (ρ.i 1))
       rw [drop_has (by with_reducible assumption)]
       exact ⟨by omega, hc.1, by with_reducible assumption, rfl, rfl⟩)
set_option maxRecDepth 100000 in
theorem cList_obs : callObs Φ Try.prog t4 1000 cList.f cList.vs cList.o cList.pc cList.outs = some
  [{pc := [.lt (.v 0) (.len (.v 0)), .le (.c 0) (.v 0), .le (.c 1) (.len (.v 0)), .le (.len (.v 0)) (.c 8), .le (.c 1) (.v 3), .le (.v 3) (.c 64), .c true, .app 130 (.l (.v 0) (.l (.v 1) (.i (.v 3) .nil))), .le (.len (.app 14 (.l (.v 0) (.i (.v 0) .nil)))) (.c 64)], eqs := [.T (.le (.len (.app 14 (.l (.v 0) (.i (.v 0) .nil)))) (.v 3))]}] := by kernel_rfl
theorem cList_ok : cList.ok Φ Try.prog := by
  refine call_rule (fun ρ => t4_ok ρ) cList_obs ?_
  simp only [and_imp, List.forall_mem_cons, List.not_mem_nil, false_implies, implies_true, and_true, Ob.ok, holds, Eqn.ok, evB_eq, evB_lt, evB_le, evB_not, evB_and, evB_or, evB_eqL, evB_app, evB_v, evB_c, ev_sel, ev_len, ev_v, ev_c, ev_add, ev_sub, ev_mul, ev_quo, ev_rem, ev_bits, ev_wrap, evL_v, evL_lit, evL_app, ev_app, evA_l, evA_i, evA_nil, std_min, std_max, std_cat, std_take, std_drop, std_row, std_set, std_rep, std_find, std_put, std_del, std_flag, std_unflag, std_clr, std_left, std_copy, ints_cons, ints_nil, ofNat_lit, negSucc_lit, decide_eq_true_eq, Bool.and_eq_true, Bool.or_eq_true, Bool.not_eq_true', Bool.and_eq_false_iff, Bool.or_eq_false_iff, decide_eq_false_iff_not, std_rowT, std_setT, lenR_rowT, rowT_get, aI100, aI101, aI102, aI103, aI104, aI105, aI106, aI107, aI110, aI111, aI112, aI113, aI114, aL110, aL111, aL112, aL113, aL115, aL116, aL120, aL121, aB130, aB131, aB132, aB133, aB134, aB135, aB136, aB199, Bool.not_eq_false']
  repeat' apply And.intro
  all_goals intro ρ hR
  all_goals intros
  all_goals first
    | (have hi : invB (ρ.l 0) (ρ.l 1) (ρ.i 3) = true := by with_reducible assumption
       exact inv_row hi (by omega) (by omega))
theorem t6_ok (ρ : Env) : TblOK Φ ρ Try.prog t6 := addFn_ok (addFn_ok (addFn_ok (addFn_ok (addFn_ok (t4_ok ρ) cNew_ok) cPush_ok) cPop_ok) cDrop_ok) cList_ok
end Go.SF.C21.Q
