/- The package timer, shown. -/
import Derived.Test.YtnhdohhhgfdhfaaCT
import Derived.Test.YtnhdohhhgfdhfaaPT2
import Derived.KernelRfl
namespace Go.SF.C21.T
open Go Go.SF Go.Proofs
set_option linter.unusedVariables false
set_option linter.unusedSimpArgs false

open Go.SF.C18
set_option maxRecDepth 100000 in
theorem cAhead_obs : callObs Φ Try.prog noTbl 1000 cAhead.f cAhead.vs cAhead.o cAhead.pc cAhead.outs = some
  [{pc := [.lt (.v 1) (.v 4)], eqs := [.B (.app 230 (.i (.v 0) (.i (.v 1) (.i (.v 3) (.i (.v 4) .nil))))) (.c true)]}, {pc := [.eq (.v 1) (.v 4), .not (.lt (.v 1) (.v 4))], eqs := [.B (.app 230 (.i (.v 0) (.i (.v 1) (.i (.v 3) (.i (.v 4) .nil))))) (.lt (.v 0) (.v 3))]}, {pc := [.not (.eq (.v 1) (.v 4)), .not (.lt (.v 1) (.v 4))], eqs := [.B (.app 230 (.i (.v 0) (.i (.v 1) (.i (.v 3) (.i (.v 4) .nil))))) (.c false)]}] := by kernel_rfl
theorem cAhead_ok : cAhead.ok Φ Try.prog := by
  refine call_rule (fun ρ => noTbl_ok) cAhead_obs ?_
  simp only [and_imp, List.forall_mem_cons, List.not_mem_nil, false_implies, implies_true, and_true, Ob.ok, holds, Eqn.ok, evB_eq, evB_lt, evB_le, evB_not, evB_and, evB_or, evB_eqL, evB_app, evB_v, evB_c, ev_sel, ev_len, ev_v, ev_c, ev_add, ev_sub, ev_mul, ev_quo, ev_rem, ev_bits, ev_wrap, evL_v, evL_lit, evL_app, ev_app, evA_l, evA_i, evA_nil, std_min, std_max, std_cat, std_take, std_drop, std_row, std_set, std_rep, std_find, std_put, std_del, std_flag, std_unflag, std_clr, std_left, std_copy, ints_cons, ints_nil, ofNat_lit, negSucc_lit, decide_eq_true_eq, Bool.and_eq_true, Bool.or_eq_true, Bool.not_eq_true', Bool.and_eq_false_iff, Bool.or_eq_false_iff, decide_eq_false_iff_not, aI210, aI211, aI212, aI213, aI214, aI215, aI220, aI221, aI222, aL210, aL216, aL220, aL222, aL223, aL224, aL225, aB230, aB232, aB240, aB241, aB242, aL226, aL227, aL228, aB199]
  repeat' apply And.intro
  all_goals intro ρ hR
  all_goals intros
  all_goals first
    | (rw [Bool.eq_iff_iff]
       simp only [aheadB, Bool.or_eq_true, Bool.and_eq_true, decide_eq_true_eq]
       omega)
    | (rw [Bool.eq_false_iff]
       simp only [aheadB, ne_eq, Bool.or_eq_true, Bool.and_eq_true, decide_eq_true_eq]
       omega)
    | (simp only [aheadB, Bool.or_eq_true, Bool.and_eq_true, decide_eq_true_eq]
       omega)
theorem t2_ok (ρ : Env) : TblOK Φ ρ Try.prog t2 := addFn_ok noTbl_ok cAhead_ok
set_option maxRecDepth 100000 in
theorem in0_obs : loopObs Φ Try.prog t2 1000 in0.f (loopAt Try.prog in0.f in0.id) in0.n in0.T i3 in0.outs = some
  [{pc := [.app 230 (.i (.sel (.v 2) (.v 3) 0) (.i (.sel (.v 2) (.v 3) 1) (.i (.v 0) (.i (.v 1) .nil)))), .lt (.v 3) (.len (.v 2)), .lt (.len (.v 2)) (.c 90000), .le (.c 0) (.v 3), .le (.v 3) (.len (.v 2))], eqs := [.T (.lt (.sub (.len (.v 2)) (.add (.v 3) (.c 1))) (.sub (.len (.v 2)) (.v 3))), .T (.lt (.c 0) (.sub (.len (.v 2)) (.v 3)))]}, {pc := [.le (.app 220 (.l (.v 2) (.i (.v 0) (.i (.v 1) (.i (.add (.v 3) (.c 1)) .nil))))) (.len (.v 2)), .le (.c 0) (.app 220 (.l (.v 2) (.i (.v 0) (.i (.v 1) (.i (.add (.v 3) (.c 1)) .nil))))), .app 230 (.i (.sel (.v 2) (.v 3) 0) (.i (.sel (.v 2) (.v 3) 1) (.i (.v 0) (.i (.v 1) .nil)))), .lt (.v 3) (.len (.v 2)), .lt (.len (.v 2)) (.c 90000), .le (.c 0) (.v 3), .le (.v 3) (.len (.v 2))], eqs := [.T (.le (.c 0) (.app 220 (.l (.v 2) (.i (.v 0) (.i (.v 1) (.i (.v 3) .nil)))))), .T (.le (.app 220 (.l (.v 2) (.i (.v 0) (.i (.v 1) (.i (.v 3) .nil))))) (.len (.v 2))), .I (.app 220 (.l (.v 2) (.i (.v 0) (.i (.v 1) (.i (.v 3) .nil))))) (.app 220 (.l (.v 2) (.i (.v 0) (.i (.v 1) (.i (.add (.v 3) (.c 1)) .nil)))))]}, {pc := [.not (.app 230 (.i (.sel (.v 2) (.v 3) 0) (.i (.sel (.v 2) (.v 3) 1) (.i (.v 0) (.i (.v 1) .nil))))), .lt (.v 3) (.len (.v 2)), .lt (.len (.v 2)) (.c 90000), .le (.c 0) (.v 3), .le (.v 3) (.len (.v 2))], eqs := [.T (.le (.c 0) (.app 220 (.l (.v 2) (.i (.v 0) (.i (.v 1) (.i (.v 3) .nil)))))), .T (.le (.app 220 (.l (.v 2) (.i (.v 0) (.i (.v 1) (.i (.v 3) .nil))))) (.len (.v 2))), .I (.app 220 (.l (.v 2) (.i (.v 0) (.i (.v 1) (.i (.v 3) .nil))))) (.v 3)]}, {pc := [.not (.lt (.v 3) (.len (.v 2))), .lt (.len (.v 2)) (.c 90000), .le (.c 0) (.v 3), .le (.v 3) (.len (.v 2))], eqs := [.T (.le (.c 0) (.app 220 (.l (.v 2) (.i (.v 0) (.i (.v 1) (.i (.v 3) .nil)))))), .T (.le (.app 220 (.l (.v 2) (.i (.v 0) (.i (.v 1) (.i (.v 3) .nil))))) (.len (.v 2))), .I (.app 220 (.l (.v 2) (.i (.v 0) (.i (.v 1) (.i (.v 3) .nil))))) (.v 3)]}] := by kernel_rfl
theorem in0_ok : in0.ok Φ Try.prog := by
  refine ⟨by kernel_rfl, loop_rule (fun ρ => t2_ok ρ) (loopAt_sub (by kernel_rfl)) in0_obs ?_⟩
  simp only [and_imp, List.forall_mem_cons, List.not_mem_nil, false_implies, implies_true, and_true, Ob.ok, holds, Eqn.ok, evB_eq, evB_lt, evB_le, evB_not, evB_and, evB_or, evB_eqL, evB_app, evB_v, evB_c, ev_sel, ev_len, ev_v, ev_c, ev_add, ev_sub, ev_mul, ev_quo, ev_rem, ev_bits, ev_wrap, evL_v, evL_lit, evL_app, ev_app, evA_l, evA_i, evA_nil, std_min, std_max, std_cat, std_take, std_drop, std_row, std_set, std_rep, std_find, std_put, std_del, std_flag, std_unflag, std_clr, std_left, std_copy, ints_cons, ints_nil, ofNat_lit, negSucc_lit, decide_eq_true_eq, Bool.and_eq_true, Bool.or_eq_true, Bool.not_eq_true', Bool.and_eq_false_iff, Bool.or_eq_false_iff, decide_eq_false_iff_not, aI210, aI211, aI212, aI213, aI214, aI215, aI220, aI221, aI222, aL210, aL216, aL220, aL222, aL223, aL224, aL225, aB230, aB232, aB240, aB241, aB242, aL226, aL227, aL228, aB199]
  repeat' apply And.intro
  all_goals intro ρ hR
  all_goals intros
  all_goals first
    | (omega)
    | (have e := rank_step (L := ρ.l 2) (id := ρ.i 0) (a := ρ.i 1) (i := ρ.i 3) (by omega) (by omega) (by with_reducible assumption)
       rw [e]
       exact ⟨by omega, by omega, rfl⟩)
    | (have e := rank_stop (L := ρ.l 2) (id := ρ.i 0) (a := ρ.i 1) (i := ρ.i 3) (by omega) (by first | exact .inl (by omega) | exact .inr (by with_reducible assumption))
       rw [e]
       exact ⟨by omega, by omega, rfl⟩)
theorem t3_ok (ρ : Env) : TblOK Φ ρ Try.prog t3 := addLp_ok (t2_ok ρ) in0_ok
set_option maxRecDepth 100000 in
theorem cIns_obs : callObs Φ Try.prog t3 1000 cIns.f cIns.vs cIns.o cIns.pc cIns.outs = some
  [{pc := [.le (.app 220 (.l (.v 2) (.i (.v 0) (.i (.v 1) (.i (.c 0) .nil))))) (.len (.v 2)), .le (.c 0) (.app 220 (.l (.v 2) (.i (.v 0) (.i (.v 1) (.i (.c 0) .nil))))), .lt (.len (.v 2)) (.c 90000)], eqs := [.T (.eq (.len (.app 220 (.l (.v 2) (.i (.v 0) (.i (.v 1) (.i (.v 2) .nil)))))) (.add (.len (.v 2)) (.c 1))), .I (.len (.app 220 (.l (.v 2) (.i (.v 0) (.i (.v 1) (.i (.v 2) .nil)))))) (.add (.len (.v 2)) (.c 1)), .L (.app 220 (.l (.v 2) (.i (.v 0) (.i (.v 1) (.i (.v 2) .nil))))) (.app 4 (.l (.app 4 (.l (.app 4 (.l (.app 13 (.l (.app 0 (.l (.v 2) (.l (.app 3 (.i (.v 0) (.i (.v 1) (.i (.v 2) .nil)))) .nil))) (.i (.add (.app 220 (.l (.v 2) (.i (.v 0) (.i (.v 1) (.i (.c 0) .nil))))) (.c 1)) (.l (.app 1 (.l (.app 2 (.l (.app 0 (.l (.v 2) (.l (.app 3 (.i (.v 0) (.i (.v 1) (.i (.v 2) .nil)))) .nil))) (.i (.app 220 (.l (.v 2) (.i (.v 0) (.i (.v 1) (.i (.c 0) .nil))))) .nil))) (.i (.sub (.add (.len (.v 2)) (.c 1)) (.add (.app 220 (.l (.v 2) (.i (.v 0) (.i (.v 1) (.i (.c 0) .nil))))) (.c 1))) .nil))) .nil)))) (.i (.app 220 (.l (.v 2) (.i (.v 0) (.i (.v 1) (.i (.c 0) .nil))))) (.i (.c 0) (.i (.v 0) .nil))))) (.i (.app 220 (.l (.v 2) (.i (.v 0) (.i (.v 1) (.i (.c 0) .nil))))) (.i (.c 1) (.i (.v 1) .nil))))) (.i (.app 220 (.l (.v 2) (.i (.v 0) (.i (.v 1) (.i (.c 0) .nil))))) (.i (.c 2) (.i (.v 2) .nil)))))]}] := by kernel_rfl
theorem cIns_ok : cIns.ok Φ Try.prog := by
  refine call_rule (fun ρ => t3_ok ρ) cIns_obs ?_
  simp only [and_imp, List.forall_mem_cons, List.not_mem_nil, false_implies, implies_true, and_true, Ob.ok, holds, Eqn.ok, evB_eq, evB_lt, evB_le, evB_not, evB_and, evB_or, evB_eqL, evB_app, evB_v, evB_c, ev_sel, ev_len, ev_v, ev_c, ev_add, ev_sub, ev_mul, ev_quo, ev_rem, ev_bits, ev_wrap, evL_v, evL_lit, evL_app, ev_app, evA_l, evA_i, evA_nil, std_min, std_max, std_cat, std_take, std_drop, std_row, std_set, std_rep, std_find, std_put, std_del, std_flag, std_unflag, std_clr, std_left, std_copy, ints_cons, ints_nil, ofNat_lit, negSucc_lit, decide_eq_true_eq, Bool.and_eq_true, Bool.or_eq_true, Bool.not_eq_true', Bool.and_eq_false_iff, Bool.or_eq_false_iff, decide_eq_false_iff_not, aI210, aI211, aI212, aI213, aI214, aI215, aI220, aI221, aI222, aL210, aL216, aL220, aL222, aL223, aL224, aL225, aB230, aB232, aB240, aB241, aB242, aL226, aL227, aL228, aB199]
  repeat' apply And.intro
  all_goals intro ρ hR
  all_goals intros
  all_goals first
    | (have hl := insF_len (ρ.i 0) (ρ.i 1) (ρ.i 2) (ρ.l 2)
       refine ⟨by omega, by omega, ?_⟩
       rw [insF_eq]
       exact (ins_copy (L := ρ.l 2) (hR.row 0 rfl rfl) (by omega) (by omega)).symm)
set_option maxRecDepth 100000 in
theorem cFire_obs : callObs Φ Try.prog noTbl 1000 cFire.f cFire.vs cFire.o cFire.pc cFire.outs = some
  [{pc := [.not (.eq (.v 1) (.c 0))], eqs := [.I (.app 221 (.i (.v 0) (.i (.v 1) (.i (.v 9) .nil)))) (.wrap IntKind.i64 (.add (.wrap IntKind.i64 (.quo (.wrap IntKind.i64 (.sub (.v 9) (.v 0))) (.v 1))) (.c 1))), .I (.app 222 (.i (.v 0) (.i (.v 1) (.i (.v 9) .nil)))) (.wrap IntKind.i64 (.add (.v 0) (.wrap IntKind.i64 (.mul (.wrap IntKind.i64 (.add (.wrap IntKind.i64 (.quo (.wrap IntKind.i64 (.sub (.v 9) (.v 0))) (.v 1))) (.c 1))) (.v 1)))))]}] := by kernel_rfl
theorem cFire_ok : cFire.ok Φ Try.prog := by
  refine call_rule (fun ρ => noTbl_ok) cFire_obs ?_
  simp only [and_imp, List.forall_mem_cons, List.not_mem_nil, false_implies, implies_true, and_true, Ob.ok, holds, Eqn.ok, evB_eq, evB_lt, evB_le, evB_not, evB_and, evB_or, evB_eqL, evB_app, evB_v, evB_c, ev_sel, ev_len, ev_v, ev_c, ev_add, ev_sub, ev_mul, ev_quo, ev_rem, ev_bits, ev_wrap, evL_v, evL_lit, evL_app, ev_app, evA_l, evA_i, evA_nil, std_min, std_max, std_cat, std_take, std_drop, std_row, std_set, std_rep, std_find, std_put, std_del, std_flag, std_unflag, std_clr, std_left, std_copy, ints_cons, ints_nil, ofNat_lit, negSucc_lit, decide_eq_true_eq, Bool.and_eq_true, Bool.or_eq_true, Bool.not_eq_true', Bool.and_eq_false_iff, Bool.or_eq_false_iff, decide_eq_false_iff_not, aI210, aI211, aI212, aI213, aI214, aI215, aI220, aI221, aI222, aL210, aL216, aL220, aL222, aL223, aL224, aL225, aB230, aB232, aB240, aB241, aB242, aL226, aL227, aL228, aB199]
  repeat' apply And.intro
  all_goals intro ρ hR
  all_goals intros
  all_goals first
    | (exact ⟨rfl, rfl⟩)
theorem t4_ok (ρ : Env) : TblOK Φ ρ Try.prog t4 := addFn_ok (addFn_ok (t3_ok ρ) cIns_ok) cFire_ok
set_option maxRecDepth 100000 in
theorem ti0_obs : loopObs Φ Try.prog t4 1000 ti0.f (loopAt Try.prog ti0.f ti0.id) ti0.n ti0.T left ti0.outs = some
  [{pc := [.not (.lt (.c 0) (.len (.app 12 (.l (.v 0) .nil)))), .lt (.len (.v 2)) (.c 80000), .c true, .lt (.add (.len (.v 2)) (.len (.app 12 (.l (.v 0) .nil)))) (.c 80000)], eqs := [.T (.lt (.len (.app 222 (.l (.v 2) (.l (.v 0) (.i (.v 0) .nil))))) (.c 80000)), .I (.len (.app 222 (.l (.v 2) (.l (.v 0) (.i (.v 0) .nil))))) (.len (.v 2)), .L (.app 223 (.l (.v 0) (.i (.v 0) .nil))) (.v 0), .L (.app 222 (.l (.v 2) (.l (.v 0) (.i (.v 0) .nil)))) (.v 2)]}, {pc := [.lt (.v 0) (.sel (.app 6 (.l (.app 11 (.l (.v 0) (.i (.v 1000) .nil))) (.i (.v 1000) .nil))) (.c 0) 1), .eq (.sel (.app 6 (.l (.v 0) (.i (.v 1000) .nil))) (.c 0) 3) (.c 1), .eq (.len (.app 6 (.l (.v 0) (.i (.v 1000) .nil)))) (.c 1), .eq (.len (.app 6 (.l (.app 11 (.l (.v 0) (.i (.v 1000) .nil))) (.i (.v 1000) .nil)))) (.c 1), .lt (.c 0) (.len (.app 12 (.l (.v 0) .nil))), .lt (.len (.v 2)) (.c 80000), .c true, .lt (.add (.len (.v 2)) (.len (.app 12 (.l (.v 0) .nil)))) (.c 80000)], eqs := [.T (.lt (.add (.len (.app 12 (.l (.app 11 (.l (.v 0) (.i (.v 1000) .nil))) .nil))) (.c 1)) (.add (.len (.app 12 (.l (.v 0) .nil))) (.c 1))), .T (.lt (.add (.len (.v 2)) (.len (.app 12 (.l (.app 11 (.l (.v 0) (.i (.v 1000) .nil))) .nil)))) (.c 80000))]}, {pc := [.lt (.len (.app 222 (.l (.v 2) (.l (.app 11 (.l (.v 0) (.i (.v 1000) .nil))) (.i (.v 0) .nil))))) (.c 80000), .lt (.v 0) (.sel (.app 6 (.l (.app 11 (.l (.v 0) (.i (.v 1000) .nil))) (.i (.v 1000) .nil))) (.c 0) 1), .eq (.sel (.app 6 (.l (.v 0) (.i (.v 1000) .nil))) (.c 0) 3) (.c 1), .eq (.len (.app 6 (.l (.v 0) (.i (.v 1000) .nil)))) (.c 1), .eq (.len (.app 6 (.l (.app 11 (.l (.v 0) (.i (.v 1000) .nil))) (.i (.v 1000) .nil)))) (.c 1), .lt (.c 0) (.len (.app 12 (.l (.v 0) .nil))), .lt (.len (.v 2)) (.c 80000), .c true, .lt (.add (.len (.v 2)) (.len (.app 12 (.l (.v 0) .nil)))) (.c 80000)], eqs := [.T (.lt (.len (.app 222 (.l (.v 2) (.l (.v 0) (.i (.v 0) .nil))))) (.c 80000)), .I (.len (.app 222 (.l (.v 2) (.l (.v 0) (.i (.v 0) .nil))))) (.len (.app 222 (.l (.v 2) (.l (.app 11 (.l (.v 0) (.i (.v 1000) .nil))) (.i (.v 0) .nil))))), .L (.app 223 (.l (.v 0) (.i (.v 0) .nil))) (.app 223 (.l (.app 11 (.l (.v 0) (.i (.v 1000) .nil))) (.i (.v 0) .nil))), .L (.app 222 (.l (.v 2) (.l (.v 0) (.i (.v 0) .nil)))) (.app 222 (.l (.v 2) (.l (.app 11 (.l (.v 0) (.i (.v 1000) .nil))) (.i (.v 0) .nil))))]}, {pc := [.eq (.len (.app 220 (.l (.v 2) (.i (.v 1000) (.i (.sel (.app 6 (.l (.app 11 (.l (.v 0) (.i (.v 1000) .nil))) (.i (.v 1000) .nil))) (.c 0) 1) (.i (.c 1) .nil)))))) (.add (.len (.v 2)) (.c 1)), .eq (.sel (.app 6 (.l (.app 11 (.l (.v 0) (.i (.v 1000) .nil))) (.i (.v 1000) .nil))) (.c 0) 2) (.c 0), .not (.lt (.v 0) (.sel (.app 6 (.l (.app 11 (.l (.v 0) (.i (.v 1000) .nil))) (.i (.v 1000) .nil))) (.c 0) 1)), .eq (.sel (.app 6 (.l (.v 0) (.i (.v 1000) .nil))) (.c 0) 3) (.c 1), .eq (.len (.app 6 (.l (.v 0) (.i (.v 1000) .nil)))) (.c 1), .eq (.len (.app 6 (.l (.app 11 (.l (.v 0) (.i (.v 1000) .nil))) (.i (.v 1000) .nil)))) (.c 1), .lt (.c 0) (.len (.app 12 (.l (.v 0) .nil))), .lt (.len (.v 2)) (.c 80000), .c true, .lt (.add (.len (.v 2)) (.len (.app 12 (.l (.v 0) .nil)))) (.c 80000)], eqs := [.T (.lt (.add (.len (.app 12 (.l (.app 8 (.l (.app 7 (.l (.app 11 (.l (.v 0) (.i (.v 1000) .nil))) (.i (.v 1000) (.i (.c 0) (.i (.c 0) (.i (.sel (.app 6 (.l (.app 11 (.l (.v 0) (.i (.v 1000) .nil))) (.i (.v 1000) .nil))) (.c 0) 3) .nil)))))) (.i (.v 1000) .nil))) .nil))) (.c 1)) (.add (.len (.app 12 (.l (.v 0) .nil))) (.c 1))), .T (.lt (.len (.app 220 (.l (.v 2) (.i (.v 1000) (.i (.sel (.app 6 (.l (.app 11 (.l (.v 0) (.i (.v 1000) .nil))) (.i (.v 1000) .nil))) (.c 0) 1) (.i (.c 1) .nil)))))) (.c 80000)), .T (.lt (.add (.len (.app 220 (.l (.v 2) (.i (.v 1000) (.i (.sel (.app 6 (.l (.app 11 (.l (.v 0) (.i (.v 1000) .nil))) (.i (.v 1000) .nil))) (.c 0) 1) (.i (.c 1) .nil)))))) (.len (.app 12 (.l (.app 8 (.l (.app 7 (.l (.app 11 (.l (.v 0) (.i (.v 1000) .nil))) (.i (.v 1000) (.i (.c 0) (.i (.c 0) (.i (.sel (.app 6 (.l (.app 11 (.l (.v 0) (.i (.v 1000) .nil))) (.i (.v 1000) .nil))) (.c 0) 3) .nil)))))) (.i (.v 1000) .nil))) .nil)))) (.c 80000))]}, {pc := [.lt (.len (.app 222 (.l (.app 220 (.l (.v 2) (.i (.v 1000) (.i (.sel (.app 6 (.l (.app 11 (.l (.v 0) (.i (.v 1000) .nil))) (.i (.v 1000) .nil))) (.c 0) 1) (.i (.c 1) .nil))))) (.l (.app 8 (.l (.app 7 (.l (.app 11 (.l (.v 0) (.i (.v 1000) .nil))) (.i (.v 1000) (.i (.c 0) (.i (.c 0) (.i (.sel (.app 6 (.l (.app 11 (.l (.v 0) (.i (.v 1000) .nil))) (.i (.v 1000) .nil))) (.c 0) 3) .nil)))))) (.i (.v 1000) .nil))) (.i (.v 0) .nil))))) (.c 80000), .eq (.len (.app 220 (.l (.v 2) (.i (.v 1000) (.i (.sel (.app 6 (.l (.app 11 (.l (.v 0) (.i (.v 1000) .nil))) (.i (.v 1000) .nil))) (.c 0) 1) (.i (.c 1) .nil)))))) (.add (.len (.v 2)) (.c 1)), .eq (.sel (.app 6 (.l (.app 11 (.l (.v 0) (.i (.v 1000) .nil))) (.i (.v 1000) .nil))) (.c 0) 2) (.c 0), .not (.lt (.v 0) (.sel (.app 6 (.l (.app 11 (.l (.v 0) (.i (.v 1000) .nil))) (.i (.v 1000) .nil))) (.c 0) 1)), .eq (.sel (.app 6 (.l (.v 0) (.i (.v 1000) .nil))) (.c 0) 3) (.c 1), .eq (.len (.app 6 (.l (.v 0) (.i (.v 1000) .nil)))) (.c 1), .eq (.len (.app 6 (.l (.app 11 (.l (.v 0) (.i (.v 1000) .nil))) (.i (.v 1000) .nil)))) (.c 1), .lt (.c 0) (.len (.app 12 (.l (.v 0) .nil))), .lt (.len (.v 2)) (.c 80000), .c true, .lt (.add (.len (.v 2)) (.len (.app 12 (.l (.v 0) .nil)))) (.c 80000)], eqs := [.T (.lt (.len (.app 222 (.l (.v 2) (.l (.v 0) (.i (.v 0) .nil))))) (.c 80000)), .I (.len (.app 222 (.l (.v 2) (.l (.v 0) (.i (.v 0) .nil))))) (.len (.app 222 (.l (.app 220 (.l (.v 2) (.i (.v 1000) (.i (.sel (.app 6 (.l (.app 11 (.l (.v 0) (.i (.v 1000) .nil))) (.i (.v 1000) .nil))) (.c 0) 1) (.i (.c 1) .nil))))) (.l (.app 8 (.l (.app 7 (.l (.app 11 (.l (.v 0) (.i (.v 1000) .nil))) (.i (.v 1000) (.i (.c 0) (.i (.c 0) (.i (.sel (.app 6 (.l (.app 11 (.l (.v 0) (.i (.v 1000) .nil))) (.i (.v 1000) .nil))) (.c 0) 3) .nil)))))) (.i (.v 1000) .nil))) (.i (.v 0) .nil))))), .L (.app 223 (.l (.v 0) (.i (.v 0) .nil))) (.app 223 (.l (.app 8 (.l (.app 7 (.l (.app 11 (.l (.v 0) (.i (.v 1000) .nil))) (.i (.v 1000) (.i (.c 0) (.i (.c 0) (.i (.sel (.app 6 (.l (.app 11 (.l (.v 0) (.i (.v 1000) .nil))) (.i (.v 1000) .nil))) (.c 0) 3) .nil)))))) (.i (.v 1000) .nil))) (.i (.v 0) .nil))), .L (.app 222 (.l (.v 2) (.l (.v 0) (.i (.v 0) .nil)))) (.app 222 (.l (.app 220 (.l (.v 2) (.i (.v 1000) (.i (.sel (.app 6 (.l (.app 11 (.l (.v 0) (.i (.v 1000) .nil))) (.i (.v 1000) .nil))) (.c 0) 1) (.i (.c 1) .nil))))) (.l (.app 8 (.l (.app 7 (.l (.app 11 (.l (.v 0) (.i (.v 1000) .nil))) (.i (.v 1000) (.i (.c 0) (.i (.c 0) (.i (.sel (.app 6 (.l (.app 11 (.l (.v 0) (.i (.v 1000) .nil))) (.i (.v 1000) .nil))) (.c 0) 3) .nil)))))) (.i (.v 1000) .nil))) (.i (.v 0) .nil))))]}, {pc := [.eq (.len (.app 220 (.l (.v 2) (.i (.v 1000) (.i (.sel (.app 6 (.l (.app 11 (.l (.v 0) (.i (.v 1000) .nil))) (.i (.v 1000) .nil))) (.c 0) 1) (.i (.app 221 (.i (.sel (.app 6 (.l (.app 11 (.l (.v 0) (.i (.v 1000) .nil))) (.i (.v 1000) .nil))) (.c 0) 1) (.i (.sel (.app 6 (.l (.app 11 (.l (.v 0) (.i (.v 1000) .nil))) (.i (.v 1000) .nil))) (.c 0) 2) (.i (.v 0) .nil)))) .nil)))))) (.add (.len (.v 2)) (.c 1)), .not (.eq (.sel (.app 6 (.l (.app 11 (.l (.v 0) (.i (.v 1000) .nil))) (.i (.v 1000) .nil))) (.c 0) 2) (.c 0)), .not (.lt (.v 0) (.sel (.app 6 (.l (.app 11 (.l (.v 0) (.i (.v 1000) .nil))) (.i (.v 1000) .nil))) (.c 0) 1)), .eq (.sel (.app 6 (.l (.v 0) (.i (.v 1000) .nil))) (.c 0) 3) (.c 1), .eq (.len (.app 6 (.l (.v 0) (.i (.v 1000) .nil)))) (.c 1), .eq (.len (.app 6 (.l (.app 11 (.l (.v 0) (.i (.v 1000) .nil))) (.i (.v 1000) .nil)))) (.c 1), .lt (.c 0) (.len (.app 12 (.l (.v 0) .nil))), .lt (.len (.v 2)) (.c 80000), .c true, .lt (.add (.len (.v 2)) (.len (.app 12 (.l (.v 0) .nil)))) (.c 80000)], eqs := [.T (.lt (.add (.len (.app 12 (.l (.app 7 (.l (.app 11 (.l (.v 0) (.i (.v 1000) .nil))) (.i (.v 1000) (.i (.app 222 (.i (.sel (.app 6 (.l (.app 11 (.l (.v 0) (.i (.v 1000) .nil))) (.i (.v 1000) .nil))) (.c 0) 1) (.i (.sel (.app 6 (.l (.app 11 (.l (.v 0) (.i (.v 1000) .nil))) (.i (.v 1000) .nil))) (.c 0) 2) (.i (.v 0) .nil)))) (.i (.sel (.app 6 (.l (.app 11 (.l (.v 0) (.i (.v 1000) .nil))) (.i (.v 1000) .nil))) (.c 0) 2) (.i (.sel (.app 6 (.l (.app 11 (.l (.v 0) (.i (.v 1000) .nil))) (.i (.v 1000) .nil))) (.c 0) 3) .nil)))))) .nil))) (.c 1)) (.add (.len (.app 12 (.l (.v 0) .nil))) (.c 1))), .T (.lt (.len (.app 220 (.l (.v 2) (.i (.v 1000) (.i (.sel (.app 6 (.l (.app 11 (.l (.v 0) (.i (.v 1000) .nil))) (.i (.v 1000) .nil))) (.c 0) 1) (.i (.app 221 (.i (.sel (.app 6 (.l (.app 11 (.l (.v 0) (.i (.v 1000) .nil))) (.i (.v 1000) .nil))) (.c 0) 1) (.i (.sel (.app 6 (.l (.app 11 (.l (.v 0) (.i (.v 1000) .nil))) (.i (.v 1000) .nil))) (.c 0) 2) (.i (.v 0) .nil)))) .nil)))))) (.c 80000)), .T (.lt (.add (.len (.app 220 (.l (.v 2) (.i (.v 1000) (.i (.sel (.app 6 (.l (.app 11 (.l (.v 0) (.i (.v 1000) .nil))) (.i (.v 1000) .nil))) (.c 0) 1) (.i (.app 221 (.i (.sel (.app 6 (.l (.app 11 (.l (.v 0) (.i (.v 1000) .nil))) (.i (.v 1000) .nil))) (.c 0) 1) (.i (.sel (.app 6 (.l (.app 11 (.l (.v 0) (.i (.v 1000) .nil))) (.i (.v 1000) .nil))) (.c 0) 2) (.i (.v 0) .nil)))) .nil)))))) (.len (.app 12 (.l (.app 7 (.l (.app 11 (.l (.v 0) (.i (.v 1000) .nil))) (.i (.v 1000) (.i (.app 222 (.i (.sel (.app 6 (.l (.app 11 (.l (.v 0) (.i (.v 1000) .nil))) (.i (.v 1000) .nil))) (.c 0) 1) (.i (.sel (.app 6 (.l (.app 11 (.l (.v 0) (.i (.v 1000) .nil))) (.i (.v 1000) .nil))) (.c 0) 2) (.i (.v 0) .nil)))) (.i (.sel (.app 6 (.l (.app 11 (.l (.v 0) (.i (.v 1000) .nil))) (.i (.v 1000) .nil))) (.c 0) 2) (.i (.sel (.app 6 (.l (.app 11 (.l (.v 0) (.i (.v 1000) .nil))) (.i (.v 1000) .nil))) (.c 0) 3) .nil)))))) .nil)))) (.c 80000))]}, {pc := [.lt (.len (.app 222 (.l (.app 220 (.l (.v 2) (.i (.v 1000) (.i (.sel (.app 6 (.l (.app 11 (.l (.v 0) (.i (.v 1000) .nil))) (.i (.v 1000) .nil))) (.c 0) 1) (.i (.app 221 (.i (.sel (.app 6 (.l (.app 11 (.l (.v 0) (.i (.v 1000) .nil))) (.i (.v 1000) .nil))) (.c 0) 1) (.i (.sel (.app 6 (.l (.app 11 (.l (.v 0) (.i (.v 1000) .nil))) (.i (.v 1000) .nil))) (.c 0) 2) (.i (.v 0) .nil)))) .nil))))) (.l (.app 7 (.l (.app 11 (.l (.v 0) (.i (.v 1000) .nil))) (.i (.v 1000) (.i (.app 222 (.i (.sel (.app 6 (.l (.app 11 (.l (.v 0) (.i (.v 1000) .nil))) (.i (.v 1000) .nil))) (.c 0) 1) (.i (.sel (.app 6 (.l (.app 11 (.l (.v 0) (.i (.v 1000) .nil))) (.i (.v 1000) .nil))) (.c 0) 2) (.i (.v 0) .nil)))) (.i (.sel (.app 6 (.l (.app 11 (.l (.v 0) (.i (.v 1000) .nil))) (.i (.v 1000) .nil))) (.c 0) 2) (.i (.sel (.app 6 (.l (.app 11 (.l (.v 0) (.i (.v 1000) .nil))) (.i (.v 1000) .nil))) (.c 0) 3) .nil)))))) (.i (.v 0) .nil))))) (.c 80000), .eq (.len (.app 220 (.l (.v 2) (.i (.v 1000) (.i (.sel (.app 6 (.l (.app 11 (.l (.v 0) (.i (.v 1000) .nil))) (.i (.v 1000) .nil))) (.c 0) 1) (.i (.app 221 (.i (.sel (.app 6 (.l (.app 11 (.l (.v 0) (.i (.v 1000) .nil))) (.i (.v 1000) .nil))) (.c 0) 1) (.i (.sel (.app 6 (.l (.app 11 (.l (.v 0) (.i (.v 1000) .nil))) (.i (.v 1000) .nil))) (.c 0) 2) (.i (.v 0) .nil)))) .nil)))))) (.add (.len (.v 2)) (.c 1)), .not (.eq (.sel (.app 6 (.l (.app 11 (.l (.v 0) (.i (.v 1000) .nil))) (.i (.v 1000) .nil))) (.c 0) 2) (.c 0)), .not (.lt (.v 0) (.sel (.app 6 (.l (.app 11 (.l (.v 0) (.i (.v 1000) .nil))) (.i (.v 1000) .nil))) (.c 0) 1)), .eq (.sel (.app 6 (.l (.v 0) (.i (.v 1000) .nil))) (.c 0) 3) (.c 1), .eq (.len (.app 6 (.l (.v 0) (.i (.v 1000) .nil)))) (.c 1), .eq (.len (.app 6 (.l (.app 11 (.l (.v 0) (.i (.v 1000) .nil))) (.i (.v 1000) .nil)))) (.c 1), .lt (.c 0) (.len (.app 12 (.l (.v 0) .nil))), .lt (.len (.v 2)) (.c 80000), .c true, .lt (.add (.len (.v 2)) (.len (.app 12 (.l (.v 0) .nil)))) (.c 80000)], eqs := [.T (.lt (.len (.app 222 (.l (.v 2) (.l (.v 0) (.i (.v 0) .nil))))) (.c 80000)), .I (.len (.app 222 (.l (.v 2) (.l (.v 0) (.i (.v 0) .nil))))) (.len (.app 222 (.l (.app 220 (.l (.v 2) (.i (.v 1000) (.i (.sel (.app 6 (.l (.app 11 (.l (.v 0) (.i (.v 1000) .nil))) (.i (.v 1000) .nil))) (.c 0) 1) (.i (.app 221 (.i (.sel (.app 6 (.l (.app 11 (.l (.v 0) (.i (.v 1000) .nil))) (.i (.v 1000) .nil))) (.c 0) 1) (.i (.sel (.app 6 (.l (.app 11 (.l (.v 0) (.i (.v 1000) .nil))) (.i (.v 1000) .nil))) (.c 0) 2) (.i (.v 0) .nil)))) .nil))))) (.l (.app 7 (.l (.app 11 (.l (.v 0) (.i (.v 1000) .nil))) (.i (.v 1000) (.i (.app 222 (.i (.sel (.app 6 (.l (.app 11 (.l (.v 0) (.i (.v 1000) .nil))) (.i (.v 1000) .nil))) (.c 0) 1) (.i (.sel (.app 6 (.l (.app 11 (.l (.v 0) (.i (.v 1000) .nil))) (.i (.v 1000) .nil))) (.c 0) 2) (.i (.v 0) .nil)))) (.i (.sel (.app 6 (.l (.app 11 (.l (.v 0) (.i (.v 1000) .nil))) (.i (.v 1000) .nil))) (.c 0) 2) (.i (.sel (.app 6 (.l (.app 11 (.l (.v 0) (.i (.v 1000) .nil))) (.i (.v 1000) .nil))) (.c 0) 3) .nil)))))) (.i (.v 0) .nil))))), .L (.app 223 (.l (.v 0) (.i (.v 0) .nil))) (.app 223 (.l (.app 7 (.l (.app 11 (.l (.v 0) (.i (.v 1000) .nil))) (.i (.v 1000) (.i (.app 222 (.i (.sel (.app 6 (.l (.app 11 (.l (.v 0) (.i (.v 1000) .nil))) (.i (.v 1000) .nil))) (.c 0) 1) (.i (.sel (.app 6 (.l (.app 11 (.l (.v 0) (.i (.v 1000) .nil))) (.i (.v 1000) .nil))) (.c 0) 2) (.i (.v 0) .nil)))) (.i (.sel (.app 6 (.l (.app 11 (.l (.v 0) (.i (.v 1000) .nil))) (.i (.v 1000) .nil))) (.c 0) 2) (.i (.sel (.app 6 (.l (.app 11 (.l (.v 0) (.i (.v 1000) .nil))) (.i (.v 1000) .nil))) (.c 0) 3) .nil)))))) (.i (.v 0) .nil))), .L (.app 222 (.l (.v 2) (.l (.v 0) (.i (.v 0) .nil)))) (.app 222 (.l (.app 220 (.l (.v 2) (.i (.v 1000) (.i (.sel (.app 6 (.l (.app 11 (.l (.v 0) (.i (.v 1000) .nil))) (.i (.v 1000) .nil))) (.c 0) 1) (.i (.app 221 (.i (.sel (.app 6 (.l (.app 11 (.l (.v 0) (.i (.v 1000) .nil))) (.i (.v 1000) .nil))) (.c 0) 1) (.i (.sel (.app 6 (.l (.app 11 (.l (.v 0) (.i (.v 1000) .nil))) (.i (.v 1000) .nil))) (.c 0) 2) (.i (.v 0) .nil)))) .nil))))) (.l (.app 7 (.l (.app 11 (.l (.v 0) (.i (.v 1000) .nil))) (.i (.v 1000) (.i (.app 222 (.i (.sel (.app 6 (.l (.app 11 (.l (.v 0) (.i (.v 1000) .nil))) (.i (.v 1000) .nil))) (.c 0) 1) (.i (.sel (.app 6 (.l (.app 11 (.l (.v 0) (.i (.v 1000) .nil))) (.i (.v 1000) .nil))) (.c 0) 2) (.i (.v 0) .nil)))) (.i (.sel (.app 6 (.l (.app 11 (.l (.v 0) (.i (.v 1000) .nil))) (.i (.v 1000) .nil))) (.c 0) 2) (.i (.sel (.app 6 (.l (.app 11 (.l (.v 0) (.i (.v 1000) .nil))) (.i (.v 1000) .nil))) (.c 0) 3) .nil)))))) (.i (.v 0) .nil))))]}] := by kernel_rfl
theorem ti0_ok : ti0.ok Φ Try.prog := by
  refine ⟨by kernel_rfl, loop_rule (fun ρ => t4_ok ρ) (loopAt_sub (by kernel_rfl)) ti0_obs ?_⟩
  simp only [and_imp, List.forall_mem_cons, List.not_mem_nil, false_implies, implies_true, and_true, Ob.ok, holds, Eqn.ok, evB_eq, evB_lt, evB_le, evB_not, evB_and, evB_or, evB_eqL, evB_app, evB_v, evB_c, ev_sel, ev_len, ev_v, ev_c, ev_add, ev_sub, ev_mul, ev_quo, ev_rem, ev_bits, ev_wrap, evL_v, evL_lit, evL_app, ev_app, evA_l, evA_i, evA_nil, std_min, std_max, std_cat, std_take, std_drop, std_row, std_set, std_rep, std_find, std_put, std_del, std_flag, std_unflag, std_clr, std_left, std_copy, ints_cons, ints_nil, ofNat_lit, negSucc_lit, decide_eq_true_eq, Bool.and_eq_true, Bool.or_eq_true, Bool.not_eq_true', Bool.and_eq_false_iff, Bool.or_eq_false_iff, decide_eq_false_iff_not, aI210, aI211, aI212, aI213, aI214, aI215, aI220, aI221, aI222, aL210, aL216, aL220, aL222, aL223, aL224, aL225, aB230, aB232, aB240, aB241, aB242, aL226, aL227, aL228, aB199]
  repeat' apply And.intro
  all_goals intro ρ hR
  all_goals intros
  all_goals first
    | (obtain ⟨h0, hz⟩ := rem_none (M := ρ.l 0) (hR.row 3 rfl rfl) (by with_reducible assumption)
       rw [tickO_id h0]
       exact ⟨by omega, rfl, tickM_id hz, rfl⟩)
    | (obtain ⟨A, a, e, B, hM, hA, hB, hc, hf⟩ := at_key (M := ρ.l 0) (x := ρ.i 1000) (hR.keys 3 rfl rfl) (hR.row 3 rfl rfl) (by with_reducible assumption) (by with_reducible assumption)
       have l1 := rem_1 (A := A) (B := B) (x := ρ.i 1000) (a := a) (e := e)
       have l0 := rem_0 (A := A) (B := B) (x := ρ.i 1000) (a := a) (e := e)
       have n1 : (remT (ρ.l 0)).length = (remT A).length + (remT B).length + 1 := by rw [hM, l1]; simp; omega
       have n0 : (remT (clrT (ρ.l 0) (ρ.i 1000))).length = (remT A).length + (remT B).length := by rw [hc, l0]; simp
       have hi := insF_len (ρ.i 1000) a 1 (ρ.l 2)
       have hi2 := insF_len (ρ.i 1000) a (timesI a e (ρ.i 0)) (ρ.l 2)
       have g1 : (List.getD (findK (clrT (ρ.l 0) (ρ.i 1000)) (ρ.i 1000)) (Int.toNat 0) []).getD 1 0 = a := by rw [hf]; rfl
       have g2 : (List.getD (findK (clrT (ρ.l 0) (ρ.i 1000)) (ρ.i 1000)) (Int.toNat 0) []).getD 2 0 = e := by rw [hf]; rfl
       have g3 : (List.getD (findK (clrT (ρ.l 0) (ρ.i 1000)) (ρ.i 1000)) (Int.toNat 0) []).getD 3 0 = 0 := by rw [hf]; rfl
       have p : ∀ row, hdK row = ρ.i 1000 → putK (clrT (ρ.l 0) (ρ.i 1000)) row = A ++ row :: B := fun row h => by rw [hc]; exact put_mid h hA hB
       have d : ∀ row, hdK row = ρ.i 1000 → delK (A ++ row :: B) (ρ.i 1000) = A ++ B := fun row h => del_mid h hA hB
       simp only [g1, g2, g3] at *
       constructor <;> omega)
    | (obtain ⟨A, a, e, B, hM, hA, hB, hc, hf⟩ := at_key (M := ρ.l 0) (x := ρ.i 1000) (hR.keys 3 rfl rfl) (hR.row 3 rfl rfl) (by with_reducible assumption) (by with_reducible assumption)
       have l1 := rem_1 (A := A) (B := B) (x := ρ.i 1000) (a := a) (e := e)
       have l0 := rem_0 (A := A) (B := B) (x := ρ.i 1000) (a := a) (e := e)
       have n1 : (remT (ρ.l 0)).length = (remT A).length + (remT B).length + 1 := by rw [hM, l1]; simp; omega
       have n0 : (remT (clrT (ρ.l 0) (ρ.i 1000))).length = (remT A).length + (remT B).length := by rw [hc, l0]; simp
       have hi := insF_len (ρ.i 1000) a 1 (ρ.l 2)
       have hi2 := insF_len (ρ.i 1000) a (timesI a e (ρ.i 0)) (ρ.l 2)
       have g1 : (List.getD (findK (clrT (ρ.l 0) (ρ.i 1000)) (ρ.i 1000)) (Int.toNat 0) []).getD 1 0 = a := by rw [hf]; rfl
       have g2 : (List.getD (findK (clrT (ρ.l 0) (ρ.i 1000)) (ρ.i 1000)) (Int.toNat 0) []).getD 2 0 = e := by rw [hf]; rfl
       have g3 : (List.getD (findK (clrT (ρ.l 0) (ρ.i 1000)) (ρ.i 1000)) (Int.toNat 0) []).getD 3 0 = 0 := by rw [hf]; rfl
       have p : ∀ row, hdK row = ρ.i 1000 → putK (clrT (ρ.l 0) (ρ.i 1000)) row = A ++ row :: B := fun row h => by rw [hc]; exact put_mid h hA hB
       have d : ∀ row, hdK row = ρ.i 1000 → delK (A ++ row :: B) (ρ.i 1000) = A ++ B := fun row h => del_mid h hA hB
       simp only [g1, g2, g3] at *
       have E1 : tickO (ρ.i 0) (ρ.l 2) (ρ.l 0) = tickO (ρ.i 0) (ρ.l 2) (clrT (ρ.l 0) (ρ.i 1000)) := by rw [hc, hM]; exact tick_not (by omega)
       have E2 : tickM (ρ.i 0) (ρ.l 0) = tickM (ρ.i 0) (clrT (ρ.l 0) (ρ.i 1000)) := by rw [hc, hM]; exact tickM_not (by omega)
       rw [E1, E2]
       exact ⟨by with_reducible assumption, rfl, rfl, rfl⟩)
    | (obtain ⟨A, a, e, B, hM, hA, hB, hc, hf⟩ := at_key (M := ρ.l 0) (x := ρ.i 1000) (hR.keys 3 rfl rfl) (hR.row 3 rfl rfl) (by with_reducible assumption) (by with_reducible assumption)
       have l1 := rem_1 (A := A) (B := B) (x := ρ.i 1000) (a := a) (e := e)
       have l0 := rem_0 (A := A) (B := B) (x := ρ.i 1000) (a := a) (e := e)
       have n1 : (remT (ρ.l 0)).length = (remT A).length + (remT B).length + 1 := by rw [hM, l1]; simp; omega
       have n0 : (remT (clrT (ρ.l 0) (ρ.i 1000))).length = (remT A).length + (remT B).length := by rw [hc, l0]; simp
       have hi := insF_len (ρ.i 1000) a 1 (ρ.l 2)
       have hi2 := insF_len (ρ.i 1000) a (timesI a e (ρ.i 0)) (ρ.l 2)
       have g1 : (List.getD (findK (clrT (ρ.l 0) (ρ.i 1000)) (ρ.i 1000)) (Int.toNat 0) []).getD 1 0 = a := by rw [hf]; rfl
       have g2 : (List.getD (findK (clrT (ρ.l 0) (ρ.i 1000)) (ρ.i 1000)) (Int.toNat 0) []).getD 2 0 = e := by rw [hf]; rfl
       have g3 : (List.getD (findK (clrT (ρ.l 0) (ρ.i 1000)) (ρ.i 1000)) (Int.toNat 0) []).getD 3 0 = 0 := by rw [hf]; rfl
       have p : ∀ row, hdK row = ρ.i 1000 → putK (clrT (ρ.l 0) (ρ.i 1000)) row = A ++ row :: B := fun row h => by rw [hc]; exact put_mid h hA hB
       have d : ∀ row, hdK row = ρ.i 1000 → delK (A ++ row :: B) (ρ.i 1000) = A ++ B := fun row h => del_mid h hA hB
       simp only [g1, g2, g3] at *
       have he : e = 0 := (by with_reducible assumption)
       subst he
       have q1 := p [ρ.i 1000, 0, 0, 0] rfl
       have q2 := d [ρ.i 1000, 0, 0, 0] rfl
       have n3 : (remT (delK (putK (clrT (ρ.l 0) (ρ.i 1000)) [ρ.i 1000, 0, 0, 0]) (ρ.i 1000))).length = (remT A).length + (remT B).length := by rw [q1, q2, rem_2]; simp
       exact ⟨by omega, by omega, by omega⟩)
    | (obtain ⟨A, a, e, B, hM, hA, hB, hc, hf⟩ := at_key (M := ρ.l 0) (x := ρ.i 1000) (hR.keys 3 rfl rfl) (hR.row 3 rfl rfl) (by with_reducible assumption) (by with_reducible assumption)
       have l1 := rem_1 (A := A) (B := B) (x := ρ.i 1000) (a := a) (e := e)
       have l0 := rem_0 (A := A) (B := B) (x := ρ.i 1000) (a := a) (e := e)
       have n1 : (remT (ρ.l 0)).length = (remT A).length + (remT B).length + 1 := by rw [hM, l1]; simp; omega
       have n0 : (remT (clrT (ρ.l 0) (ρ.i 1000))).length = (remT A).length + (remT B).length := by rw [hc, l0]; simp
       have hi := insF_len (ρ.i 1000) a 1 (ρ.l 2)
       have hi2 := insF_len (ρ.i 1000) a (timesI a e (ρ.i 0)) (ρ.l 2)
       have g1 : (List.getD (findK (clrT (ρ.l 0) (ρ.i 1000)) (ρ.i 1000)) (Int.toNat 0) []).getD 1 0 = a := by rw [hf]; rfl
       have g2 : (List.getD (findK (clrT (ρ.l 0) (ρ.i 1000)) (ρ.i 1000)) (Int.toNat 0) []).getD 2 0 = e := by rw [hf]; rfl
       have g3 : (List.getD (findK (clrT (ρ.l 0) (ρ.i 1000)) (ρ.i 1000)) (Int.toNat 0) []).getD 3 0 = 0 := by rw [hf]; rfl
       have p : ∀ row, hdK row = ρ.i 1000 → putK (clrT (ρ.l 0) (ρ.i 1000)) row = A ++ row :: B := fun row h => by rw [hc]; exact put_mid h hA hB
       have d : ∀ row, hdK row = ρ.i 1000 → delK (A ++ row :: B) (ρ.i 1000) = A ++ B := fun row h => del_mid h hA hB
       simp only [g1, g2, g3] at *
       have he : ¬ e = 0 := (by with_reducible assumption)
       have q1 := p [ρ.i 1000, nextI a e (ρ.i 0), e, 0] rfl
       have n3 : (remT (putK (clrT (ρ.l 0) (ρ.i 1000)) [ρ.i 1000, nextI a e (ρ.i 0), e, 0])).length = (remT A).length + (remT B).length := by rw [q1, rem_0]; simp
       exact ⟨by omega, by omega, by omega⟩)
    | (obtain ⟨A, a, e, B, hM, hA, hB, hc, hf⟩ := at_key (M := ρ.l 0) (x := ρ.i 1000) (hR.keys 3 rfl rfl) (hR.row 3 rfl rfl) (by with_reducible assumption) (by with_reducible assumption)
       have l1 := rem_1 (A := A) (B := B) (x := ρ.i 1000) (a := a) (e := e)
       have l0 := rem_0 (A := A) (B := B) (x := ρ.i 1000) (a := a) (e := e)
       have n1 : (remT (ρ.l 0)).length = (remT A).length + (remT B).length + 1 := by rw [hM, l1]; simp; omega
       have n0 : (remT (clrT (ρ.l 0) (ρ.i 1000))).length = (remT A).length + (remT B).length := by rw [hc, l0]; simp
       have hi := insF_len (ρ.i 1000) a 1 (ρ.l 2)
       have hi2 := insF_len (ρ.i 1000) a (timesI a e (ρ.i 0)) (ρ.l 2)
       have g1 : (List.getD (findK (clrT (ρ.l 0) (ρ.i 1000)) (ρ.i 1000)) (Int.toNat 0) []).getD 1 0 = a := by rw [hf]; rfl
       have g2 : (List.getD (findK (clrT (ρ.l 0) (ρ.i 1000)) (ρ.i 1000)) (Int.toNat 0) []).getD 2 0 = e := by rw [hf]; rfl
       have g3 : (List.getD (findK (clrT (ρ.l 0) (ρ.i 1000)) (ρ.i 1000)) (Int.toNat 0) []).getD 3 0 = 0 := by rw [hf]; rfl
       have p : ∀ row, hdK row = ρ.i 1000 → putK (clrT (ρ.l 0) (ρ.i 1000)) row = A ++ row :: B := fun row h => by rw [hc]; exact put_mid h hA hB
       have d : ∀ row, hdK row = ρ.i 1000 → delK (A ++ row :: B) (ρ.i 1000) = A ++ B := fun row h => del_mid h hA hB
       simp only [g1, g2, g3] at *
       have he : e = 0 := (by with_reducible assumption)
       subst he
       have q1 := p [ρ.i 1000, 0, 0, 0] rfl
       have q2 := d [ρ.i 1000, 0, 0, 0] rfl
       have n3 : (remT (delK (putK (clrT (ρ.l 0) (ρ.i 1000)) [ρ.i 1000, 0, 0, 0]) (ρ.i 1000))).length = (remT A).length + (remT B).length := by rw [q1, q2, rem_2]; simp
       have E1 : tickO (ρ.i 0) (ρ.l 2) (ρ.l 0) = tickO (ρ.i 0) (insF (ρ.i 1000) a 1 (ρ.l 2)) (delK (putK (clrT (ρ.l 0) (ρ.i 1000)) [ρ.i 1000, 0, 0, 0]) (ρ.i 1000)) := by rw [q1, q2, hM]; exact tick_one (by omega) hB (by simp)
       have E2 : tickM (ρ.i 0) (ρ.l 0) = tickM (ρ.i 0) (delK (putK (clrT (ρ.l 0) (ρ.i 1000)) [ρ.i 1000, 0, 0, 0]) (ρ.i 1000)) := by rw [q1, q2, hM]; exact tickM_gone (by omega)
       rw [E1, E2]
       exact ⟨by with_reducible assumption, rfl, rfl, rfl⟩)
    | (obtain ⟨A, a, e, B, hM, hA, hB, hc, hf⟩ := at_key (M := ρ.l 0) (x := ρ.i 1000) (hR.keys 3 rfl rfl) (hR.row 3 rfl rfl) (by with_reducible assumption) (by with_reducible assumption)
       have l1 := rem_1 (A := A) (B := B) (x := ρ.i 1000) (a := a) (e := e)
       have l0 := rem_0 (A := A) (B := B) (x := ρ.i 1000) (a := a) (e := e)
       have n1 : (remT (ρ.l 0)).length = (remT A).length + (remT B).length + 1 := by rw [hM, l1]; simp; omega
       have n0 : (remT (clrT (ρ.l 0) (ρ.i 1000))).length = (remT A).length + (remT B).length := by rw [hc, l0]; simp
       have hi := insF_len (ρ.i 1000) a 1 (ρ.l 2)
       have hi2 := insF_len (ρ.i 1000) a (timesI a e (ρ.i 0)) (ρ.l 2)
       have g1 : (List.getD (findK (clrT (ρ.l 0) (ρ.i 1000)) (ρ.i 1000)) (Int.toNat 0) []).getD 1 0 = a := by rw [hf]; rfl
       have g2 : (List.getD (findK (clrT (ρ.l 0) (ρ.i 1000)) (ρ.i 1000)) (Int.toNat 0) []).getD 2 0 = e := by rw [hf]; rfl
       have g3 : (List.getD (findK (clrT (ρ.l 0) (ρ.i 1000)) (ρ.i 1000)) (Int.toNat 0) []).getD 3 0 = 0 := by rw [hf]; rfl
       have p : ∀ row, hdK row = ρ.i 1000 → putK (clrT (ρ.l 0) (ρ.i 1000)) row = A ++ row :: B := fun row h => by rw [hc]; exact put_mid h hA hB
       have d : ∀ row, hdK row = ρ.i 1000 → delK (A ++ row :: B) (ρ.i 1000) = A ++ B := fun row h => del_mid h hA hB
       simp only [g1, g2, g3] at *
       have he : ¬ e = 0 := (by with_reducible assumption)
       have q1 := p [ρ.i 1000, nextI a e (ρ.i 0), e, 0] rfl
       have n3 : (remT (putK (clrT (ρ.l 0) (ρ.i 1000)) [ρ.i 1000, nextI a e (ρ.i 0), e, 0])).length = (remT A).length + (remT B).length := by rw [q1, rem_0]; simp
       have E1 : tickO (ρ.i 0) (ρ.l 2) (ρ.l 0) = tickO (ρ.i 0) (insF (ρ.i 1000) a (timesI a e (ρ.i 0)) (ρ.l 2)) (putK (clrT (ρ.l 0) (ρ.i 1000)) [ρ.i 1000, nextI a e (ρ.i 0), e, 0]) := by rw [q1, hM, tick_mid]; exact tick_one (by omega) hB (by rw [if_neg he])
       have E2 : tickM (ρ.i 0) (ρ.l 0) = tickM (ρ.i 0) (putK (clrT (ρ.l 0) (ρ.i 1000)) [ρ.i 1000, nextI a e (ρ.i 0), e, 0]) := by rw [q1, hM]; exact tickM_next (by omega) he
       rw [E1, E2]
       exact ⟨by with_reducible assumption, rfl, rfl, rfl⟩)
theorem t5_ok (ρ : Env) : TblOK Φ ρ Try.prog t5 := addLp_ok (t4_ok ρ) ti0_ok
set_option maxRecDepth 100000 in
theorem cTick_obs : callObs Φ Try.prog t5 1000 cTick.f cTick.vs cTick.o cTick.pc cTick.outs = some
  [{pc := [.lt (.len (.app 222 (.l (.lit []) (.l (.app 9 (.l (.v 0) .nil)) (.i (.v 0) .nil))))) (.c 80000), .lt (.len (.app 12 (.l (.app 9 (.l (.v 0) .nil)) .nil))) (.c 80000), .not (.lt (.c 549755813888) (.v 0)), .not (.lt (.v 0) (.v 9)), .le (.c 1) (.v 8), .le (.v 8) (.c 10000), .lt (.len (.v 0)) (.c 80000)], eqs := [.T (.lt (.len (.app 224 (.l (.v 0) (.i (.v 0) .nil)))) (.c 80000)), .T (.le (.len (.app 225 (.l (.v 0) (.i (.v 0) .nil)))) (.len (.v 0))), .I (.len (.app 224 (.l (.v 0) (.i (.v 0) .nil)))) (.len (.app 222 (.l (.lit []) (.l (.app 9 (.l (.v 0) .nil)) (.i (.v 0) .nil))))), .L (.app 225 (.l (.v 0) (.i (.v 0) .nil))) (.app 10 (.l (.app 223 (.l (.app 9 (.l (.v 0) .nil)) (.i (.v 0) .nil))) .nil)), .L (.app 224 (.l (.v 0) (.i (.v 0) .nil))) (.app 222 (.l (.lit []) (.l (.app 9 (.l (.v 0) .nil)) (.i (.v 0) .nil))))]}, {pc := [.not (.lt (.len (.app 12 (.l (.app 9 (.l (.v 0) .nil)) .nil))) (.c 80000)), .not (.lt (.c 549755813888) (.v 0)), .not (.lt (.v 0) (.v 9)), .le (.c 1) (.v 8), .le (.v 8) (.c 10000), .lt (.len (.v 0)) (.c 80000)], eqs := [.T (.c false)]}] := by kernel_rfl
theorem cTick_ok : cTick.ok Φ Try.prog := by
  refine call_rule (fun ρ => t5_ok ρ) cTick_obs ?_
  simp only [and_imp, List.forall_mem_cons, List.not_mem_nil, false_implies, implies_true, and_true, Ob.ok, holds, Eqn.ok, evB_eq, evB_lt, evB_le, evB_not, evB_and, evB_or, evB_eqL, evB_app, evB_v, evB_c, ev_sel, ev_len, ev_v, ev_c, ev_add, ev_sub, ev_mul, ev_quo, ev_rem, ev_bits, ev_wrap, evL_v, evL_lit, evL_app, ev_app, evA_l, evA_i, evA_nil, std_min, std_max, std_cat, std_take, std_drop, std_row, std_set, std_rep, std_find, std_put, std_del, std_flag, std_unflag, std_clr, std_left, std_copy, ints_cons, ints_nil, ofNat_lit, negSucc_lit, decide_eq_true_eq, Bool.and_eq_true, Bool.or_eq_true, Bool.not_eq_true', Bool.and_eq_false_iff, Bool.or_eq_false_iff, decide_eq_false_iff_not, aI210, aI211, aI212, aI213, aI214, aI215, aI220, aI221, aI222, aL210, aL216, aL220, aL222, aL223, aL224, aL225, aB230, aB232, aB240, aB241, aB242, aL226, aL227, aL228, aB199]
  repeat' apply And.intro
  all_goals intro ρ hR
  all_goals intros
  all_goals first
    | (have e := tickL_flag (A := ρ.l 0) (hR.row 1 rfl rfl) (ρ.i 0)
       have e2 := tickT_flag (A := ρ.l 0) (hR.row 1 rfl rfl) (ρ.i 0)
       have hl := tickT_len (ρ.l 0) (ρ.i 0)
       rw [e]
       exact ⟨by omega, by omega, rfl, e2, rfl⟩)
    | (have h1 := remT_len (flagT (ρ.l 0))
       have h2 := flagT_len (ρ.l 0)
       omega)
set_option maxRecDepth 100000 in
theorem cNew_obs : callObs Φ Try.prog noTbl 1000 cNew.f cNew.vs cNew.o cNew.pc cNew.outs = some
  [] := by kernel_rfl
theorem cNew_ok : cNew.ok Φ Try.prog := by
  refine call_rule (fun ρ => noTbl_ok) cNew_obs ?_
  intro ob h; cases h
set_option maxRecDepth 100000 in
theorem cArm_obs : callObs Φ Try.prog noTbl 1000 cArm.f cArm.vs cArm.o cArm.pc cArm.outs = some
  [{pc := [.lt (.v 0) (.c 0), .le (.c 1) (.v 8), .le (.v 8) (.c 10000)], eqs := [.T (.le (.len (.app 210 (.l (.v 0) (.i (.v 0) (.i (.v 1) (.i (.v 2) (.i (.v 9) .nil))))))) (.add (.len (.v 0)) (.c 1))), .I (.app 210 (.i (.v 0) (.i (.v 1) (.i (.v 2) (.i (.v 9) .nil))))) (.c 1), .L (.app 210 (.l (.v 0) (.i (.v 0) (.i (.v 1) (.i (.v 2) (.i (.v 9) .nil)))))) (.v 0)]}, {pc := [.lt (.v 2) (.c 0), .not (.lt (.v 0) (.c 0)), .le (.c 1) (.v 8), .le (.v 8) (.c 10000)], eqs := [.T (.le (.len (.app 210 (.l (.v 0) (.i (.v 0) (.i (.v 1) (.i (.v 2) (.i (.v 9) .nil))))))) (.add (.len (.v 0)) (.c 1))), .I (.app 210 (.i (.v 0) (.i (.v 1) (.i (.v 2) (.i (.v 9) .nil))))) (.c 1), .L (.app 210 (.l (.v 0) (.i (.v 0) (.i (.v 1) (.i (.v 2) (.i (.v 9) .nil)))))) (.v 0)]}, {pc := [.lt (.c 1073741824) (.v 2), .not (.lt (.v 2) (.c 0)), .not (.lt (.v 0) (.c 0)), .le (.c 1) (.v 8), .le (.v 8) (.c 10000)], eqs := [.T (.le (.len (.app 210 (.l (.v 0) (.i (.v 0) (.i (.v 1) (.i (.v 2) (.i (.v 9) .nil))))))) (.add (.len (.v 0)) (.c 1))), .I (.app 210 (.i (.v 0) (.i (.v 1) (.i (.v 2) (.i (.v 9) .nil))))) (.c 1), .L (.app 210 (.l (.v 0) (.i (.v 0) (.i (.v 1) (.i (.v 2) (.i (.v 9) .nil)))))) (.v 0)]}, {pc := [.le (.v 1) (.v 9), .not (.lt (.c 1073741824) (.v 2)), .not (.lt (.v 2) (.c 0)), .not (.lt (.v 0) (.c 0)), .le (.c 1) (.v 8), .le (.v 8) (.c 10000)], eqs := [.T (.le (.len (.app 210 (.l (.v 0) (.i (.v 0) (.i (.v 1) (.i (.v 2) (.i (.v 9) .nil))))))) (.add (.len (.v 0)) (.c 1))), .I (.app 210 (.i (.v 0) (.i (.v 1) (.i (.v 2) (.i (.v 9) .nil))))) (.c 1), .L (.app 210 (.l (.v 0) (.i (.v 0) (.i (.v 1) (.i (.v 2) (.i (.v 9) .nil)))))) (.v 0)]}, {pc := [.lt (.c 1099511627776) (.v 1), .not (.le (.v 1) (.v 9)), .not (.lt (.c 1073741824) (.v 2)), .not (.lt (.v 2) (.c 0)), .not (.lt (.v 0) (.c 0)), .le (.c 1) (.v 8), .le (.v 8) (.c 10000)], eqs := [.T (.le (.len (.app 210 (.l (.v 0) (.i (.v 0) (.i (.v 1) (.i (.v 2) (.i (.v 9) .nil))))))) (.add (.len (.v 0)) (.c 1))), .I (.app 210 (.i (.v 0) (.i (.v 1) (.i (.v 2) (.i (.v 9) .nil))))) (.c 1), .L (.app 210 (.l (.v 0) (.i (.v 0) (.i (.v 1) (.i (.v 2) (.i (.v 9) .nil)))))) (.v 0)]}, {pc := [.not (.lt (.c 1099511627776) (.v 1)), .not (.le (.v 1) (.v 9)), .not (.lt (.c 1073741824) (.v 2)), .not (.lt (.v 2) (.c 0)), .not (.lt (.v 0) (.c 0)), .le (.c 1) (.v 8), .le (.v 8) (.c 10000)], eqs := [.T (.le (.len (.app 210 (.l (.v 0) (.i (.v 0) (.i (.v 1) (.i (.v 2) (.i (.v 9) .nil))))))) (.add (.len (.v 0)) (.c 1))), .I (.app 210 (.i (.v 0) (.i (.v 1) (.i (.v 2) (.i (.v 9) .nil))))) (.c 0), .L (.app 210 (.l (.v 0) (.i (.v 0) (.i (.v 1) (.i (.v 2) (.i (.v 9) .nil)))))) (.app 7 (.l (.v 0) (.i (.v 0) (.i (.v 1) (.i (.v 2) .nil)))))]}] := by kernel_rfl
theorem cArm_ok : cArm.ok Φ Try.prog := by
  refine call_rule (fun ρ => noTbl_ok) cArm_obs ?_
  simp only [and_imp, List.forall_mem_cons, List.not_mem_nil, false_implies, implies_true, and_true, Ob.ok, holds, Eqn.ok, evB_eq, evB_lt, evB_le, evB_not, evB_and, evB_or, evB_eqL, evB_app, evB_v, evB_c, ev_sel, ev_len, ev_v, ev_c, ev_add, ev_sub, ev_mul, ev_quo, ev_rem, ev_bits, ev_wrap, evL_v, evL_lit, evL_app, ev_app, evA_l, evA_i, evA_nil, std_min, std_max, std_cat, std_take, std_drop, std_row, std_set, std_rep, std_find, std_put, std_del, std_flag, std_unflag, std_clr, std_left, std_copy, ints_cons, ints_nil, ofNat_lit, negSucc_lit, decide_eq_true_eq, Bool.and_eq_true, Bool.or_eq_true, Bool.not_eq_true', Bool.and_eq_false_iff, Bool.or_eq_false_iff, decide_eq_false_iff_not, aI210, aI211, aI212, aI213, aI214, aI215, aI220, aI221, aI222, aL210, aL216, aL220, aL222, aL223, aL224, aL225, aB230, aB232, aB240, aB241, aB242, aL226, aL227, aL228, aB199]
  repeat' apply And.intro
  all_goals intro ρ hR
  all_goals intros
  all_goals first
    | (have hl := armT_len (ρ.l 0) (ρ.i 0) (ρ.i 1) (ρ.i 2) (ρ.i 9)
       have e := arm_no (T := ρ.l 0) (id := ρ.i 0) (at' := ρ.i 1) (every := ρ.i 2) (now := ρ.i 9) (by omega)
       exact ⟨by omega, e.1, e.2⟩)
    | (have hl := armT_len (ρ.l 0) (ρ.i 0) (ρ.i 1) (ρ.i 2) (ρ.i 9)
       have e := arm_yes (T := ρ.l 0) (id := ρ.i 0) (at' := ρ.i 1) (every := ρ.i 2) (now := ρ.i 9) (by omega)
       exact ⟨by omega, e.1, e.2⟩)
set_option maxRecDepth 100000 in
theorem cDisarm_obs : callObs Φ Try.prog noTbl 1000 cDisarm.f cDisarm.vs cDisarm.o cDisarm.pc cDisarm.outs = some
  [] := by kernel_rfl
theorem cDisarm_ok : cDisarm.ok Φ Try.prog := by
  refine call_rule (fun ρ => noTbl_ok) cDisarm_obs ?_
  intro ob h; cases h
set_option maxRecDepth 100000 in
theorem cNow_obs : callObs Φ Try.prog noTbl 1000 cNow.f cNow.vs cNow.o cNow.pc cNow.outs = some
  [] := by kernel_rfl
theorem cNow_ok : cNow.ok Φ Try.prog := by
  refine call_rule (fun ρ => noTbl_ok) cNow_obs ?_
  intro ob h; cases h
set_option maxRecDepth 100000 in
theorem cCredit_obs : callObs Φ Try.prog noTbl 1000 cCredit.f cCredit.vs cCredit.o cCredit.pc cCredit.outs = some
  [] := by kernel_rfl
theorem cCredit_ok : cCredit.ok Φ Try.prog := by
  refine call_rule (fun ρ => noTbl_ok) cCredit_obs ?_
  intro ob h; cases h
set_option maxRecDepth 100000 in
theorem cCharge_obs : callObs Φ Try.prog noTbl 1000 cCharge.f cCharge.vs cCharge.o cCharge.pc cCharge.outs = some
  [{pc := [.le (.c 1) (.v 8), .le (.v 8) (.c 10000)], eqs := [.I (.app 213 (.l (.v 1) (.i (.v 0) (.i (.v 1) .nil)))) (.app 1 (.i (.c (.negSucc 1073741823)) (.i (.wrap IntKind.i64 (.sub (.sel (.app 6 (.l (.v 1) (.i (.v 0) .nil))) (.c 0) 1) (.app 1 (.i (.c 0) (.i (.app 0 (.i (.v 1) (.i (.c 1073741824) .nil))) .nil))))) .nil))), .B (.lt (.app 213 (.l (.v 1) (.i (.v 0) (.i (.v 1) .nil)))) (.c 1)) (.lt (.app 1 (.i (.c (.negSucc 1073741823)) (.i (.wrap IntKind.i64 (.sub (.sel (.app 6 (.l (.v 1) (.i (.v 0) .nil))) (.c 0) 1) (.app 1 (.i (.c 0) (.i (.app 0 (.i (.v 1) (.i (.c 1073741824) .nil))) .nil))))) .nil))) (.c 1)), .L (.app 7 (.l (.v 1) (.i (.v 0) (.i (.app 213 (.l (.v 1) (.i (.v 0) (.i (.v 1) .nil)))) .nil)))) (.app 7 (.l (.v 1) (.i (.v 0) (.i (.app 1 (.i (.c (.negSucc 1073741823)) (.i (.wrap IntKind.i64 (.sub (.sel (.app 6 (.l (.v 1) (.i (.v 0) .nil))) (.c 0) 1) (.app 1 (.i (.c 0) (.i (.app 0 (.i (.v 1) (.i (.c 1073741824) .nil))) .nil))))) .nil))) .nil))))]}] := by kernel_rfl
theorem cCharge_ok : cCharge.ok Φ Try.prog := by
  refine call_rule (fun ρ => noTbl_ok) cCharge_obs ?_
  simp only [and_imp, List.forall_mem_cons, List.not_mem_nil, false_implies, implies_true, and_true, Ob.ok, holds, Eqn.ok, evB_eq, evB_lt, evB_le, evB_not, evB_and, evB_or, evB_eqL, evB_app, evB_v, evB_c, ev_sel, ev_len, ev_v, ev_c, ev_add, ev_sub, ev_mul, ev_quo, ev_rem, ev_bits, ev_wrap, evL_v, evL_lit, evL_app, ev_app, evA_l, evA_i, evA_nil, std_min, std_max, std_cat, std_take, std_drop, std_row, std_set, std_rep, std_find, std_put, std_del, std_flag, std_unflag, std_clr, std_left, std_copy, ints_cons, ints_nil, ofNat_lit, negSucc_lit, decide_eq_true_eq, Bool.and_eq_true, Bool.or_eq_true, Bool.not_eq_true', Bool.and_eq_false_iff, Bool.or_eq_false_iff, decide_eq_false_iff_not, aI210, aI211, aI212, aI213, aI214, aI215, aI220, aI221, aI222, aL210, aL216, aL220, aL222, aL223, aL224, aL225, aB230, aB232, aB240, aB241, aB242, aL226, aL227, aL228, aB199]
  repeat' apply And.intro
  all_goals intro ρ hR
  all_goals intros
  all_goals first
    | (exact ⟨rfl, rfl, rfl⟩)
set_option maxRecDepth 100000 in
theorem cRefill_obs : callObs Φ Try.prog noTbl 1000 cRefill.f cRefill.vs cRefill.o cRefill.pc cRefill.outs = some
  [{pc := [.le (.c 1) (.v 8), .le (.v 8) (.c 10000)], eqs := [.I (.app 214 (.l (.v 1) (.i (.v 0) (.i (.v 8) (.i (.v 1) .nil))))) (.app 0 (.i (.wrap IntKind.i64 (.mul (.v 8) (.app 1 (.i (.c 1) (.i (.app 0 (.i (.v 1) (.i (.c 1000) .nil))) .nil))))) (.i (.wrap IntKind.i64 (.add (.sel (.app 6 (.l (.v 1) (.i (.v 0) .nil))) (.c 0) 1) (.wrap IntKind.i64 (.mul (.v 8) (.app 1 (.i (.c 1) (.i (.app 0 (.i (.v 1) (.i (.c 1000) .nil))) .nil))))))) .nil))), .L (.app 7 (.l (.v 1) (.i (.v 0) (.i (.app 214 (.l (.v 1) (.i (.v 0) (.i (.v 8) (.i (.v 1) .nil))))) .nil)))) (.app 7 (.l (.v 1) (.i (.v 0) (.i (.app 0 (.i (.wrap IntKind.i64 (.mul (.v 8) (.app 1 (.i (.c 1) (.i (.app 0 (.i (.v 1) (.i (.c 1000) .nil))) .nil))))) (.i (.wrap IntKind.i64 (.add (.sel (.app 6 (.l (.v 1) (.i (.v 0) .nil))) (.c 0) 1) (.wrap IntKind.i64 (.mul (.v 8) (.app 1 (.i (.c 1) (.i (.app 0 (.i (.v 1) (.i (.c 1000) .nil))) .nil))))))) .nil))) .nil))))]}] := by kernel_rfl
theorem cRefill_ok : cRefill.ok Φ Try.prog := by
  refine call_rule (fun ρ => noTbl_ok) cRefill_obs ?_
  simp only [and_imp, List.forall_mem_cons, List.not_mem_nil, false_implies, implies_true, and_true, Ob.ok, holds, Eqn.ok, evB_eq, evB_lt, evB_le, evB_not, evB_and, evB_or, evB_eqL, evB_app, evB_v, evB_c, ev_sel, ev_len, ev_v, ev_c, ev_add, ev_sub, ev_mul, ev_quo, ev_rem, ev_bits, ev_wrap, evL_v, evL_lit, evL_app, ev_app, evA_l, evA_i, evA_nil, std_min, std_max, std_cat, std_take, std_drop, std_row, std_set, std_rep, std_find, std_put, std_del, std_flag, std_unflag, std_clr, std_left, std_copy, ints_cons, ints_nil, ofNat_lit, negSucc_lit, decide_eq_true_eq, Bool.and_eq_true, Bool.or_eq_true, Bool.not_eq_true', Bool.and_eq_false_iff, Bool.or_eq_false_iff, decide_eq_false_iff_not, aI210, aI211, aI212, aI213, aI214, aI215, aI220, aI221, aI222, aL210, aL216, aL220, aL222, aL223, aL224, aL225, aB230, aB232, aB240, aB241, aB242, aL226, aL227, aL228, aB199]
  repeat' apply And.intro
  all_goals intro ρ hR
  all_goals intros
  all_goals first
    | (exact ⟨rfl, rfl⟩)
theorem t6_ok (ρ : Env) : TblOK Φ ρ Try.prog t6 := addFn_ok (addFn_ok (addFn_ok (addFn_ok (addFn_ok (addFn_ok (addFn_ok (addFn_ok (t5_ok ρ) cTick_ok) cNew_ok) cArm_ok) cDisarm_ok) cNow_ok) cCredit_ok) cCharge_ok) cRefill_ok
end Go.SF.C21.T
