/- Words, the fixed calls and what the laws need, shown. -/
import Derived.Test.YtkkofhgdeapmbaaQ4
import Derived.Test.YtkkofhgdeapmbaaQ5
import Derived.Test.YtkkofhgdeapmbaaC2
import Derived.KernelRfl
namespace Go.SF.C22
open Go Go.SF Go.Proofs
set_option linter.unusedVariables false
set_option linter.unusedSimpArgs false

set_option maxRecDepth 100000 in
theorem cPlain_obs : callObs Φ Try.prog t10 1000 cPlain.f cPlain.vs cPlain.o cPlain.pc cPlain.outs = some
  [] := by kernel_rfl
theorem cPlain_ok : cPlain.ok Φ Try.prog := by
  refine call_rule (fun ρ => t10_ok ρ) cPlain_obs ?_
  intro ob h; cases h
theorem q0_ok (ρ : Env) : TblOK Φ ρ Try.prog q0 := addFn_ok (addFn_ok (addFn_ok (t10_ok ρ) cParse_ok) cParseR_ok) cPlain_ok
set_option maxRecDepth 100000 in
theorem cKnown_obs : callObs Φ Try.prog q0 1000 cKnown.f cKnown.vs cKnown.o cKnown.pc cKnown.outs = some
  [] := by kernel_rfl
theorem cKnown_ok : cKnown.ok Φ Try.prog := by
  refine call_rule (fun ρ => q0_ok ρ) cKnown_obs ?_
  intro ob h; cases h
theorem q1_ok (ρ : Env) : TblOK Φ ρ Try.prog q1 := addFn_ok (q0_ok ρ) cKnown_ok
set_option maxRecDepth 100000 in
theorem rt1_obs : callObs Φ Try.prog q1 1000 rt1.f rt1.vs rt1.o rt1.pc rt1.outs = some
  [{pc := [.eq (.app 100 (.i (.v 0) .nil)) (.c (.negSucc 0)), .le (.app 100 (.i (.v 0) .nil)) (.c 3), .le (.c (.negSucc 0)) (.app 100 (.i (.v 0) .nil)), .le (.c 0) (.v 1), .le (.v 1) (.c 18446744073709551615), .le (.c 0) (.v 2), .le (.v 2) (.c 18446744073709551615), .le (.c 0) (.v 3), .le (.v 3) (.c 18446744073709551615)], eqs := [.T (.not (.app 130 (.i (.v 0) (.i (.v 1) (.i (.v 2) (.i (.v 3) .nil))))))]}, {pc := [.eq (.v 3) (.c 0), .eq (.v 2) (.c 0), .eq (.v 1) (.c 0), .le (.app 100 (.i (.v 0) .nil)) (.c 0), .not (.eq (.app 100 (.i (.v 0) .nil)) (.c (.negSucc 0))), .le (.app 100 (.i (.v 0) .nil)) (.c 3), .le (.c (.negSucc 0)) (.app 100 (.i (.v 0) .nil)), .le (.c 0) (.v 1), .le (.v 1) (.c 18446744073709551615), .le (.c 0) (.v 2), .le (.v 2) (.c 18446744073709551615), .le (.c 0) (.v 3), .le (.v 3) (.c 18446744073709551615)], eqs := [.T (.app 130 (.i (.v 0) (.i (.v 1) (.i (.v 2) (.i (.v 3) .nil))))), .T (.le (.c 1) (.v 0)), .T (.le (.v 0) (.c 17))]}, {pc := [.not (.eq (.v 3) (.c 0)), .eq (.v 2) (.c 0), .eq (.v 1) (.c 0), .le (.app 100 (.i (.v 0) .nil)) (.c 0), .not (.eq (.app 100 (.i (.v 0) .nil)) (.c (.negSucc 0))), .le (.app 100 (.i (.v 0) .nil)) (.c 3), .le (.c (.negSucc 0)) (.app 100 (.i (.v 0) .nil)), .le (.c 0) (.v 1), .le (.v 1) (.c 18446744073709551615), .le (.c 0) (.v 2), .le (.v 2) (.c 18446744073709551615), .le (.c 0) (.v 3), .le (.v 3) (.c 18446744073709551615)], eqs := [.T (.not (.app 130 (.i (.v 0) (.i (.v 1) (.i (.v 2) (.i (.v 3) .nil))))))]}, {pc := [.not (.eq (.v 2) (.c 0)), .eq (.v 1) (.c 0), .le (.app 100 (.i (.v 0) .nil)) (.c 0), .not (.eq (.app 100 (.i (.v 0) .nil)) (.c (.negSucc 0))), .le (.app 100 (.i (.v 0) .nil)) (.c 3), .le (.c (.negSucc 0)) (.app 100 (.i (.v 0) .nil)), .le (.c 0) (.v 1), .le (.v 1) (.c 18446744073709551615), .le (.c 0) (.v 2), .le (.v 2) (.c 18446744073709551615), .le (.c 0) (.v 3), .le (.v 3) (.c 18446744073709551615)], eqs := [.T (.not (.app 130 (.i (.v 0) (.i (.v 1) (.i (.v 2) (.i (.v 3) .nil))))))]}, {pc := [.not (.eq (.v 1) (.c 0)), .le (.app 100 (.i (.v 0) .nil)) (.c 0), .not (.eq (.app 100 (.i (.v 0) .nil)) (.c (.negSucc 0))), .le (.app 100 (.i (.v 0) .nil)) (.c 3), .le (.c (.negSucc 0)) (.app 100 (.i (.v 0) .nil)), .le (.c 0) (.v 1), .le (.v 1) (.c 18446744073709551615), .le (.c 0) (.v 2), .le (.v 2) (.c 18446744073709551615), .le (.c 0) (.v 3), .le (.v 3) (.c 18446744073709551615)], eqs := [.T (.not (.app 130 (.i (.v 0) (.i (.v 1) (.i (.v 2) (.i (.v 3) .nil))))))]}, {pc := [.eq (.v 3) (.c 0), .eq (.v 2) (.c 0), .le (.app 100 (.i (.v 0) .nil)) (.c 1), .not (.le (.app 100 (.i (.v 0) .nil)) (.c 0)), .not (.eq (.app 100 (.i (.v 0) .nil)) (.c (.negSucc 0))), .le (.app 100 (.i (.v 0) .nil)) (.c 3), .le (.c (.negSucc 0)) (.app 100 (.i (.v 0) .nil)), .le (.c 0) (.v 1), .le (.v 1) (.c 18446744073709551615), .le (.c 0) (.v 2), .le (.v 2) (.c 18446744073709551615), .le (.c 0) (.v 3), .le (.v 3) (.c 18446744073709551615)], eqs := [.T (.app 130 (.i (.v 0) (.i (.v 1) (.i (.v 2) (.i (.v 3) .nil))))), .T (.le (.c 1) (.v 0)), .T (.le (.v 0) (.c 17))]}, {pc := [.not (.eq (.v 3) (.c 0)), .eq (.v 2) (.c 0), .le (.app 100 (.i (.v 0) .nil)) (.c 1), .not (.le (.app 100 (.i (.v 0) .nil)) (.c 0)), .not (.eq (.app 100 (.i (.v 0) .nil)) (.c (.negSucc 0))), .le (.app 100 (.i (.v 0) .nil)) (.c 3), .le (.c (.negSucc 0)) (.app 100 (.i (.v 0) .nil)), .le (.c 0) (.v 1), .le (.v 1) (.c 18446744073709551615), .le (.c 0) (.v 2), .le (.v 2) (.c 18446744073709551615), .le (.c 0) (.v 3), .le (.v 3) (.c 18446744073709551615)], eqs := [.T (.not (.app 130 (.i (.v 0) (.i (.v 1) (.i (.v 2) (.i (.v 3) .nil))))))]}, {pc := [.not (.eq (.v 2) (.c 0)), .le (.app 100 (.i (.v 0) .nil)) (.c 1), .not (.le (.app 100 (.i (.v 0) .nil)) (.c 0)), .not (.eq (.app 100 (.i (.v 0) .nil)) (.c (.negSucc 0))), .le (.app 100 (.i (.v 0) .nil)) (.c 3), .le (.c (.negSucc 0)) (.app 100 (.i (.v 0) .nil)), .le (.c 0) (.v 1), .le (.v 1) (.c 18446744073709551615), .le (.c 0) (.v 2), .le (.v 2) (.c 18446744073709551615), .le (.c 0) (.v 3), .le (.v 3) (.c 18446744073709551615)], eqs := [.T (.not (.app 130 (.i (.v 0) (.i (.v 1) (.i (.v 2) (.i (.v 3) .nil))))))]}, {pc := [.eq (.v 3) (.c 0), .le (.app 100 (.i (.v 0) .nil)) (.c 2), .not (.le (.app 100 (.i (.v 0) .nil)) (.c 1)), .not (.le (.app 100 (.i (.v 0) .nil)) (.c 0)), .not (.eq (.app 100 (.i (.v 0) .nil)) (.c (.negSucc 0))), .le (.app 100 (.i (.v 0) .nil)) (.c 3), .le (.c (.negSucc 0)) (.app 100 (.i (.v 0) .nil)), .le (.c 0) (.v 1), .le (.v 1) (.c 18446744073709551615), .le (.c 0) (.v 2), .le (.v 2) (.c 18446744073709551615), .le (.c 0) (.v 3), .le (.v 3) (.c 18446744073709551615)], eqs := [.T (.app 130 (.i (.v 0) (.i (.v 1) (.i (.v 2) (.i (.v 3) .nil))))), .T (.le (.c 1) (.v 0)), .T (.le (.v 0) (.c 17))]}, {pc := [.not (.eq (.v 3) (.c 0)), .le (.app 100 (.i (.v 0) .nil)) (.c 2), .not (.le (.app 100 (.i (.v 0) .nil)) (.c 1)), .not (.le (.app 100 (.i (.v 0) .nil)) (.c 0)), .not (.eq (.app 100 (.i (.v 0) .nil)) (.c (.negSucc 0))), .le (.app 100 (.i (.v 0) .nil)) (.c 3), .le (.c (.negSucc 0)) (.app 100 (.i (.v 0) .nil)), .le (.c 0) (.v 1), .le (.v 1) (.c 18446744073709551615), .le (.c 0) (.v 2), .le (.v 2) (.c 18446744073709551615), .le (.c 0) (.v 3), .le (.v 3) (.c 18446744073709551615)], eqs := [.T (.not (.app 130 (.i (.v 0) (.i (.v 1) (.i (.v 2) (.i (.v 3) .nil))))))]}, {pc := [.not (.le (.app 100 (.i (.v 0) .nil)) (.c 2)), .not (.le (.app 100 (.i (.v 0) .nil)) (.c 1)), .not (.le (.app 100 (.i (.v 0) .nil)) (.c 0)), .not (.eq (.app 100 (.i (.v 0) .nil)) (.c (.negSucc 0))), .le (.app 100 (.i (.v 0) .nil)) (.c 3), .le (.c (.negSucc 0)) (.app 100 (.i (.v 0) .nil)), .le (.c 0) (.v 1), .le (.v 1) (.c 18446744073709551615), .le (.c 0) (.v 2), .le (.v 2) (.c 18446744073709551615), .le (.c 0) (.v 3), .le (.v 3) (.c 18446744073709551615)], eqs := [.T (.app 130 (.i (.v 0) (.i (.v 1) (.i (.v 2) (.i (.v 3) .nil))))), .T (.le (.c 1) (.v 0)), .T (.le (.v 0) (.c 17))]}] := by kernel_rfl
theorem rt1_ok : rt1.ok Φ Try.prog := by
  refine call_rule (fun ρ => q1_ok ρ) rt1_obs ?_
  simp only [and_imp, List.forall_mem_cons, List.not_mem_nil, false_implies, implies_true, and_true, Ob.ok, holds, Eqn.ok, evB_eq, evB_lt, evB_le, evB_not, evB_and, evB_or, evB_eqL, evB_app, evB_v, evB_c, ev_sel, ev_len, ev_v, ev_c, ev_add, ev_sub, ev_mul, ev_quo, ev_rem, ev_bits, ev_wrap, evL_v, evL_lit, evL_app, ev_app, evA_l, evA_i, evA_nil, std_min, std_max, std_cat, std_take, std_drop, std_row, std_set, std_rep, std_find, std_put, std_del, std_flag, std_unflag, std_clr, std_left, std_copy, std_cnt, std_catS, std_lenS, std_atS, std_subS, std_ofB, std_snd, std_rcv, ints_cons, ints_nil, ofNat_lit, negSucc_lit, decide_eq_true_eq, Bool.and_eq_true, Bool.or_eq_true, Bool.not_eq_true', Bool.and_eq_false_iff, Bool.or_eq_false_iff, decide_eq_false_iff_not, aI100, aI101, aI102, aI103, aI104, aI105, aI106, aI107, aI108, aI109, aI113, aI114, aI115, aI121, aI123, aI124, aL110, aL111, aL112, aB130, aB131, aB132, aB133, aB134, aB135, aB136, aB199, Bool.not_eq_false']
  repeat' apply And.intro
  all_goals intro ρ hR
  all_goals intros
  all_goals first
    | (have h1 := args_iff (ρ.i 0)
       have h2 := args_range (ρ.i 0)
       have h := (right_iff (ρ.i 0) (ρ.i 1) (ρ.i 2) (ρ.i 3))
       exact ⟨h.2 (by omega), by omega, by omega⟩)
    | (have h1 := args_iff (ρ.i 0)
       have h2 := args_range (ρ.i 0)
       have h := (right_iff (ρ.i 0) (ρ.i 1) (ρ.i 2) (ρ.i 3))
       exact ⟨h.2 (by omega), by omega, by omega, by simp; omega⟩)
    | (have h1 := args_iff (ρ.i 0)
       have h2 := args_range (ρ.i 0)
       rw [Bool.eq_false_iff, Ne, right_iff]
       omega)
theorem q2_ok (ρ : Env) : TblOK Φ ρ Try.prog q2 := addFn_ok (q1_ok ρ) rt1_ok
set_option maxRecDepth 100000 in
theorem en1_obs : callObs Φ Try.prog q2 1000 en1.f en1.vs en1.o en1.pc en1.outs = some
  [] := by kernel_rfl
theorem en1_ok : en1.ok Φ Try.prog := by
  refine call_rule (fun ρ => q2_ok ρ) en1_obs ?_
  intro ob h; cases h
set_option maxRecDepth 100000 in
theorem en2_obs : callObs Φ Try.prog q2 1000 en2.f en2.vs en2.o en2.pc en2.outs = some
  [{pc := [.app 130 (.i (.v 0) (.i (.v 1) (.i (.v 2) (.i (.v 3) .nil)))), .le (.c 0) (.v 1), .le (.v 1) (.c 18446744073709551615), .le (.c 0) (.v 2), .le (.v 2) (.c 18446744073709551615), .le (.c 0) (.v 3), .le (.v 3) (.c 18446744073709551615)], eqs := [.T (.le (.c 1) (.v 0)), .T (.le (.v 0) (.c 17)), .I (.v 0) (.wrap IntKind.u64 (.v 0))]}] := by kernel_rfl
theorem en2_ok : en2.ok Φ Try.prog := by
  refine call_rule (fun ρ => q2_ok ρ) en2_obs ?_
  simp only [and_imp, List.forall_mem_cons, List.not_mem_nil, false_implies, implies_true, and_true, Ob.ok, holds, Eqn.ok, evB_eq, evB_lt, evB_le, evB_not, evB_and, evB_or, evB_eqL, evB_app, evB_v, evB_c, ev_sel, ev_len, ev_v, ev_c, ev_add, ev_sub, ev_mul, ev_quo, ev_rem, ev_bits, ev_wrap, evL_v, evL_lit, evL_app, ev_app, evA_l, evA_i, evA_nil, std_min, std_max, std_cat, std_take, std_drop, std_row, std_set, std_rep, std_find, std_put, std_del, std_flag, std_unflag, std_clr, std_left, std_copy, std_cnt, std_catS, std_lenS, std_atS, std_subS, std_ofB, std_snd, std_rcv, ints_cons, ints_nil, ofNat_lit, negSucc_lit, decide_eq_true_eq, Bool.and_eq_true, Bool.or_eq_true, Bool.not_eq_true', Bool.and_eq_false_iff, Bool.or_eq_false_iff, decide_eq_false_iff_not, aI100, aI101, aI102, aI103, aI104, aI105, aI106, aI107, aI108, aI109, aI113, aI114, aI115, aI121, aI123, aI124, aL110, aL111, aL112, aB130, aB131, aB132, aB133, aB134, aB135, aB136, aB199, Bool.not_eq_false']
  repeat' apply And.intro
  all_goals intro ρ hR
  all_goals intros
  all_goals first
    | (have hr : rightB (ρ.i 0) (ρ.i 1) (ρ.i 2) (ρ.i 3) = true := by with_reducible assumption
       obtain ⟨h1, h2, _⟩ := (right_iff ..).1 hr
       exact ⟨h1, h2, (wrap_u (by omega) (by omega)).symm⟩)
theorem q3_ok (ρ : Env) : TblOK Φ ρ Try.prog q3 := addFn_ok (addFn_ok (q2_ok ρ) en1_ok) en2_ok
set_option maxRecDepth 100000 in
theorem wq1_obs : callObs Φ Try.prog q3 1000 wq1.f wq1.vs wq1.o wq1.pc wq1.outs = some
  [] := by kernel_rfl
theorem wq1_ok : wq1.ok Φ Try.prog := by
  refine call_rule (fun ρ => q3_ok ρ) wq1_obs ?_
  intro ob h; cases h
set_option maxRecDepth 100000 in
theorem wq2_obs : callObs Φ Try.prog q3 1000 wq2.f wq2.vs wq2.o wq2.pc wq2.outs = some
  [] := by kernel_rfl
theorem wq2_ok : wq2.ok Φ Try.prog := by
  refine call_rule (fun ρ => q3_ok ρ) wq2_obs ?_
  intro ob h; cases h
set_option maxRecDepth 100000 in
theorem wq3_obs : callObs Φ Try.prog q3 1000 wq3.f wq3.vs wq3.o wq3.pc wq3.outs = some
  [] := by kernel_rfl
theorem wq3_ok : wq3.ok Φ Try.prog := by
  refine call_rule (fun ρ => q3_ok ρ) wq3_obs ?_
  intro ob h; cases h
set_option maxRecDepth 100000 in
theorem wq4_obs : callObs Φ Try.prog q3 1000 wq4.f wq4.vs wq4.o wq4.pc wq4.outs = some
  [] := by kernel_rfl
theorem wq4_ok : wq4.ok Φ Try.prog := by
  refine call_rule (fun ρ => q3_ok ρ) wq4_obs ?_
  intro ob h; cases h
theorem q4_ok (ρ : Env) : TblOK Φ ρ Try.prog q4 := addFn_ok (addFn_ok (addFn_ok (addFn_ok (q3_ok ρ) wq1_ok) wq2_ok) wq3_ok) wq4_ok
set_option maxRecDepth 100000 in
theorem ct1_obs : callObs Φ Try.prog q4 1000 ct1.f ct1.vs ct1.o ct1.pc ct1.outs = some
  [{pc := [.eq (.v 0) (.c 1)], eqs := [.B (.or (.eq (.v 0) (.c 1)) (.or (.eq (.v 0) (.c 2)) (.eq (.v 0) (.c 17)))) (.c true)]}, {pc := [.eq (.v 0) (.c 2), .not (.eq (.v 0) (.c 1))], eqs := [.B (.or (.eq (.v 0) (.c 1)) (.or (.eq (.v 0) (.c 2)) (.eq (.v 0) (.c 17)))) (.c true)]}, {pc := [.not (.eq (.v 0) (.c 2)), .not (.eq (.v 0) (.c 1))], eqs := [.B (.or (.eq (.v 0) (.c 1)) (.or (.eq (.v 0) (.c 2)) (.eq (.v 0) (.c 17)))) (.eq (.v 0) (.c 17))]}] := by kernel_rfl
theorem ct1_ok : ct1.ok Φ Try.prog := by
  refine call_rule (fun ρ => q4_ok ρ) ct1_obs ?_
  simp only [and_imp, List.forall_mem_cons, List.not_mem_nil, false_implies, implies_true, and_true, Ob.ok, holds, Eqn.ok, evB_eq, evB_lt, evB_le, evB_not, evB_and, evB_or, evB_eqL, evB_app, evB_v, evB_c, ev_sel, ev_len, ev_v, ev_c, ev_add, ev_sub, ev_mul, ev_quo, ev_rem, ev_bits, ev_wrap, evL_v, evL_lit, evL_app, ev_app, evA_l, evA_i, evA_nil, std_min, std_max, std_cat, std_take, std_drop, std_row, std_set, std_rep, std_find, std_put, std_del, std_flag, std_unflag, std_clr, std_left, std_copy, std_cnt, std_catS, std_lenS, std_atS, std_subS, std_ofB, std_snd, std_rcv, ints_cons, ints_nil, ofNat_lit, negSucc_lit, decide_eq_true_eq, Bool.and_eq_true, Bool.or_eq_true, Bool.not_eq_true', Bool.and_eq_false_iff, Bool.or_eq_false_iff, decide_eq_false_iff_not, aI100, aI101, aI102, aI103, aI104, aI105, aI106, aI107, aI108, aI109, aI113, aI114, aI115, aI121, aI123, aI124, aL110, aL111, aL112, aB130, aB131, aB132, aB133, aB134, aB135, aB136, aB199, Bool.not_eq_false']
  repeat' apply And.intro
  all_goals intro ρ hR
  all_goals intros
  all_goals first
    | (simp
       omega)
    | (simp [*])
set_option maxRecDepth 100000 in
theorem ct2_obs : callObs Φ Try.prog q4 1000 ct2.f ct2.vs ct2.o ct2.pc ct2.outs = some
  [{pc := [.eq (.v 0) (.c 1)], eqs := [.B (.or (.eq (.v 0) (.c 1)) (.or (.eq (.v 0) (.c 2)) (.eq (.v 0) (.c 17)))) (.c true)]}, {pc := [.eq (.v 0) (.c 2), .not (.eq (.v 0) (.c 1))], eqs := [.B (.or (.eq (.v 0) (.c 1)) (.or (.eq (.v 0) (.c 2)) (.eq (.v 0) (.c 17)))) (.c true)]}, {pc := [.not (.eq (.v 0) (.c 2)), .not (.eq (.v 0) (.c 1))], eqs := [.B (.or (.eq (.v 0) (.c 1)) (.or (.eq (.v 0) (.c 2)) (.eq (.v 0) (.c 17)))) (.eq (.v 0) (.c 17))]}] := by kernel_rfl
theorem ct2_ok : ct2.ok Φ Try.prog := by
  refine call_rule (fun ρ => q4_ok ρ) ct2_obs ?_
  simp only [and_imp, List.forall_mem_cons, List.not_mem_nil, false_implies, implies_true, and_true, Ob.ok, holds, Eqn.ok, evB_eq, evB_lt, evB_le, evB_not, evB_and, evB_or, evB_eqL, evB_app, evB_v, evB_c, ev_sel, ev_len, ev_v, ev_c, ev_add, ev_sub, ev_mul, ev_quo, ev_rem, ev_bits, ev_wrap, evL_v, evL_lit, evL_app, ev_app, evA_l, evA_i, evA_nil, std_min, std_max, std_cat, std_take, std_drop, std_row, std_set, std_rep, std_find, std_put, std_del, std_flag, std_unflag, std_clr, std_left, std_copy, std_cnt, std_catS, std_lenS, std_atS, std_subS, std_ofB, std_snd, std_rcv, ints_cons, ints_nil, ofNat_lit, negSucc_lit, decide_eq_true_eq, Bool.and_eq_true, Bool.or_eq_true, Bool.not_eq_true', Bool.and_eq_false_iff, Bool.or_eq_false_iff, decide_eq_false_iff_not, aI100, aI101, aI102, aI103, aI104, aI105, aI106, aI107, aI108, aI109, aI113, aI114, aI115, aI121, aI123, aI124, aL110, aL111, aL112, aB130, aB131, aB132, aB133, aB134, aB135, aB136, aB199, Bool.not_eq_false']
  repeat' apply And.intro
  all_goals intro ρ hR
  all_goals intros
  all_goals first
    | (simp
       omega)
    | (simp [*])
theorem q5_ok (ρ : Env) : TblOK Φ ρ Try.prog q5 := addFn_ok (addFn_ok (q4_ok ρ) ct1_ok) ct2_ok
end Go.SF.C22
