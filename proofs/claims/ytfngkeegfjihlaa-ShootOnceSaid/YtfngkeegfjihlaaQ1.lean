/- Chapter 15: the package shoot does what its contracts say. -/
import Derived.Test.YtfngkeegfjihlaaC1
import Derived.Test.YtfngkeegfjihlaaP4
import Derived.KernelRfl
namespace Go.SF.C15
open Go Go.SF Go.Proofs
set_option linter.unusedVariables false
set_option linter.unusedSimpArgs false

set_option maxRecDepth 100000 in
theorem nw0_obs : loopObs Φ Try.prog noTbl 1000 nw0.f (loopAt Try.prog nw0.f nw0.id) nw0.n nw0.T k0 nw0.outs = some
  [{ pc := [SB.eq (SI.len (SL.app 6 (SA.l (SL.v 0) (SA.i (SI.v 1000) SA.nil)))) (SI.c (Int.ofNat 0)), SB.le (SI.c (Int.ofNat 1)) (SI.v 1000), SB.lt (SI.v 1) (SI.v 0), SB.le (SI.v 0) (SI.c (Int.ofNat 8)), SB.le (SI.c (Int.ofNat 0)) (SI.v 1), SB.le (SI.v 1) (SI.v 0), SB.eq (SI.len (SL.v 0)) (SI.v 1), SB.c true, SB.app 136 (SA.l (SL.v 0) SA.nil)], eqs := [Eqn.T (SB.lt (SI.sub (SI.v 0) (SI.add (SI.v 1) (SI.c (Int.ofNat 1)))) (SI.sub (SI.v 0) (SI.v 1))), Eqn.T (SB.lt (SI.c (Int.ofNat 0)) (SI.sub (SI.v 0) (SI.v 1))), Eqn.T (SB.app 136 (SA.l (SL.app 0 (SA.l (SL.v 0) (SA.l (SL.app 3 (SA.i (SI.v 1000) SA.nil)) SA.nil))) SA.nil))] }] := by kernel_rfl
theorem nw0_ok : nw0.ok Φ Try.prog := by
  refine ⟨by kernel_rfl, loop_rule (fun ρ => noTbl_ok) (loopAt_sub (by kernel_rfl)) nw0_obs ?_⟩
  simp only [and_imp, List.forall_mem_cons, List.not_mem_nil, false_implies, implies_true, and_true, Ob.ok, holds, Eqn.ok, evB_eq, evB_lt, evB_le, evB_not, evB_and, evB_or, evB_eqL, evB_app, evB_v, evB_c, ev_sel, ev_len, ev_v, ev_c, ev_add, ev_sub, ev_mul, ev_quo, ev_rem, ev_bits, ev_wrap, evL_v, evL_lit, evL_app, ev_app, evA_l, evA_i, evA_nil, std_min, std_max, std_cat, std_take, std_drop, std_row, std_set, std_rep, std_find, std_put, std_del, std_flag, std_unflag, std_clr, std_left, std_copy, std_cnt, std_catS, std_lenS, std_atS, std_subS, std_ofB, std_snd, std_rcv, ints_cons, ints_nil, ofNat_lit, negSucc_lit, decide_eq_true_eq, Bool.and_eq_true, Bool.or_eq_true, Bool.not_eq_true', Bool.and_eq_false_iff, Bool.or_eq_false_iff, decide_eq_false_iff_not, aI100, aI101, aL110, aL111, aL112, aL113, aL114, aL115, aL116, aL117, aL118, aB130, aB131, aB132, aB133, aB134, aB135, aB136, aB137, aB138, aB199, Bool.not_eq_false']
  repeat' apply And.intro
  all_goals intro ρ hR
  all_goals intros
  all_goals first
    | (omega)
    | (have hn : okB (ρ.l 0) = true := by with_reducible assumption
       exact ⟨by omega, by omega, ok_more hn rfl (by omega) (by with_reducible assumption)⟩)
theorem t1_ok (ρ : Env) : TblOK Φ ρ Try.prog t1 := addLp_ok noTbl_ok nw0_ok
set_option maxRecDepth 100000 in
theorem cNew_obs : callObs Φ Try.prog t1 1000 cNew.f cNew.vs cNew.o cNew.pc cNew.outs = some
  [{ pc := [SB.app 136 (SA.l (SL.v 1001) SA.nil), SB.eq (SI.len (SL.v 1001)) (SI.v 0), SB.app 136 (SA.l (SL.app 3 (SA.i (SI.v 1000) SA.nil)) SA.nil), SB.le (SI.c (Int.ofNat 1)) (SI.v 1000), SB.not (SB.lt (SI.c (Int.ofNat 8)) (SI.v 0)), SB.not (SB.lt (SI.v 0) (SI.c (Int.ofNat 1)))], eqs := [Eqn.T (SB.eq (SI.len (SL.app 5 (SA.i (SI.v 0) SA.nil))) (SI.v 0)), Eqn.T (SB.app 130 (SA.l (SL.app 5 (SA.i (SI.v 0) SA.nil)) (SA.l (SL.lit []) SA.nil))), Eqn.L (SL.app 115 (SA.l (SL.v 1001) (SA.l (SL.app 5 (SA.i (SI.v 0) SA.nil)) SA.nil))) (SL.v 1001)] }, { pc := [SB.not (SB.app 136 (SA.l (SL.app 3 (SA.i (SI.v 1000) SA.nil)) SA.nil)), SB.le (SI.c (Int.ofNat 1)) (SI.v 1000), SB.not (SB.lt (SI.c (Int.ofNat 8)) (SI.v 0)), SB.not (SB.lt (SI.v 0) (SI.c (Int.ofNat 1)))], eqs := [Eqn.T (SB.c false)] }] := by kernel_rfl
theorem cNew_ok : cNew.ok Φ Try.prog := by
  refine call_rule (fun ρ => t1_ok ρ) cNew_obs ?_
  simp only [and_imp, List.forall_mem_cons, List.not_mem_nil, false_implies, implies_true, and_true, Ob.ok, holds, Eqn.ok, evB_eq, evB_lt, evB_le, evB_not, evB_and, evB_or, evB_eqL, evB_app, evB_v, evB_c, ev_sel, ev_len, ev_v, ev_c, ev_add, ev_sub, ev_mul, ev_quo, ev_rem, ev_bits, ev_wrap, evL_v, evL_lit, evL_app, ev_app, evA_l, evA_i, evA_nil, std_min, std_max, std_cat, std_take, std_drop, std_row, std_set, std_rep, std_find, std_put, std_del, std_flag, std_unflag, std_clr, std_left, std_copy, std_cnt, std_catS, std_lenS, std_atS, std_subS, std_ofB, std_snd, std_rcv, ints_cons, ints_nil, ofNat_lit, negSucc_lit, decide_eq_true_eq, Bool.and_eq_true, Bool.or_eq_true, Bool.not_eq_true', Bool.and_eq_false_iff, Bool.or_eq_false_iff, decide_eq_false_iff_not, aI100, aI101, aL110, aL111, aL112, aL113, aL114, aL115, aL116, aL117, aL118, aB130, aB131, aB132, aB133, aB134, aB135, aB136, aB137, aB138, aB199, Bool.not_eq_false']
  repeat' apply And.intro
  all_goals intro ρ hR
  all_goals intros
  all_goals first
    | (exfalso
       exact Bool.false_ne_true (‹okB _ = false›.symm.trans (ok_one _)))
    | (exact ⟨nilQ_len (by omega), stQ_nil _, lay_nil (by with_reducible assumption) (by omega)⟩)
set_option maxRecDepth 100000 in
theorem cHas_obs : callObs Φ Try.prog t1 1000 cHas.f cHas.vs cHas.o cHas.pc cHas.outs = some
  [{ pc := [SB.le (SI.c (Int.ofNat 0)) (SI.v 0), SB.le (SI.c (Int.ofNat 1)) (SI.len (SL.v 0)), SB.le (SI.len (SL.v 0)) (SI.c (Int.ofNat 8)), SB.le (SI.len (SL.v 2)) (SI.c (Int.ofNat 1000))], eqs := [Eqn.B (SB.and (SB.le (SI.c (Int.ofNat 0)) (SI.v 0)) (SB.lt (SI.v 0) (SI.len (SL.v 0)))) (SB.lt (SI.v 0) (SI.len (SL.v 0)))] }, { pc := [SB.not (SB.le (SI.c (Int.ofNat 0)) (SI.v 0)), SB.le (SI.c (Int.ofNat 1)) (SI.len (SL.v 0)), SB.le (SI.len (SL.v 0)) (SI.c (Int.ofNat 8)), SB.le (SI.len (SL.v 2)) (SI.c (Int.ofNat 1000))], eqs := [Eqn.B (SB.and (SB.le (SI.c (Int.ofNat 0)) (SI.v 0)) (SB.lt (SI.v 0) (SI.len (SL.v 0)))) (SB.c false)] }] := by kernel_rfl
theorem cHas_ok : cHas.ok Φ Try.prog := by
  refine call_rule (fun ρ => t1_ok ρ) cHas_obs ?_
  simp only [and_imp, List.forall_mem_cons, List.not_mem_nil, false_implies, implies_true, and_true, Ob.ok, holds, Eqn.ok, evB_eq, evB_lt, evB_le, evB_not, evB_and, evB_or, evB_eqL, evB_app, evB_v, evB_c, ev_sel, ev_len, ev_v, ev_c, ev_add, ev_sub, ev_mul, ev_quo, ev_rem, ev_bits, ev_wrap, evL_v, evL_lit, evL_app, ev_app, evA_l, evA_i, evA_nil, std_min, std_max, std_cat, std_take, std_drop, std_row, std_set, std_rep, std_find, std_put, std_del, std_flag, std_unflag, std_clr, std_left, std_copy, std_cnt, std_catS, std_lenS, std_atS, std_subS, std_ofB, std_snd, std_rcv, ints_cons, ints_nil, ofNat_lit, negSucc_lit, decide_eq_true_eq, Bool.and_eq_true, Bool.or_eq_true, Bool.not_eq_true', Bool.and_eq_false_iff, Bool.or_eq_false_iff, decide_eq_false_iff_not, aI100, aI101, aL110, aL111, aL112, aL113, aL114, aL115, aL116, aL117, aL118, aB130, aB131, aB132, aB133, aB134, aB135, aB136, aB137, aB138, aB199, Bool.not_eq_false']
  repeat' apply And.intro
  all_goals intro ρ hR
  all_goals intros
  all_goals first
    | (rw [Bool.eq_iff_iff]
       simp only [Bool.and_eq_true, decide_eq_true_eq]
       omega)
    | (omega)
theorem t2_ok (ρ : Env) : TblOK Φ ρ Try.prog t2 := addFn_ok (t1_ok ρ) cHas_ok
set_option maxRecDepth 100000 in
theorem cOth_obs : callObs Φ Try.prog t2 1000 cOth.f cOth.vs cOth.o cOth.pc cOth.outs = some
  [{ pc := [SB.le (SI.c (Int.ofNat 1)) (SI.len (SL.v 0)), SB.le (SI.len (SL.v 0)) (SI.c (Int.ofNat 8)), SB.le (SI.len (SL.v 2)) (SI.c (Int.ofNat 1000)), SB.le (SI.c (Int.ofNat 0)) (SI.v 0), SB.lt (SI.v 0) (SI.len (SL.v 0))], eqs := [Eqn.T (SB.eq (SI.len (SL.app 0 (SA.l (SL.app 1 (SA.l (SL.v 0) (SA.i (SI.v 0) SA.nil))) (SA.l (SL.app 2 (SA.l (SL.v 0) (SA.i (SI.add (SI.v 0) (SI.c (Int.ofNat 1))) SA.nil))) SA.nil)))) (SI.sub (SI.len (SL.v 0)) (SI.c (Int.ofNat 1)))), Eqn.I (SI.len (SL.app 0 (SA.l (SL.app 1 (SA.l (SL.v 0) (SA.i (SI.v 0) SA.nil))) (SA.l (SL.app 2 (SA.l (SL.v 0) (SA.i (SI.add (SI.v 0) (SI.c (Int.ofNat 1))) SA.nil))) SA.nil)))) (SI.add (SI.len (SL.app 1 (SA.l (SL.v 0) (SA.i (SI.v 0) SA.nil)))) (SI.len (SL.app 2 (SA.l (SL.v 0) (SA.i (SI.add (SI.v 0) (SI.c (Int.ofNat 1))) SA.nil)))))] }] := by kernel_rfl
theorem cOth_ok : cOth.ok Φ Try.prog := by
  refine call_rule (fun ρ => t2_ok ρ) cOth_obs ?_
  simp only [and_imp, List.forall_mem_cons, List.not_mem_nil, false_implies, implies_true, and_true, Ob.ok, holds, Eqn.ok, evB_eq, evB_lt, evB_le, evB_not, evB_and, evB_or, evB_eqL, evB_app, evB_v, evB_c, ev_sel, ev_len, ev_v, ev_c, ev_add, ev_sub, ev_mul, ev_quo, ev_rem, ev_bits, ev_wrap, evL_v, evL_lit, evL_app, ev_app, evA_l, evA_i, evA_nil, std_min, std_max, std_cat, std_take, std_drop, std_row, std_set, std_rep, std_find, std_put, std_del, std_flag, std_unflag, std_clr, std_left, std_copy, std_cnt, std_catS, std_lenS, std_atS, std_subS, std_ofB, std_snd, std_rcv, ints_cons, ints_nil, ofNat_lit, negSucc_lit, decide_eq_true_eq, Bool.and_eq_true, Bool.or_eq_true, Bool.not_eq_true', Bool.and_eq_false_iff, Bool.or_eq_false_iff, decide_eq_false_iff_not, aI100, aI101, aL110, aL111, aL112, aL113, aL114, aL115, aL116, aL117, aL118, aB130, aB131, aB132, aB133, aB134, aB135, aB136, aB137, aB138, aB199, Bool.not_eq_false']
  repeat' apply And.intro
  all_goals intro ρ hR
  all_goals intros
  all_goals first
    | (have e := oth_len (B := ρ.l 0) (c := ρ.i 0) (by omega) (by omega)
       unfold othT at e
       rw [List.length_append] at *
       exact ⟨by omega, by omega⟩)
theorem t3_ok (ρ : Env) : TblOK Φ ρ Try.prog t3 := addFn_ok (t2_ok ρ) cOth_ok
set_option maxRecDepth 100000 in
theorem po1_obs : loopObs Φ Try.prog t3 1000 po1.f (loopAt Try.prog po1.f po1.id) po1.n po1.T k1 po1.outs = some
  [{ pc := [SB.eq (SI.app 2 (SA.l (SL.v 1) (SA.i (SI.sel (SL.v 4) (SI.v 3) 0) (SA.i (SI.c (Int.ofNat 3)) SA.nil)))) (SI.c (Int.ofNat 16)), SB.lt (SI.c (Int.ofNat 0)) (SI.len (SL.app 6 (SA.l (SL.v 1) (SA.i (SI.sel (SL.v 4) (SI.v 3) 0) SA.nil)))), SB.le (SI.c (Int.ofNat 0)) (SI.sel (SL.v 4) (SI.v 3) 0), SB.lt (SI.v 3) (SI.len (SL.v 4)), SB.le (SI.c (Int.ofNat 1)) (SI.len (SL.v 0)), SB.le (SI.len (SL.v 0)) (SI.c (Int.ofNat 8)), SB.le (SI.len (SL.v 2)) (SI.c (Int.ofNat 1000)), SB.le (SI.len (SL.v 4)) (SI.c (Int.ofNat 8)), SB.le (SI.c (Int.ofNat 0)) (SI.v 3), SB.le (SI.v 3) (SI.len (SL.v 4)), SB.c true, SB.app 132 (SA.l (SL.v 4) (SA.l (SL.v 1) SA.nil))], eqs := [Eqn.T (SB.app 133 (SA.l (SL.v 4) (SA.l (SL.v 1) (SA.i (SI.v 3) SA.nil))))] }, { pc := [SB.not (SB.eq (SI.app 2 (SA.l (SL.v 1) (SA.i (SI.sel (SL.v 4) (SI.v 3) 0) (SA.i (SI.c (Int.ofNat 3)) SA.nil)))) (SI.c (Int.ofNat 16))), SB.lt (SI.c (Int.ofNat 0)) (SI.len (SL.app 6 (SA.l (SL.v 1) (SA.i (SI.sel (SL.v 4) (SI.v 3) 0) SA.nil)))), SB.le (SI.c (Int.ofNat 0)) (SI.sel (SL.v 4) (SI.v 3) 0), SB.lt (SI.v 3) (SI.len (SL.v 4)), SB.le (SI.c (Int.ofNat 1)) (SI.len (SL.v 0)), SB.le (SI.len (SL.v 0)) (SI.c (Int.ofNat 8)), SB.le (SI.len (SL.v 2)) (SI.c (Int.ofNat 1000)), SB.le (SI.len (SL.v 4)) (SI.c (Int.ofNat 8)), SB.le (SI.c (Int.ofNat 0)) (SI.v 3), SB.le (SI.v 3) (SI.len (SL.v 4)), SB.c true, SB.app 132 (SA.l (SL.v 4) (SA.l (SL.v 1) SA.nil))], eqs := [Eqn.T (SB.lt (SI.sub (SI.len (SL.v 4)) (SI.add (SI.v 3) (SI.c (Int.ofNat 1)))) (SI.sub (SI.len (SL.v 4)) (SI.v 3))), Eqn.T (SB.lt (SI.c (Int.ofNat 0)) (SI.sub (SI.len (SL.v 4)) (SI.v 3)))] }, { pc := [SB.not (SB.app 133 (SA.l (SL.v 4) (SA.l (SL.v 1) (SA.i (SI.add (SI.v 3) (SI.c (Int.ofNat 1))) SA.nil)))), SB.not (SB.eq (SI.app 2 (SA.l (SL.v 1) (SA.i (SI.sel (SL.v 4) (SI.v 3) 0) (SA.i (SI.c (Int.ofNat 3)) SA.nil)))) (SI.c (Int.ofNat 16))), SB.lt (SI.c (Int.ofNat 0)) (SI.len (SL.app 6 (SA.l (SL.v 1) (SA.i (SI.sel (SL.v 4) (SI.v 3) 0) SA.nil)))), SB.le (SI.c (Int.ofNat 0)) (SI.sel (SL.v 4) (SI.v 3) 0), SB.lt (SI.v 3) (SI.len (SL.v 4)), SB.le (SI.c (Int.ofNat 1)) (SI.len (SL.v 0)), SB.le (SI.len (SL.v 0)) (SI.c (Int.ofNat 8)), SB.le (SI.len (SL.v 2)) (SI.c (Int.ofNat 1000)), SB.le (SI.len (SL.v 4)) (SI.c (Int.ofNat 8)), SB.le (SI.c (Int.ofNat 0)) (SI.v 3), SB.le (SI.v 3) (SI.len (SL.v 4)), SB.c true, SB.app 132 (SA.l (SL.v 4) (SA.l (SL.v 1) SA.nil))], eqs := [Eqn.T (SB.not (SB.app 133 (SA.l (SL.v 4) (SA.l (SL.v 1) (SA.i (SI.v 3) SA.nil)))))] }, { pc := [SB.app 133 (SA.l (SL.v 4) (SA.l (SL.v 1) (SA.i (SI.add (SI.v 3) (SI.c (Int.ofNat 1))) SA.nil))), SB.not (SB.eq (SI.app 2 (SA.l (SL.v 1) (SA.i (SI.sel (SL.v 4) (SI.v 3) 0) (SA.i (SI.c (Int.ofNat 3)) SA.nil)))) (SI.c (Int.ofNat 16))), SB.lt (SI.c (Int.ofNat 0)) (SI.len (SL.app 6 (SA.l (SL.v 1) (SA.i (SI.sel (SL.v 4) (SI.v 3) 0) SA.nil)))), SB.le (SI.c (Int.ofNat 0)) (SI.sel (SL.v 4) (SI.v 3) 0), SB.lt (SI.v 3) (SI.len (SL.v 4)), SB.le (SI.c (Int.ofNat 1)) (SI.len (SL.v 0)), SB.le (SI.len (SL.v 0)) (SI.c (Int.ofNat 8)), SB.le (SI.len (SL.v 2)) (SI.c (Int.ofNat 1000)), SB.le (SI.len (SL.v 4)) (SI.c (Int.ofNat 8)), SB.le (SI.c (Int.ofNat 0)) (SI.v 3), SB.le (SI.v 3) (SI.len (SL.v 4)), SB.c true, SB.app 132 (SA.l (SL.v 4) (SA.l (SL.v 1) SA.nil))], eqs := [Eqn.T (SB.app 133 (SA.l (SL.v 4) (SA.l (SL.v 1) (SA.i (SI.v 3) SA.nil))))] }, { pc := [SB.not (SB.lt (SI.c (Int.ofNat 0)) (SI.len (SL.app 6 (SA.l (SL.v 1) (SA.i (SI.sel (SL.v 4) (SI.v 3) 0) SA.nil))))), SB.le (SI.c (Int.ofNat 0)) (SI.sel (SL.v 4) (SI.v 3) 0), SB.lt (SI.v 3) (SI.len (SL.v 4)), SB.le (SI.c (Int.ofNat 1)) (SI.len (SL.v 0)), SB.le (SI.len (SL.v 0)) (SI.c (Int.ofNat 8)), SB.le (SI.len (SL.v 2)) (SI.c (Int.ofNat 1000)), SB.le (SI.len (SL.v 4)) (SI.c (Int.ofNat 8)), SB.le (SI.c (Int.ofNat 0)) (SI.v 3), SB.le (SI.v 3) (SI.len (SL.v 4)), SB.c true, SB.app 132 (SA.l (SL.v 4) (SA.l (SL.v 1) SA.nil))], eqs := [Eqn.T (SB.c false)] }, { pc := [SB.not (SB.lt (SI.v 3) (SI.len (SL.v 4))), SB.le (SI.c (Int.ofNat 1)) (SI.len (SL.v 0)), SB.le (SI.len (SL.v 0)) (SI.c (Int.ofNat 8)), SB.le (SI.len (SL.v 2)) (SI.c (Int.ofNat 1000)), SB.le (SI.len (SL.v 4)) (SI.c (Int.ofNat 8)), SB.le (SI.c (Int.ofNat 0)) (SI.v 3), SB.le (SI.v 3) (SI.len (SL.v 4)), SB.c true, SB.app 132 (SA.l (SL.v 4) (SA.l (SL.v 1) SA.nil))], eqs := [Eqn.T (SB.not (SB.app 133 (SA.l (SL.v 4) (SA.l (SL.v 1) (SA.i (SI.v 3) SA.nil)))))] }] := by kernel_rfl
theorem po1_ok : po1.ok Φ Try.prog := by
  refine ⟨by kernel_rfl, loop_rule (fun ρ => t3_ok ρ) (loopAt_sub (by kernel_rfl)) po1_obs ?_⟩
  simp only [and_imp, List.forall_mem_cons, List.not_mem_nil, false_implies, implies_true, and_true, Ob.ok, holds, Eqn.ok, evB_eq, evB_lt, evB_le, evB_not, evB_and, evB_or, evB_eqL, evB_app, evB_v, evB_c, ev_sel, ev_len, ev_v, ev_c, ev_add, ev_sub, ev_mul, ev_quo, ev_rem, ev_bits, ev_wrap, evL_v, evL_lit, evL_app, ev_app, evA_l, evA_i, evA_nil, std_min, std_max, std_cat, std_take, std_drop, std_row, std_set, std_rep, std_find, std_put, std_del, std_flag, std_unflag, std_clr, std_left, std_copy, std_cnt, std_catS, std_lenS, std_atS, std_subS, std_ofB, std_snd, std_rcv, ints_cons, ints_nil, ofNat_lit, negSucc_lit, decide_eq_true_eq, Bool.and_eq_true, Bool.or_eq_true, Bool.not_eq_true', Bool.and_eq_false_iff, Bool.or_eq_false_iff, decide_eq_false_iff_not, aI100, aI101, aL110, aL111, aL112, aL113, aL114, aL115, aL116, aL117, aL118, aB130, aB131, aB132, aB133, aB134, aB135, aB136, aB137, aB138, aB199, Bool.not_eq_false']
  repeat' apply And.intro
  all_goals intro ρ hR
  all_goals intros
  all_goals first
    | (exact ⟨by omega, by omega⟩)
    | (exact any_hit (by omega) (by omega) (by omega))
    | (rw [any_step (by omega) (by omega) (by omega)]
       with_reducible assumption)
    | (exact any_end (by omega))
    | (have e := sub_at (L := ρ.l 4) (M := ρ.l 1) (i := ρ.i 3) (by with_reducible assumption) (by omega) (by omega)
       exfalso
       omega)
set_option maxRecDepth 100000 in
theorem po2_obs : loopObs Φ Try.prog t3 1000 po2.f (loopAt Try.prog po2.f po2.id) po2.n po2.T k1 po2.outs = some
  [{ pc := [SB.lt (SI.app 2 (SA.l (SL.v 1) (SA.i (SI.sel (SL.v 4) (SI.v 3) 0) (SA.i (SI.c (Int.ofNat 3)) SA.nil)))) (SI.c (Int.ofNat 16)), SB.lt (SI.c (Int.ofNat 0)) (SI.len (SL.app 6 (SA.l (SL.v 1) (SA.i (SI.sel (SL.v 4) (SI.v 3) 0) SA.nil)))), SB.le (SI.c (Int.ofNat 0)) (SI.sel (SL.v 4) (SI.v 3) 0), SB.lt (SI.v 3) (SI.len (SL.v 4)), SB.le (SI.len (SL.v 4)) (SI.c (Int.ofNat 8)), SB.le (SI.c (Int.ofNat 0)) (SI.v 3), SB.le (SI.v 3) (SI.len (SL.v 4)), SB.c true, SB.app 134 (SA.l (SL.v 4) (SA.l (SL.v 1) (SA.i (SI.v 3) SA.nil)))], eqs := [Eqn.T (SB.lt (SI.sub (SI.len (SL.v 4)) (SI.add (SI.v 3) (SI.c (Int.ofNat 1)))) (SI.sub (SI.len (SL.v 4)) (SI.v 3))), Eqn.T (SB.lt (SI.c (Int.ofNat 0)) (SI.sub (SI.len (SL.v 4)) (SI.v 3))), Eqn.T (SB.app 134 (SA.l (SL.v 4) (SA.l (SL.app 16 (SA.l (SL.v 1) (SA.i (SI.sel (SL.v 4) (SI.v 3) 0) (SA.i (SI.v 5) (SA.i (SI.v 1) (SA.i (SI.v 2) SA.nil)))))) (SA.i (SI.add (SI.v 3) (SI.c (Int.ofNat 1))) SA.nil))))] }, { pc := [SB.lt (SI.app 2 (SA.l (SL.v 1) (SA.i (SI.sel (SL.v 4) (SI.v 3) 0) (SA.i (SI.c (Int.ofNat 3)) SA.nil)))) (SI.c (Int.ofNat 16)), SB.lt (SI.c (Int.ofNat 0)) (SI.len (SL.app 6 (SA.l (SL.v 1) (SA.i (SI.sel (SL.v 4) (SI.v 3) 0) SA.nil)))), SB.le (SI.c (Int.ofNat 0)) (SI.sel (SL.v 4) (SI.v 3) 0), SB.lt (SI.v 3) (SI.len (SL.v 4)), SB.le (SI.len (SL.v 4)) (SI.c (Int.ofNat 8)), SB.le (SI.c (Int.ofNat 0)) (SI.v 3), SB.le (SI.v 3) (SI.len (SL.v 4)), SB.c true, SB.app 134 (SA.l (SL.v 4) (SA.l (SL.v 1) (SA.i (SI.v 3) SA.nil)))], eqs := [Eqn.L (SL.app 114 (SA.l (SL.v 4) (SA.l (SL.v 1) (SA.i (SI.v 3) (SA.i (SI.v 5) (SA.i (SI.v 1) (SA.i (SI.v 2) SA.nil))))))) (SL.app 114 (SA.l (SL.v 4) (SA.l (SL.app 16 (SA.l (SL.v 1) (SA.i (SI.sel (SL.v 4) (SI.v 3) 0) (SA.i (SI.v 5) (SA.i (SI.v 1) (SA.i (SI.v 2) SA.nil)))))) (SA.i (SI.add (SI.v 3) (SI.c (Int.ofNat 1))) (SA.i (SI.v 5) (SA.i (SI.v 1) (SA.i (SI.v 2) SA.nil)))))))] }, { pc := [SB.not (SB.lt (SI.app 2 (SA.l (SL.v 1) (SA.i (SI.sel (SL.v 4) (SI.v 3) 0) (SA.i (SI.c (Int.ofNat 3)) SA.nil)))) (SI.c (Int.ofNat 16))), SB.lt (SI.c (Int.ofNat 0)) (SI.len (SL.app 6 (SA.l (SL.v 1) (SA.i (SI.sel (SL.v 4) (SI.v 3) 0) SA.nil)))), SB.le (SI.c (Int.ofNat 0)) (SI.sel (SL.v 4) (SI.v 3) 0), SB.lt (SI.v 3) (SI.len (SL.v 4)), SB.le (SI.len (SL.v 4)) (SI.c (Int.ofNat 8)), SB.le (SI.c (Int.ofNat 0)) (SI.v 3), SB.le (SI.v 3) (SI.len (SL.v 4)), SB.c true, SB.app 134 (SA.l (SL.v 4) (SA.l (SL.v 1) (SA.i (SI.v 3) SA.nil)))], eqs := [Eqn.T (SB.c false)] }, { pc := [SB.not (SB.lt (SI.c (Int.ofNat 0)) (SI.len (SL.app 6 (SA.l (SL.v 1) (SA.i (SI.sel (SL.v 4) (SI.v 3) 0) SA.nil))))), SB.le (SI.c (Int.ofNat 0)) (SI.sel (SL.v 4) (SI.v 3) 0), SB.lt (SI.v 3) (SI.len (SL.v 4)), SB.le (SI.len (SL.v 4)) (SI.c (Int.ofNat 8)), SB.le (SI.c (Int.ofNat 0)) (SI.v 3), SB.le (SI.v 3) (SI.len (SL.v 4)), SB.c true, SB.app 134 (SA.l (SL.v 4) (SA.l (SL.v 1) (SA.i (SI.v 3) SA.nil)))], eqs := [Eqn.T (SB.c false)] }, { pc := [SB.not (SB.lt (SI.v 3) (SI.len (SL.v 4))), SB.le (SI.len (SL.v 4)) (SI.c (Int.ofNat 8)), SB.le (SI.c (Int.ofNat 0)) (SI.v 3), SB.le (SI.v 3) (SI.len (SL.v 4)), SB.c true, SB.app 134 (SA.l (SL.v 4) (SA.l (SL.v 1) (SA.i (SI.v 3) SA.nil)))], eqs := [Eqn.L (SL.app 114 (SA.l (SL.v 4) (SA.l (SL.v 1) (SA.i (SI.v 3) (SA.i (SI.v 5) (SA.i (SI.v 1) (SA.i (SI.v 2) SA.nil))))))) (SL.v 1)] }] := by kernel_rfl
theorem po2_ok : po2.ok Φ Try.prog := by
  refine ⟨by kernel_rfl, loop_rule (fun ρ => t3_ok ρ) (loopAt_sub (by kernel_rfl)) po2_obs ?_⟩
  simp only [and_imp, List.forall_mem_cons, List.not_mem_nil, false_implies, implies_true, and_true, Ob.ok, holds, Eqn.ok, evB_eq, evB_lt, evB_le, evB_not, evB_and, evB_or, evB_eqL, evB_app, evB_v, evB_c, ev_sel, ev_len, ev_v, ev_c, ev_add, ev_sub, ev_mul, ev_quo, ev_rem, ev_bits, ev_wrap, evL_v, evL_lit, evL_app, ev_app, evA_l, evA_i, evA_nil, std_min, std_max, std_cat, std_take, std_drop, std_row, std_set, std_rep, std_find, std_put, std_del, std_flag, std_unflag, std_clr, std_left, std_copy, std_cnt, std_catS, std_lenS, std_atS, std_subS, std_ofB, std_snd, std_rcv, ints_cons, ints_nil, ofNat_lit, negSucc_lit, decide_eq_true_eq, Bool.and_eq_true, Bool.or_eq_true, Bool.not_eq_true', Bool.and_eq_false_iff, Bool.or_eq_false_iff, decide_eq_false_iff_not, aI100, aI101, aL110, aL111, aL112, aL113, aL114, aL115, aL116, aL117, aL118, aB130, aB131, aB132, aB133, aB134, aB135, aB136, aB137, aB138, aB199, Bool.not_eq_false']
  repeat' apply And.intro
  all_goals intro ρ hR
  all_goals intros
  all_goals first
    | (have hb : sendB (ρ.l 4) (ρ.l 1) (ρ.i 3) = true := by with_reducible assumption
       have e := send_on (cs := [ρ.i 5, ρ.i 1, ρ.i 2]) hb (by omega) (by omega)
       exact ⟨by omega, by omega, e⟩)
    | (exact send_step (by omega) (by omega))
    | (exact send_end (by omega))
    | (have hb : sendB (ρ.l 4) (ρ.l 1) (ρ.i 3) = true := by with_reducible assumption
       have e := send_at hb (by omega) (by omega)
       exfalso
       omega)
theorem t4_ok (ρ : Env) : TblOK Φ ρ Try.prog t4 := addLp_ok (addLp_ok (t3_ok ρ) po1_ok) po2_ok
set_option maxRecDepth 100000 in
theorem cPost_obs : callObs Φ Try.prog t4 1000 cPost.f cPost.vs cPost.o cPost.pc cPost.outs = some
  [{ pc := [SB.app 134 (SA.l (SL.app 0 (SA.l (SL.app 1 (SA.l (SL.v 0) (SA.i (SI.v 0) SA.nil))) (SA.l (SL.app 2 (SA.l (SL.v 0) (SA.i (SI.add (SI.v 0) (SI.c (Int.ofNat 1))) SA.nil))) SA.nil))) (SA.l (SL.app 115 (SA.l (SL.v 0) (SA.l (SL.v 1) SA.nil))) (SA.i (SI.c (Int.ofNat 0)) SA.nil))), SB.not (SB.app 133 (SA.l (SL.app 0 (SA.l (SL.app 1 (SA.l (SL.v 0) (SA.i (SI.v 0) SA.nil))) (SA.l (SL.app 2 (SA.l (SL.v 0) (SA.i (SI.add (SI.v 0) (SI.c (Int.ofNat 1))) SA.nil))) SA.nil))) (SA.l (SL.app 115 (SA.l (SL.v 0) (SA.l (SL.v 1) SA.nil))) (SA.i (SI.c (Int.ofNat 0)) SA.nil)))), SB.app 132 (SA.l (SL.app 0 (SA.l (SL.app 1 (SA.l (SL.v 0) (SA.i (SI.v 0) SA.nil))) (SA.l (SL.app 2 (SA.l (SL.v 0) (SA.i (SI.add (SI.v 0) (SI.c (Int.ofNat 1))) SA.nil))) SA.nil))) (SA.l (SL.app 115 (SA.l (SL.v 0) (SA.l (SL.v 1) SA.nil))) SA.nil)), SB.eq (SI.add (SI.len (SL.app 1 (SA.l (SL.v 0) (SA.i (SI.v 0) SA.nil)))) (SI.len (SL.app 2 (SA.l (SL.v 0) (SA.i (SI.add (SI.v 0) (SI.c (Int.ofNat 1))) SA.nil))))) (SI.sub (SI.len (SL.v 0)) (SI.c (Int.ofNat 1))), SB.not (SB.le (SI.c (Int.ofNat 65536)) (SI.v 2)), SB.not (SB.lt (SI.v 2) (SI.c (Int.negSucc 0))), SB.not (SB.lt (SI.c (Int.ofNat 16)) (SI.v 1)), SB.not (SB.lt (SI.v 1) (SI.c (Int.ofNat 1))), SB.lt (SI.v 0) (SI.len (SL.v 0)), SB.le (SI.c (Int.ofNat 0)) (SI.v 0), SB.le (SI.c (Int.ofNat 1)) (SI.len (SL.v 0)), SB.le (SI.len (SL.v 0)) (SI.c (Int.ofNat 8)), SB.le (SI.len (SL.v 2)) (SI.c (Int.ofNat 1000)), SB.eq (SI.len (SL.v 1)) (SI.len (SL.v 0)), SB.c true, SB.app 136 (SA.l (SL.v 0) SA.nil), SB.app 130 (SA.l (SL.v 1) (SA.l (SL.v 2) SA.nil))], eqs := [Eqn.T (SB.not (SB.app 131 (SA.l (SL.v 1) (SA.i (SI.v 0) SA.nil)))), Eqn.T (SB.eq (SI.len (SL.app 110 (SA.l (SL.v 1) (SA.i (SI.v 0) (SA.i (SI.add (SI.len (SL.v 2)) (SI.c (Int.ofNat 1))) (SA.i (SI.v 1) (SA.i (SI.v 2) SA.nil))))))) (SI.len (SL.v 0))), Eqn.T (SB.app 130 (SA.l (SL.app 110 (SA.l (SL.v 1) (SA.i (SI.v 0) (SA.i (SI.add (SI.len (SL.v 2)) (SI.c (Int.ofNat 1))) (SA.i (SI.v 1) (SA.i (SI.v 2) SA.nil)))))) (SA.l (SL.app 0 (SA.l (SL.v 2) (SA.l (SL.app 3 (SA.i (SI.sub (SI.len (SL.v 1)) (SI.c (Int.ofNat 1))) SA.nil)) SA.nil))) SA.nil))), Eqn.I (SI.len (SL.app 0 (SA.l (SL.v 2) (SA.l (SL.app 3 (SA.i (SI.sub (SI.len (SL.v 1)) (SI.c (Int.ofNat 1))) SA.nil)) SA.nil)))) (SI.add (SI.len (SL.v 2)) (SI.c (Int.ofNat 1))), Eqn.L (SL.app 115 (SA.l (SL.v 0) (SA.l (SL.app 110 (SA.l (SL.v 1) (SA.i (SI.v 0) (SA.i (SI.add (SI.len (SL.v 2)) (SI.c (Int.ofNat 1))) (SA.i (SI.v 1) (SA.i (SI.v 2) SA.nil)))))) SA.nil))) (SL.app 114 (SA.l (SL.app 0 (SA.l (SL.app 1 (SA.l (SL.v 0) (SA.i (SI.v 0) SA.nil))) (SA.l (SL.app 2 (SA.l (SL.v 0) (SA.i (SI.add (SI.v 0) (SI.c (Int.ofNat 1))) SA.nil))) SA.nil))) (SA.l (SL.app 115 (SA.l (SL.v 0) (SA.l (SL.v 1) SA.nil))) (SA.i (SI.c (Int.ofNat 0)) (SA.i (SI.add (SI.len (SL.v 2)) (SI.c (Int.ofNat 1))) (SA.i (SI.v 1) (SA.i (SI.v 2) SA.nil))))))), Eqn.L (SL.app 0 (SA.l (SL.v 2) (SA.l (SL.app 3 (SA.i (SI.sub (SI.len (SL.v 1)) (SI.c (Int.ofNat 1))) SA.nil)) SA.nil))) (SL.app 0 (SA.l (SL.v 2) (SA.l (SL.app 3 (SA.i (SI.add (SI.len (SL.app 1 (SA.l (SL.v 0) (SA.i (SI.v 0) SA.nil)))) (SI.len (SL.app 2 (SA.l (SL.v 0) (SA.i (SI.add (SI.v 0) (SI.c (Int.ofNat 1))) SA.nil))))) SA.nil)) SA.nil)))] }, { pc := [SB.not (SB.app 134 (SA.l (SL.app 0 (SA.l (SL.app 1 (SA.l (SL.v 0) (SA.i (SI.v 0) SA.nil))) (SA.l (SL.app 2 (SA.l (SL.v 0) (SA.i (SI.add (SI.v 0) (SI.c (Int.ofNat 1))) SA.nil))) SA.nil))) (SA.l (SL.app 115 (SA.l (SL.v 0) (SA.l (SL.v 1) SA.nil))) (SA.i (SI.c (Int.ofNat 0)) SA.nil)))), SB.not (SB.app 133 (SA.l (SL.app 0 (SA.l (SL.app 1 (SA.l (SL.v 0) (SA.i (SI.v 0) SA.nil))) (SA.l (SL.app 2 (SA.l (SL.v 0) (SA.i (SI.add (SI.v 0) (SI.c (Int.ofNat 1))) SA.nil))) SA.nil))) (SA.l (SL.app 115 (SA.l (SL.v 0) (SA.l (SL.v 1) SA.nil))) (SA.i (SI.c (Int.ofNat 0)) SA.nil)))), SB.app 132 (SA.l (SL.app 0 (SA.l (SL.app 1 (SA.l (SL.v 0) (SA.i (SI.v 0) SA.nil))) (SA.l (SL.app 2 (SA.l (SL.v 0) (SA.i (SI.add (SI.v 0) (SI.c (Int.ofNat 1))) SA.nil))) SA.nil))) (SA.l (SL.app 115 (SA.l (SL.v 0) (SA.l (SL.v 1) SA.nil))) SA.nil)), SB.eq (SI.add (SI.len (SL.app 1 (SA.l (SL.v 0) (SA.i (SI.v 0) SA.nil)))) (SI.len (SL.app 2 (SA.l (SL.v 0) (SA.i (SI.add (SI.v 0) (SI.c (Int.ofNat 1))) SA.nil))))) (SI.sub (SI.len (SL.v 0)) (SI.c (Int.ofNat 1))), SB.not (SB.le (SI.c (Int.ofNat 65536)) (SI.v 2)), SB.not (SB.lt (SI.v 2) (SI.c (Int.negSucc 0))), SB.not (SB.lt (SI.c (Int.ofNat 16)) (SI.v 1)), SB.not (SB.lt (SI.v 1) (SI.c (Int.ofNat 1))), SB.lt (SI.v 0) (SI.len (SL.v 0)), SB.le (SI.c (Int.ofNat 0)) (SI.v 0), SB.le (SI.c (Int.ofNat 1)) (SI.len (SL.v 0)), SB.le (SI.len (SL.v 0)) (SI.c (Int.ofNat 8)), SB.le (SI.len (SL.v 2)) (SI.c (Int.ofNat 1000)), SB.eq (SI.len (SL.v 1)) (SI.len (SL.v 0)), SB.c true, SB.app 136 (SA.l (SL.v 0) SA.nil), SB.app 130 (SA.l (SL.v 1) (SA.l (SL.v 2) SA.nil))], eqs := [Eqn.T (SB.c false)] }, { pc := [SB.app 133 (SA.l (SL.app 0 (SA.l (SL.app 1 (SA.l (SL.v 0) (SA.i (SI.v 0) SA.nil))) (SA.l (SL.app 2 (SA.l (SL.v 0) (SA.i (SI.add (SI.v 0) (SI.c (Int.ofNat 1))) SA.nil))) SA.nil))) (SA.l (SL.app 115 (SA.l (SL.v 0) (SA.l (SL.v 1) SA.nil))) (SA.i (SI.c (Int.ofNat 0)) SA.nil))), SB.app 132 (SA.l (SL.app 0 (SA.l (SL.app 1 (SA.l (SL.v 0) (SA.i (SI.v 0) SA.nil))) (SA.l (SL.app 2 (SA.l (SL.v 0) (SA.i (SI.add (SI.v 0) (SI.c (Int.ofNat 1))) SA.nil))) SA.nil))) (SA.l (SL.app 115 (SA.l (SL.v 0) (SA.l (SL.v 1) SA.nil))) SA.nil)), SB.eq (SI.add (SI.len (SL.app 1 (SA.l (SL.v 0) (SA.i (SI.v 0) SA.nil)))) (SI.len (SL.app 2 (SA.l (SL.v 0) (SA.i (SI.add (SI.v 0) (SI.c (Int.ofNat 1))) SA.nil))))) (SI.sub (SI.len (SL.v 0)) (SI.c (Int.ofNat 1))), SB.not (SB.le (SI.c (Int.ofNat 65536)) (SI.v 2)), SB.not (SB.lt (SI.v 2) (SI.c (Int.negSucc 0))), SB.not (SB.lt (SI.c (Int.ofNat 16)) (SI.v 1)), SB.not (SB.lt (SI.v 1) (SI.c (Int.ofNat 1))), SB.lt (SI.v 0) (SI.len (SL.v 0)), SB.le (SI.c (Int.ofNat 0)) (SI.v 0), SB.le (SI.c (Int.ofNat 1)) (SI.len (SL.v 0)), SB.le (SI.len (SL.v 0)) (SI.c (Int.ofNat 8)), SB.le (SI.len (SL.v 2)) (SI.c (Int.ofNat 1000)), SB.eq (SI.len (SL.v 1)) (SI.len (SL.v 0)), SB.c true, SB.app 136 (SA.l (SL.v 0) SA.nil), SB.app 130 (SA.l (SL.v 1) (SA.l (SL.v 2) SA.nil))], eqs := [Eqn.T (SB.app 131 (SA.l (SL.v 1) (SA.i (SI.v 0) SA.nil)))] }, { pc := [SB.not (SB.app 132 (SA.l (SL.app 0 (SA.l (SL.app 1 (SA.l (SL.v 0) (SA.i (SI.v 0) SA.nil))) (SA.l (SL.app 2 (SA.l (SL.v 0) (SA.i (SI.add (SI.v 0) (SI.c (Int.ofNat 1))) SA.nil))) SA.nil))) (SA.l (SL.app 115 (SA.l (SL.v 0) (SA.l (SL.v 1) SA.nil))) SA.nil))), SB.eq (SI.add (SI.len (SL.app 1 (SA.l (SL.v 0) (SA.i (SI.v 0) SA.nil)))) (SI.len (SL.app 2 (SA.l (SL.v 0) (SA.i (SI.add (SI.v 0) (SI.c (Int.ofNat 1))) SA.nil))))) (SI.sub (SI.len (SL.v 0)) (SI.c (Int.ofNat 1))), SB.not (SB.le (SI.c (Int.ofNat 65536)) (SI.v 2)), SB.not (SB.lt (SI.v 2) (SI.c (Int.negSucc 0))), SB.not (SB.lt (SI.c (Int.ofNat 16)) (SI.v 1)), SB.not (SB.lt (SI.v 1) (SI.c (Int.ofNat 1))), SB.lt (SI.v 0) (SI.len (SL.v 0)), SB.le (SI.c (Int.ofNat 0)) (SI.v 0), SB.le (SI.c (Int.ofNat 1)) (SI.len (SL.v 0)), SB.le (SI.len (SL.v 0)) (SI.c (Int.ofNat 8)), SB.le (SI.len (SL.v 2)) (SI.c (Int.ofNat 1000)), SB.eq (SI.len (SL.v 1)) (SI.len (SL.v 0)), SB.c true, SB.app 136 (SA.l (SL.v 0) SA.nil), SB.app 130 (SA.l (SL.v 1) (SA.l (SL.v 2) SA.nil))], eqs := [Eqn.T (SB.c false)] }] := by kernel_rfl
theorem cPost_ok : cPost.ok Φ Try.prog := by
  refine call_rule (fun ρ => t4_ok ρ) cPost_obs ?_
  simp only [and_imp, List.forall_mem_cons, List.not_mem_nil, false_implies, implies_true, and_true, Ob.ok, holds, Eqn.ok, evB_eq, evB_lt, evB_le, evB_not, evB_and, evB_or, evB_eqL, evB_app, evB_v, evB_c, ev_sel, ev_len, ev_v, ev_c, ev_add, ev_sub, ev_mul, ev_quo, ev_rem, ev_bits, ev_wrap, evL_v, evL_lit, evL_app, ev_app, evA_l, evA_i, evA_nil, std_min, std_max, std_cat, std_take, std_drop, std_row, std_set, std_rep, std_find, std_put, std_del, std_flag, std_unflag, std_clr, std_left, std_copy, std_cnt, std_catS, std_lenS, std_atS, std_subS, std_ofB, std_snd, std_rcv, ints_cons, ints_nil, ofNat_lit, negSucc_lit, decide_eq_true_eq, Bool.and_eq_true, Bool.or_eq_true, Bool.not_eq_true', Bool.and_eq_false_iff, Bool.or_eq_false_iff, decide_eq_false_iff_not, aI100, aI101, aL110, aL111, aL112, aL113, aL114, aL115, aL116, aL117, aL118, aB130, aB131, aB132, aB133, aB134, aB135, aB136, aB137, aB138, aB199, Bool.not_eq_false']
  repeat' apply And.intro
  all_goals intro ρ hR
  all_goals intros
  all_goals first
    | (have hB : okB (ρ.l 0) = true := by with_reducible assumption
       have hs : stQ (ρ.l 1) (ρ.l 2) = true := by with_reducible assumption
       have hl : (ρ.l 1).length = (ρ.l 0).length := by omega
       have h := (st_lay hB hl).2 hs
       have hlM := lay_len hl
       have ea0 : anyF ((ρ.l 0).take (ρ.i 0).toNat ++ (ρ.l 0).drop (ρ.i 0 + 1).toNat) (layT (ρ.l 0) (ρ.l 1)) 0 = false := by with_reducible assumption
       have ea : anyF (othT (ρ.l 0) (ρ.i 0)) (layT (ρ.l 0) (ρ.l 1)) 0 = false := ea0
       rw [oth_any h (c := ρ.i 0) (by omega) (by omega), lay_full hB hl (by omega) (by omega)] at ea
       have eb : (((ρ.l 0).take (ρ.i 0).toNat).length : Int) + ((ρ.l 0).drop (ρ.i 0 + 1).toNat).length = (ρ.l 1).length - 1 := by omega
       have ef : fullB (layT (ρ.l 0) (ρ.l 1)) (ρ.i 0) = false := by rw [lay_full hB hl (by omega) (by omega)]; exact ea
       have ep := st_post h (t := ρ.i 1) (p := ρ.i 2) (c := ρ.i 0) (by omega) (by omega) ef (k := ((ρ.l 1).length : Int) - 1) (by omega)
       rw [lay_post hB hl (by omega) (by omega)] at ep
       have ep := (st_lay hB (by rw [postQ_len, hl])).1 (st_iff.1 ep)
       have eq := (oth_post h (id := ((ρ.l 2).length : Int) + 1) (t := ρ.i 1) (p := ρ.i 2) (c := ρ.i 0) (by omega) (by omega)).symm
       rw [lay_post hB hl (by omega) (by omega)] at eq
       rw [eb]
       exact ⟨ea, by rw [postQ_len]; omega, ep, by simp, eq, rfl⟩)
    | (have hB : okB (ρ.l 0) = true := by with_reducible assumption
       have hs : stQ (ρ.l 1) (ρ.l 2) = true := by with_reducible assumption
       have hl : (ρ.l 1).length = (ρ.l 0).length := by omega
       have h := (st_lay hB hl).2 hs
       have hlM := lay_len hl
       have ea0 : anyF ((ρ.l 0).take (ρ.i 0).toNat ++ (ρ.l 0).drop (ρ.i 0 + 1).toNat) (layT (ρ.l 0) (ρ.l 1)) 0 = false := by with_reducible assumption
       have ea : anyF (othT (ρ.l 0) (ρ.i 0)) (layT (ρ.l 0) (ρ.l 1)) 0 = false := ea0
       rw [oth_any h (c := ρ.i 0) (by omega) (by omega), lay_full hB hl (by omega) (by omega)] at ea
       exfalso
       have ef : fullB (layT (ρ.l 0) (ρ.l 1)) (ρ.i 0) = false := by rw [lay_full hB hl (by omega) (by omega)]; exact ea
       have e2 : sendB ((ρ.l 0).take (ρ.i 0).toNat ++ (ρ.l 0).drop (ρ.i 0 + 1).toNat) (layT (ρ.l 0) (ρ.l 1)) 0 = false := by with_reducible assumption
       exact Bool.false_ne_true (e2.symm.trans (oth_send h (by omega) (by omega) ef)))
    | (have hB : okB (ρ.l 0) = true := by with_reducible assumption
       have hs : stQ (ρ.l 1) (ρ.l 2) = true := by with_reducible assumption
       have hl : (ρ.l 1).length = (ρ.l 0).length := by omega
       have h := (st_lay hB hl).2 hs
       have hlM := lay_len hl
       have ea0 : anyF ((ρ.l 0).take (ρ.i 0).toNat ++ (ρ.l 0).drop (ρ.i 0 + 1).toNat) (layT (ρ.l 0) (ρ.l 1)) 0 = true := by with_reducible assumption
       have ea : anyF (othT (ρ.l 0) (ρ.i 0)) (layT (ρ.l 0) (ρ.l 1)) 0 = true := ea0
       rw [oth_any h (c := ρ.i 0) (by omega) (by omega), lay_full hB hl (by omega) (by omega)] at ea
       exact ea)
    | (have hB : okB (ρ.l 0) = true := by with_reducible assumption
       have hs : stQ (ρ.l 1) (ρ.l 2) = true := by with_reducible assumption
       have hl : (ρ.l 1).length = (ρ.l 0).length := by omega
       have h := (st_lay hB hl).2 hs
       have hlM := lay_len hl
       exfalso
       have e2 : subB ((ρ.l 0).take (ρ.i 0).toNat ++ (ρ.l 0).drop (ρ.i 0 + 1).toNat) (layT (ρ.l 0) (ρ.l 1)) = false := by with_reducible assumption
       exact Bool.false_ne_true (e2.symm.trans (oth_sub h (by omega) (by omega))))
set_option maxRecDepth 100000 in
theorem op0_obs : loopObs Φ Try.prog t4 1000 op0.f (loopAt Try.prog op0.f op0.id) op0.n op0.T k2 op0.outs = some
  [{ pc := [SB.lt (SI.c (Int.ofNat 0)) (SI.sel (SL.v 2) (SI.v 1) 0), SB.lt (SI.v 1) (SI.len (SL.v 2)), SB.le (SI.len (SL.v 2)) (SI.c (Int.ofNat 1000)), SB.le (SI.c (Int.ofNat 0)) (SI.v 1), SB.le (SI.v 1) (SI.len (SL.v 2)), SB.le (SI.len (SL.v 4)) (SI.v 1)], eqs := [Eqn.T (SB.lt (SI.sub (SI.len (SL.v 2)) (SI.add (SI.v 1) (SI.c (Int.ofNat 1)))) (SI.sub (SI.len (SL.v 2)) (SI.v 1))), Eqn.T (SB.lt (SI.c (Int.ofNat 0)) (SI.sub (SI.len (SL.v 2)) (SI.v 1)))] }, { pc := [SB.le (SI.add (SI.add (SI.len (SL.v 4)) (SI.c (Int.ofNat 1))) (SI.len (SL.app 113 (SA.l (SL.v 2) (SA.i (SI.add (SI.v 1) (SI.c (Int.ofNat 1))) SA.nil))))) (SI.len (SL.v 2)), SB.lt (SI.c (Int.ofNat 0)) (SI.sel (SL.v 2) (SI.v 1) 0), SB.lt (SI.v 1) (SI.len (SL.v 2)), SB.le (SI.len (SL.v 2)) (SI.c (Int.ofNat 1000)), SB.le (SI.c (Int.ofNat 0)) (SI.v 1), SB.le (SI.v 1) (SI.len (SL.v 2)), SB.le (SI.len (SL.v 4)) (SI.v 1)], eqs := [Eqn.T (SB.le (SI.len (SL.app 0 (SA.l (SL.v 4) (SA.l (SL.app 113 (SA.l (SL.v 2) (SA.i (SI.v 1) SA.nil))) SA.nil)))) (SI.len (SL.v 2))), Eqn.I (SI.len (SL.app 0 (SA.l (SL.v 4) (SA.l (SL.app 113 (SA.l (SL.v 2) (SA.i (SI.v 1) SA.nil))) SA.nil)))) (SI.add (SI.add (SI.len (SL.v 4)) (SI.c (Int.ofNat 1))) (SI.len (SL.app 113 (SA.l (SL.v 2) (SA.i (SI.add (SI.v 1) (SI.c (Int.ofNat 1))) SA.nil))))), Eqn.L (SL.app 0 (SA.l (SL.v 4) (SA.l (SL.app 113 (SA.l (SL.v 2) (SA.i (SI.v 1) SA.nil))) SA.nil))) (SL.app 0 (SA.l (SL.app 0 (SA.l (SL.v 4) (SA.l (SL.app 3 (SA.i (SI.add (SI.v 1) (SI.c (Int.ofNat 1))) SA.nil)) SA.nil))) (SA.l (SL.app 113 (SA.l (SL.v 2) (SA.i (SI.add (SI.v 1) (SI.c (Int.ofNat 1))) SA.nil))) SA.nil)))] }, { pc := [SB.not (SB.lt (SI.c (Int.ofNat 0)) (SI.sel (SL.v 2) (SI.v 1) 0)), SB.lt (SI.v 1) (SI.len (SL.v 2)), SB.le (SI.len (SL.v 2)) (SI.c (Int.ofNat 1000)), SB.le (SI.c (Int.ofNat 0)) (SI.v 1), SB.le (SI.v 1) (SI.len (SL.v 2)), SB.le (SI.len (SL.v 4)) (SI.v 1)], eqs := [Eqn.T (SB.lt (SI.sub (SI.len (SL.v 2)) (SI.add (SI.v 1) (SI.c (Int.ofNat 1)))) (SI.sub (SI.len (SL.v 2)) (SI.v 1))), Eqn.T (SB.lt (SI.c (Int.ofNat 0)) (SI.sub (SI.len (SL.v 2)) (SI.v 1)))] }, { pc := [SB.le (SI.add (SI.len (SL.v 4)) (SI.len (SL.app 113 (SA.l (SL.v 2) (SA.i (SI.add (SI.v 1) (SI.c (Int.ofNat 1))) SA.nil))))) (SI.len (SL.v 2)), SB.not (SB.lt (SI.c (Int.ofNat 0)) (SI.sel (SL.v 2) (SI.v 1) 0)), SB.lt (SI.v 1) (SI.len (SL.v 2)), SB.le (SI.len (SL.v 2)) (SI.c (Int.ofNat 1000)), SB.le (SI.c (Int.ofNat 0)) (SI.v 1), SB.le (SI.v 1) (SI.len (SL.v 2)), SB.le (SI.len (SL.v 4)) (SI.v 1)], eqs := [Eqn.T (SB.le (SI.len (SL.app 0 (SA.l (SL.v 4) (SA.l (SL.app 113 (SA.l (SL.v 2) (SA.i (SI.v 1) SA.nil))) SA.nil)))) (SI.len (SL.v 2))), Eqn.I (SI.len (SL.app 0 (SA.l (SL.v 4) (SA.l (SL.app 113 (SA.l (SL.v 2) (SA.i (SI.v 1) SA.nil))) SA.nil)))) (SI.add (SI.len (SL.v 4)) (SI.len (SL.app 113 (SA.l (SL.v 2) (SA.i (SI.add (SI.v 1) (SI.c (Int.ofNat 1))) SA.nil))))), Eqn.L (SL.app 0 (SA.l (SL.v 4) (SA.l (SL.app 113 (SA.l (SL.v 2) (SA.i (SI.v 1) SA.nil))) SA.nil))) (SL.app 0 (SA.l (SL.v 4) (SA.l (SL.app 113 (SA.l (SL.v 2) (SA.i (SI.add (SI.v 1) (SI.c (Int.ofNat 1))) SA.nil))) SA.nil)))] }, { pc := [SB.not (SB.lt (SI.v 1) (SI.len (SL.v 2))), SB.le (SI.len (SL.v 2)) (SI.c (Int.ofNat 1000)), SB.le (SI.c (Int.ofNat 0)) (SI.v 1), SB.le (SI.v 1) (SI.len (SL.v 2)), SB.le (SI.len (SL.v 4)) (SI.v 1)], eqs := [Eqn.T (SB.le (SI.len (SL.app 0 (SA.l (SL.v 4) (SA.l (SL.app 113 (SA.l (SL.v 2) (SA.i (SI.v 1) SA.nil))) SA.nil)))) (SI.len (SL.v 2))), Eqn.I (SI.len (SL.app 0 (SA.l (SL.v 4) (SA.l (SL.app 113 (SA.l (SL.v 2) (SA.i (SI.v 1) SA.nil))) SA.nil)))) (SI.len (SL.v 4)), Eqn.L (SL.app 0 (SA.l (SL.v 4) (SA.l (SL.app 113 (SA.l (SL.v 2) (SA.i (SI.v 1) SA.nil))) SA.nil))) (SL.v 4)] }] := by kernel_rfl
theorem op0_ok : op0.ok Φ Try.prog := by
  refine ⟨by kernel_rfl, loop_rule (fun ρ => t4_ok ρ) (loopAt_sub (by kernel_rfl)) op0_obs ?_⟩
  simp only [and_imp, List.forall_mem_cons, List.not_mem_nil, false_implies, implies_true, and_true, Ob.ok, holds, Eqn.ok, evB_eq, evB_lt, evB_le, evB_not, evB_and, evB_or, evB_eqL, evB_app, evB_v, evB_c, ev_sel, ev_len, ev_v, ev_c, ev_add, ev_sub, ev_mul, ev_quo, ev_rem, ev_bits, ev_wrap, evL_v, evL_lit, evL_app, ev_app, evA_l, evA_i, evA_nil, std_min, std_max, std_cat, std_take, std_drop, std_row, std_set, std_rep, std_find, std_put, std_del, std_flag, std_unflag, std_clr, std_left, std_copy, std_cnt, std_catS, std_lenS, std_atS, std_subS, std_ofB, std_snd, std_rcv, ints_cons, ints_nil, ofNat_lit, negSucc_lit, decide_eq_true_eq, Bool.and_eq_true, Bool.or_eq_true, Bool.not_eq_true', Bool.and_eq_false_iff, Bool.or_eq_false_iff, decide_eq_false_iff_not, aI100, aI101, aL110, aL111, aL112, aL113, aL114, aL115, aL116, aL117, aL118, aB130, aB131, aB132, aB133, aB134, aB135, aB136, aB137, aB138, aB199, Bool.not_eq_false']
  repeat' apply And.intro
  all_goals intro ρ hR
  all_goals intros
  all_goals first
    | (exact ⟨by omega, by omega⟩)
    | (have e := open_step (O := ρ.l 2) (i := ρ.i 1) (by omega) (by omega)
       rw [if_pos (by omega)] at e
       rw [e]
       simp only [List.length_append, List.length_cons, List.length_nil, List.append_assoc, List.cons_append, List.nil_append]
       exact ⟨by omega, by omega, trivial⟩)
    | (have e := open_step (O := ρ.l 2) (i := ρ.i 1) (by omega) (by omega)
       rw [if_neg (by omega)] at e
       rw [e]
       simp only [List.length_append, List.nil_append]
       exact ⟨by omega, by omega, trivial⟩)
    | (have e := open_end (O := ρ.l 2) (i := ρ.i 1) (by omega)
       rw [e, List.append_nil]
       exact ⟨by omega, rfl, rfl⟩)
theorem t5_ok (ρ : Env) : TblOK Φ ρ Try.prog t5 := addLp_ok (t4_ok ρ) op0_ok
set_option maxRecDepth 100000 in
theorem cTake_obs : callObs Φ Try.prog t5 1000 cTake.f cTake.vs cTake.o cTake.pc cTake.outs = some
  [{ pc := [SB.lt (SI.wrap IntKind.i64 (SI.sub (SI.sel (SL.app 6 (SA.l (SL.app 115 (SA.l (SL.v 0) (SA.l (SL.v 1) SA.nil))) (SA.i (SI.sel (SL.v 0) (SI.v 0) 0) SA.nil))) (SI.c (Int.ofNat 0)) 1) (SI.c (Int.ofNat 1)))) (SI.len (SL.v 2)), SB.le (SI.c (Int.ofNat 0)) (SI.wrap IntKind.i64 (SI.sub (SI.sel (SL.app 6 (SA.l (SL.app 115 (SA.l (SL.v 0) (SA.l (SL.v 1) SA.nil))) (SA.i (SI.sel (SL.v 0) (SI.v 0) 0) SA.nil))) (SI.c (Int.ofNat 0)) 1) (SI.c (Int.ofNat 1)))), SB.lt (SI.c (Int.ofNat 0)) (SI.app 2 (SA.l (SL.app 115 (SA.l (SL.v 0) (SA.l (SL.v 1) SA.nil))) (SA.i (SI.sel (SL.v 0) (SI.v 0) 0) (SA.i (SI.c (Int.ofNat 3)) SA.nil)))), SB.lt (SI.c (Int.ofNat 0)) (SI.len (SL.app 6 (SA.l (SL.app 115 (SA.l (SL.v 0) (SA.l (SL.v 1) SA.nil))) (SA.i (SI.sel (SL.v 0) (SI.v 0) 0) SA.nil)))), SB.le (SI.c (Int.ofNat 0)) (SI.sel (SL.v 0) (SI.v 0) 0), SB.lt (SI.v 0) (SI.len (SL.v 0)), SB.le (SI.c (Int.ofNat 0)) (SI.v 0), SB.le (SI.c (Int.ofNat 1)) (SI.len (SL.v 0)), SB.le (SI.len (SL.v 0)) (SI.c (Int.ofNat 8)), SB.le (SI.len (SL.v 2)) (SI.c (Int.ofNat 1000)), SB.eq (SI.len (SL.v 1)) (SI.len (SL.v 0)), SB.c true, SB.app 136 (SA.l (SL.v 0) SA.nil), SB.app 130 (SA.l (SL.v 1) (SA.l (SL.v 2) SA.nil))], eqs := [Eqn.T (SB.lt (SI.c (Int.ofNat 0)) (SI.app 100 (SA.l (SL.v 1) (SA.i (SI.v 0) SA.nil)))), Eqn.T (SB.le (SI.c (Int.ofNat 1)) (SI.app 101 (SA.l (SL.v 1) (SA.i (SI.v 0) (SA.i (SI.c (Int.ofNat 0)) SA.nil))))), Eqn.T (SB.le (SI.app 101 (SA.l (SL.v 1) (SA.i (SI.v 0) (SA.i (SI.c (Int.ofNat 0)) SA.nil)))) (SI.len (SL.v 2))), Eqn.T (SB.eq (SI.len (SL.app 111 (SA.l (SL.v 1) (SA.i (SI.v 0) SA.nil)))) (SI.len (SL.v 0))), Eqn.T (SB.eq (SI.len (SL.app 112 (SA.l (SL.v 2) (SA.i (SI.app 101 (SA.l (SL.v 1) (SA.i (SI.v 0) (SA.i (SI.c (Int.ofNat 0)) SA.nil)))) SA.nil)))) (SI.len (SL.v 2))), Eqn.T (SB.app 130 (SA.l (SL.app 111 (SA.l (SL.v 1) (SA.i (SI.v 0) SA.nil))) (SA.l (SL.app 112 (SA.l (SL.v 2) (SA.i (SI.app 101 (SA.l (SL.v 1) (SA.i (SI.v 0) (SA.i (SI.c (Int.ofNat 0)) SA.nil)))) SA.nil))) SA.nil))), Eqn.I (SI.app 101 (SA.l (SL.v 1) (SA.i (SI.v 0) (SA.i (SI.c (Int.ofNat 0)) SA.nil)))) (SI.sel (SL.app 6 (SA.l (SL.app 115 (SA.l (SL.v 0) (SA.l (SL.v 1) SA.nil))) (SA.i (SI.sel (SL.v 0) (SI.v 0) 0) SA.nil))) (SI.c (Int.ofNat 0)) 1), Eqn.I (SI.app 101 (SA.l (SL.v 1) (SA.i (SI.v 0) (SA.i (SI.c (Int.ofNat 1)) SA.nil)))) (SI.sel (SL.app 6 (SA.l (SL.app 115 (SA.l (SL.v 0) (SA.l (SL.v 1) SA.nil))) (SA.i (SI.sel (SL.v 0) (SI.v 0) 0) SA.nil))) (SI.c (Int.ofNat 0)) 2), Eqn.I (SI.app 101 (SA.l (SL.v 1) (SA.i (SI.v 0) (SA.i (SI.c (Int.ofNat 2)) SA.nil)))) (SI.sel (SL.app 6 (SA.l (SL.app 115 (SA.l (SL.v 0) (SA.l (SL.v 1) SA.nil))) (SA.i (SI.sel (SL.v 0) (SI.v 0) 0) SA.nil))) (SI.c (Int.ofNat 0)) 3), Eqn.I (SI.len (SL.app 112 (SA.l (SL.v 2) (SA.i (SI.app 101 (SA.l (SL.v 1) (SA.i (SI.v 0) (SA.i (SI.c (Int.ofNat 0)) SA.nil)))) SA.nil)))) (SI.len (SL.v 2)), Eqn.L (SL.app 112 (SA.l (SL.v 2) (SA.i (SI.app 101 (SA.l (SL.v 1) (SA.i (SI.v 0) (SA.i (SI.c (Int.ofNat 0)) SA.nil)))) SA.nil))) (SL.app 4 (SA.l (SL.v 2) (SA.i (SI.wrap IntKind.i64 (SI.sub (SI.sel (SL.app 6 (SA.l (SL.app 115 (SA.l (SL.v 0) (SA.l (SL.v 1) SA.nil))) (SA.i (SI.sel (SL.v 0) (SI.v 0) 0) SA.nil))) (SI.c (Int.ofNat 0)) 1) (SI.c (Int.ofNat 1)))) (SA.i (SI.c (Int.ofNat 0)) (SA.i (SI.wrap IntKind.i64 (SI.sub (SI.sel (SL.v 2) (SI.wrap IntKind.i64 (SI.sub (SI.sel (SL.app 6 (SA.l (SL.app 115 (SA.l (SL.v 0) (SA.l (SL.v 1) SA.nil))) (SA.i (SI.sel (SL.v 0) (SI.v 0) 0) SA.nil))) (SI.c (Int.ofNat 0)) 1) (SI.c (Int.ofNat 1)))) 0) (SI.c (Int.ofNat 1)))) SA.nil))))), Eqn.L (SL.app 115 (SA.l (SL.v 0) (SA.l (SL.app 111 (SA.l (SL.v 1) (SA.i (SI.v 0) SA.nil))) SA.nil))) (SL.app 17 (SA.l (SL.app 115 (SA.l (SL.v 0) (SA.l (SL.v 1) SA.nil))) (SA.i (SI.sel (SL.v 0) (SI.v 0) 0) (SA.i (SI.c (Int.ofNat 3)) SA.nil))))] }, { pc := [SB.not (SB.lt (SI.wrap IntKind.i64 (SI.sub (SI.sel (SL.app 6 (SA.l (SL.app 115 (SA.l (SL.v 0) (SA.l (SL.v 1) SA.nil))) (SA.i (SI.sel (SL.v 0) (SI.v 0) 0) SA.nil))) (SI.c (Int.ofNat 0)) 1) (SI.c (Int.ofNat 1)))) (SI.len (SL.v 2))), SB.le (SI.c (Int.ofNat 0)) (SI.wrap IntKind.i64 (SI.sub (SI.sel (SL.app 6 (SA.l (SL.app 115 (SA.l (SL.v 0) (SA.l (SL.v 1) SA.nil))) (SA.i (SI.sel (SL.v 0) (SI.v 0) 0) SA.nil))) (SI.c (Int.ofNat 0)) 1) (SI.c (Int.ofNat 1)))), SB.lt (SI.c (Int.ofNat 0)) (SI.app 2 (SA.l (SL.app 115 (SA.l (SL.v 0) (SA.l (SL.v 1) SA.nil))) (SA.i (SI.sel (SL.v 0) (SI.v 0) 0) (SA.i (SI.c (Int.ofNat 3)) SA.nil)))), SB.lt (SI.c (Int.ofNat 0)) (SI.len (SL.app 6 (SA.l (SL.app 115 (SA.l (SL.v 0) (SA.l (SL.v 1) SA.nil))) (SA.i (SI.sel (SL.v 0) (SI.v 0) 0) SA.nil)))), SB.le (SI.c (Int.ofNat 0)) (SI.sel (SL.v 0) (SI.v 0) 0), SB.lt (SI.v 0) (SI.len (SL.v 0)), SB.le (SI.c (Int.ofNat 0)) (SI.v 0), SB.le (SI.c (Int.ofNat 1)) (SI.len (SL.v 0)), SB.le (SI.len (SL.v 0)) (SI.c (Int.ofNat 8)), SB.le (SI.len (SL.v 2)) (SI.c (Int.ofNat 1000)), SB.eq (SI.len (SL.v 1)) (SI.len (SL.v 0)), SB.c true, SB.app 136 (SA.l (SL.v 0) SA.nil), SB.app 130 (SA.l (SL.v 1) (SA.l (SL.v 2) SA.nil))], eqs := [Eqn.T (SB.c false)] }, { pc := [SB.not (SB.le (SI.c (Int.ofNat 0)) (SI.wrap IntKind.i64 (SI.sub (SI.sel (SL.app 6 (SA.l (SL.app 115 (SA.l (SL.v 0) (SA.l (SL.v 1) SA.nil))) (SA.i (SI.sel (SL.v 0) (SI.v 0) 0) SA.nil))) (SI.c (Int.ofNat 0)) 1) (SI.c (Int.ofNat 1))))), SB.lt (SI.c (Int.ofNat 0)) (SI.app 2 (SA.l (SL.app 115 (SA.l (SL.v 0) (SA.l (SL.v 1) SA.nil))) (SA.i (SI.sel (SL.v 0) (SI.v 0) 0) (SA.i (SI.c (Int.ofNat 3)) SA.nil)))), SB.lt (SI.c (Int.ofNat 0)) (SI.len (SL.app 6 (SA.l (SL.app 115 (SA.l (SL.v 0) (SA.l (SL.v 1) SA.nil))) (SA.i (SI.sel (SL.v 0) (SI.v 0) 0) SA.nil)))), SB.le (SI.c (Int.ofNat 0)) (SI.sel (SL.v 0) (SI.v 0) 0), SB.lt (SI.v 0) (SI.len (SL.v 0)), SB.le (SI.c (Int.ofNat 0)) (SI.v 0), SB.le (SI.c (Int.ofNat 1)) (SI.len (SL.v 0)), SB.le (SI.len (SL.v 0)) (SI.c (Int.ofNat 8)), SB.le (SI.len (SL.v 2)) (SI.c (Int.ofNat 1000)), SB.eq (SI.len (SL.v 1)) (SI.len (SL.v 0)), SB.c true, SB.app 136 (SA.l (SL.v 0) SA.nil), SB.app 130 (SA.l (SL.v 1) (SA.l (SL.v 2) SA.nil))], eqs := [Eqn.T (SB.c false)] }, { pc := [SB.not (SB.lt (SI.c (Int.ofNat 0)) (SI.app 2 (SA.l (SL.app 115 (SA.l (SL.v 0) (SA.l (SL.v 1) SA.nil))) (SA.i (SI.sel (SL.v 0) (SI.v 0) 0) (SA.i (SI.c (Int.ofNat 3)) SA.nil))))), SB.lt (SI.c (Int.ofNat 0)) (SI.len (SL.app 6 (SA.l (SL.app 115 (SA.l (SL.v 0) (SA.l (SL.v 1) SA.nil))) (SA.i (SI.sel (SL.v 0) (SI.v 0) 0) SA.nil)))), SB.le (SI.c (Int.ofNat 0)) (SI.sel (SL.v 0) (SI.v 0) 0), SB.lt (SI.v 0) (SI.len (SL.v 0)), SB.le (SI.c (Int.ofNat 0)) (SI.v 0), SB.le (SI.c (Int.ofNat 1)) (SI.len (SL.v 0)), SB.le (SI.len (SL.v 0)) (SI.c (Int.ofNat 8)), SB.le (SI.len (SL.v 2)) (SI.c (Int.ofNat 1000)), SB.eq (SI.len (SL.v 1)) (SI.len (SL.v 0)), SB.c true, SB.app 136 (SA.l (SL.v 0) SA.nil), SB.app 130 (SA.l (SL.v 1) (SA.l (SL.v 2) SA.nil))], eqs := [Eqn.T (SB.eq (SI.app 100 (SA.l (SL.v 1) (SA.i (SI.v 0) SA.nil))) (SI.c (Int.ofNat 0)))] }, { pc := [SB.not (SB.lt (SI.c (Int.ofNat 0)) (SI.len (SL.app 6 (SA.l (SL.app 115 (SA.l (SL.v 0) (SA.l (SL.v 1) SA.nil))) (SA.i (SI.sel (SL.v 0) (SI.v 0) 0) SA.nil))))), SB.le (SI.c (Int.ofNat 0)) (SI.sel (SL.v 0) (SI.v 0) 0), SB.lt (SI.v 0) (SI.len (SL.v 0)), SB.le (SI.c (Int.ofNat 0)) (SI.v 0), SB.le (SI.c (Int.ofNat 1)) (SI.len (SL.v 0)), SB.le (SI.len (SL.v 0)) (SI.c (Int.ofNat 8)), SB.le (SI.len (SL.v 2)) (SI.c (Int.ofNat 1000)), SB.eq (SI.len (SL.v 1)) (SI.len (SL.v 0)), SB.c true, SB.app 136 (SA.l (SL.v 0) SA.nil), SB.app 130 (SA.l (SL.v 1) (SA.l (SL.v 2) SA.nil))], eqs := [Eqn.T (SB.c false)] }] := by kernel_rfl
theorem cTake_ok : cTake.ok Φ Try.prog := by
  refine call_rule (fun ρ => t5_ok ρ) cTake_obs ?_
  simp only [and_imp, List.forall_mem_cons, List.not_mem_nil, false_implies, implies_true, and_true, Ob.ok, holds, Eqn.ok, evB_eq, evB_lt, evB_le, evB_not, evB_and, evB_or, evB_eqL, evB_app, evB_v, evB_c, ev_sel, ev_len, ev_v, ev_c, ev_add, ev_sub, ev_mul, ev_quo, ev_rem, ev_bits, ev_wrap, evL_v, evL_lit, evL_app, ev_app, evA_l, evA_i, evA_nil, std_min, std_max, std_cat, std_take, std_drop, std_row, std_set, std_rep, std_find, std_put, std_del, std_flag, std_unflag, std_clr, std_left, std_copy, std_cnt, std_catS, std_lenS, std_atS, std_subS, std_ofB, std_snd, std_rcv, ints_cons, ints_nil, ofNat_lit, negSucc_lit, decide_eq_true_eq, Bool.and_eq_true, Bool.or_eq_true, Bool.not_eq_true', Bool.and_eq_false_iff, Bool.or_eq_false_iff, decide_eq_false_iff_not, aI100, aI101, aL110, aL111, aL112, aL113, aL114, aL115, aL116, aL117, aL118, aB130, aB131, aB132, aB133, aB134, aB135, aB136, aB137, aB138, aB199, Bool.not_eq_false']
  repeat' apply And.intro
  all_goals intro ρ hR
  all_goals intros
  all_goals first
    | (have hB : okB (ρ.l 0) = true := by with_reducible assumption
       have hs : stQ (ρ.l 1) (ρ.l 2) = true := by with_reducible assumption
       have hl : (ρ.l 1).length = (ρ.l 0).length := by omega
       have h := (st_lay hB hl).2 hs
       have hlM := lay_len hl
       have hO : ∀ r ∈ ρ.l 2, r ≠ [] := fun r hr e => by
         have := hR.row 2 rfl rfl r hr
         rw [e] at this
         exact this
       have hc := cnt_at h (c := ρ.i 0) (by omega) (by omega)
       have hm := fun j => msg_find h (c := ρ.i 0) (by omega) (by omega) j
       have hq : 0 < qLen (layT (ρ.l 0) (ρ.l 1)) (ρ.i 0) := by omega
       obtain ⟨t1, t2, t3⟩ := st_take h hO (c := ρ.i 0) (by omega) (by omega) hq
       have hme := lay_msg hl (c := ρ.i 0) (by omega) (by omega) 0
       have hme : msgI (layT (ρ.l 0) (ρ.l 1)) (ρ.i 0) 0 = (msgQ (ρ.l 1) (ρ.i 0) 0) := hme
       rw [lay_qlen hl (by omega) (by omega)] at hq
       rw [hme] at t1 t2 t3
       rw [lay_take hB hl (by omega) (by omega)] at t3
       have t3 := (st_lay hB (by rw [takeQ_len, hl])).1 (st_iff.1 t3)
       have hm0 : ((findK (layT (ρ.l 0) (ρ.l 1)) (((ρ.l 0).getD (ρ.i 0).toNat []).getD 0 0)).getD (0 : Int).toNat []).getD 1 0 = (msgQ (ρ.l 1) (ρ.i 0) 0) := (hm 0).trans hme
       have hw : IntKind.wrap .i64 (((findK (layT (ρ.l 0) (ρ.l 1)) (((ρ.l 0).getD (ρ.i 0).toNat []).getD 0 0)).getD (0 : Int).toNat []).getD 1 0 - 1) = (msgQ (ρ.l 1) (ρ.i 0) 0) - 1 := by rw [hm0]; exact wrap_id (by omega) (by omega)
       have hw2 : IntKind.wrap .i64 (((ρ.l 2).getD ((msgQ (ρ.l 1) (ρ.i 0) 0) - 1).toNat []).getD 0 0 - 1) = ((ρ.l 2).getD ((msgQ (ρ.l 1) (ρ.i 0) 0) - 1).toNat []).getD 0 0 - 1 := by
         have := cnt_le h (i := ((msgQ (ρ.l 1) (ρ.i 0) 0) - 1).toNat) (by omega)
         exact wrap_id (by omega) (by omega)
       rw [hw, hm0, hw2]
       refine ⟨hq, t1, t2, by rw [takeQ_len]; omega, by rw [dec_len], t3, rfl, ((hm 1).trans (lay_msg hl (by omega) (by omega) 1)).symm, ((hm 2).trans (lay_msg hl (by omega) (by omega) 2)).symm, by rw [dec_len], ?_, ?_⟩
       · unfold decT
         refine modify_same rfl fun x hx => ?_
         rw [List.getD_eq_getElem?_getD (l := ρ.l 2), hx]
         rfl
       · rw [← lay_take hB hl (by omega) (by omega), key_at h (by omega) (by omega)]; rfl)
    | (have hB : okB (ρ.l 0) = true := by with_reducible assumption
       have hs : stQ (ρ.l 1) (ρ.l 2) = true := by with_reducible assumption
       have hl : (ρ.l 1).length = (ρ.l 0).length := by omega
       have h := (st_lay hB hl).2 hs
       have hlM := lay_len hl
       have hO : ∀ r ∈ ρ.l 2, r ≠ [] := fun r hr e => by
         have := hR.row 2 rfl rfl r hr
         rw [e] at this
         exact this
       have hc := cnt_at h (c := ρ.i 0) (by omega) (by omega)
       have hm := fun j => msg_find h (c := ρ.i 0) (by omega) (by omega) j
       have hq : 0 < qLen (layT (ρ.l 0) (ρ.l 1)) (ρ.i 0) := by omega
       obtain ⟨t1, t2, t3⟩ := st_take h hO (c := ρ.i 0) (by omega) (by omega) hq
       have hme := lay_msg hl (c := ρ.i 0) (by omega) (by omega) 0
       have hme : msgI (layT (ρ.l 0) (ρ.l 1)) (ρ.i 0) 0 = (msgQ (ρ.l 1) (ρ.i 0) 0) := hme
       rw [lay_qlen hl (by omega) (by omega)] at hq
       rw [hme] at t1 t2 t3
       rw [lay_take hB hl (by omega) (by omega)] at t3
       have t3 := (st_lay hB (by rw [takeQ_len, hl])).1 (st_iff.1 t3)
       have hm0 : ((findK (layT (ρ.l 0) (ρ.l 1)) (((ρ.l 0).getD (ρ.i 0).toNat []).getD 0 0)).getD (0 : Int).toNat []).getD 1 0 = (msgQ (ρ.l 1) (ρ.i 0) 0) := (hm 0).trans hme
       have hw : IntKind.wrap .i64 (((findK (layT (ρ.l 0) (ρ.l 1)) (((ρ.l 0).getD (ρ.i 0).toNat []).getD 0 0)).getD (0 : Int).toNat []).getD 1 0 - 1) = (msgQ (ρ.l 1) (ρ.i 0) 0) - 1 := by rw [hm0]; exact wrap_id (by omega) (by omega)
       exfalso
       omega)
    | (have hB : okB (ρ.l 0) = true := by with_reducible assumption
       have hs : stQ (ρ.l 1) (ρ.l 2) = true := by with_reducible assumption
       have hl : (ρ.l 1).length = (ρ.l 0).length := by omega
       have h := (st_lay hB hl).2 hs
       have hlM := lay_len hl
       have hO : ∀ r ∈ ρ.l 2, r ≠ [] := fun r hr e => by
         have := hR.row 2 rfl rfl r hr
         rw [e] at this
         exact this
       have hc := cnt_at h (c := ρ.i 0) (by omega) (by omega)
       have hm := fun j => msg_find h (c := ρ.i 0) (by omega) (by omega) j
       have hq := (qlen_of (h.row _ (row_mem (c := ρ.i 0) (by omega) (by omega)))).2
       rw [lay_qlen hl (by omega) (by omega)] at hc hq
       omega)
    | (have hB : okB (ρ.l 0) = true := by with_reducible assumption
       have hs : stQ (ρ.l 1) (ρ.l 2) = true := by with_reducible assumption
       have hl : (ρ.l 1).length = (ρ.l 0).length := by omega
       have h := (st_lay hB hl).2 hs
       have hlM := lay_len hl
       have e := found h (c := ρ.i 0) (by omega) (by omega)
       exfalso
       omega)
set_option maxRecDepth 100000 in
theorem cWaits_obs : callObs Φ Try.prog t5 1000 cWaits.f cWaits.vs cWaits.o cWaits.pc cWaits.outs = some
  [{ pc := [SB.lt (SI.c (Int.ofNat 0)) (SI.len (SL.app 6 (SA.l (SL.app 115 (SA.l (SL.v 0) (SA.l (SL.v 1) SA.nil))) (SA.i (SI.sel (SL.v 0) (SI.v 0) 0) SA.nil)))), SB.le (SI.c (Int.ofNat 0)) (SI.sel (SL.v 0) (SI.v 0) 0), SB.lt (SI.v 0) (SI.len (SL.v 0)), SB.le (SI.c (Int.ofNat 0)) (SI.v 0), SB.le (SI.c (Int.ofNat 1)) (SI.len (SL.v 0)), SB.le (SI.len (SL.v 0)) (SI.c (Int.ofNat 8)), SB.le (SI.len (SL.v 2)) (SI.c (Int.ofNat 1000)), SB.eq (SI.len (SL.v 1)) (SI.len (SL.v 0)), SB.c true, SB.app 136 (SA.l (SL.v 0) SA.nil), SB.app 130 (SA.l (SL.v 1) (SA.l (SL.v 2) SA.nil))], eqs := [Eqn.T (SB.le (SI.c (Int.ofNat 0)) (SI.app 100 (SA.l (SL.v 1) (SA.i (SI.v 0) SA.nil)))), Eqn.T (SB.le (SI.app 100 (SA.l (SL.v 1) (SA.i (SI.v 0) SA.nil))) (SI.c (Int.ofNat 16))), Eqn.I (SI.app 100 (SA.l (SL.v 1) (SA.i (SI.v 0) SA.nil))) (SI.app 2 (SA.l (SL.app 115 (SA.l (SL.v 0) (SA.l (SL.v 1) SA.nil))) (SA.i (SI.sel (SL.v 0) (SI.v 0) 0) (SA.i (SI.c (Int.ofNat 3)) SA.nil))))] }, { pc := [SB.not (SB.lt (SI.c (Int.ofNat 0)) (SI.len (SL.app 6 (SA.l (SL.app 115 (SA.l (SL.v 0) (SA.l (SL.v 1) SA.nil))) (SA.i (SI.sel (SL.v 0) (SI.v 0) 0) SA.nil))))), SB.le (SI.c (Int.ofNat 0)) (SI.sel (SL.v 0) (SI.v 0) 0), SB.lt (SI.v 0) (SI.len (SL.v 0)), SB.le (SI.c (Int.ofNat 0)) (SI.v 0), SB.le (SI.c (Int.ofNat 1)) (SI.len (SL.v 0)), SB.le (SI.len (SL.v 0)) (SI.c (Int.ofNat 8)), SB.le (SI.len (SL.v 2)) (SI.c (Int.ofNat 1000)), SB.eq (SI.len (SL.v 1)) (SI.len (SL.v 0)), SB.c true, SB.app 136 (SA.l (SL.v 0) SA.nil), SB.app 130 (SA.l (SL.v 1) (SA.l (SL.v 2) SA.nil))], eqs := [Eqn.T (SB.c false)] }] := by kernel_rfl
theorem cWaits_ok : cWaits.ok Φ Try.prog := by
  refine call_rule (fun ρ => t5_ok ρ) cWaits_obs ?_
  simp only [and_imp, List.forall_mem_cons, List.not_mem_nil, false_implies, implies_true, and_true, Ob.ok, holds, Eqn.ok, evB_eq, evB_lt, evB_le, evB_not, evB_and, evB_or, evB_eqL, evB_app, evB_v, evB_c, ev_sel, ev_len, ev_v, ev_c, ev_add, ev_sub, ev_mul, ev_quo, ev_rem, ev_bits, ev_wrap, evL_v, evL_lit, evL_app, ev_app, evA_l, evA_i, evA_nil, std_min, std_max, std_cat, std_take, std_drop, std_row, std_set, std_rep, std_find, std_put, std_del, std_flag, std_unflag, std_clr, std_left, std_copy, std_cnt, std_catS, std_lenS, std_atS, std_subS, std_ofB, std_snd, std_rcv, ints_cons, ints_nil, ofNat_lit, negSucc_lit, decide_eq_true_eq, Bool.and_eq_true, Bool.or_eq_true, Bool.not_eq_true', Bool.and_eq_false_iff, Bool.or_eq_false_iff, decide_eq_false_iff_not, aI100, aI101, aL110, aL111, aL112, aL113, aL114, aL115, aL116, aL117, aL118, aB130, aB131, aB132, aB133, aB134, aB135, aB136, aB137, aB138, aB199, Bool.not_eq_false']
  repeat' apply And.intro
  all_goals intro ρ hR
  all_goals intros
  all_goals first
    | (have hB : okB (ρ.l 0) = true := by with_reducible assumption
       have hs : stQ (ρ.l 1) (ρ.l 2) = true := by with_reducible assumption
       have hl : (ρ.l 1).length = (ρ.l 0).length := by omega
       have h := (st_lay hB hl).2 hs
       have hlM := lay_len hl
       have hc := cnt_at h (c := ρ.i 0) (by omega) (by omega)
       have hq := (qlen_of (h.row _ (row_mem (c := ρ.i 0) (by omega) (by omega)))).2
       rw [lay_qlen hl (by omega) (by omega)] at hc hq
       exact ⟨by omega, by omega, by omega⟩)
    | (have hB : okB (ρ.l 0) = true := by with_reducible assumption
       have hs : stQ (ρ.l 1) (ρ.l 2) = true := by with_reducible assumption
       have hl : (ρ.l 1).length = (ρ.l 0).length := by omega
       have h := (st_lay hB hl).2 hs
       have hlM := lay_len hl
       have e := found h (c := ρ.i 0) (by omega) (by omega)
       exfalso
       omega)
set_option maxRecDepth 100000 in
theorem cDone_obs : callObs Φ Try.prog t5 1000 cDone.f cDone.vs cDone.o cDone.pc cDone.outs = some
  [{ pc := [SB.le (SI.v 0) (SI.len (SL.v 2)), SB.le (SI.c (Int.ofNat 1)) (SI.v 0), SB.le (SI.c (Int.ofNat 1)) (SI.len (SL.v 0)), SB.le (SI.len (SL.v 0)) (SI.c (Int.ofNat 8)), SB.le (SI.len (SL.v 2)) (SI.c (Int.ofNat 1000)), SB.eq (SI.len (SL.v 1)) (SI.len (SL.v 0))], eqs := [Eqn.B (SB.app 135 (SA.l (SL.v 2) (SA.i (SI.v 0) SA.nil))) (SB.eq (SI.sel (SL.v 2) (SI.sub (SI.v 0) (SI.c (Int.ofNat 1))) 0) (SI.c (Int.ofNat 0)))] }, { pc := [SB.not (SB.le (SI.v 0) (SI.len (SL.v 2))), SB.le (SI.c (Int.ofNat 1)) (SI.v 0), SB.le (SI.c (Int.ofNat 1)) (SI.len (SL.v 0)), SB.le (SI.len (SL.v 0)) (SI.c (Int.ofNat 8)), SB.le (SI.len (SL.v 2)) (SI.c (Int.ofNat 1000)), SB.eq (SI.len (SL.v 1)) (SI.len (SL.v 0))], eqs := [Eqn.B (SB.app 135 (SA.l (SL.v 2) (SA.i (SI.v 0) SA.nil))) (SB.c false)] }, { pc := [SB.not (SB.le (SI.c (Int.ofNat 1)) (SI.v 0)), SB.le (SI.c (Int.ofNat 1)) (SI.len (SL.v 0)), SB.le (SI.len (SL.v 0)) (SI.c (Int.ofNat 8)), SB.le (SI.len (SL.v 2)) (SI.c (Int.ofNat 1000)), SB.eq (SI.len (SL.v 1)) (SI.len (SL.v 0))], eqs := [Eqn.B (SB.app 135 (SA.l (SL.v 2) (SA.i (SI.v 0) SA.nil))) (SB.c false)] }] := by kernel_rfl
theorem cDone_ok : cDone.ok Φ Try.prog := by
  refine call_rule (fun ρ => t5_ok ρ) cDone_obs ?_
  simp only [and_imp, List.forall_mem_cons, List.not_mem_nil, false_implies, implies_true, and_true, Ob.ok, holds, Eqn.ok, evB_eq, evB_lt, evB_le, evB_not, evB_and, evB_or, evB_eqL, evB_app, evB_v, evB_c, ev_sel, ev_len, ev_v, ev_c, ev_add, ev_sub, ev_mul, ev_quo, ev_rem, ev_bits, ev_wrap, evL_v, evL_lit, evL_app, ev_app, evA_l, evA_i, evA_nil, std_min, std_max, std_cat, std_take, std_drop, std_row, std_set, std_rep, std_find, std_put, std_del, std_flag, std_unflag, std_clr, std_left, std_copy, std_cnt, std_catS, std_lenS, std_atS, std_subS, std_ofB, std_snd, std_rcv, ints_cons, ints_nil, ofNat_lit, negSucc_lit, decide_eq_true_eq, Bool.and_eq_true, Bool.or_eq_true, Bool.not_eq_true', Bool.and_eq_false_iff, Bool.or_eq_false_iff, decide_eq_false_iff_not, aI100, aI101, aL110, aL111, aL112, aL113, aL114, aL115, aL116, aL117, aL118, aB130, aB131, aB132, aB133, aB134, aB135, aB136, aB137, aB138, aB199, Bool.not_eq_false']
  repeat' apply And.intro
  all_goals intro ρ hR
  all_goals intros
  all_goals first
    | (unfold doneB
       rw [decide_eq_true (by omega : 1 ≤ ρ.i 0), decide_eq_true (by omega : ρ.i 0 ≤ ((ρ.l 2).length : Int)), Bool.true_and, Bool.true_and])
    | (unfold doneB
       rw [decide_eq_false (by omega : ¬ ρ.i 0 ≤ ((ρ.l 2).length : Int)), Bool.false_and, Bool.and_false])
    | (unfold doneB
       rw [decide_eq_false (by omega : ¬ 1 ≤ ρ.i 0), Bool.false_and])
set_option maxRecDepth 100000 in
theorem cOpen_obs : callObs Φ Try.prog t5 1000 cOpen.f cOpen.vs cOpen.o cOpen.pc cOpen.outs = some
  [] := by kernel_rfl
theorem cOpen_ok : cOpen.ok Φ Try.prog := by
  refine call_rule (fun ρ => t5_ok ρ) cOpen_obs ?_
  intro ob h; cases h
theorem t6_ok (ρ : Env) : TblOK Φ ρ Try.prog t6 := addFn_ok (addFn_ok (addFn_ok (addFn_ok (addFn_ok (addFn_ok (t5_ok ρ) cNew_ok) cPost_ok) cTake_ok) cWaits_ok) cDone_ok) cOpen_ok
end Go.SF.C15
