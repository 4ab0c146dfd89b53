/- What the law of wakes needs, shown. -/
import Derived.Test.YtnhdohhhgfdhfaaQ0
import Derived.Test.YtnhdohhhgfdhfaaC1
import Derived.Test.YtnhdohhhgfdhfaaP1
import Derived.KernelRfl
namespace Go.SF.C21
open Go Go.SF Go.Proofs
set_option linter.unusedVariables false
set_option linter.unusedSimpArgs false

open Go.SF.C18
set_option maxRecDepth 100000 in
theorem cArmW_obs : callObs Φ Try.prog noTbl 1000 cArmW.f cArmW.vs cArmW.o cArmW.pc cArmW.outs = some
  [{ pc := [SB.le (SI.c (Int.ofNat 1)) (SI.v 8), SB.le (SI.v 8) (SI.c (Int.ofNat 10000)), SB.le (SI.c (Int.ofNat 0)) (SI.v 0), SB.lt (SI.v 9) (SI.v 1), SB.le (SI.v 1) (SI.c (Int.ofNat 1099511627776))], eqs := [Eqn.L (SL.app 3 (SA.i (SI.v 0) (SA.i (SI.v 1) (SA.i (SI.c (Int.ofNat 0)) SA.nil)))) (SL.app 7 (SA.l (SL.lit []) (SA.i (SI.v 0) (SA.i (SI.v 1) (SA.i (SI.c (Int.ofNat 0)) SA.nil)))))] }] := by kernel_rfl
theorem cArmW_ok : cArmW.ok Φ Try.prog := by
  refine call_rule (fun ρ => noTbl_ok) cArmW_obs ?_
  simp only [and_imp, List.forall_mem_cons, List.not_mem_nil, false_implies, implies_true, and_true, Ob.ok, holds, Eqn.ok, evB_eq, evB_lt, evB_le, evB_not, evB_and, evB_or, evB_eqL, evB_app, evB_v, evB_c, ev_sel, ev_len, ev_v, ev_c, ev_add, ev_sub, ev_mul, ev_quo, ev_rem, ev_bits, ev_wrap, evL_v, evL_lit, evL_app, ev_app, evA_l, evA_i, evA_nil, std_min, std_max, std_cat, std_take, std_drop, std_row, std_set, std_rep, std_find, std_put, std_del, std_flag, std_unflag, std_clr, std_left, std_copy, ints_cons, ints_nil, ofNat_lit, negSucc_lit, decide_eq_true_eq, Bool.and_eq_true, Bool.or_eq_true, Bool.not_eq_true', Bool.and_eq_false_iff, Bool.or_eq_false_iff, decide_eq_false_iff_not, aB199, aB300, aB301, aB302, Q.aB130, T.aL222, T.aL223, std_row]
  repeat' apply And.intro
  all_goals intro ρ hR
  all_goals intros
  all_goals first
    | (rfl)
set_option maxRecDepth 100000 in
theorem cTickE_obs : callObs Φ Try.prog T.t5 1000 cTickE.f cTickE.vs cTickE.o cTickE.pc cTickE.outs = some
  [{ pc := [SB.lt (SI.len (SL.app 222 (SA.l (SL.lit []) (SA.l (SL.app 9 (SA.l (SL.v 0) SA.nil)) (SA.i (SI.v 0) SA.nil))))) (SI.c (Int.ofNat 80000)), SB.lt (SI.len (SL.app 12 (SA.l (SL.app 9 (SA.l (SL.v 0) SA.nil)) SA.nil))) (SI.c (Int.ofNat 80000)), SB.le (SI.c (Int.ofNat 1)) (SI.v 8), SB.le (SI.v 8) (SI.c (Int.ofNat 10000)), SB.lt (SI.len (SL.v 0)) (SI.c (Int.ofNat 80000)), SB.le (SI.v 9) (SI.v 0), SB.le (SI.v 0) (SI.c (Int.ofNat 549755813888)), SB.c true, SB.app 301 (SA.l (SL.v 0) (SA.i (SI.v 0) SA.nil))], eqs := [Eqn.I (SI.c (Int.ofNat 0)) (SI.len (SL.app 222 (SA.l (SL.lit []) (SA.l (SL.app 9 (SA.l (SL.v 0) SA.nil)) (SA.i (SI.v 0) SA.nil))))), Eqn.L (SL.v 0) (SL.app 10 (SA.l (SL.app 223 (SA.l (SL.app 9 (SA.l (SL.v 0) SA.nil)) (SA.i (SI.v 0) SA.nil))) SA.nil)), Eqn.L (SL.lit []) (SL.app 222 (SA.l (SL.lit []) (SA.l (SL.app 9 (SA.l (SL.v 0) SA.nil)) (SA.i (SI.v 0) SA.nil))))] }, { pc := [SB.not (SB.lt (SI.len (SL.app 12 (SA.l (SL.app 9 (SA.l (SL.v 0) SA.nil)) SA.nil))) (SI.c (Int.ofNat 80000))), SB.le (SI.c (Int.ofNat 1)) (SI.v 8), SB.le (SI.v 8) (SI.c (Int.ofNat 10000)), SB.lt (SI.len (SL.v 0)) (SI.c (Int.ofNat 80000)), SB.le (SI.v 9) (SI.v 0), SB.le (SI.v 0) (SI.c (Int.ofNat 549755813888)), SB.c true, SB.app 301 (SA.l (SL.v 0) (SA.i (SI.v 0) SA.nil))], eqs := [Eqn.T (SB.c false)] }] := by kernel_rfl
theorem cTickE_ok : cTickE.ok Φ Try.prog := by
  refine call_rule (fun ρ => T.t5_ok ρ) cTickE_obs ?_
  simp only [and_imp, List.forall_mem_cons, List.not_mem_nil, false_implies, implies_true, and_true, Ob.ok, holds, Eqn.ok, evB_eq, evB_lt, evB_le, evB_not, evB_and, evB_or, evB_eqL, evB_app, evB_v, evB_c, ev_sel, ev_len, ev_v, ev_c, ev_add, ev_sub, ev_mul, ev_quo, ev_rem, ev_bits, ev_wrap, evL_v, evL_lit, evL_app, ev_app, evA_l, evA_i, evA_nil, std_min, std_max, std_cat, std_take, std_drop, std_row, std_set, std_rep, std_find, std_put, std_del, std_flag, std_unflag, std_clr, std_left, std_copy, ints_cons, ints_nil, ofNat_lit, negSucc_lit, decide_eq_true_eq, Bool.and_eq_true, Bool.or_eq_true, Bool.not_eq_true', Bool.and_eq_false_iff, Bool.or_eq_false_iff, decide_eq_false_iff_not, aB199, aB300, aB301, aB302, Q.aB130, T.aL222, T.aL223, std_row]
  repeat' apply And.intro
  all_goals intro ρ hR
  all_goals intros
  all_goals first
    | (have h := tickE (T := ρ.l 0) (n := ρ.i 0) (by with_reducible assumption) (hR.row 1 rfl rfl)
       rw [h.1, h.2]
       exact ⟨rfl, rfl, rfl⟩)
    | (have h1 := remT_len (flagT (ρ.l 0))
       have h2 := flagT_len (ρ.l 0)
       omega)
set_option maxRecDepth 100000 in
theorem cTickD_obs : callObs Φ Try.prog T.t5 1000 cTickD.f cTickD.vs cTickD.o cTickD.pc cTickD.outs = some
  [{ pc := [SB.lt (SI.len (SL.app 222 (SA.l (SL.lit []) (SA.l (SL.app 9 (SA.l (SL.v 0) SA.nil)) (SA.i (SI.v 0) SA.nil))))) (SI.c (Int.ofNat 80000)), SB.lt (SI.len (SL.app 12 (SA.l (SL.app 9 (SA.l (SL.v 0) SA.nil)) SA.nil))) (SI.c (Int.ofNat 80000)), SB.le (SI.c (Int.ofNat 1)) (SI.v 8), SB.le (SI.v 8) (SI.c (Int.ofNat 10000)), SB.lt (SI.len (SL.v 0)) (SI.c (Int.ofNat 80000)), SB.le (SI.v 9) (SI.v 0), SB.le (SI.v 0) (SI.c (Int.ofNat 549755813888)), SB.eq (SI.v 0) (SI.sel (SL.v 0) (SI.c (Int.ofNat 0)) 1), SB.c true, SB.eqL (SL.v 0) (SL.app 3 (SA.i (SI.c (Int.ofNat 1)) (SA.i (SI.v 0) (SA.i (SI.c (Int.ofNat 0)) SA.nil))))], eqs := [Eqn.I (SI.len (SL.app 3 (SA.i (SI.c (Int.ofNat 1)) (SA.i (SI.v 0) (SA.i (SI.c (Int.ofNat 1)) SA.nil))))) (SI.len (SL.app 222 (SA.l (SL.lit []) (SA.l (SL.app 9 (SA.l (SL.v 0) SA.nil)) (SA.i (SI.v 0) SA.nil))))), Eqn.L (SL.lit []) (SL.app 10 (SA.l (SL.app 223 (SA.l (SL.app 9 (SA.l (SL.v 0) SA.nil)) (SA.i (SI.v 0) SA.nil))) SA.nil)), Eqn.L (SL.app 3 (SA.i (SI.c (Int.ofNat 1)) (SA.i (SI.v 0) (SA.i (SI.c (Int.ofNat 1)) SA.nil)))) (SL.app 222 (SA.l (SL.lit []) (SA.l (SL.app 9 (SA.l (SL.v 0) SA.nil)) (SA.i (SI.v 0) SA.nil))))] }, { pc := [SB.not (SB.lt (SI.len (SL.app 12 (SA.l (SL.app 9 (SA.l (SL.v 0) SA.nil)) SA.nil))) (SI.c (Int.ofNat 80000))), SB.le (SI.c (Int.ofNat 1)) (SI.v 8), SB.le (SI.v 8) (SI.c (Int.ofNat 10000)), SB.lt (SI.len (SL.v 0)) (SI.c (Int.ofNat 80000)), SB.le (SI.v 9) (SI.v 0), SB.le (SI.v 0) (SI.c (Int.ofNat 549755813888)), SB.eq (SI.v 0) (SI.sel (SL.v 0) (SI.c (Int.ofNat 0)) 1), SB.c true, SB.eqL (SL.v 0) (SL.app 3 (SA.i (SI.c (Int.ofNat 1)) (SA.i (SI.v 0) (SA.i (SI.c (Int.ofNat 0)) SA.nil))))], eqs := [Eqn.T (SB.c false)] }] := by kernel_rfl
theorem cTickD_ok : cTickD.ok Φ Try.prog := by
  refine call_rule (fun ρ => T.t5_ok ρ) cTickD_obs ?_
  simp only [and_imp, List.forall_mem_cons, List.not_mem_nil, false_implies, implies_true, and_true, Ob.ok, holds, Eqn.ok, evB_eq, evB_lt, evB_le, evB_not, evB_and, evB_or, evB_eqL, evB_app, evB_v, evB_c, ev_sel, ev_len, ev_v, ev_c, ev_add, ev_sub, ev_mul, ev_quo, ev_rem, ev_bits, ev_wrap, evL_v, evL_lit, evL_app, ev_app, evA_l, evA_i, evA_nil, std_min, std_max, std_cat, std_take, std_drop, std_row, std_set, std_rep, std_find, std_put, std_del, std_flag, std_unflag, std_clr, std_left, std_copy, ints_cons, ints_nil, ofNat_lit, negSucc_lit, decide_eq_true_eq, Bool.and_eq_true, Bool.or_eq_true, Bool.not_eq_true', Bool.and_eq_false_iff, Bool.or_eq_false_iff, decide_eq_false_iff_not, aB199, aB300, aB301, aB302, Q.aB130, T.aL222, T.aL223, std_row]
  repeat' apply And.intro
  all_goals intro ρ hR
  all_goals intros
  all_goals first
    | (have h := tickD (T := ρ.l 0) (n := ρ.i 0) (by with_reducible assumption) (hR.row 1 rfl rfl)
       rw [h.1, h.2]
       exact ⟨rfl, rfl, rfl⟩)
    | (have h1 := remT_len (flagT (ρ.l 0))
       have h2 := flagT_len (ρ.l 0)
       omega)
set_option maxRecDepth 100000 in
theorem nw1_obs : loopObs Φ Try.prog b1 1000 nw1.f (loopAt Try.prog nw1.f nw1.id) nw1.n nw1.T kN nw1.outs = some
  [{ pc := [SB.lt (SI.v 1) (SI.v 0), SB.eq (SI.v 0) (SI.c (Int.ofNat 1)), SB.le (SI.c (Int.ofNat 0)) (SI.v 1), SB.le (SI.v 1) (SI.v 0), SB.eq (SI.len (SL.v 4)) (SI.v 1), SB.c true, SB.eqL (SL.v 4) (SL.app 5 (SA.i (SI.v 1) (SA.i (SI.c (Int.negSucc 0)) SA.nil)))], eqs := [Eqn.T (SB.eqL (SL.app 0 (SA.l (SL.v 4) (SA.l (SL.lit [[Int.negSucc 0]]) SA.nil))) (SL.app 5 (SA.i (SI.add (SI.v 1) (SI.c (Int.ofNat 1))) (SA.i (SI.c (Int.negSucc 0)) SA.nil))))] }, { pc := [SB.not (SB.lt (SI.v 1) (SI.v 0)), SB.eq (SI.v 0) (SI.c (Int.ofNat 1)), SB.le (SI.c (Int.ofNat 0)) (SI.v 1), SB.le (SI.v 1) (SI.v 0), SB.eq (SI.len (SL.v 4)) (SI.v 1), SB.c true, SB.eqL (SL.v 4) (SL.app 5 (SA.i (SI.v 1) (SA.i (SI.c (Int.negSucc 0)) SA.nil)))], eqs := [Eqn.I (SI.c (Int.ofNat 1)) (SI.len (SL.v 4)), Eqn.L (SL.lit [[Int.negSucc 0]]) (SL.v 4)] }] := by kernel_rfl
theorem nw1_ok : nw1.ok Φ Try.prog := by
  refine ⟨by kernel_rfl, loop_rule (fun ρ => b1_ok ρ) (loopAt_sub (by kernel_rfl)) nw1_obs ?_⟩
  simp only [and_imp, List.forall_mem_cons, List.not_mem_nil, false_implies, implies_true, and_true, Ob.ok, holds, Eqn.ok, evB_eq, evB_lt, evB_le, evB_not, evB_and, evB_or, evB_eqL, evB_app, evB_v, evB_c, ev_sel, ev_len, ev_v, ev_c, ev_add, ev_sub, ev_mul, ev_quo, ev_rem, ev_bits, ev_wrap, evL_v, evL_lit, evL_app, ev_app, evA_l, evA_i, evA_nil, std_min, std_max, std_cat, std_take, std_drop, std_row, std_set, std_rep, std_find, std_put, std_del, std_flag, std_unflag, std_clr, std_left, std_copy, ints_cons, ints_nil, ofNat_lit, negSucc_lit, decide_eq_true_eq, Bool.and_eq_true, Bool.or_eq_true, Bool.not_eq_true', Bool.and_eq_false_iff, Bool.or_eq_false_iff, decide_eq_false_iff_not, aB199, aB300, aB301, aB302, Q.aB130, T.aL222, T.aL223, std_row]
  repeat' apply And.intro
  all_goals intro ρ hR
  all_goals intros
  all_goals try simp only [show (-(0 + 1) : Int) = -1 from rfl] at *
  all_goals have h : ρ.l 4 = List.replicate (ρ.i 1).toNat [-1] := by with_reducible assumption
  all_goals repeat' apply And.intro
  all_goals first
    | omega
    | (rw [h, show (ρ.i 1 + 1).toNat = (ρ.i 1).toNat + 1 by omega]; exact List.replicate_succ'.symm)
    | (have e : (ρ.i 1).toNat = 1 := by omega
       rw [h, e]; rfl)
set_option maxRecDepth 100000 in
theorem cQN1_obs : callObs Φ Try.prog noTbl 1000 cQN1.f cQN1.vs cQN1.o cQN1.pc cQN1.outs = some
  [{ pc := [SB.eq (SI.v 0) (SI.c (Int.ofNat 1))], eqs := [Eqn.T (SB.app 130 (SA.l (SL.lit [[]]) (SA.l (SL.lit []) (SA.i (SI.c (Int.ofNat 64)) SA.nil)))), Eqn.I (SI.c (Int.ofNat 1)) (SI.len (SL.app 5 (SA.i (SI.v 0) SA.nil))), Eqn.L (SL.lit [[]]) (SL.app 5 (SA.i (SI.v 0) SA.nil))] }] := by kernel_rfl
theorem cQN1_ok : cQN1.ok Φ Try.prog := by
  refine call_rule (fun ρ => noTbl_ok) cQN1_obs ?_
  simp only [and_imp, List.forall_mem_cons, List.not_mem_nil, false_implies, implies_true, and_true, Ob.ok, holds, Eqn.ok, evB_eq, evB_lt, evB_le, evB_not, evB_and, evB_or, evB_eqL, evB_app, evB_v, evB_c, ev_sel, ev_len, ev_v, ev_c, ev_add, ev_sub, ev_mul, ev_quo, ev_rem, ev_bits, ev_wrap, evL_v, evL_lit, evL_app, ev_app, evA_l, evA_i, evA_nil, std_min, std_max, std_cat, std_take, std_drop, std_row, std_set, std_rep, std_find, std_put, std_del, std_flag, std_unflag, std_clr, std_left, std_copy, ints_cons, ints_nil, ofNat_lit, negSucc_lit, decide_eq_true_eq, Bool.and_eq_true, Bool.or_eq_true, Bool.not_eq_true', Bool.and_eq_false_iff, Bool.or_eq_false_iff, decide_eq_false_iff_not, aB199, aB300, aB301, aB302, Q.aB130, T.aL222, T.aL223, std_row]
  repeat' apply And.intro
  all_goals intro ρ hR
  all_goals intros
  all_goals first
    | (have e : ρ.i 0 = 1 := by with_reducible assumption
       rw [e]
       exact ⟨rfl, rfl, rfl⟩)
set_option maxRecDepth 100000 in
theorem nw2_obs : loopObs Φ Try.prog b1 1000 nw2.f (loopAt Try.prog nw2.f nw2.id) nw2.n nw2.T kN nw2.outs = some
  [{ pc := [SB.lt (SI.v 1) (SI.v 0), SB.eq (SI.v 0) (SI.c (Int.ofNat 2)), SB.le (SI.c (Int.ofNat 0)) (SI.v 1), SB.le (SI.v 1) (SI.v 0), SB.eq (SI.len (SL.v 4)) (SI.v 1), SB.c true, SB.eqL (SL.v 4) (SL.app 5 (SA.i (SI.v 1) (SA.i (SI.c (Int.negSucc 0)) SA.nil)))], eqs := [Eqn.T (SB.lt (SI.sub (SI.v 0) (SI.add (SI.v 1) (SI.c (Int.ofNat 1)))) (SI.sub (SI.v 0) (SI.v 1))), Eqn.T (SB.eqL (SL.app 0 (SA.l (SL.v 4) (SA.l (SL.lit [[Int.negSucc 0]]) SA.nil))) (SL.app 5 (SA.i (SI.add (SI.v 1) (SI.c (Int.ofNat 1))) (SA.i (SI.c (Int.negSucc 0)) SA.nil))))] }, { pc := [SB.not (SB.lt (SI.v 1) (SI.v 0)), SB.eq (SI.v 0) (SI.c (Int.ofNat 2)), SB.le (SI.c (Int.ofNat 0)) (SI.v 1), SB.le (SI.v 1) (SI.v 0), SB.eq (SI.len (SL.v 4)) (SI.v 1), SB.c true, SB.eqL (SL.v 4) (SL.app 5 (SA.i (SI.v 1) (SA.i (SI.c (Int.negSucc 0)) SA.nil)))], eqs := [Eqn.I (SI.c (Int.ofNat 2)) (SI.len (SL.v 4)), Eqn.L (SL.lit [[Int.negSucc 0], [Int.negSucc 0]]) (SL.v 4)] }] := by kernel_rfl
theorem nw2_ok : nw2.ok Φ Try.prog := by
  refine ⟨by kernel_rfl, loop_rule (fun ρ => b1_ok ρ) (loopAt_sub (by kernel_rfl)) nw2_obs ?_⟩
  simp only [and_imp, List.forall_mem_cons, List.not_mem_nil, false_implies, implies_true, and_true, Ob.ok, holds, Eqn.ok, evB_eq, evB_lt, evB_le, evB_not, evB_and, evB_or, evB_eqL, evB_app, evB_v, evB_c, ev_sel, ev_len, ev_v, ev_c, ev_add, ev_sub, ev_mul, ev_quo, ev_rem, ev_bits, ev_wrap, evL_v, evL_lit, evL_app, ev_app, evA_l, evA_i, evA_nil, std_min, std_max, std_cat, std_take, std_drop, std_row, std_set, std_rep, std_find, std_put, std_del, std_flag, std_unflag, std_clr, std_left, std_copy, ints_cons, ints_nil, ofNat_lit, negSucc_lit, decide_eq_true_eq, Bool.and_eq_true, Bool.or_eq_true, Bool.not_eq_true', Bool.and_eq_false_iff, Bool.or_eq_false_iff, decide_eq_false_iff_not, aB199, aB300, aB301, aB302, Q.aB130, T.aL222, T.aL223, std_row]
  repeat' apply And.intro
  all_goals intro ρ hR
  all_goals intros
  all_goals try simp only [show (-(0 + 1) : Int) = -1 from rfl] at *
  all_goals have h : ρ.l 4 = List.replicate (ρ.i 1).toNat [-1] := by with_reducible assumption
  all_goals repeat' apply And.intro
  all_goals first
    | omega
    | (rw [h, show (ρ.i 1 + 1).toNat = (ρ.i 1).toNat + 1 by omega]; exact List.replicate_succ'.symm)
    | (have e : (ρ.i 1).toNat = 2 := by omega
       rw [h, e]; rfl)
set_option maxRecDepth 100000 in
theorem cQN2_obs : callObs Φ Try.prog noTbl 1000 cQN2.f cQN2.vs cQN2.o cQN2.pc cQN2.outs = some
  [{ pc := [SB.eq (SI.v 0) (SI.c (Int.ofNat 2))], eqs := [Eqn.T (SB.app 130 (SA.l (SL.lit [[], []]) (SA.l (SL.lit []) (SA.i (SI.c (Int.ofNat 64)) SA.nil)))), Eqn.I (SI.c (Int.ofNat 2)) (SI.len (SL.app 5 (SA.i (SI.v 0) SA.nil))), Eqn.L (SL.lit [[], []]) (SL.app 5 (SA.i (SI.v 0) SA.nil))] }] := by kernel_rfl
theorem cQN2_ok : cQN2.ok Φ Try.prog := by
  refine call_rule (fun ρ => noTbl_ok) cQN2_obs ?_
  simp only [and_imp, List.forall_mem_cons, List.not_mem_nil, false_implies, implies_true, and_true, Ob.ok, holds, Eqn.ok, evB_eq, evB_lt, evB_le, evB_not, evB_and, evB_or, evB_eqL, evB_app, evB_v, evB_c, ev_sel, ev_len, ev_v, ev_c, ev_add, ev_sub, ev_mul, ev_quo, ev_rem, ev_bits, ev_wrap, evL_v, evL_lit, evL_app, ev_app, evA_l, evA_i, evA_nil, std_min, std_max, std_cat, std_take, std_drop, std_row, std_set, std_rep, std_find, std_put, std_del, std_flag, std_unflag, std_clr, std_left, std_copy, ints_cons, ints_nil, ofNat_lit, negSucc_lit, decide_eq_true_eq, Bool.and_eq_true, Bool.or_eq_true, Bool.not_eq_true', Bool.and_eq_false_iff, Bool.or_eq_false_iff, decide_eq_false_iff_not, aB199, aB300, aB301, aB302, Q.aB130, T.aL222, T.aL223, std_row]
  repeat' apply And.intro
  all_goals intro ρ hR
  all_goals intros
  all_goals first
    | (have e : ρ.i 0 = 2 := by with_reducible assumption
       rw [e]
       exact ⟨rfl, rfl, rfl⟩)
set_option maxRecDepth 100000 in
theorem nw3_obs : loopObs Φ Try.prog b1 1000 nw3.f (loopAt Try.prog nw3.f nw3.id) nw3.n nw3.T kN nw3.outs = some
  [{ pc := [SB.lt (SI.v 1) (SI.v 0), SB.eq (SI.v 0) (SI.c (Int.ofNat 3)), SB.le (SI.c (Int.ofNat 0)) (SI.v 1), SB.le (SI.v 1) (SI.v 0), SB.eq (SI.len (SL.v 4)) (SI.v 1), SB.c true, SB.eqL (SL.v 4) (SL.app 5 (SA.i (SI.v 1) (SA.i (SI.c (Int.negSucc 0)) SA.nil)))], eqs := [Eqn.T (SB.lt (SI.sub (SI.v 0) (SI.add (SI.v 1) (SI.c (Int.ofNat 1)))) (SI.sub (SI.v 0) (SI.v 1))), Eqn.T (SB.eqL (SL.app 0 (SA.l (SL.v 4) (SA.l (SL.lit [[Int.negSucc 0]]) SA.nil))) (SL.app 5 (SA.i (SI.add (SI.v 1) (SI.c (Int.ofNat 1))) (SA.i (SI.c (Int.negSucc 0)) SA.nil))))] }, { pc := [SB.not (SB.lt (SI.v 1) (SI.v 0)), SB.eq (SI.v 0) (SI.c (Int.ofNat 3)), SB.le (SI.c (Int.ofNat 0)) (SI.v 1), SB.le (SI.v 1) (SI.v 0), SB.eq (SI.len (SL.v 4)) (SI.v 1), SB.c true, SB.eqL (SL.v 4) (SL.app 5 (SA.i (SI.v 1) (SA.i (SI.c (Int.negSucc 0)) SA.nil)))], eqs := [Eqn.I (SI.c (Int.ofNat 3)) (SI.len (SL.v 4)), Eqn.L (SL.lit [[Int.negSucc 0], [Int.negSucc 0], [Int.negSucc 0]]) (SL.v 4)] }] := by kernel_rfl
theorem nw3_ok : nw3.ok Φ Try.prog := by
  refine ⟨by kernel_rfl, loop_rule (fun ρ => b1_ok ρ) (loopAt_sub (by kernel_rfl)) nw3_obs ?_⟩
  simp only [and_imp, List.forall_mem_cons, List.not_mem_nil, false_implies, implies_true, and_true, Ob.ok, holds, Eqn.ok, evB_eq, evB_lt, evB_le, evB_not, evB_and, evB_or, evB_eqL, evB_app, evB_v, evB_c, ev_sel, ev_len, ev_v, ev_c, ev_add, ev_sub, ev_mul, ev_quo, ev_rem, ev_bits, ev_wrap, evL_v, evL_lit, evL_app, ev_app, evA_l, evA_i, evA_nil, std_min, std_max, std_cat, std_take, std_drop, std_row, std_set, std_rep, std_find, std_put, std_del, std_flag, std_unflag, std_clr, std_left, std_copy, ints_cons, ints_nil, ofNat_lit, negSucc_lit, decide_eq_true_eq, Bool.and_eq_true, Bool.or_eq_true, Bool.not_eq_true', Bool.and_eq_false_iff, Bool.or_eq_false_iff, decide_eq_false_iff_not, aB199, aB300, aB301, aB302, Q.aB130, T.aL222, T.aL223, std_row]
  repeat' apply And.intro
  all_goals intro ρ hR
  all_goals intros
  all_goals try simp only [show (-(0 + 1) : Int) = -1 from rfl] at *
  all_goals have h : ρ.l 4 = List.replicate (ρ.i 1).toNat [-1] := by with_reducible assumption
  all_goals repeat' apply And.intro
  all_goals first
    | omega
    | (rw [h, show (ρ.i 1 + 1).toNat = (ρ.i 1).toNat + 1 by omega]; exact List.replicate_succ'.symm)
    | (have e : (ρ.i 1).toNat = 3 := by omega
       rw [h, e]; rfl)
set_option maxRecDepth 100000 in
theorem cQN3_obs : callObs Φ Try.prog noTbl 1000 cQN3.f cQN3.vs cQN3.o cQN3.pc cQN3.outs = some
  [{ pc := [SB.eq (SI.v 0) (SI.c (Int.ofNat 3))], eqs := [Eqn.T (SB.app 130 (SA.l (SL.lit [[], [], []]) (SA.l (SL.lit []) (SA.i (SI.c (Int.ofNat 64)) SA.nil)))), Eqn.I (SI.c (Int.ofNat 3)) (SI.len (SL.app 5 (SA.i (SI.v 0) SA.nil))), Eqn.L (SL.lit [[], [], []]) (SL.app 5 (SA.i (SI.v 0) SA.nil))] }] := by kernel_rfl
theorem cQN3_ok : cQN3.ok Φ Try.prog := by
  refine call_rule (fun ρ => noTbl_ok) cQN3_obs ?_
  simp only [and_imp, List.forall_mem_cons, List.not_mem_nil, false_implies, implies_true, and_true, Ob.ok, holds, Eqn.ok, evB_eq, evB_lt, evB_le, evB_not, evB_and, evB_or, evB_eqL, evB_app, evB_v, evB_c, ev_sel, ev_len, ev_v, ev_c, ev_add, ev_sub, ev_mul, ev_quo, ev_rem, ev_bits, ev_wrap, evL_v, evL_lit, evL_app, ev_app, evA_l, evA_i, evA_nil, std_min, std_max, std_cat, std_take, std_drop, std_row, std_set, std_rep, std_find, std_put, std_del, std_flag, std_unflag, std_clr, std_left, std_copy, ints_cons, ints_nil, ofNat_lit, negSucc_lit, decide_eq_true_eq, Bool.and_eq_true, Bool.or_eq_true, Bool.not_eq_true', Bool.and_eq_false_iff, Bool.or_eq_false_iff, decide_eq_false_iff_not, aB199, aB300, aB301, aB302, Q.aB130, T.aL222, T.aL223, std_row]
  repeat' apply And.intro
  all_goals intro ρ hR
  all_goals intros
  all_goals first
    | (have e : ρ.i 0 = 3 := by with_reducible assumption
       rw [e]
       exact ⟨rfl, rfl, rfl⟩)
set_option maxRecDepth 100000 in
theorem nw4_obs : loopObs Φ Try.prog b1 1000 nw4.f (loopAt Try.prog nw4.f nw4.id) nw4.n nw4.T kN nw4.outs = some
  [{ pc := [SB.lt (SI.v 1) (SI.v 0), SB.eq (SI.v 0) (SI.c (Int.ofNat 4)), SB.le (SI.c (Int.ofNat 0)) (SI.v 1), SB.le (SI.v 1) (SI.v 0), SB.eq (SI.len (SL.v 4)) (SI.v 1), SB.c true, SB.eqL (SL.v 4) (SL.app 5 (SA.i (SI.v 1) (SA.i (SI.c (Int.negSucc 0)) SA.nil)))], eqs := [Eqn.T (SB.lt (SI.sub (SI.v 0) (SI.add (SI.v 1) (SI.c (Int.ofNat 1)))) (SI.sub (SI.v 0) (SI.v 1))), Eqn.T (SB.eqL (SL.app 0 (SA.l (SL.v 4) (SA.l (SL.lit [[Int.negSucc 0]]) SA.nil))) (SL.app 5 (SA.i (SI.add (SI.v 1) (SI.c (Int.ofNat 1))) (SA.i (SI.c (Int.negSucc 0)) SA.nil))))] }, { pc := [SB.not (SB.lt (SI.v 1) (SI.v 0)), SB.eq (SI.v 0) (SI.c (Int.ofNat 4)), SB.le (SI.c (Int.ofNat 0)) (SI.v 1), SB.le (SI.v 1) (SI.v 0), SB.eq (SI.len (SL.v 4)) (SI.v 1), SB.c true, SB.eqL (SL.v 4) (SL.app 5 (SA.i (SI.v 1) (SA.i (SI.c (Int.negSucc 0)) SA.nil)))], eqs := [Eqn.I (SI.c (Int.ofNat 4)) (SI.len (SL.v 4)), Eqn.L (SL.lit [[Int.negSucc 0], [Int.negSucc 0], [Int.negSucc 0], [Int.negSucc 0]]) (SL.v 4)] }] := by kernel_rfl
theorem nw4_ok : nw4.ok Φ Try.prog := by
  refine ⟨by kernel_rfl, loop_rule (fun ρ => b1_ok ρ) (loopAt_sub (by kernel_rfl)) nw4_obs ?_⟩
  simp only [and_imp, List.forall_mem_cons, List.not_mem_nil, false_implies, implies_true, and_true, Ob.ok, holds, Eqn.ok, evB_eq, evB_lt, evB_le, evB_not, evB_and, evB_or, evB_eqL, evB_app, evB_v, evB_c, ev_sel, ev_len, ev_v, ev_c, ev_add, ev_sub, ev_mul, ev_quo, ev_rem, ev_bits, ev_wrap, evL_v, evL_lit, evL_app, ev_app, evA_l, evA_i, evA_nil, std_min, std_max, std_cat, std_take, std_drop, std_row, std_set, std_rep, std_find, std_put, std_del, std_flag, std_unflag, std_clr, std_left, std_copy, ints_cons, ints_nil, ofNat_lit, negSucc_lit, decide_eq_true_eq, Bool.and_eq_true, Bool.or_eq_true, Bool.not_eq_true', Bool.and_eq_false_iff, Bool.or_eq_false_iff, decide_eq_false_iff_not, aB199, aB300, aB301, aB302, Q.aB130, T.aL222, T.aL223, std_row]
  repeat' apply And.intro
  all_goals intro ρ hR
  all_goals intros
  all_goals try simp only [show (-(0 + 1) : Int) = -1 from rfl] at *
  all_goals have h : ρ.l 4 = List.replicate (ρ.i 1).toNat [-1] := by with_reducible assumption
  all_goals repeat' apply And.intro
  all_goals first
    | omega
    | (rw [h, show (ρ.i 1 + 1).toNat = (ρ.i 1).toNat + 1 by omega]; exact List.replicate_succ'.symm)
    | (have e : (ρ.i 1).toNat = 4 := by omega
       rw [h, e]; rfl)
set_option maxRecDepth 100000 in
theorem cQN4_obs : callObs Φ Try.prog noTbl 1000 cQN4.f cQN4.vs cQN4.o cQN4.pc cQN4.outs = some
  [{ pc := [SB.eq (SI.v 0) (SI.c (Int.ofNat 4))], eqs := [Eqn.T (SB.app 130 (SA.l (SL.lit [[], [], [], []]) (SA.l (SL.lit []) (SA.i (SI.c (Int.ofNat 64)) SA.nil)))), Eqn.I (SI.c (Int.ofNat 4)) (SI.len (SL.app 5 (SA.i (SI.v 0) SA.nil))), Eqn.L (SL.lit [[], [], [], []]) (SL.app 5 (SA.i (SI.v 0) SA.nil))] }] := by kernel_rfl
theorem cQN4_ok : cQN4.ok Φ Try.prog := by
  refine call_rule (fun ρ => noTbl_ok) cQN4_obs ?_
  simp only [and_imp, List.forall_mem_cons, List.not_mem_nil, false_implies, implies_true, and_true, Ob.ok, holds, Eqn.ok, evB_eq, evB_lt, evB_le, evB_not, evB_and, evB_or, evB_eqL, evB_app, evB_v, evB_c, ev_sel, ev_len, ev_v, ev_c, ev_add, ev_sub, ev_mul, ev_quo, ev_rem, ev_bits, ev_wrap, evL_v, evL_lit, evL_app, ev_app, evA_l, evA_i, evA_nil, std_min, std_max, std_cat, std_take, std_drop, std_row, std_set, std_rep, std_find, std_put, std_del, std_flag, std_unflag, std_clr, std_left, std_copy, ints_cons, ints_nil, ofNat_lit, negSucc_lit, decide_eq_true_eq, Bool.and_eq_true, Bool.or_eq_true, Bool.not_eq_true', Bool.and_eq_false_iff, Bool.or_eq_false_iff, decide_eq_false_iff_not, aB199, aB300, aB301, aB302, Q.aB130, T.aL222, T.aL223, std_row]
  repeat' apply And.intro
  all_goals intro ρ hR
  all_goals intros
  all_goals first
    | (have e : ρ.i 0 = 4 := by with_reducible assumption
       rw [e]
       exact ⟨rfl, rfl, rfl⟩)
set_option maxRecDepth 100000 in
theorem nw5_obs : loopObs Φ Try.prog b1 1000 nw5.f (loopAt Try.prog nw5.f nw5.id) nw5.n nw5.T kN nw5.outs = some
  [{ pc := [SB.lt (SI.v 1) (SI.v 0), SB.eq (SI.v 0) (SI.c (Int.ofNat 5)), SB.le (SI.c (Int.ofNat 0)) (SI.v 1), SB.le (SI.v 1) (SI.v 0), SB.eq (SI.len (SL.v 4)) (SI.v 1), SB.c true, SB.eqL (SL.v 4) (SL.app 5 (SA.i (SI.v 1) (SA.i (SI.c (Int.negSucc 0)) SA.nil)))], eqs := [Eqn.T (SB.lt (SI.sub (SI.v 0) (SI.add (SI.v 1) (SI.c (Int.ofNat 1)))) (SI.sub (SI.v 0) (SI.v 1))), Eqn.T (SB.eqL (SL.app 0 (SA.l (SL.v 4) (SA.l (SL.lit [[Int.negSucc 0]]) SA.nil))) (SL.app 5 (SA.i (SI.add (SI.v 1) (SI.c (Int.ofNat 1))) (SA.i (SI.c (Int.negSucc 0)) SA.nil))))] }, { pc := [SB.not (SB.lt (SI.v 1) (SI.v 0)), SB.eq (SI.v 0) (SI.c (Int.ofNat 5)), SB.le (SI.c (Int.ofNat 0)) (SI.v 1), SB.le (SI.v 1) (SI.v 0), SB.eq (SI.len (SL.v 4)) (SI.v 1), SB.c true, SB.eqL (SL.v 4) (SL.app 5 (SA.i (SI.v 1) (SA.i (SI.c (Int.negSucc 0)) SA.nil)))], eqs := [Eqn.I (SI.c (Int.ofNat 5)) (SI.len (SL.v 4)), Eqn.L (SL.lit [[Int.negSucc 0], [Int.negSucc 0], [Int.negSucc 0], [Int.negSucc 0], [Int.negSucc 0]]) (SL.v 4)] }] := by kernel_rfl
theorem nw5_ok : nw5.ok Φ Try.prog := by
  refine ⟨by kernel_rfl, loop_rule (fun ρ => b1_ok ρ) (loopAt_sub (by kernel_rfl)) nw5_obs ?_⟩
  simp only [and_imp, List.forall_mem_cons, List.not_mem_nil, false_implies, implies_true, and_true, Ob.ok, holds, Eqn.ok, evB_eq, evB_lt, evB_le, evB_not, evB_and, evB_or, evB_eqL, evB_app, evB_v, evB_c, ev_sel, ev_len, ev_v, ev_c, ev_add, ev_sub, ev_mul, ev_quo, ev_rem, ev_bits, ev_wrap, evL_v, evL_lit, evL_app, ev_app, evA_l, evA_i, evA_nil, std_min, std_max, std_cat, std_take, std_drop, std_row, std_set, std_rep, std_find, std_put, std_del, std_flag, std_unflag, std_clr, std_left, std_copy, ints_cons, ints_nil, ofNat_lit, negSucc_lit, decide_eq_true_eq, Bool.and_eq_true, Bool.or_eq_true, Bool.not_eq_true', Bool.and_eq_false_iff, Bool.or_eq_false_iff, decide_eq_false_iff_not, aB199, aB300, aB301, aB302, Q.aB130, T.aL222, T.aL223, std_row]
  repeat' apply And.intro
  all_goals intro ρ hR
  all_goals intros
  all_goals try simp only [show (-(0 + 1) : Int) = -1 from rfl] at *
  all_goals have h : ρ.l 4 = List.replicate (ρ.i 1).toNat [-1] := by with_reducible assumption
  all_goals repeat' apply And.intro
  all_goals first
    | omega
    | (rw [h, show (ρ.i 1 + 1).toNat = (ρ.i 1).toNat + 1 by omega]; exact List.replicate_succ'.symm)
    | (have e : (ρ.i 1).toNat = 5 := by omega
       rw [h, e]; rfl)
set_option maxRecDepth 100000 in
theorem cQN5_obs : callObs Φ Try.prog noTbl 1000 cQN5.f cQN5.vs cQN5.o cQN5.pc cQN5.outs = some
  [{ pc := [SB.eq (SI.v 0) (SI.c (Int.ofNat 5))], eqs := [Eqn.T (SB.app 130 (SA.l (SL.lit [[], [], [], [], []]) (SA.l (SL.lit []) (SA.i (SI.c (Int.ofNat 64)) SA.nil)))), Eqn.I (SI.c (Int.ofNat 5)) (SI.len (SL.app 5 (SA.i (SI.v 0) SA.nil))), Eqn.L (SL.lit [[], [], [], [], []]) (SL.app 5 (SA.i (SI.v 0) SA.nil))] }] := by kernel_rfl
theorem cQN5_ok : cQN5.ok Φ Try.prog := by
  refine call_rule (fun ρ => noTbl_ok) cQN5_obs ?_
  simp only [and_imp, List.forall_mem_cons, List.not_mem_nil, false_implies, implies_true, and_true, Ob.ok, holds, Eqn.ok, evB_eq, evB_lt, evB_le, evB_not, evB_and, evB_or, evB_eqL, evB_app, evB_v, evB_c, ev_sel, ev_len, ev_v, ev_c, ev_add, ev_sub, ev_mul, ev_quo, ev_rem, ev_bits, ev_wrap, evL_v, evL_lit, evL_app, ev_app, evA_l, evA_i, evA_nil, std_min, std_max, std_cat, std_take, std_drop, std_row, std_set, std_rep, std_find, std_put, std_del, std_flag, std_unflag, std_clr, std_left, std_copy, ints_cons, ints_nil, ofNat_lit, negSucc_lit, decide_eq_true_eq, Bool.and_eq_true, Bool.or_eq_true, Bool.not_eq_true', Bool.and_eq_false_iff, Bool.or_eq_false_iff, decide_eq_false_iff_not, aB199, aB300, aB301, aB302, Q.aB130, T.aL222, T.aL223, std_row]
  repeat' apply And.intro
  all_goals intro ρ hR
  all_goals intros
  all_goals first
    | (have e : ρ.i 0 = 5 := by with_reducible assumption
       rw [e]
       exact ⟨rfl, rfl, rfl⟩)
set_option maxRecDepth 100000 in
theorem nw6_obs : loopObs Φ Try.prog b1 1000 nw6.f (loopAt Try.prog nw6.f nw6.id) nw6.n nw6.T kN nw6.outs = some
  [{ pc := [SB.lt (SI.v 1) (SI.v 0), SB.eq (SI.v 0) (SI.c (Int.ofNat 6)), SB.le (SI.c (Int.ofNat 0)) (SI.v 1), SB.le (SI.v 1) (SI.v 0), SB.eq (SI.len (SL.v 4)) (SI.v 1), SB.c true, SB.eqL (SL.v 4) (SL.app 5 (SA.i (SI.v 1) (SA.i (SI.c (Int.negSucc 0)) SA.nil)))], eqs := [Eqn.T (SB.lt (SI.sub (SI.v 0) (SI.add (SI.v 1) (SI.c (Int.ofNat 1)))) (SI.sub (SI.v 0) (SI.v 1))), Eqn.T (SB.eqL (SL.app 0 (SA.l (SL.v 4) (SA.l (SL.lit [[Int.negSucc 0]]) SA.nil))) (SL.app 5 (SA.i (SI.add (SI.v 1) (SI.c (Int.ofNat 1))) (SA.i (SI.c (Int.negSucc 0)) SA.nil))))] }, { pc := [SB.not (SB.lt (SI.v 1) (SI.v 0)), SB.eq (SI.v 0) (SI.c (Int.ofNat 6)), SB.le (SI.c (Int.ofNat 0)) (SI.v 1), SB.le (SI.v 1) (SI.v 0), SB.eq (SI.len (SL.v 4)) (SI.v 1), SB.c true, SB.eqL (SL.v 4) (SL.app 5 (SA.i (SI.v 1) (SA.i (SI.c (Int.negSucc 0)) SA.nil)))], eqs := [Eqn.I (SI.c (Int.ofNat 6)) (SI.len (SL.v 4)), Eqn.L (SL.lit [[Int.negSucc 0], [Int.negSucc 0], [Int.negSucc 0], [Int.negSucc 0], [Int.negSucc 0], [Int.negSucc 0]]) (SL.v 4)] }] := by kernel_rfl
theorem nw6_ok : nw6.ok Φ Try.prog := by
  refine ⟨by kernel_rfl, loop_rule (fun ρ => b1_ok ρ) (loopAt_sub (by kernel_rfl)) nw6_obs ?_⟩
  simp only [and_imp, List.forall_mem_cons, List.not_mem_nil, false_implies, implies_true, and_true, Ob.ok, holds, Eqn.ok, evB_eq, evB_lt, evB_le, evB_not, evB_and, evB_or, evB_eqL, evB_app, evB_v, evB_c, ev_sel, ev_len, ev_v, ev_c, ev_add, ev_sub, ev_mul, ev_quo, ev_rem, ev_bits, ev_wrap, evL_v, evL_lit, evL_app, ev_app, evA_l, evA_i, evA_nil, std_min, std_max, std_cat, std_take, std_drop, std_row, std_set, std_rep, std_find, std_put, std_del, std_flag, std_unflag, std_clr, std_left, std_copy, ints_cons, ints_nil, ofNat_lit, negSucc_lit, decide_eq_true_eq, Bool.and_eq_true, Bool.or_eq_true, Bool.not_eq_true', Bool.and_eq_false_iff, Bool.or_eq_false_iff, decide_eq_false_iff_not, aB199, aB300, aB301, aB302, Q.aB130, T.aL222, T.aL223, std_row]
  repeat' apply And.intro
  all_goals intro ρ hR
  all_goals intros
  all_goals try simp only [show (-(0 + 1) : Int) = -1 from rfl] at *
  all_goals have h : ρ.l 4 = List.replicate (ρ.i 1).toNat [-1] := by with_reducible assumption
  all_goals repeat' apply And.intro
  all_goals first
    | omega
    | (rw [h, show (ρ.i 1 + 1).toNat = (ρ.i 1).toNat + 1 by omega]; exact List.replicate_succ'.symm)
    | (have e : (ρ.i 1).toNat = 6 := by omega
       rw [h, e]; rfl)
set_option maxRecDepth 100000 in
theorem cQN6_obs : callObs Φ Try.prog noTbl 1000 cQN6.f cQN6.vs cQN6.o cQN6.pc cQN6.outs = some
  [{ pc := [SB.eq (SI.v 0) (SI.c (Int.ofNat 6))], eqs := [Eqn.T (SB.app 130 (SA.l (SL.lit [[], [], [], [], [], []]) (SA.l (SL.lit []) (SA.i (SI.c (Int.ofNat 64)) SA.nil)))), Eqn.I (SI.c (Int.ofNat 6)) (SI.len (SL.app 5 (SA.i (SI.v 0) SA.nil))), Eqn.L (SL.lit [[], [], [], [], [], []]) (SL.app 5 (SA.i (SI.v 0) SA.nil))] }] := by kernel_rfl
theorem cQN6_ok : cQN6.ok Φ Try.prog := by
  refine call_rule (fun ρ => noTbl_ok) cQN6_obs ?_
  simp only [and_imp, List.forall_mem_cons, List.not_mem_nil, false_implies, implies_true, and_true, Ob.ok, holds, Eqn.ok, evB_eq, evB_lt, evB_le, evB_not, evB_and, evB_or, evB_eqL, evB_app, evB_v, evB_c, ev_sel, ev_len, ev_v, ev_c, ev_add, ev_sub, ev_mul, ev_quo, ev_rem, ev_bits, ev_wrap, evL_v, evL_lit, evL_app, ev_app, evA_l, evA_i, evA_nil, std_min, std_max, std_cat, std_take, std_drop, std_row, std_set, std_rep, std_find, std_put, std_del, std_flag, std_unflag, std_clr, std_left, std_copy, ints_cons, ints_nil, ofNat_lit, negSucc_lit, decide_eq_true_eq, Bool.and_eq_true, Bool.or_eq_true, Bool.not_eq_true', Bool.and_eq_false_iff, Bool.or_eq_false_iff, decide_eq_false_iff_not, aB199, aB300, aB301, aB302, Q.aB130, T.aL222, T.aL223, std_row]
  repeat' apply And.intro
  all_goals intro ρ hR
  all_goals intros
  all_goals first
    | (have e : ρ.i 0 = 6 := by with_reducible assumption
       rw [e]
       exact ⟨rfl, rfl, rfl⟩)
set_option maxRecDepth 100000 in
theorem nw7_obs : loopObs Φ Try.prog b1 1000 nw7.f (loopAt Try.prog nw7.f nw7.id) nw7.n nw7.T kN nw7.outs = some
  [{ pc := [SB.lt (SI.v 1) (SI.v 0), SB.eq (SI.v 0) (SI.c (Int.ofNat 7)), SB.le (SI.c (Int.ofNat 0)) (SI.v 1), SB.le (SI.v 1) (SI.v 0), SB.eq (SI.len (SL.v 4)) (SI.v 1), SB.c true, SB.eqL (SL.v 4) (SL.app 5 (SA.i (SI.v 1) (SA.i (SI.c (Int.negSucc 0)) SA.nil)))], eqs := [Eqn.T (SB.lt (SI.sub (SI.v 0) (SI.add (SI.v 1) (SI.c (Int.ofNat 1)))) (SI.sub (SI.v 0) (SI.v 1))), Eqn.T (SB.eqL (SL.app 0 (SA.l (SL.v 4) (SA.l (SL.lit [[Int.negSucc 0]]) SA.nil))) (SL.app 5 (SA.i (SI.add (SI.v 1) (SI.c (Int.ofNat 1))) (SA.i (SI.c (Int.negSucc 0)) SA.nil))))] }, { pc := [SB.not (SB.lt (SI.v 1) (SI.v 0)), SB.eq (SI.v 0) (SI.c (Int.ofNat 7)), SB.le (SI.c (Int.ofNat 0)) (SI.v 1), SB.le (SI.v 1) (SI.v 0), SB.eq (SI.len (SL.v 4)) (SI.v 1), SB.c true, SB.eqL (SL.v 4) (SL.app 5 (SA.i (SI.v 1) (SA.i (SI.c (Int.negSucc 0)) SA.nil)))], eqs := [Eqn.I (SI.c (Int.ofNat 7)) (SI.len (SL.v 4)), Eqn.L (SL.lit [[Int.negSucc 0], [Int.negSucc 0], [Int.negSucc 0], [Int.negSucc 0], [Int.negSucc 0], [Int.negSucc 0], [Int.negSucc 0]]) (SL.v 4)] }] := by kernel_rfl
theorem nw7_ok : nw7.ok Φ Try.prog := by
  refine ⟨by kernel_rfl, loop_rule (fun ρ => b1_ok ρ) (loopAt_sub (by kernel_rfl)) nw7_obs ?_⟩
  simp only [and_imp, List.forall_mem_cons, List.not_mem_nil, false_implies, implies_true, and_true, Ob.ok, holds, Eqn.ok, evB_eq, evB_lt, evB_le, evB_not, evB_and, evB_or, evB_eqL, evB_app, evB_v, evB_c, ev_sel, ev_len, ev_v, ev_c, ev_add, ev_sub, ev_mul, ev_quo, ev_rem, ev_bits, ev_wrap, evL_v, evL_lit, evL_app, ev_app, evA_l, evA_i, evA_nil, std_min, std_max, std_cat, std_take, std_drop, std_row, std_set, std_rep, std_find, std_put, std_del, std_flag, std_unflag, std_clr, std_left, std_copy, ints_cons, ints_nil, ofNat_lit, negSucc_lit, decide_eq_true_eq, Bool.and_eq_true, Bool.or_eq_true, Bool.not_eq_true', Bool.and_eq_false_iff, Bool.or_eq_false_iff, decide_eq_false_iff_not, aB199, aB300, aB301, aB302, Q.aB130, T.aL222, T.aL223, std_row]
  repeat' apply And.intro
  all_goals intro ρ hR
  all_goals intros
  all_goals try simp only [show (-(0 + 1) : Int) = -1 from rfl] at *
  all_goals have h : ρ.l 4 = List.replicate (ρ.i 1).toNat [-1] := by with_reducible assumption
  all_goals repeat' apply And.intro
  all_goals first
    | omega
    | (rw [h, show (ρ.i 1 + 1).toNat = (ρ.i 1).toNat + 1 by omega]; exact List.replicate_succ'.symm)
    | (have e : (ρ.i 1).toNat = 7 := by omega
       rw [h, e]; rfl)
set_option maxRecDepth 100000 in
theorem cQN7_obs : callObs Φ Try.prog noTbl 1000 cQN7.f cQN7.vs cQN7.o cQN7.pc cQN7.outs = some
  [{ pc := [SB.eq (SI.v 0) (SI.c (Int.ofNat 7))], eqs := [Eqn.T (SB.app 130 (SA.l (SL.lit [[], [], [], [], [], [], []]) (SA.l (SL.lit []) (SA.i (SI.c (Int.ofNat 64)) SA.nil)))), Eqn.I (SI.c (Int.ofNat 7)) (SI.len (SL.app 5 (SA.i (SI.v 0) SA.nil))), Eqn.L (SL.lit [[], [], [], [], [], [], []]) (SL.app 5 (SA.i (SI.v 0) SA.nil))] }] := by kernel_rfl
theorem cQN7_ok : cQN7.ok Φ Try.prog := by
  refine call_rule (fun ρ => noTbl_ok) cQN7_obs ?_
  simp only [and_imp, List.forall_mem_cons, List.not_mem_nil, false_implies, implies_true, and_true, Ob.ok, holds, Eqn.ok, evB_eq, evB_lt, evB_le, evB_not, evB_and, evB_or, evB_eqL, evB_app, evB_v, evB_c, ev_sel, ev_len, ev_v, ev_c, ev_add, ev_sub, ev_mul, ev_quo, ev_rem, ev_bits, ev_wrap, evL_v, evL_lit, evL_app, ev_app, evA_l, evA_i, evA_nil, std_min, std_max, std_cat, std_take, std_drop, std_row, std_set, std_rep, std_find, std_put, std_del, std_flag, std_unflag, std_clr, std_left, std_copy, ints_cons, ints_nil, ofNat_lit, negSucc_lit, decide_eq_true_eq, Bool.and_eq_true, Bool.or_eq_true, Bool.not_eq_true', Bool.and_eq_false_iff, Bool.or_eq_false_iff, decide_eq_false_iff_not, aB199, aB300, aB301, aB302, Q.aB130, T.aL222, T.aL223, std_row]
  repeat' apply And.intro
  all_goals intro ρ hR
  all_goals intros
  all_goals first
    | (have e : ρ.i 0 = 7 := by with_reducible assumption
       rw [e]
       exact ⟨rfl, rfl, rfl⟩)
set_option maxRecDepth 100000 in
theorem nw8_obs : loopObs Φ Try.prog b1 1000 nw8.f (loopAt Try.prog nw8.f nw8.id) nw8.n nw8.T kN nw8.outs = some
  [{ pc := [SB.lt (SI.v 1) (SI.v 0), SB.eq (SI.v 0) (SI.c (Int.ofNat 8)), SB.le (SI.c (Int.ofNat 0)) (SI.v 1), SB.le (SI.v 1) (SI.v 0), SB.eq (SI.len (SL.v 4)) (SI.v 1), SB.c true, SB.eqL (SL.v 4) (SL.app 5 (SA.i (SI.v 1) (SA.i (SI.c (Int.negSucc 0)) SA.nil)))], eqs := [Eqn.T (SB.lt (SI.sub (SI.v 0) (SI.add (SI.v 1) (SI.c (Int.ofNat 1)))) (SI.sub (SI.v 0) (SI.v 1))), Eqn.T (SB.eqL (SL.app 0 (SA.l (SL.v 4) (SA.l (SL.lit [[Int.negSucc 0]]) SA.nil))) (SL.app 5 (SA.i (SI.add (SI.v 1) (SI.c (Int.ofNat 1))) (SA.i (SI.c (Int.negSucc 0)) SA.nil))))] }, { pc := [SB.not (SB.lt (SI.v 1) (SI.v 0)), SB.eq (SI.v 0) (SI.c (Int.ofNat 8)), SB.le (SI.c (Int.ofNat 0)) (SI.v 1), SB.le (SI.v 1) (SI.v 0), SB.eq (SI.len (SL.v 4)) (SI.v 1), SB.c true, SB.eqL (SL.v 4) (SL.app 5 (SA.i (SI.v 1) (SA.i (SI.c (Int.negSucc 0)) SA.nil)))], eqs := [Eqn.I (SI.c (Int.ofNat 8)) (SI.len (SL.v 4)), Eqn.L (SL.lit [[Int.negSucc 0], [Int.negSucc 0], [Int.negSucc 0], [Int.negSucc 0], [Int.negSucc 0], [Int.negSucc 0], [Int.negSucc 0], [Int.negSucc 0]]) (SL.v 4)] }] := by kernel_rfl
theorem nw8_ok : nw8.ok Φ Try.prog := by
  refine ⟨by kernel_rfl, loop_rule (fun ρ => b1_ok ρ) (loopAt_sub (by kernel_rfl)) nw8_obs ?_⟩
  simp only [and_imp, List.forall_mem_cons, List.not_mem_nil, false_implies, implies_true, and_true, Ob.ok, holds, Eqn.ok, evB_eq, evB_lt, evB_le, evB_not, evB_and, evB_or, evB_eqL, evB_app, evB_v, evB_c, ev_sel, ev_len, ev_v, ev_c, ev_add, ev_sub, ev_mul, ev_quo, ev_rem, ev_bits, ev_wrap, evL_v, evL_lit, evL_app, ev_app, evA_l, evA_i, evA_nil, std_min, std_max, std_cat, std_take, std_drop, std_row, std_set, std_rep, std_find, std_put, std_del, std_flag, std_unflag, std_clr, std_left, std_copy, ints_cons, ints_nil, ofNat_lit, negSucc_lit, decide_eq_true_eq, Bool.and_eq_true, Bool.or_eq_true, Bool.not_eq_true', Bool.and_eq_false_iff, Bool.or_eq_false_iff, decide_eq_false_iff_not, aB199, aB300, aB301, aB302, Q.aB130, T.aL222, T.aL223, std_row]
  repeat' apply And.intro
  all_goals intro ρ hR
  all_goals intros
  all_goals try simp only [show (-(0 + 1) : Int) = -1 from rfl] at *
  all_goals have h : ρ.l 4 = List.replicate (ρ.i 1).toNat [-1] := by with_reducible assumption
  all_goals repeat' apply And.intro
  all_goals first
    | omega
    | (rw [h, show (ρ.i 1 + 1).toNat = (ρ.i 1).toNat + 1 by omega]; exact List.replicate_succ'.symm)
    | (have e : (ρ.i 1).toNat = 8 := by omega
       rw [h, e]; rfl)
set_option maxRecDepth 100000 in
theorem cQN8_obs : callObs Φ Try.prog noTbl 1000 cQN8.f cQN8.vs cQN8.o cQN8.pc cQN8.outs = some
  [{ pc := [SB.eq (SI.v 0) (SI.c (Int.ofNat 8))], eqs := [Eqn.T (SB.app 130 (SA.l (SL.lit [[], [], [], [], [], [], [], []]) (SA.l (SL.lit []) (SA.i (SI.c (Int.ofNat 64)) SA.nil)))), Eqn.I (SI.c (Int.ofNat 8)) (SI.len (SL.app 5 (SA.i (SI.v 0) SA.nil))), Eqn.L (SL.lit [[], [], [], [], [], [], [], []]) (SL.app 5 (SA.i (SI.v 0) SA.nil))] }] := by kernel_rfl
theorem cQN8_ok : cQN8.ok Φ Try.prog := by
  refine call_rule (fun ρ => noTbl_ok) cQN8_obs ?_
  simp only [and_imp, List.forall_mem_cons, List.not_mem_nil, false_implies, implies_true, and_true, Ob.ok, holds, Eqn.ok, evB_eq, evB_lt, evB_le, evB_not, evB_and, evB_or, evB_eqL, evB_app, evB_v, evB_c, ev_sel, ev_len, ev_v, ev_c, ev_add, ev_sub, ev_mul, ev_quo, ev_rem, ev_bits, ev_wrap, evL_v, evL_lit, evL_app, ev_app, evA_l, evA_i, evA_nil, std_min, std_max, std_cat, std_take, std_drop, std_row, std_set, std_rep, std_find, std_put, std_del, std_flag, std_unflag, std_clr, std_left, std_copy, ints_cons, ints_nil, ofNat_lit, negSucc_lit, decide_eq_true_eq, Bool.and_eq_true, Bool.or_eq_true, Bool.not_eq_true', Bool.and_eq_false_iff, Bool.or_eq_false_iff, decide_eq_false_iff_not, aB199, aB300, aB301, aB302, Q.aB130, T.aL222, T.aL223, std_row]
  repeat' apply And.intro
  all_goals intro ρ hR
  all_goals intros
  all_goals first
    | (have e : ρ.i 0 = 8 := by with_reducible assumption
       rw [e]
       exact ⟨rfl, rfl, rfl⟩)
theorem nwK_all : ∀ j, j < 8 → (nwK (j + 1)).ok Φ Try.prog := by
  intro j hj
  match j, hj with
  | 0, _ => exact nw1_ok
  | 1, _ => exact nw2_ok
  | 2, _ => exact nw3_ok
  | 3, _ => exact nw4_ok
  | 4, _ => exact nw5_ok
  | 5, _ => exact nw6_ok
  | 6, _ => exact nw7_ok
  | 7, _ => exact nw8_ok
theorem cQN_all : ∀ j, j < 8 → (cQN (j + 1)).ok Φ Try.prog := by
  intro j hj
  match j, hj with
  | 0, _ => exact cQN1_ok
  | 1, _ => exact cQN2_ok
  | 2, _ => exact cQN3_ok
  | 3, _ => exact cQN4_ok
  | 4, _ => exact cQN5_ok
  | 5, _ => exact cQN6_ok
  | 6, _ => exact cQN7_ok
  | 7, _ => exact cQN8_ok
theorem nwA_ok {ρ : Env} {t : Tbl} (h : TblOK Φ ρ Try.prog t) : ∀ k, k ≤ 8 → TblOK Φ ρ Try.prog (nwA k t)
  | 0, _ => h
  | k + 1, hk => addLp_ok (nwA_ok h k (by omega)) (nwK_all k (by omega))
theorem qnA_ok {ρ : Env} {t : Tbl} (h : TblOK Φ ρ Try.prog t) : ∀ k, k ≤ 8 → TblOK Φ ρ Try.prog (qnA k t)
  | 0, _ => h
  | k + 1, hk => addFn_ok (qnA_ok h k (by omega)) (cQN_all k (by omega))
theorem w3_ok (ρ : Env) : TblOK Φ ρ Try.prog w3 := qnA_ok (nwA_ok (addFn_ok (addFn_ok (addFn_ok (addFn_ok (b1_ok ρ) cKnown_ok) cArmW_ok) cTickE_ok) cTickD_ok) 8 (by decide)) 8 (by decide)
end Go.SF.C21
