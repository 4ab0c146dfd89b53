/- Proofs of some, Waiting, Free. -/
import Derived.Test.YtfcakaakdeakpaaQ4
import Derived.Test.YtfcakaakdeakpaaQ2
import Derived.KernelRfl
namespace Go.SF.C10
open Go Go.SF Go.Proofs
set_option linter.unusedVariables false
set_option linter.unusedSimpArgs false

theorem t2_ok (ρ : Env) : TblOK Φ ρ Try.prog t2 := addLp_ok (addLp_ok (t1_ok ρ) out0_ok) out1_ok
set_option maxRecDepth 100000 in
theorem cSome0_obs : callObs Φ Try.prog t2 1000 cSome0.f cSome0.vs cSome0.o cSome0.pc cSome0.outs = some
  [{
      pc :=
        [SB.le (SI.len (SL.app 110 (SA.l (SL.app 9 (SA.l (SL.v 0) SA.nil)) SA.nil)))
            (SI.len (SL.app 9 (SA.l (SL.v 0) SA.nil))),
          SB.lt (SI.len (SL.app 9 (SA.l (SL.v 0) SA.nil))) (SI.c (Int.ofNat 90000)),
          SB.eqL (SL.lit []) (SL.app 112 (SA.l (SL.app 9 (SA.l (SL.v 0) SA.nil)) SA.nil)),
          SB.lt (SI.len (SL.v 0)) (SI.c (Int.ofNat 90000))],
      eqs :=
        [Eqn.T (SB.le (SI.len (SL.app 110 (SA.l (SL.v 0) SA.nil))) (SI.len (SL.v 0))),
          Eqn.I (SI.len (SL.app 110 (SA.l (SL.v 0) SA.nil)))
            (SI.len (SL.app 110 (SA.l (SL.app 9 (SA.l (SL.v 0) SA.nil)) SA.nil))),
          Eqn.L (SL.v 0) (SL.app 10 (SA.l (SL.app 114 (SA.l (SL.app 9 (SA.l (SL.v 0) SA.nil)) SA.nil)) SA.nil)),
          Eqn.L (SL.app 110 (SA.l (SL.v 0) SA.nil)) (SL.app 110 (SA.l (SL.app 9 (SA.l (SL.v 0) SA.nil)) SA.nil))] },
    {
      pc :=
        [SB.not (SB.lt (SI.len (SL.app 9 (SA.l (SL.v 0) SA.nil))) (SI.c (Int.ofNat 90000))),
          SB.lt (SI.len (SL.v 0)) (SI.c (Int.ofNat 90000))],
      eqs := [Eqn.T (SB.c false)] },
    {
      pc :=
        [SB.not (SB.eqL (SL.lit []) (SL.app 112 (SA.l (SL.app 9 (SA.l (SL.v 0) SA.nil)) SA.nil))),
          SB.lt (SI.len (SL.v 0)) (SI.c (Int.ofNat 90000))],
      eqs := [Eqn.T (SB.c false)] }] := by kernel_rfl
theorem cSome0_ok : cSome0.ok Φ Try.prog := by
  refine call_rule (fun ρ => t2_ok ρ) cSome0_obs ?_
  simp only [and_imp, List.forall_mem_cons, List.not_mem_nil, false_implies, implies_true, and_true, Ob.ok, holds, Eqn.ok, evB_eq, evB_lt, evB_le, evB_not, evB_and, evB_or, evB_eqL, evB_app, evB_v, evB_c, ev_sel, ev_len, ev_v, ev_c, ev_add, ev_sub, ev_mul, ev_quo, ev_rem, ev_bits, ev_wrap, evL_v, evL_lit, evL_app, ev_app, evA_l, evA_i, evA_nil, std_min, std_max, std_cat, std_take, std_drop, std_row, std_set, std_rep, std_find, std_put, std_del, std_flag, std_unflag, std_clr, std_left, std_copy, ints_cons, ints_nil, ofNat_lit, negSucc_lit, decide_eq_true_eq, Bool.and_eq_true, Bool.or_eq_true, Bool.not_eq_true', Bool.and_eq_false_iff, Bool.or_eq_false_iff, decide_eq_false_iff_not, aI100, aL100, aL110, aL111, aL112, aL113, aL114, aL120, aL121, aL131, aB130, aB199, aI140, aI141, aI142, aI143, aL115, aL140, aL141, aL142, aB150, aB151, aB152, aB153, aB154, aB155]
  repeat' apply And.intro
  all_goals intro ρ hR
  all_goals intros
  all_goals first
    | (have e := flag_key (A := ρ.l 0) (p := allP) (hR.row 0 rfl rfl) (fun _ _ => rfl)
       have hn := keyT_len (allP) (ρ.l 0)
       refine ⟨by omega, by rw [e], (unflag_clr_flag _).symm, e.symm⟩)
    | (have h := flagT_len (ρ.l 0)
       omega)
    | (exfalso
       have h := seenT_flag (allP) (ρ.l 0)
       exact ‹¬ [] = _› h.symm)
set_option maxRecDepth 100000 in
theorem cSome1_obs : callObs Φ Try.prog t2 1000 cSome1.f cSome1.vs cSome1.o cSome1.pc cSome1.outs = some
  [{
      pc :=
        [SB.le (SI.len (SL.app 111 (SA.l (SL.app 9 (SA.l (SL.v 0) SA.nil)) (SA.i (SI.v 9) SA.nil))))
            (SI.len (SL.app 9 (SA.l (SL.v 0) SA.nil))),
          SB.lt (SI.len (SL.app 9 (SA.l (SL.v 0) SA.nil))) (SI.c (Int.ofNat 90000)),
          SB.eqL (SL.lit []) (SL.app 113 (SA.l (SL.app 9 (SA.l (SL.v 0) SA.nil)) (SA.i (SI.v 9) SA.nil))),
          SB.lt (SI.len (SL.v 0)) (SI.c (Int.ofNat 90000))],
      eqs :=
        [Eqn.T (SB.le (SI.len (SL.app 111 (SA.l (SL.v 0) (SA.i (SI.v 9) SA.nil)))) (SI.len (SL.v 0))),
          Eqn.I (SI.len (SL.app 111 (SA.l (SL.v 0) (SA.i (SI.v 9) SA.nil))))
            (SI.len (SL.app 111 (SA.l (SL.app 9 (SA.l (SL.v 0) SA.nil)) (SA.i (SI.v 9) SA.nil)))),
          Eqn.L (SL.v 0) (SL.app 10 (SA.l (SL.app 114 (SA.l (SL.app 9 (SA.l (SL.v 0) SA.nil)) SA.nil)) SA.nil)),
          Eqn.L (SL.app 111 (SA.l (SL.v 0) (SA.i (SI.v 9) SA.nil)))
            (SL.app 111 (SA.l (SL.app 9 (SA.l (SL.v 0) SA.nil)) (SA.i (SI.v 9) SA.nil)))] },
    {
      pc :=
        [SB.not (SB.lt (SI.len (SL.app 9 (SA.l (SL.v 0) SA.nil))) (SI.c (Int.ofNat 90000))),
          SB.lt (SI.len (SL.v 0)) (SI.c (Int.ofNat 90000))],
      eqs := [Eqn.T (SB.c false)] },
    {
      pc :=
        [SB.not (SB.eqL (SL.lit []) (SL.app 113 (SA.l (SL.app 9 (SA.l (SL.v 0) SA.nil)) (SA.i (SI.v 9) SA.nil)))),
          SB.lt (SI.len (SL.v 0)) (SI.c (Int.ofNat 90000))],
      eqs := [Eqn.T (SB.c false)] }] := by kernel_rfl
theorem cSome1_ok : cSome1.ok Φ Try.prog := by
  refine call_rule (fun ρ => t2_ok ρ) cSome1_obs ?_
  simp only [and_imp, List.forall_mem_cons, List.not_mem_nil, false_implies, implies_true, and_true, Ob.ok, holds, Eqn.ok, evB_eq, evB_lt, evB_le, evB_not, evB_and, evB_or, evB_eqL, evB_app, evB_v, evB_c, ev_sel, ev_len, ev_v, ev_c, ev_add, ev_sub, ev_mul, ev_quo, ev_rem, ev_bits, ev_wrap, evL_v, evL_lit, evL_app, ev_app, evA_l, evA_i, evA_nil, std_min, std_max, std_cat, std_take, std_drop, std_row, std_set, std_rep, std_find, std_put, std_del, std_flag, std_unflag, std_clr, std_left, std_copy, ints_cons, ints_nil, ofNat_lit, negSucc_lit, decide_eq_true_eq, Bool.and_eq_true, Bool.or_eq_true, Bool.not_eq_true', Bool.and_eq_false_iff, Bool.or_eq_false_iff, decide_eq_false_iff_not, aI100, aL100, aL110, aL111, aL112, aL113, aL114, aL120, aL121, aL131, aB130, aB199, aI140, aI141, aI142, aI143, aL115, aL140, aL141, aL142, aB150, aB151, aB152, aB153, aB154, aB155]
  repeat' apply And.intro
  all_goals intro ρ hR
  all_goals intros
  all_goals first
    | (have e := flag_key (A := ρ.l 0) (p := oldP (ρ.i 9)) (hR.row 0 rfl rfl) (fun _ _ => rfl)
       have hn := keyT_len (oldP (ρ.i 9)) (ρ.l 0)
       refine ⟨by omega, by rw [e], (unflag_clr_flag _).symm, e.symm⟩)
    | (have h := flagT_len (ρ.l 0)
       omega)
    | (exfalso
       have h := seenT_flag (oldP (ρ.i 9)) (ρ.l 0)
       exact ‹¬ [] = _› h.symm)
theorem t3_ok (ρ : Env) : TblOK Φ ρ Try.prog t3 := addFn_ok (addFn_ok (t2_ok ρ) cSome0_ok) cSome1_ok
set_option maxRecDepth 100000 in
theorem cWaiting_obs : callObs Φ Try.prog t3 1000 cWaiting.f cWaiting.vs cWaiting.o cWaiting.pc cWaiting.outs = some
  [] := by kernel_rfl
theorem cWaiting_ok : cWaiting.ok Φ Try.prog := by
  refine call_rule (fun ρ => t3_ok ρ) cWaiting_obs ?_
  intro ob h; cases h
theorem t4_ok (ρ : Env) : TblOK Φ ρ Try.prog t4 := addLp_ok (addFn_ok (t3_ok ρ) cWaiting_ok) fr0_ok
set_option maxRecDepth 100000 in
theorem cFree_obs : callObs Φ Try.prog t4 1000 cFree.f cFree.vs cFree.o cFree.pc cFree.outs = some
  [{
      pc :=
        [SB.le (SI.len (SL.app 111 (SA.l (SL.v 0) (SA.i (SI.v 9) SA.nil)))) (SI.len (SL.v 0)),
          SB.lt (SI.len (SL.v 0)) (SI.c (Int.ofNat 90000))],
      eqs :=
        [Eqn.T (SB.le (SI.len (SL.app 121 (SA.l (SL.v 0) (SA.i (SI.v 9) SA.nil)))) (SI.len (SL.v 0))),
          Eqn.L (SL.app 121 (SA.l (SL.v 0) (SA.i (SI.v 9) SA.nil)))
            (SL.app 120
              (SA.l (SL.v 0)
                (SA.l (SL.app 111 (SA.l (SL.v 0) (SA.i (SI.v 9) SA.nil))) (SA.i (SI.c (Int.ofNat 0)) SA.nil))))] }] := by kernel_rfl
theorem cFree_ok : cFree.ok Φ Try.prog := by
  refine call_rule (fun ρ => t4_ok ρ) cFree_obs ?_
  simp only [and_imp, List.forall_mem_cons, List.not_mem_nil, false_implies, implies_true, and_true, Ob.ok, holds, Eqn.ok, evB_eq, evB_lt, evB_le, evB_not, evB_and, evB_or, evB_eqL, evB_app, evB_v, evB_c, ev_sel, ev_len, ev_v, ev_c, ev_add, ev_sub, ev_mul, ev_quo, ev_rem, ev_bits, ev_wrap, evL_v, evL_lit, evL_app, ev_app, evA_l, evA_i, evA_nil, std_min, std_max, std_cat, std_take, std_drop, std_row, std_set, std_rep, std_find, std_put, std_del, std_flag, std_unflag, std_clr, std_left, std_copy, ints_cons, ints_nil, ofNat_lit, negSucc_lit, decide_eq_true_eq, Bool.and_eq_true, Bool.or_eq_true, Bool.not_eq_true', Bool.and_eq_false_iff, Bool.or_eq_false_iff, decide_eq_false_iff_not, aI100, aL100, aL110, aL111, aL112, aL113, aL114, aL120, aL121, aL131, aB130, aB199, aI140, aI141, aI142, aI143, aL115, aL140, aL141, aL142, aB150, aB151, aB152, aB153, aB154, aB155]
  repeat' apply And.intro
  all_goals intro ρ hR
  all_goals intros
  all_goals first
    | (have hn := keepT_len (oldP (ρ.i 9)) (ρ.l 0)
       exact ⟨by omega, keep_del (hR.keys 2 rfl rfl)⟩)
end Go.SF.C10
