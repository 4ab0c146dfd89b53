/- Proofs of loops. -/
import Derived.Test.YtfcakaakdeakpaaC1
import Derived.KernelRfl
namespace Go.SF.C10
open Go Go.SF Go.Proofs
set_option linter.unusedVariables false
set_option linter.unusedSimpArgs false

set_option maxRecDepth 100000 in
theorem fr0_obs : loopObs Φ Try.prog noTbl 1000 fr0.f (loopAt Try.prog fr0.f fr0.id) fr0.n fr0.T i2 fr0.outs = some
  [{
      pc :=
        [SB.lt (SI.v 1) (SI.len (SL.v 1)), SB.le (SI.c (Int.ofNat 0)) (SI.v 1), SB.le (SI.v 1) (SI.len (SL.v 1)),
          SB.lt (SI.len (SL.v 1)) (SI.c (Int.ofNat 100000))],
      eqs :=
        [Eqn.T
            (SB.lt (SI.sub (SI.len (SL.v 1)) (SI.add (SI.v 1) (SI.c (Int.ofNat 1))))
              (SI.sub (SI.len (SL.v 1)) (SI.v 1))),
          Eqn.T (SB.lt (SI.c (Int.ofNat 0)) (SI.sub (SI.len (SL.v 1)) (SI.v 1)))] },
    {
      pc :=
        [SB.lt (SI.v 1) (SI.len (SL.v 1)), SB.le (SI.c (Int.ofNat 0)) (SI.v 1), SB.le (SI.v 1) (SI.len (SL.v 1)),
          SB.lt (SI.len (SL.v 1)) (SI.c (Int.ofNat 100000))],
      eqs :=
        [Eqn.L (SL.app 120 (SA.l (SL.v 0) (SA.l (SL.v 1) (SA.i (SI.v 1) SA.nil))))
            (SL.app 120
              (SA.l (SL.app 8 (SA.l (SL.v 0) (SA.i (SI.sel (SL.v 1) (SI.v 1) 0) SA.nil)))
                (SA.l (SL.v 1) (SA.i (SI.add (SI.v 1) (SI.c (Int.ofNat 1))) SA.nil))))] },
    {
      pc :=
        [SB.not (SB.lt (SI.v 1) (SI.len (SL.v 1))), SB.le (SI.c (Int.ofNat 0)) (SI.v 1),
          SB.le (SI.v 1) (SI.len (SL.v 1)), SB.lt (SI.len (SL.v 1)) (SI.c (Int.ofNat 100000))],
      eqs := [Eqn.L (SL.app 120 (SA.l (SL.v 0) (SA.l (SL.v 1) (SA.i (SI.v 1) SA.nil)))) (SL.v 0)] }] := by kernel_rfl
theorem fr0_ok : fr0.ok Φ Try.prog := by
  refine ⟨by kernel_rfl, loop_rule (fun ρ => noTbl_ok) (loopAt_sub (by kernel_rfl)) fr0_obs ?_⟩
  simp only [and_imp, List.forall_mem_cons, List.not_mem_nil, false_implies, implies_true, and_true, Ob.ok, holds, Eqn.ok, evB_eq, evB_lt, evB_le, evB_not, evB_and, evB_or, evB_eqL, evB_app, evB_v, evB_c, ev_sel, ev_len, ev_v, ev_c, ev_add, ev_sub, ev_mul, ev_quo, ev_rem, ev_bits, ev_wrap, evL_v, evL_lit, evL_app, ev_app, evA_l, evA_i, evA_nil, std_min, std_max, std_cat, std_take, std_drop, std_row, std_set, std_rep, std_find, std_put, std_del, std_flag, std_unflag, std_clr, std_left, std_copy, ints_cons, ints_nil, ofNat_lit, negSucc_lit, decide_eq_true_eq, Bool.and_eq_true, Bool.or_eq_true, Bool.not_eq_true', Bool.and_eq_false_iff, Bool.or_eq_false_iff, decide_eq_false_iff_not, aI100, aL100, aL110, aL111, aL112, aL113, aL114, aL120, aL121, aL131, aB130, aB199, aI140, aI141, aI142, aI143, aL115, aL140, aL141, aL142, aB150, aB151, aB152, aB153, aB154, aB155]
  repeat' apply And.intro
  all_goals intro ρ hR
  all_goals intros
  all_goals first
    | (omega)
    | (exact delAll_step (by omega) (by omega))
    | (exact delAll_end (by omega))
set_option maxRecDepth 100000 in
theorem ad0_obs : loopObs Φ Try.prog noTbl 1000 ad0.f (loopAt Try.prog ad0.f ad0.id) ad0.n ad0.T i3 ad0.outs = some
  [{
      pc :=
        [SB.eq (SI.sel (SL.v 9) (SI.v 1) 0) (SI.c (Int.negSucc 0)), SB.lt (SI.v 1) (SI.len (SL.v 9)),
          SB.le (SI.c (Int.ofNat 0)) (SI.v 1), SB.le (SI.v 1) (SI.len (SL.v 9)),
          SB.lt (SI.len (SL.v 9)) (SI.c (Int.ofNat 100000))],
      eqs :=
        [Eqn.T
            (SB.lt (SI.sub (SI.len (SL.v 9)) (SI.add (SI.v 1) (SI.c (Int.ofNat 1))))
              (SI.sub (SI.len (SL.v 9)) (SI.v 1))),
          Eqn.T (SB.lt (SI.c (Int.ofNat 0)) (SI.sub (SI.len (SL.v 9)) (SI.v 1)))] },
    {
      pc :=
        [SB.app 130 (SA.l (SL.v 9) (SA.i (SI.add (SI.v 1) (SI.c (Int.ofNat 1))) (SA.i (SI.v 9) SA.nil))),
          SB.eq (SI.sel (SL.v 9) (SI.v 1) 0) (SI.c (Int.negSucc 0)), SB.lt (SI.v 1) (SI.len (SL.v 9)),
          SB.le (SI.c (Int.ofNat 0)) (SI.v 1), SB.le (SI.v 1) (SI.len (SL.v 9)),
          SB.lt (SI.len (SL.v 9)) (SI.c (Int.ofNat 100000))],
      eqs := [Eqn.T (SB.app 130 (SA.l (SL.v 9) (SA.i (SI.v 1) (SA.i (SI.v 9) SA.nil))))] },
    {
      pc :=
        [SB.not (SB.app 130 (SA.l (SL.v 9) (SA.i (SI.add (SI.v 1) (SI.c (Int.ofNat 1))) (SA.i (SI.v 9) SA.nil)))),
          SB.eq (SI.sel (SL.v 9) (SI.v 1) 0) (SI.c (Int.negSucc 0)), SB.lt (SI.v 1) (SI.len (SL.v 9)),
          SB.le (SI.c (Int.ofNat 0)) (SI.v 1), SB.le (SI.v 1) (SI.len (SL.v 9)),
          SB.lt (SI.len (SL.v 9)) (SI.c (Int.ofNat 100000))],
      eqs := [Eqn.T (SB.not (SB.app 130 (SA.l (SL.v 9) (SA.i (SI.v 1) (SA.i (SI.v 9) SA.nil)))))] },
    {
      pc :=
        [SB.eq (SI.sel (SL.v 9) (SI.v 1) 0) (SI.v 9),
          SB.not (SB.eq (SI.sel (SL.v 9) (SI.v 1) 0) (SI.c (Int.negSucc 0))), SB.lt (SI.v 1) (SI.len (SL.v 9)),
          SB.le (SI.c (Int.ofNat 0)) (SI.v 1), SB.le (SI.v 1) (SI.len (SL.v 9)),
          SB.lt (SI.len (SL.v 9)) (SI.c (Int.ofNat 100000))],
      eqs :=
        [Eqn.T
            (SB.lt (SI.sub (SI.len (SL.v 9)) (SI.add (SI.v 1) (SI.c (Int.ofNat 1))))
              (SI.sub (SI.len (SL.v 9)) (SI.v 1))),
          Eqn.T (SB.lt (SI.c (Int.ofNat 0)) (SI.sub (SI.len (SL.v 9)) (SI.v 1)))] },
    {
      pc :=
        [SB.app 130 (SA.l (SL.v 9) (SA.i (SI.add (SI.v 1) (SI.c (Int.ofNat 1))) (SA.i (SI.v 9) SA.nil))),
          SB.eq (SI.sel (SL.v 9) (SI.v 1) 0) (SI.v 9),
          SB.not (SB.eq (SI.sel (SL.v 9) (SI.v 1) 0) (SI.c (Int.negSucc 0))), SB.lt (SI.v 1) (SI.len (SL.v 9)),
          SB.le (SI.c (Int.ofNat 0)) (SI.v 1), SB.le (SI.v 1) (SI.len (SL.v 9)),
          SB.lt (SI.len (SL.v 9)) (SI.c (Int.ofNat 100000))],
      eqs := [Eqn.T (SB.app 130 (SA.l (SL.v 9) (SA.i (SI.v 1) (SA.i (SI.v 9) SA.nil))))] },
    {
      pc :=
        [SB.not (SB.app 130 (SA.l (SL.v 9) (SA.i (SI.add (SI.v 1) (SI.c (Int.ofNat 1))) (SA.i (SI.v 9) SA.nil)))),
          SB.eq (SI.sel (SL.v 9) (SI.v 1) 0) (SI.v 9),
          SB.not (SB.eq (SI.sel (SL.v 9) (SI.v 1) 0) (SI.c (Int.negSucc 0))), SB.lt (SI.v 1) (SI.len (SL.v 9)),
          SB.le (SI.c (Int.ofNat 0)) (SI.v 1), SB.le (SI.v 1) (SI.len (SL.v 9)),
          SB.lt (SI.len (SL.v 9)) (SI.c (Int.ofNat 100000))],
      eqs := [Eqn.T (SB.not (SB.app 130 (SA.l (SL.v 9) (SA.i (SI.v 1) (SA.i (SI.v 9) SA.nil)))))] },
    {
      pc :=
        [SB.not (SB.eq (SI.sel (SL.v 9) (SI.v 1) 0) (SI.v 9)),
          SB.not (SB.eq (SI.sel (SL.v 9) (SI.v 1) 0) (SI.c (Int.negSucc 0))), SB.lt (SI.v 1) (SI.len (SL.v 9)),
          SB.le (SI.c (Int.ofNat 0)) (SI.v 1), SB.le (SI.v 1) (SI.len (SL.v 9)),
          SB.lt (SI.len (SL.v 9)) (SI.c (Int.ofNat 100000))],
      eqs := [Eqn.T (SB.app 130 (SA.l (SL.v 9) (SA.i (SI.v 1) (SA.i (SI.v 9) SA.nil))))] },
    {
      pc :=
        [SB.not (SB.lt (SI.v 1) (SI.len (SL.v 9))), SB.le (SI.c (Int.ofNat 0)) (SI.v 1),
          SB.le (SI.v 1) (SI.len (SL.v 9)), SB.lt (SI.len (SL.v 9)) (SI.c (Int.ofNat 100000))],
      eqs := [Eqn.T (SB.not (SB.app 130 (SA.l (SL.v 9) (SA.i (SI.v 1) (SA.i (SI.v 9) SA.nil)))))] }] := by kernel_rfl
theorem ad0_ok : ad0.ok Φ Try.prog := by
  refine ⟨by kernel_rfl, loop_rule (fun ρ => noTbl_ok) (loopAt_sub (by kernel_rfl)) ad0_obs ?_⟩
  simp only [and_imp, List.forall_mem_cons, List.not_mem_nil, false_implies, implies_true, and_true, Ob.ok, holds, Eqn.ok, evB_eq, evB_lt, evB_le, evB_not, evB_and, evB_or, evB_eqL, evB_app, evB_v, evB_c, ev_sel, ev_len, ev_v, ev_c, ev_add, ev_sub, ev_mul, ev_quo, ev_rem, ev_bits, ev_wrap, evL_v, evL_lit, evL_app, ev_app, evA_l, evA_i, evA_nil, std_min, std_max, std_cat, std_take, std_drop, std_row, std_set, std_rep, std_find, std_put, std_del, std_flag, std_unflag, std_clr, std_left, std_copy, ints_cons, ints_nil, ofNat_lit, negSucc_lit, decide_eq_true_eq, Bool.and_eq_true, Bool.or_eq_true, Bool.not_eq_true', Bool.and_eq_false_iff, Bool.or_eq_false_iff, decide_eq_false_iff_not, aI100, aL100, aL110, aL111, aL112, aL113, aL114, aL120, aL121, aL131, aB130, aB199, aI140, aI141, aI142, aI143, aL115, aL140, aL141, aL142, aB150, aB151, aB152, aB153, aB154, aB155]
  repeat' apply And.intro
  all_goals intro ρ hR
  all_goals intros
  all_goals first
    | (omega)
    | (rw [late_step (by omega) (by omega)]
       simp_all)
    | (rw [late_end (by omega)])
set_option maxRecDepth 100000 in
theorem nw0_obs : loopObs Φ Try.prog noTbl 1000 nw0.f (loopAt Try.prog nw0.f nw0.id) nw0.n nw0.T i5 nw0.outs = some
  [{
      pc :=
        [SB.lt (SI.v 1) (SI.v 0), SB.le (SI.c (Int.ofNat 0)) (SI.v 1), SB.le (SI.v 1) (SI.v 0),
          SB.le (SI.v 0) (SI.c (Int.ofNat 8)), SB.le (SI.len (SL.v 1)) (SI.v 1)],
      eqs :=
        [Eqn.T (SB.lt (SI.sub (SI.v 0) (SI.add (SI.v 1) (SI.c (Int.ofNat 1)))) (SI.sub (SI.v 0) (SI.v 1))),
          Eqn.T (SB.lt (SI.c (Int.ofNat 0)) (SI.sub (SI.v 0) (SI.v 1)))] },
    {
      pc :=
        [SB.lt (SI.v 1) (SI.v 0), SB.le (SI.c (Int.ofNat 0)) (SI.v 1), SB.le (SI.v 1) (SI.v 0),
          SB.le (SI.v 0) (SI.c (Int.ofNat 8)), SB.le (SI.len (SL.v 1)) (SI.v 1)],
      eqs :=
        [Eqn.I (SI.len (SL.app 131 (SA.l (SL.v 1) (SA.i (SI.v 1) (SA.i (SI.v 0) SA.nil)))))
            (SI.len
              (SL.app 131
                (SA.l (SL.app 0 (SA.l (SL.v 1) (SA.l (SL.lit [[Int.negSucc 0]]) SA.nil)))
                  (SA.i (SI.add (SI.v 1) (SI.c (Int.ofNat 1))) (SA.i (SI.v 0) SA.nil))))),
          Eqn.L (SL.app 131 (SA.l (SL.v 1) (SA.i (SI.v 1) (SA.i (SI.v 0) SA.nil))))
            (SL.app 131
              (SA.l (SL.app 0 (SA.l (SL.v 1) (SA.l (SL.lit [[Int.negSucc 0]]) SA.nil)))
                (SA.i (SI.add (SI.v 1) (SI.c (Int.ofNat 1))) (SA.i (SI.v 0) SA.nil))))] },
    {
      pc :=
        [SB.not (SB.lt (SI.v 1) (SI.v 0)), SB.le (SI.c (Int.ofNat 0)) (SI.v 1), SB.le (SI.v 1) (SI.v 0),
          SB.le (SI.v 0) (SI.c (Int.ofNat 8)), SB.le (SI.len (SL.v 1)) (SI.v 1)],
      eqs :=
        [Eqn.I (SI.len (SL.app 131 (SA.l (SL.v 1) (SA.i (SI.v 1) (SA.i (SI.v 0) SA.nil))))) (SI.len (SL.v 1)),
          Eqn.L (SL.app 131 (SA.l (SL.v 1) (SA.i (SI.v 1) (SA.i (SI.v 0) SA.nil)))) (SL.v 1)] }] := by kernel_rfl
theorem nw0_ok : nw0.ok Φ Try.prog := by
  refine ⟨by kernel_rfl, loop_rule (fun ρ => noTbl_ok) (loopAt_sub (by kernel_rfl)) nw0_obs ?_⟩
  simp only [and_imp, List.forall_mem_cons, List.not_mem_nil, false_implies, implies_true, and_true, Ob.ok, holds, Eqn.ok, evB_eq, evB_lt, evB_le, evB_not, evB_and, evB_or, evB_eqL, evB_app, evB_v, evB_c, ev_sel, ev_len, ev_v, ev_c, ev_add, ev_sub, ev_mul, ev_quo, ev_rem, ev_bits, ev_wrap, evL_v, evL_lit, evL_app, ev_app, evA_l, evA_i, evA_nil, std_min, std_max, std_cat, std_take, std_drop, std_row, std_set, std_rep, std_find, std_put, std_del, std_flag, std_unflag, std_clr, std_left, std_copy, ints_cons, ints_nil, ofNat_lit, negSucc_lit, decide_eq_true_eq, Bool.and_eq_true, Bool.or_eq_true, Bool.not_eq_true', Bool.and_eq_false_iff, Bool.or_eq_false_iff, decide_eq_false_iff_not, aI100, aL100, aL110, aL111, aL112, aL113, aL114, aL120, aL121, aL131, aB130, aB199, aI140, aI141, aI142, aI143, aL115, aL140, aL141, aL142, aB150, aB151, aB152, aB153, aB154, aB155]
  repeat' apply And.intro
  all_goals intro ρ hR
  all_goals intros
  all_goals first
    | (omega)
    | (rw [pad_step (by omega)]
       simp)
    | (rw [show (ρ.i 0 - ρ.i 1).toNat = 0 by omega]
       simp)
end Go.SF.C10
