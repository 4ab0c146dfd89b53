/- Proofs of loops. -/
import Derived.Test.YtfcakaakdeakpaaC1
import Derived.KernelRfl
namespace Go.SF.C10
open Go Go.SF Go.Proofs
set_option linter.unusedVariables false
set_option linter.unusedSimpArgs false

set_option maxRecDepth 100000 in
theorem it0_obs : loopObs Φ Try.prog noTbl 1000 it0.f (loopAt Try.prog it0.f it0.id) it0.n it0.T i4 it0.outs = some
  [{
      pc :=
        [SB.eq (SI.sel (SL.v 0) (SI.v 1) 0) (SI.sel (SL.v 1) (SI.v 1) 0), SB.lt (SI.v 1) (SI.len (SL.v 0)),
          SB.le (SI.c (Int.ofNat 0)) (SI.v 1), SB.le (SI.v 1) (SI.len (SL.v 0)),
          SB.eq (SI.len (SL.v 0)) (SI.len (SL.v 1)), SB.lt (SI.len (SL.v 0)) (SI.c (Int.ofNat 100000))],
      eqs :=
        [Eqn.T
            (SB.lt (SI.sub (SI.len (SL.v 0)) (SI.add (SI.v 1) (SI.c (Int.ofNat 1))))
              (SI.sub (SI.len (SL.v 0)) (SI.v 1))),
          Eqn.T (SB.lt (SI.c (Int.ofNat 0)) (SI.sub (SI.len (SL.v 0)) (SI.v 1)))] },
    {
      pc :=
        [SB.not
            (SB.eqL (SL.app 2 (SA.l (SL.v 0) (SA.i (SI.add (SI.v 1) (SI.c (Int.ofNat 1))) SA.nil)))
              (SL.app 2 (SA.l (SL.v 1) (SA.i (SI.add (SI.v 1) (SI.c (Int.ofNat 1))) SA.nil)))),
          SB.eq (SI.sel (SL.v 0) (SI.v 1) 0) (SI.sel (SL.v 1) (SI.v 1) 0), SB.lt (SI.v 1) (SI.len (SL.v 0)),
          SB.le (SI.c (Int.ofNat 0)) (SI.v 1), SB.le (SI.v 1) (SI.len (SL.v 0)),
          SB.eq (SI.len (SL.v 0)) (SI.len (SL.v 1)), SB.lt (SI.len (SL.v 0)) (SI.c (Int.ofNat 100000))],
      eqs :=
        [Eqn.T
            (SB.not
              (SB.eqL (SL.app 2 (SA.l (SL.v 0) (SA.i (SI.v 1) SA.nil)))
                (SL.app 2 (SA.l (SL.v 1) (SA.i (SI.v 1) SA.nil)))))] },
    {
      pc :=
        [SB.eqL (SL.app 2 (SA.l (SL.v 0) (SA.i (SI.add (SI.v 1) (SI.c (Int.ofNat 1))) SA.nil)))
            (SL.app 2 (SA.l (SL.v 1) (SA.i (SI.add (SI.v 1) (SI.c (Int.ofNat 1))) SA.nil))),
          SB.eq (SI.sel (SL.v 0) (SI.v 1) 0) (SI.sel (SL.v 1) (SI.v 1) 0), SB.lt (SI.v 1) (SI.len (SL.v 0)),
          SB.le (SI.c (Int.ofNat 0)) (SI.v 1), SB.le (SI.v 1) (SI.len (SL.v 0)),
          SB.eq (SI.len (SL.v 0)) (SI.len (SL.v 1)), SB.lt (SI.len (SL.v 0)) (SI.c (Int.ofNat 100000))],
      eqs :=
        [Eqn.T
            (SB.eqL (SL.app 2 (SA.l (SL.v 0) (SA.i (SI.v 1) SA.nil)))
              (SL.app 2 (SA.l (SL.v 1) (SA.i (SI.v 1) SA.nil))))] },
    {
      pc :=
        [SB.not (SB.eq (SI.sel (SL.v 0) (SI.v 1) 0) (SI.sel (SL.v 1) (SI.v 1) 0)), SB.lt (SI.v 1) (SI.len (SL.v 0)),
          SB.le (SI.c (Int.ofNat 0)) (SI.v 1), SB.le (SI.v 1) (SI.len (SL.v 0)),
          SB.eq (SI.len (SL.v 0)) (SI.len (SL.v 1)), SB.lt (SI.len (SL.v 0)) (SI.c (Int.ofNat 100000))],
      eqs :=
        [Eqn.T
            (SB.not
              (SB.eqL (SL.app 2 (SA.l (SL.v 0) (SA.i (SI.v 1) SA.nil)))
                (SL.app 2 (SA.l (SL.v 1) (SA.i (SI.v 1) SA.nil)))))] },
    {
      pc :=
        [SB.not (SB.lt (SI.v 1) (SI.len (SL.v 0))), SB.le (SI.c (Int.ofNat 0)) (SI.v 1),
          SB.le (SI.v 1) (SI.len (SL.v 0)), SB.eq (SI.len (SL.v 0)) (SI.len (SL.v 1)),
          SB.lt (SI.len (SL.v 0)) (SI.c (Int.ofNat 100000))],
      eqs :=
        [Eqn.T
            (SB.eqL (SL.app 2 (SA.l (SL.v 0) (SA.i (SI.v 1) SA.nil)))
              (SL.app 2 (SA.l (SL.v 1) (SA.i (SI.v 1) SA.nil))))] }] := by kernel_rfl
theorem it0_ok : it0.ok Φ Try.prog := by
  refine ⟨by kernel_rfl, loop_rule (fun ρ => noTbl_ok) (loopAt_sub (by kernel_rfl)) it0_obs ?_⟩
  simp only [and_imp, List.forall_mem_cons, List.not_mem_nil, false_implies, implies_true, and_true, Ob.ok, holds, Eqn.ok, evB_eq, evB_lt, evB_le, evB_not, evB_and, evB_or, evB_eqL, evB_app, evB_v, evB_c, ev_sel, ev_len, ev_v, ev_c, ev_add, ev_sub, ev_mul, ev_quo, ev_rem, ev_bits, ev_wrap, evL_v, evL_lit, evL_app, ev_app, evA_l, evA_i, evA_nil, std_min, std_max, std_cat, std_take, std_drop, std_row, std_set, std_rep, std_find, std_put, std_del, std_flag, std_unflag, std_clr, std_left, std_copy, ints_cons, ints_nil, ofNat_lit, negSucc_lit, decide_eq_true_eq, Bool.and_eq_true, Bool.or_eq_true, Bool.not_eq_true', Bool.and_eq_false_iff, Bool.or_eq_false_iff, decide_eq_false_iff_not, aI100, aL100, aL110, aL111, aL112, aL113, aL114, aL120, aL121, aL131, aB130, aB199, aI140, aI141, aI142, aI143, aL115, aL140, aL141, aL142, aB150, aB151, aB152, aB153, aB154, aB155]
  repeat' apply And.intro
  all_goals intro ρ hR
  all_goals intros
  all_goals first
    | (omega)
    | (intro e
       have e := (eq_step (A := ρ.l 0) (B := ρ.l 1) (i := ρ.i 1) (hR.row 0 rfl rfl) (hR.row 1 rfl rfl) (by omega) (by omega) (by omega)).1 e
       first
         | exact ‹¬ List.drop (ρ.i 1 + 1).toNat _ = _› e.2
         | exact ‹¬ _ = _› e.1)
    | (exact (eq_step (A := ρ.l 0) (B := ρ.l 1) (i := ρ.i 1) (hR.row 0 rfl rfl) (hR.row 1 rfl rfl) (by omega) (by omega) (by omega)).2 ⟨by with_reducible assumption, by with_reducible assumption⟩)
    | (exact eq_end (by omega) (by omega))
end Go.SF.C10
