/- The law of any script, shown. -/
import Derived.Test.YtfcakaakdeakpaaQ8
import Derived.Test.YtfcakaakdeakpaaC4
import Derived.KernelRfl
namespace Go.SF.C10
open Go Go.SF Go.Proofs
set_option linter.unusedVariables false
set_option linter.unusedSimpArgs false

set_option maxRecDepth 100000 in
theorem plW_obs : partObs Φ Try.prog u5 1000 plW.f (loopAt Try.prog plW.f plW.id) plW.n plW.T plW.outs = some
  [{
      pc :=
        [SB.eq (SI.len (SL.app 140 (SA.l (SL.v 0) (SA.i (SI.v 6) (SA.i (SI.v 1) SA.nil))))) (SI.len (SL.v 0)),
          SB.eq (SI.v 5) (SI.c (Int.ofNat 0)), SB.le (SI.c (Int.ofNat 0)) (SI.v 0),
          SB.le (SI.v 0) (SI.c (Int.ofNat 80)), SB.le (SI.c (Int.ofNat 0)) (SI.v 1), SB.le (SI.v 1) (SI.v 0),
          SB.le (SI.c (Int.ofNat 1)) (SI.v 2), SB.le (SI.v 2) (SI.c (Int.ofNat 8)), SB.eq (SI.len (SL.v 0)) (SI.v 2),
          SB.le (SI.len (SL.v 1)) (SI.v 0), SB.app 150 (SA.l (SL.v 0) (SA.i (SI.v 1) SA.nil)),
          SB.lt (SI.v 0) (SI.c (Int.ofNat 80))],
      eqs :=
        [Eqn.T
            (SB.app 150
              (SA.l (SL.app 140 (SA.l (SL.v 0) (SA.i (SI.v 6) (SA.i (SI.v 1) SA.nil)))) (SA.i (SI.v 1) SA.nil)))] },
    {
      pc :=
        [SB.eq (SI.len (SL.app 141 (SA.l (SL.v 0) (SA.i (SI.v 6) SA.nil)))) (SI.len (SL.v 0)),
          SB.eq (SI.v 5) (SI.c (Int.ofNat 1)), SB.not (SB.eq (SI.v 5) (SI.c (Int.ofNat 0))),
          SB.le (SI.c (Int.ofNat 0)) (SI.v 0), SB.le (SI.v 0) (SI.c (Int.ofNat 80)),
          SB.le (SI.c (Int.ofNat 0)) (SI.v 1), SB.le (SI.v 1) (SI.v 0), SB.le (SI.c (Int.ofNat 1)) (SI.v 2),
          SB.le (SI.v 2) (SI.c (Int.ofNat 8)), SB.eq (SI.len (SL.v 0)) (SI.v 2), SB.le (SI.len (SL.v 1)) (SI.v 0),
          SB.app 150 (SA.l (SL.v 0) (SA.i (SI.v 1) SA.nil)), SB.lt (SI.v 0) (SI.c (Int.ofNat 80))],
      eqs := [Eqn.T (SB.app 150 (SA.l (SL.app 141 (SA.l (SL.v 0) (SA.i (SI.v 6) SA.nil))) (SA.i (SI.v 1) SA.nil)))] },
    {
      pc :=
        [SB.not (SB.app 154 (SA.l (SL.v 1) SA.nil)),
          SB.le (SI.len (SL.app 142 (SA.l (SL.v 1) (SA.i (SI.v 7) (SA.i (SI.v 1) SA.nil)))))
            (SI.add (SI.len (SL.v 1)) (SI.c (Int.ofNat 1))),
          SB.eq (SI.v 5) (SI.c (Int.ofNat 2)), SB.not (SB.eq (SI.v 5) (SI.c (Int.ofNat 1))),
          SB.not (SB.eq (SI.v 5) (SI.c (Int.ofNat 0))), SB.le (SI.c (Int.ofNat 0)) (SI.v 0),
          SB.le (SI.v 0) (SI.c (Int.ofNat 80)), SB.le (SI.c (Int.ofNat 0)) (SI.v 1), SB.le (SI.v 1) (SI.v 0),
          SB.le (SI.c (Int.ofNat 1)) (SI.v 2), SB.le (SI.v 2) (SI.c (Int.ofNat 8)), SB.eq (SI.len (SL.v 0)) (SI.v 2),
          SB.le (SI.len (SL.v 1)) (SI.v 0), SB.app 150 (SA.l (SL.v 0) (SA.i (SI.v 1) SA.nil)),
          SB.lt (SI.v 0) (SI.c (Int.ofNat 80))],
      eqs := [Eqn.T (SB.c false)] },
    {
      pc :=
        [SB.not (SB.app 130 (SA.l (SL.v 0) (SA.i (SI.c (Int.ofNat 0)) (SA.i (SI.v 1) SA.nil)))),
          SB.eq (SI.v 5) (SI.c (Int.ofNat 3)), SB.not (SB.eq (SI.v 5) (SI.c (Int.ofNat 2))),
          SB.not (SB.eq (SI.v 5) (SI.c (Int.ofNat 1))), SB.not (SB.eq (SI.v 5) (SI.c (Int.ofNat 0))),
          SB.le (SI.c (Int.ofNat 0)) (SI.v 0), SB.le (SI.v 0) (SI.c (Int.ofNat 80)),
          SB.le (SI.c (Int.ofNat 0)) (SI.v 1), SB.le (SI.v 1) (SI.v 0), SB.le (SI.c (Int.ofNat 1)) (SI.v 2),
          SB.le (SI.v 2) (SI.c (Int.ofNat 8)), SB.eq (SI.len (SL.v 0)) (SI.v 2), SB.le (SI.len (SL.v 1)) (SI.v 0),
          SB.app 150 (SA.l (SL.v 0) (SA.i (SI.v 1) SA.nil)), SB.lt (SI.v 0) (SI.c (Int.ofNat 80))],
      eqs := [Eqn.T (SB.app 150 (SA.l (SL.v 0) (SA.i (SI.add (SI.v 1) (SI.c (Int.ofNat 1))) SA.nil)))] }] := by kernel_rfl
theorem plW_ok : plW.ok Φ Try.prog := by
  refine ⟨by kernel_rfl, part_rule (fun ρ => u5_ok ρ) (loopAt_sub (by kernel_rfl)) plW_obs ?_⟩
  simp only [and_imp, List.forall_mem_cons, List.not_mem_nil, false_implies, implies_true, and_true, Ob.ok, holds, Eqn.ok, evB_eq, evB_lt, evB_le, evB_not, evB_and, evB_or, evB_eqL, evB_app, evB_v, evB_c, ev_sel, ev_len, ev_v, ev_c, ev_add, ev_sub, ev_mul, ev_quo, ev_rem, ev_bits, ev_wrap, evL_v, evL_lit, evL_app, ev_app, evA_l, evA_i, evA_nil, std_min, std_max, std_cat, std_take, std_drop, std_row, std_set, std_rep, std_find, std_put, std_del, std_flag, std_unflag, std_clr, std_left, ints_cons, ints_nil, ofNat_lit, negSucc_lit, decide_eq_true_eq, Bool.and_eq_true, Bool.or_eq_true, Bool.not_eq_true', Bool.and_eq_false_iff, Bool.or_eq_false_iff, decide_eq_false_iff_not, aI100, aL100, aL110, aL111, aL112, aL113, aL114, aL120, aL121, aL131, aB130, aB199, aI140, aI141, aI142, aI143, aL115, aL140, aL141, aL142, aB150, aB151, aB152, aB153, aB154, aB155]
  repeat' apply And.intro
  all_goals intro ρ hR
  all_goals intros
  all_goals first
    | (exact pins_pin (hR.row 2 rfl rfl) (by with_reducible assumption) (by omega))
    | (exact pins_unp (hR.row 2 rfl rfl) (by with_reducible assumption) (by omega))
    | (exact pins_next (by with_reducible assumption))
    | (exfalso
       have h := rise_ok (A := ρ.l 1) (hR.keys 3 rfl rfl)
       exact Bool.false_ne_true (‹riseB (ρ.l 1) = false›.symm.trans h))
theorem u6_ok (ρ : Env) : TblOK Φ ρ Try.prog u6 := addLp_ok (u5_ok ρ) plW_ok
set_option maxRecDepth 100000 in
theorem pl1_obs : loopObs Φ Try.prog u6 1000 pl1.f (loopAt Try.prog pl1.f pl1.id) pl1.n pl1.T j3 pl1.outs = some
  [{
      pc :=
        [SB.le (SI.c (Int.ofNat 0)) (SI.sel (SL.v 1000) (SI.sel (SL.v 9) (SI.v 0) 1) 0),
          SB.lt (SI.sel (SL.v 9) (SI.v 0) 1) (SI.v 2), SB.le (SI.c (Int.ofNat 0)) (SI.sel (SL.v 9) (SI.v 0) 1),
          SB.or
            (SB.or (SB.lt (SI.sel (SL.v 9) (SI.v 0) 1) (SI.c (Int.ofNat 0)))
              (SB.le (SI.len (SL.v 1000)) (SI.sel (SL.v 9) (SI.v 0) 1)))
            (SB.eq (SI.sel (SL.v 1000) (SI.sel (SL.v 9) (SI.v 0) 1) 0) (SI.c (Int.negSucc 0))),
          SB.app 150 (SA.l (SL.v 1000) (SA.i (SI.v 1001) SA.nil)), SB.eq (SI.len (SL.v 1000)) (SI.v 2),
          SB.le (SI.v 1001) (SI.add (SI.v 0) (SI.c (Int.ofNat 1))), SB.le (SI.c (Int.ofNat 0)) (SI.v 1001),
          SB.lt (SI.v 0) (SI.c (Int.ofNat 80)), SB.lt (SI.v 0) (SI.len (SL.v 9)), SB.le (SI.c (Int.ofNat 0)) (SI.v 0),
          SB.le (SI.v 0) (SI.c (Int.ofNat 80)), SB.le (SI.c (Int.ofNat 0)) (SI.v 1), SB.le (SI.v 1) (SI.v 0),
          SB.le (SI.c (Int.ofNat 1)) (SI.v 2), SB.le (SI.v 2) (SI.c (Int.ofNat 8)), SB.eq (SI.len (SL.v 0)) (SI.v 2),
          SB.le (SI.len (SL.v 1)) (SI.v 0), SB.app 150 (SA.l (SL.v 0) (SA.i (SI.v 1) SA.nil))],
      eqs := [Eqn.T (SB.app 199 SA.nil)] },
    {
      pc :=
        [SB.le (SI.len (SL.app 110 (SA.l (SL.v 1) SA.nil))) (SI.len (SL.v 1)),
          SB.not (SB.le (SI.c (Int.ofNat 0)) (SI.sel (SL.v 1000) (SI.sel (SL.v 9) (SI.v 0) 1) 0)),
          SB.lt (SI.sel (SL.v 9) (SI.v 0) 1) (SI.v 2), SB.le (SI.c (Int.ofNat 0)) (SI.sel (SL.v 9) (SI.v 0) 1),
          SB.or
            (SB.or (SB.lt (SI.sel (SL.v 9) (SI.v 0) 1) (SI.c (Int.ofNat 0)))
              (SB.le (SI.len (SL.v 1000)) (SI.sel (SL.v 9) (SI.v 0) 1)))
            (SB.eq (SI.sel (SL.v 1000) (SI.sel (SL.v 9) (SI.v 0) 1) 0) (SI.c (Int.negSucc 0))),
          SB.app 150 (SA.l (SL.v 1000) (SA.i (SI.v 1001) SA.nil)), SB.eq (SI.len (SL.v 1000)) (SI.v 2),
          SB.le (SI.v 1001) (SI.add (SI.v 0) (SI.c (Int.ofNat 1))), SB.le (SI.c (Int.ofNat 0)) (SI.v 1001),
          SB.lt (SI.v 0) (SI.c (Int.ofNat 80)), SB.lt (SI.v 0) (SI.len (SL.v 9)), SB.le (SI.c (Int.ofNat 0)) (SI.v 0),
          SB.le (SI.v 0) (SI.c (Int.ofNat 80)), SB.le (SI.c (Int.ofNat 0)) (SI.v 1), SB.le (SI.v 1) (SI.v 0),
          SB.le (SI.c (Int.ofNat 1)) (SI.v 2), SB.le (SI.v 2) (SI.c (Int.ofNat 8)), SB.eq (SI.len (SL.v 0)) (SI.v 2),
          SB.le (SI.len (SL.v 1)) (SI.v 0), SB.app 150 (SA.l (SL.v 0) (SA.i (SI.v 1) SA.nil))],
      eqs :=
        [Eqn.T
            (SB.lt (SI.sub (SI.c (Int.ofNat 80)) (SI.add (SI.v 0) (SI.c (Int.ofNat 1))))
              (SI.sub (SI.c (Int.ofNat 80)) (SI.v 0)))] },
    {
      pc :=
        [SB.le (SI.len (SL.app 110 (SA.l (SL.v 1) SA.nil))) (SI.len (SL.v 1)),
          SB.not (SB.lt (SI.sel (SL.v 9) (SI.v 0) 1) (SI.v 2)), SB.le (SI.c (Int.ofNat 0)) (SI.sel (SL.v 9) (SI.v 0) 1),
          SB.or
            (SB.or (SB.lt (SI.sel (SL.v 9) (SI.v 0) 1) (SI.c (Int.ofNat 0)))
              (SB.le (SI.len (SL.v 1000)) (SI.sel (SL.v 9) (SI.v 0) 1)))
            (SB.eq (SI.sel (SL.v 1000) (SI.sel (SL.v 9) (SI.v 0) 1) 0) (SI.c (Int.negSucc 0))),
          SB.app 150 (SA.l (SL.v 1000) (SA.i (SI.v 1001) SA.nil)), SB.eq (SI.len (SL.v 1000)) (SI.v 2),
          SB.le (SI.v 1001) (SI.add (SI.v 0) (SI.c (Int.ofNat 1))), SB.le (SI.c (Int.ofNat 0)) (SI.v 1001),
          SB.lt (SI.v 0) (SI.c (Int.ofNat 80)), SB.lt (SI.v 0) (SI.len (SL.v 9)), SB.le (SI.c (Int.ofNat 0)) (SI.v 0),
          SB.le (SI.v 0) (SI.c (Int.ofNat 80)), SB.le (SI.c (Int.ofNat 0)) (SI.v 1), SB.le (SI.v 1) (SI.v 0),
          SB.le (SI.c (Int.ofNat 1)) (SI.v 2), SB.le (SI.v 2) (SI.c (Int.ofNat 8)), SB.eq (SI.len (SL.v 0)) (SI.v 2),
          SB.le (SI.len (SL.v 1)) (SI.v 0), SB.app 150 (SA.l (SL.v 0) (SA.i (SI.v 1) SA.nil))],
      eqs :=
        [Eqn.T
            (SB.lt (SI.sub (SI.c (Int.ofNat 80)) (SI.add (SI.v 0) (SI.c (Int.ofNat 1))))
              (SI.sub (SI.c (Int.ofNat 80)) (SI.v 0)))] },
    {
      pc :=
        [SB.le (SI.len (SL.app 110 (SA.l (SL.v 1) SA.nil))) (SI.len (SL.v 1)),
          SB.not (SB.le (SI.c (Int.ofNat 0)) (SI.sel (SL.v 9) (SI.v 0) 1)),
          SB.or
            (SB.or (SB.lt (SI.sel (SL.v 9) (SI.v 0) 1) (SI.c (Int.ofNat 0)))
              (SB.le (SI.len (SL.v 1000)) (SI.sel (SL.v 9) (SI.v 0) 1)))
            (SB.eq (SI.sel (SL.v 1000) (SI.sel (SL.v 9) (SI.v 0) 1) 0) (SI.c (Int.negSucc 0))),
          SB.app 150 (SA.l (SL.v 1000) (SA.i (SI.v 1001) SA.nil)), SB.eq (SI.len (SL.v 1000)) (SI.v 2),
          SB.le (SI.v 1001) (SI.add (SI.v 0) (SI.c (Int.ofNat 1))), SB.le (SI.c (Int.ofNat 0)) (SI.v 1001),
          SB.lt (SI.v 0) (SI.c (Int.ofNat 80)), SB.lt (SI.v 0) (SI.len (SL.v 9)), SB.le (SI.c (Int.ofNat 0)) (SI.v 0),
          SB.le (SI.v 0) (SI.c (Int.ofNat 80)), SB.le (SI.c (Int.ofNat 0)) (SI.v 1), SB.le (SI.v 1) (SI.v 0),
          SB.le (SI.c (Int.ofNat 1)) (SI.v 2), SB.le (SI.v 2) (SI.c (Int.ofNat 8)), SB.eq (SI.len (SL.v 0)) (SI.v 2),
          SB.le (SI.len (SL.v 1)) (SI.v 0), SB.app 150 (SA.l (SL.v 0) (SA.i (SI.v 1) SA.nil))],
      eqs :=
        [Eqn.T
            (SB.lt (SI.sub (SI.c (Int.ofNat 80)) (SI.add (SI.v 0) (SI.c (Int.ofNat 1))))
              (SI.sub (SI.c (Int.ofNat 80)) (SI.v 0)))] },
    {
      pc :=
        [SB.le (SI.len (SL.app 110 (SA.l (SL.v 1) SA.nil))) (SI.len (SL.v 1)),
          SB.le (SI.c (Int.ofNat 0)) (SI.sel (SL.v 1000) (SI.sel (SL.v 9) (SI.v 0) 1) 0),
          SB.not (SB.eq (SI.sel (SL.v 1000) (SI.sel (SL.v 9) (SI.v 0) 1) 0) (SI.c (Int.negSucc 0))),
          SB.lt (SI.sel (SL.v 9) (SI.v 0) 1) (SI.len (SL.v 1000)),
          SB.le (SI.c (Int.ofNat 0)) (SI.sel (SL.v 9) (SI.v 0) 1),
          SB.app 150 (SA.l (SL.v 1000) (SA.i (SI.v 1001) SA.nil)), SB.eq (SI.len (SL.v 1000)) (SI.v 2),
          SB.le (SI.v 1001) (SI.add (SI.v 0) (SI.c (Int.ofNat 1))), SB.le (SI.c (Int.ofNat 0)) (SI.v 1001),
          SB.lt (SI.v 0) (SI.c (Int.ofNat 80)), SB.lt (SI.v 0) (SI.len (SL.v 9)), SB.le (SI.c (Int.ofNat 0)) (SI.v 0),
          SB.le (SI.v 0) (SI.c (Int.ofNat 80)), SB.le (SI.c (Int.ofNat 0)) (SI.v 1), SB.le (SI.v 1) (SI.v 0),
          SB.le (SI.c (Int.ofNat 1)) (SI.v 2), SB.le (SI.v 2) (SI.c (Int.ofNat 8)), SB.eq (SI.len (SL.v 0)) (SI.v 2),
          SB.le (SI.len (SL.v 1)) (SI.v 0), SB.app 150 (SA.l (SL.v 0) (SA.i (SI.v 1) SA.nil))],
      eqs :=
        [Eqn.T
            (SB.lt (SI.sub (SI.c (Int.ofNat 80)) (SI.add (SI.v 0) (SI.c (Int.ofNat 1))))
              (SI.sub (SI.c (Int.ofNat 80)) (SI.v 0)))] },
    {
      pc :=
        [SB.not (SB.le (SI.c (Int.ofNat 0)) (SI.sel (SL.v 1000) (SI.sel (SL.v 9) (SI.v 0) 1) 0)),
          SB.not (SB.eq (SI.sel (SL.v 1000) (SI.sel (SL.v 9) (SI.v 0) 1) 0) (SI.c (Int.negSucc 0))),
          SB.lt (SI.sel (SL.v 9) (SI.v 0) 1) (SI.len (SL.v 1000)),
          SB.le (SI.c (Int.ofNat 0)) (SI.sel (SL.v 9) (SI.v 0) 1),
          SB.app 150 (SA.l (SL.v 1000) (SA.i (SI.v 1001) SA.nil)), SB.eq (SI.len (SL.v 1000)) (SI.v 2),
          SB.le (SI.v 1001) (SI.add (SI.v 0) (SI.c (Int.ofNat 1))), SB.le (SI.c (Int.ofNat 0)) (SI.v 1001),
          SB.lt (SI.v 0) (SI.c (Int.ofNat 80)), SB.lt (SI.v 0) (SI.len (SL.v 9)), SB.le (SI.c (Int.ofNat 0)) (SI.v 0),
          SB.le (SI.v 0) (SI.c (Int.ofNat 80)), SB.le (SI.c (Int.ofNat 0)) (SI.v 1), SB.le (SI.v 1) (SI.v 0),
          SB.le (SI.c (Int.ofNat 1)) (SI.v 2), SB.le (SI.v 2) (SI.c (Int.ofNat 8)), SB.eq (SI.len (SL.v 0)) (SI.v 2),
          SB.le (SI.len (SL.v 1)) (SI.v 0), SB.app 150 (SA.l (SL.v 0) (SA.i (SI.v 1) SA.nil))],
      eqs := [Eqn.T (SB.app 199 SA.nil)] },
    {
      pc :=
        [SB.le (SI.len (SL.app 110 (SA.l (SL.v 1000) SA.nil))) (SI.len (SL.v 1000)),
          SB.not (SB.le (SI.c (Int.ofNat 0)) (SI.sel (SL.v 0) (SI.sel (SL.v 9) (SI.v 0) 1) 0)),
          SB.lt (SI.sel (SL.v 9) (SI.v 0) 1) (SI.v 2), SB.le (SI.c (Int.ofNat 0)) (SI.sel (SL.v 9) (SI.v 0) 1),
          SB.or
            (SB.or (SB.lt (SI.sel (SL.v 9) (SI.v 0) 1) (SI.c (Int.ofNat 0)))
              (SB.le (SI.len (SL.v 0)) (SI.sel (SL.v 9) (SI.v 0) 1)))
            (SB.eq (SI.sel (SL.v 0) (SI.sel (SL.v 9) (SI.v 0) 1) 0) (SI.c (Int.negSucc 0))),
          SB.le (SI.len (SL.v 1000)) (SI.add (SI.v 0) (SI.c (Int.ofNat 1))), SB.lt (SI.v 0) (SI.c (Int.ofNat 80)),
          SB.lt (SI.v 0) (SI.len (SL.v 9)), SB.le (SI.c (Int.ofNat 0)) (SI.v 0), SB.le (SI.v 0) (SI.c (Int.ofNat 80)),
          SB.le (SI.c (Int.ofNat 0)) (SI.v 1), SB.le (SI.v 1) (SI.v 0), SB.le (SI.c (Int.ofNat 1)) (SI.v 2),
          SB.le (SI.v 2) (SI.c (Int.ofNat 8)), SB.eq (SI.len (SL.v 0)) (SI.v 2), SB.le (SI.len (SL.v 1)) (SI.v 0),
          SB.app 150 (SA.l (SL.v 0) (SA.i (SI.v 1) SA.nil))],
      eqs :=
        [Eqn.T
            (SB.lt (SI.sub (SI.c (Int.ofNat 80)) (SI.add (SI.v 0) (SI.c (Int.ofNat 1))))
              (SI.sub (SI.c (Int.ofNat 80)) (SI.v 0)))] },
    {
      pc :=
        [SB.le (SI.len (SL.app 110 (SA.l (SL.v 1000) SA.nil))) (SI.len (SL.v 1000)),
          SB.not (SB.lt (SI.sel (SL.v 9) (SI.v 0) 1) (SI.v 2)), SB.le (SI.c (Int.ofNat 0)) (SI.sel (SL.v 9) (SI.v 0) 1),
          SB.or
            (SB.or (SB.lt (SI.sel (SL.v 9) (SI.v 0) 1) (SI.c (Int.ofNat 0)))
              (SB.le (SI.len (SL.v 0)) (SI.sel (SL.v 9) (SI.v 0) 1)))
            (SB.eq (SI.sel (SL.v 0) (SI.sel (SL.v 9) (SI.v 0) 1) 0) (SI.c (Int.negSucc 0))),
          SB.le (SI.len (SL.v 1000)) (SI.add (SI.v 0) (SI.c (Int.ofNat 1))), SB.lt (SI.v 0) (SI.c (Int.ofNat 80)),
          SB.lt (SI.v 0) (SI.len (SL.v 9)), SB.le (SI.c (Int.ofNat 0)) (SI.v 0), SB.le (SI.v 0) (SI.c (Int.ofNat 80)),
          SB.le (SI.c (Int.ofNat 0)) (SI.v 1), SB.le (SI.v 1) (SI.v 0), SB.le (SI.c (Int.ofNat 1)) (SI.v 2),
          SB.le (SI.v 2) (SI.c (Int.ofNat 8)), SB.eq (SI.len (SL.v 0)) (SI.v 2), SB.le (SI.len (SL.v 1)) (SI.v 0),
          SB.app 150 (SA.l (SL.v 0) (SA.i (SI.v 1) SA.nil))],
      eqs :=
        [Eqn.T
            (SB.lt (SI.sub (SI.c (Int.ofNat 80)) (SI.add (SI.v 0) (SI.c (Int.ofNat 1))))
              (SI.sub (SI.c (Int.ofNat 80)) (SI.v 0)))] },
    {
      pc :=
        [SB.le (SI.len (SL.app 110 (SA.l (SL.v 1000) SA.nil))) (SI.len (SL.v 1000)),
          SB.not (SB.le (SI.c (Int.ofNat 0)) (SI.sel (SL.v 9) (SI.v 0) 1)),
          SB.or
            (SB.or (SB.lt (SI.sel (SL.v 9) (SI.v 0) 1) (SI.c (Int.ofNat 0)))
              (SB.le (SI.len (SL.v 0)) (SI.sel (SL.v 9) (SI.v 0) 1)))
            (SB.eq (SI.sel (SL.v 0) (SI.sel (SL.v 9) (SI.v 0) 1) 0) (SI.c (Int.negSucc 0))),
          SB.le (SI.len (SL.v 1000)) (SI.add (SI.v 0) (SI.c (Int.ofNat 1))), SB.lt (SI.v 0) (SI.c (Int.ofNat 80)),
          SB.lt (SI.v 0) (SI.len (SL.v 9)), SB.le (SI.c (Int.ofNat 0)) (SI.v 0), SB.le (SI.v 0) (SI.c (Int.ofNat 80)),
          SB.le (SI.c (Int.ofNat 0)) (SI.v 1), SB.le (SI.v 1) (SI.v 0), SB.le (SI.c (Int.ofNat 1)) (SI.v 2),
          SB.le (SI.v 2) (SI.c (Int.ofNat 8)), SB.eq (SI.len (SL.v 0)) (SI.v 2), SB.le (SI.len (SL.v 1)) (SI.v 0),
          SB.app 150 (SA.l (SL.v 0) (SA.i (SI.v 1) SA.nil))],
      eqs :=
        [Eqn.T
            (SB.lt (SI.sub (SI.c (Int.ofNat 80)) (SI.add (SI.v 0) (SI.c (Int.ofNat 1))))
              (SI.sub (SI.c (Int.ofNat 80)) (SI.v 0)))] },
    {
      pc :=
        [SB.le (SI.len (SL.app 110 (SA.l (SL.v 1000) SA.nil))) (SI.len (SL.v 1000)),
          SB.le (SI.c (Int.ofNat 0)) (SI.sel (SL.v 0) (SI.sel (SL.v 9) (SI.v 0) 1) 0),
          SB.not (SB.eq (SI.sel (SL.v 0) (SI.sel (SL.v 9) (SI.v 0) 1) 0) (SI.c (Int.negSucc 0))),
          SB.lt (SI.sel (SL.v 9) (SI.v 0) 1) (SI.len (SL.v 0)), SB.le (SI.c (Int.ofNat 0)) (SI.sel (SL.v 9) (SI.v 0) 1),
          SB.le (SI.len (SL.v 1000)) (SI.add (SI.v 0) (SI.c (Int.ofNat 1))), SB.lt (SI.v 0) (SI.c (Int.ofNat 80)),
          SB.lt (SI.v 0) (SI.len (SL.v 9)), SB.le (SI.c (Int.ofNat 0)) (SI.v 0), SB.le (SI.v 0) (SI.c (Int.ofNat 80)),
          SB.le (SI.c (Int.ofNat 0)) (SI.v 1), SB.le (SI.v 1) (SI.v 0), SB.le (SI.c (Int.ofNat 1)) (SI.v 2),
          SB.le (SI.v 2) (SI.c (Int.ofNat 8)), SB.eq (SI.len (SL.v 0)) (SI.v 2), SB.le (SI.len (SL.v 1)) (SI.v 0),
          SB.app 150 (SA.l (SL.v 0) (SA.i (SI.v 1) SA.nil))],
      eqs :=
        [Eqn.T
            (SB.lt (SI.sub (SI.c (Int.ofNat 80)) (SI.add (SI.v 0) (SI.c (Int.ofNat 1))))
              (SI.sub (SI.c (Int.ofNat 80)) (SI.v 0)))] },
    {
      pc :=
        [SB.le (SI.c (Int.ofNat 0)) (SI.sel (SL.v 0) (SI.sel (SL.v 9) (SI.v 0) 1) 0),
          SB.lt (SI.sel (SL.v 9) (SI.v 0) 1) (SI.v 2), SB.le (SI.c (Int.ofNat 0)) (SI.sel (SL.v 9) (SI.v 0) 1),
          SB.or
            (SB.or (SB.lt (SI.sel (SL.v 9) (SI.v 0) 1) (SI.c (Int.ofNat 0)))
              (SB.le (SI.len (SL.v 0)) (SI.sel (SL.v 9) (SI.v 0) 1)))
            (SB.eq (SI.sel (SL.v 0) (SI.sel (SL.v 9) (SI.v 0) 1) 0) (SI.c (Int.negSucc 0))),
          SB.lt (SI.v 0) (SI.c (Int.ofNat 80)), SB.lt (SI.v 0) (SI.len (SL.v 9)), SB.le (SI.c (Int.ofNat 0)) (SI.v 0),
          SB.le (SI.v 0) (SI.c (Int.ofNat 80)), SB.le (SI.c (Int.ofNat 0)) (SI.v 1), SB.le (SI.v 1) (SI.v 0),
          SB.le (SI.c (Int.ofNat 1)) (SI.v 2), SB.le (SI.v 2) (SI.c (Int.ofNat 8)), SB.eq (SI.len (SL.v 0)) (SI.v 2),
          SB.le (SI.len (SL.v 1)) (SI.v 0), SB.app 150 (SA.l (SL.v 0) (SA.i (SI.v 1) SA.nil))],
      eqs := [Eqn.T (SB.app 199 SA.nil)] },
    {
      pc :=
        [SB.le (SI.len (SL.app 110 (SA.l (SL.v 1) SA.nil))) (SI.len (SL.v 1)),
          SB.not (SB.le (SI.c (Int.ofNat 0)) (SI.sel (SL.v 0) (SI.sel (SL.v 9) (SI.v 0) 1) 0)),
          SB.lt (SI.sel (SL.v 9) (SI.v 0) 1) (SI.v 2), SB.le (SI.c (Int.ofNat 0)) (SI.sel (SL.v 9) (SI.v 0) 1),
          SB.or
            (SB.or (SB.lt (SI.sel (SL.v 9) (SI.v 0) 1) (SI.c (Int.ofNat 0)))
              (SB.le (SI.len (SL.v 0)) (SI.sel (SL.v 9) (SI.v 0) 1)))
            (SB.eq (SI.sel (SL.v 0) (SI.sel (SL.v 9) (SI.v 0) 1) 0) (SI.c (Int.negSucc 0))),
          SB.lt (SI.v 0) (SI.c (Int.ofNat 80)), SB.lt (SI.v 0) (SI.len (SL.v 9)), SB.le (SI.c (Int.ofNat 0)) (SI.v 0),
          SB.le (SI.v 0) (SI.c (Int.ofNat 80)), SB.le (SI.c (Int.ofNat 0)) (SI.v 1), SB.le (SI.v 1) (SI.v 0),
          SB.le (SI.c (Int.ofNat 1)) (SI.v 2), SB.le (SI.v 2) (SI.c (Int.ofNat 8)), SB.eq (SI.len (SL.v 0)) (SI.v 2),
          SB.le (SI.len (SL.v 1)) (SI.v 0), SB.app 150 (SA.l (SL.v 0) (SA.i (SI.v 1) SA.nil))],
      eqs :=
        [Eqn.T
            (SB.lt (SI.sub (SI.c (Int.ofNat 80)) (SI.add (SI.v 0) (SI.c (Int.ofNat 1))))
              (SI.sub (SI.c (Int.ofNat 80)) (SI.v 0)))] },
    {
      pc :=
        [SB.le (SI.len (SL.app 110 (SA.l (SL.v 1) SA.nil))) (SI.len (SL.v 1)),
          SB.not (SB.lt (SI.sel (SL.v 9) (SI.v 0) 1) (SI.v 2)), SB.le (SI.c (Int.ofNat 0)) (SI.sel (SL.v 9) (SI.v 0) 1),
          SB.or
            (SB.or (SB.lt (SI.sel (SL.v 9) (SI.v 0) 1) (SI.c (Int.ofNat 0)))
              (SB.le (SI.len (SL.v 0)) (SI.sel (SL.v 9) (SI.v 0) 1)))
            (SB.eq (SI.sel (SL.v 0) (SI.sel (SL.v 9) (SI.v 0) 1) 0) (SI.c (Int.negSucc 0))),
          SB.lt (SI.v 0) (SI.c (Int.ofNat 80)), SB.lt (SI.v 0) (SI.len (SL.v 9)), SB.le (SI.c (Int.ofNat 0)) (SI.v 0),
          SB.le (SI.v 0) (SI.c (Int.ofNat 80)), SB.le (SI.c (Int.ofNat 0)) (SI.v 1), SB.le (SI.v 1) (SI.v 0),
          SB.le (SI.c (Int.ofNat 1)) (SI.v 2), SB.le (SI.v 2) (SI.c (Int.ofNat 8)), SB.eq (SI.len (SL.v 0)) (SI.v 2),
          SB.le (SI.len (SL.v 1)) (SI.v 0), SB.app 150 (SA.l (SL.v 0) (SA.i (SI.v 1) SA.nil))],
      eqs :=
        [Eqn.T
            (SB.lt (SI.sub (SI.c (Int.ofNat 80)) (SI.add (SI.v 0) (SI.c (Int.ofNat 1))))
              (SI.sub (SI.c (Int.ofNat 80)) (SI.v 0)))] },
    {
      pc :=
        [SB.le (SI.len (SL.app 110 (SA.l (SL.v 1) SA.nil))) (SI.len (SL.v 1)),
          SB.not (SB.le (SI.c (Int.ofNat 0)) (SI.sel (SL.v 9) (SI.v 0) 1)),
          SB.or
            (SB.or (SB.lt (SI.sel (SL.v 9) (SI.v 0) 1) (SI.c (Int.ofNat 0)))
              (SB.le (SI.len (SL.v 0)) (SI.sel (SL.v 9) (SI.v 0) 1)))
            (SB.eq (SI.sel (SL.v 0) (SI.sel (SL.v 9) (SI.v 0) 1) 0) (SI.c (Int.negSucc 0))),
          SB.lt (SI.v 0) (SI.c (Int.ofNat 80)), SB.lt (SI.v 0) (SI.len (SL.v 9)), SB.le (SI.c (Int.ofNat 0)) (SI.v 0),
          SB.le (SI.v 0) (SI.c (Int.ofNat 80)), SB.le (SI.c (Int.ofNat 0)) (SI.v 1), SB.le (SI.v 1) (SI.v 0),
          SB.le (SI.c (Int.ofNat 1)) (SI.v 2), SB.le (SI.v 2) (SI.c (Int.ofNat 8)), SB.eq (SI.len (SL.v 0)) (SI.v 2),
          SB.le (SI.len (SL.v 1)) (SI.v 0), SB.app 150 (SA.l (SL.v 0) (SA.i (SI.v 1) SA.nil))],
      eqs :=
        [Eqn.T
            (SB.lt (SI.sub (SI.c (Int.ofNat 80)) (SI.add (SI.v 0) (SI.c (Int.ofNat 1))))
              (SI.sub (SI.c (Int.ofNat 80)) (SI.v 0)))] },
    {
      pc :=
        [SB.le (SI.len (SL.app 110 (SA.l (SL.v 1) SA.nil))) (SI.len (SL.v 1)),
          SB.le (SI.c (Int.ofNat 0)) (SI.sel (SL.v 0) (SI.sel (SL.v 9) (SI.v 0) 1) 0),
          SB.not (SB.eq (SI.sel (SL.v 0) (SI.sel (SL.v 9) (SI.v 0) 1) 0) (SI.c (Int.negSucc 0))),
          SB.lt (SI.sel (SL.v 9) (SI.v 0) 1) (SI.len (SL.v 0)), SB.le (SI.c (Int.ofNat 0)) (SI.sel (SL.v 9) (SI.v 0) 1),
          SB.lt (SI.v 0) (SI.c (Int.ofNat 80)), SB.lt (SI.v 0) (SI.len (SL.v 9)), SB.le (SI.c (Int.ofNat 0)) (SI.v 0),
          SB.le (SI.v 0) (SI.c (Int.ofNat 80)), SB.le (SI.c (Int.ofNat 0)) (SI.v 1), SB.le (SI.v 1) (SI.v 0),
          SB.le (SI.c (Int.ofNat 1)) (SI.v 2), SB.le (SI.v 2) (SI.c (Int.ofNat 8)), SB.eq (SI.len (SL.v 0)) (SI.v 2),
          SB.le (SI.len (SL.v 1)) (SI.v 0), SB.app 150 (SA.l (SL.v 0) (SA.i (SI.v 1) SA.nil))],
      eqs :=
        [Eqn.T
            (SB.lt (SI.sub (SI.c (Int.ofNat 80)) (SI.add (SI.v 0) (SI.c (Int.ofNat 1))))
              (SI.sub (SI.c (Int.ofNat 80)) (SI.v 0)))] },
    {
      pc :=
        [SB.not (SB.le (SI.c (Int.ofNat 0)) (SI.sel (SL.v 0) (SI.sel (SL.v 9) (SI.v 0) 1) 0)),
          SB.not (SB.eq (SI.sel (SL.v 0) (SI.sel (SL.v 9) (SI.v 0) 1) 0) (SI.c (Int.negSucc 0))),
          SB.lt (SI.sel (SL.v 9) (SI.v 0) 1) (SI.len (SL.v 0)), SB.le (SI.c (Int.ofNat 0)) (SI.sel (SL.v 9) (SI.v 0) 1),
          SB.lt (SI.v 0) (SI.c (Int.ofNat 80)), SB.lt (SI.v 0) (SI.len (SL.v 9)), SB.le (SI.c (Int.ofNat 0)) (SI.v 0),
          SB.le (SI.v 0) (SI.c (Int.ofNat 80)), SB.le (SI.c (Int.ofNat 0)) (SI.v 1), SB.le (SI.v 1) (SI.v 0),
          SB.le (SI.c (Int.ofNat 1)) (SI.v 2), SB.le (SI.v 2) (SI.c (Int.ofNat 8)), SB.eq (SI.len (SL.v 0)) (SI.v 2),
          SB.le (SI.len (SL.v 1)) (SI.v 0), SB.app 150 (SA.l (SL.v 0) (SA.i (SI.v 1) SA.nil))],
      eqs := [Eqn.T (SB.app 199 SA.nil)] }] := by kernel_rfl
theorem pl1_ok : pl1.ok Φ Try.prog := by
  refine ⟨by kernel_rfl, loop_rule (fun ρ => u6_ok ρ) (loopAt_sub (by kernel_rfl)) pl1_obs ?_⟩
  simp only [and_imp, List.forall_mem_cons, List.not_mem_nil, false_implies, implies_true, and_true, Ob.ok, holds, Eqn.ok, evB_eq, evB_lt, evB_le, evB_not, evB_and, evB_or, evB_eqL, evB_app, evB_v, evB_c, ev_sel, ev_len, ev_v, ev_c, ev_add, ev_sub, ev_mul, ev_quo, ev_rem, ev_bits, ev_wrap, evL_v, evL_lit, evL_app, ev_app, evA_l, evA_i, evA_nil, std_min, std_max, std_cat, std_take, std_drop, std_row, std_set, std_rep, std_find, std_put, std_del, std_flag, std_unflag, std_clr, std_left, ints_cons, ints_nil, ofNat_lit, negSucc_lit, decide_eq_true_eq, Bool.and_eq_true, Bool.or_eq_true, Bool.not_eq_true', Bool.and_eq_false_iff, Bool.or_eq_false_iff, decide_eq_false_iff_not, aI100, aL100, aL110, aL111, aL112, aL113, aL114, aL120, aL121, aL131, aB130, aB199, aI140, aI141, aI142, aI143, aL115, aL140, aL141, aL142, aB150, aB151, aB152, aB153, aB154, aB155]
  repeat' apply And.intro
  all_goals intro ρ hR
  all_goals intros
  all_goals first
    | (omega)
    | (have h := pins_at (c := (((ρ.l 9).getD (ρ.i 0).toNat []).getD 1 0)) (show pinsB (ρ.l 0) (ρ.i 1) = true from (by with_reducible assumption)) (by omega) (by omega)
       exfalso
       omega)
    | (have h := pins_at (c := (((ρ.l 9).getD (ρ.i 0).toNat []).getD 1 0)) (show pinsB (ρ.l 1000) (ρ.i 1001) = true from (by with_reducible assumption)) (by omega) (by omega)
       exfalso
       omega)
theorem u7_ok (ρ : Env) : TblOK Φ ρ Try.prog u7 := addLp_ok (u5_ok ρ) pl1_ok
set_option maxRecDepth 100000 in
theorem lPlays0_obs : callObs Φ Try.prog u7 1000 lPlays0.f lPlays0.vs lPlays0.o lPlays0.pc lPlays0.outs = some
  [{
      pc :=
        [SB.eq (SI.len (SL.app 131 (SA.l (SL.lit []) (SA.i (SI.c (Int.ofNat 0)) (SA.i (SI.v 0) SA.nil))))) (SI.v 0),
          SB.le (SI.v 0) (SI.c (Int.ofNat 8)), SB.le (SI.c (Int.ofNat 1)) (SI.v 0),
          SB.or (SB.lt (SI.v 0) (SI.c (Int.ofNat 1))) (SB.lt (SI.c (Int.ofNat 8)) (SI.v 0))],
      eqs := [Eqn.T (SB.app 199 SA.nil)] },
    {
      pc :=
        [SB.not
            (SB.app 150
              (SA.l (SL.app 131 (SA.l (SL.lit []) (SA.i (SI.c (Int.ofNat 0)) (SA.i (SI.v 0) SA.nil))))
                (SA.i (SI.c (Int.ofNat 0)) SA.nil))),
          SB.eq (SI.len (SL.app 131 (SA.l (SL.lit []) (SA.i (SI.c (Int.ofNat 0)) (SA.i (SI.v 0) SA.nil))))) (SI.v 0),
          SB.le (SI.v 0) (SI.c (Int.ofNat 8)), SB.le (SI.c (Int.ofNat 1)) (SI.v 0)],
      eqs := [Eqn.T (SB.c false)] }] := by kernel_rfl
theorem lPlays0_ok : lPlays0.ok Φ Try.prog := by
  refine call_rule (fun ρ => u7_ok ρ) lPlays0_obs ?_
  simp only [and_imp, List.forall_mem_cons, List.not_mem_nil, false_implies, implies_true, and_true, Ob.ok, holds, Eqn.ok, evB_eq, evB_lt, evB_le, evB_not, evB_and, evB_or, evB_eqL, evB_app, evB_v, evB_c, ev_sel, ev_len, ev_v, ev_c, ev_add, ev_sub, ev_mul, ev_quo, ev_rem, ev_bits, ev_wrap, evL_v, evL_lit, evL_app, ev_app, evA_l, evA_i, evA_nil, std_min, std_max, std_cat, std_take, std_drop, std_row, std_set, std_rep, std_find, std_put, std_del, std_flag, std_unflag, std_clr, std_left, ints_cons, ints_nil, ofNat_lit, negSucc_lit, decide_eq_true_eq, Bool.and_eq_true, Bool.or_eq_true, Bool.not_eq_true', Bool.and_eq_false_iff, Bool.or_eq_false_iff, decide_eq_false_iff_not, aI100, aL100, aL110, aL111, aL112, aL113, aL114, aL120, aL121, aL131, aB130, aB199, aI140, aI141, aI142, aI143, aL115, aL140, aL141, aL142, aB150, aB151, aB152, aB153, aB154, aB155]
  repeat' apply And.intro
  all_goals intro ρ hR
  all_goals intros
  all_goals first
    | (omega)
    | (exfalso
       omega)
    | (exfalso
       have h : pinsB ([] ++ List.replicate (ρ.i 0 - 0).toNat [-1]) 0 = true := List.all_eq_true.2 fun r h => by rw [List.nil_append] at h; rw [List.eq_of_mem_replicate h]; decide
       exact Bool.false_ne_true (‹pinsB _ 0 = false›.symm.trans h))
theorem lPlays_ok : lPlays.ok Φ Try.prog := drop_never rfl lPlays0_ok
end Go.SF.C10
