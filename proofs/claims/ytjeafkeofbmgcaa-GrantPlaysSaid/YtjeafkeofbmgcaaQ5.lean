/- The law of who is linked, shown. -/
import Derived.Test.YtjeafkeofbmgcaaQ4
import Derived.Test.YtjeafkeofbmgcaaC5
import Derived.Test.YtjeafkeofbmgcaaP7
import Derived.Test.YtjeafkeofbmgcaaP3
import Derived.KernelRfl
namespace Go.SF.C19
open Go Go.SF Go.Proofs
set_option linter.unusedVariables false
set_option linter.unusedSimpArgs false

set_option maxRecDepth 100000 in
theorem cLinked_obs : callObs Φ Try.prog q18 1000 cLinked.f cLinked.vs cLinked.o cLinked.pc cLinked.outs = some
  [{
      pc :=
        [SB.lt
            (SI.app 142
              (SA.l
                (SL.app 140
                  (SA.l (SL.v 0)
                    (SA.l
                      (SL.lit
                        [[Int.ofNat 0], [Int.ofNat 0], [Int.ofNat 0], [Int.ofNat 0], [Int.ofNat 0], [Int.ofNat 0],
                          [Int.ofNat 0], [Int.ofNat 0], [Int.ofNat 0], [Int.ofNat 0], [Int.ofNat 0], [Int.ofNat 0],
                          [Int.ofNat 0], [Int.ofNat 0], [Int.ofNat 0], [Int.ofNat 0], [Int.ofNat 0]])
                      (SA.i (SI.c (Int.ofNat 18)) (SA.i (SI.v 0) SA.nil)))))
                SA.nil))
            (SI.c (Int.ofNat 18)),
          SB.eq
            (SI.len
              (SL.app 140
                (SA.l (SL.v 0)
                  (SA.l
                    (SL.lit
                      [[Int.ofNat 0], [Int.ofNat 0], [Int.ofNat 0], [Int.ofNat 0], [Int.ofNat 0], [Int.ofNat 0],
                        [Int.ofNat 0], [Int.ofNat 0], [Int.ofNat 0], [Int.ofNat 0], [Int.ofNat 0], [Int.ofNat 0],
                        [Int.ofNat 0], [Int.ofNat 0], [Int.ofNat 0], [Int.ofNat 0], [Int.ofNat 0]])
                    (SA.i (SI.c (Int.ofNat 18)) (SA.i (SI.v 0) SA.nil))))))
            (SI.c (Int.ofNat 17)),
          SB.le (SI.v 1) (SI.c (Int.ofNat 16)), SB.le (SI.c (Int.ofNat 1)) (SI.v 1),
          SB.le (SI.v 0) (SI.c (Int.ofNat 16)), SB.le (SI.c (Int.ofNat 1)) (SI.v 0),
          SB.le (SI.c (Int.ofNat 1)) (SI.len (SL.v 0)), SB.le (SI.len (SL.v 0)) (SI.c (Int.ofNat 64)), SB.c true,
          SB.app 140 (SA.l (SL.v 0) SA.nil)],
      eqs :=
        [Eqn.B (SB.app 141 (SA.l (SL.v 0) (SA.i (SI.v 0) (SA.i (SI.v 1) SA.nil))))
            (SB.not
              (SB.eq
                (SI.sel
                  (SL.app 140
                    (SA.l (SL.v 0)
                      (SA.l
                        (SL.lit
                          [[Int.ofNat 0], [Int.ofNat 0], [Int.ofNat 0], [Int.ofNat 0], [Int.ofNat 0], [Int.ofNat 0],
                            [Int.ofNat 0], [Int.ofNat 0], [Int.ofNat 0], [Int.ofNat 0], [Int.ofNat 0], [Int.ofNat 0],
                            [Int.ofNat 0], [Int.ofNat 0], [Int.ofNat 0], [Int.ofNat 0], [Int.ofNat 0]])
                        (SA.i (SI.c (Int.ofNat 18)) (SA.i (SI.v 0) SA.nil)))))
                  (SI.v 1) 0)
                (SI.c (Int.ofNat 0))))] },
    {
      pc :=
        [SB.not (SB.le (SI.v 1) (SI.c (Int.ofNat 16))), SB.le (SI.c (Int.ofNat 1)) (SI.v 1),
          SB.le (SI.v 0) (SI.c (Int.ofNat 16)), SB.le (SI.c (Int.ofNat 1)) (SI.v 0),
          SB.le (SI.c (Int.ofNat 1)) (SI.len (SL.v 0)), SB.le (SI.len (SL.v 0)) (SI.c (Int.ofNat 64)), SB.c true,
          SB.app 140 (SA.l (SL.v 0) SA.nil)],
      eqs := [Eqn.B (SB.app 141 (SA.l (SL.v 0) (SA.i (SI.v 0) (SA.i (SI.v 1) SA.nil)))) (SB.c false)] },
    {
      pc :=
        [SB.not (SB.le (SI.c (Int.ofNat 1)) (SI.v 1)), SB.le (SI.v 0) (SI.c (Int.ofNat 16)),
          SB.le (SI.c (Int.ofNat 1)) (SI.v 0), SB.le (SI.c (Int.ofNat 1)) (SI.len (SL.v 0)),
          SB.le (SI.len (SL.v 0)) (SI.c (Int.ofNat 64)), SB.c true, SB.app 140 (SA.l (SL.v 0) SA.nil)],
      eqs := [Eqn.B (SB.app 141 (SA.l (SL.v 0) (SA.i (SI.v 0) (SA.i (SI.v 1) SA.nil)))) (SB.c false)] },
    {
      pc :=
        [SB.not (SB.le (SI.v 0) (SI.c (Int.ofNat 16))), SB.le (SI.c (Int.ofNat 1)) (SI.v 0),
          SB.le (SI.c (Int.ofNat 1)) (SI.len (SL.v 0)), SB.le (SI.len (SL.v 0)) (SI.c (Int.ofNat 64)), SB.c true,
          SB.app 140 (SA.l (SL.v 0) SA.nil)],
      eqs := [Eqn.B (SB.app 141 (SA.l (SL.v 0) (SA.i (SI.v 0) (SA.i (SI.v 1) SA.nil)))) (SB.c false)] },
    {
      pc :=
        [SB.not (SB.le (SI.c (Int.ofNat 1)) (SI.v 0)), SB.le (SI.c (Int.ofNat 1)) (SI.len (SL.v 0)),
          SB.le (SI.len (SL.v 0)) (SI.c (Int.ofNat 64)), SB.c true, SB.app 140 (SA.l (SL.v 0) SA.nil)],
      eqs := [Eqn.B (SB.app 141 (SA.l (SL.v 0) (SA.i (SI.v 0) (SA.i (SI.v 1) SA.nil)))) (SB.c false)] }] := by kernel_rfl
theorem cLinked_ok : cLinked.ok Φ Try.prog := by
  refine call_rule (fun ρ => q18_ok ρ) cLinked_obs ?_
  simp only [and_imp, List.forall_mem_cons, List.not_mem_nil, false_implies, implies_true, and_true, Ob.ok, holds, Eqn.ok, evB_eq, evB_lt, evB_le, evB_not, evB_and, evB_or, evB_eqL, evB_app, evB_v, evB_c, ev_sel, ev_len, ev_v, ev_c, ev_add, ev_sub, ev_mul, ev_quo, ev_rem, ev_bits, ev_wrap, evL_v, evL_lit, evL_app, ev_app, evA_l, evA_i, evA_nil, std_min, std_max, std_cat, std_take, std_drop, std_row, std_set, std_rep, std_find, std_put, std_del, std_flag, std_unflag, std_clr, std_left, std_copy, ints_cons, ints_nil, ofNat_lit, negSucc_lit, decide_eq_true_eq, Bool.and_eq_true, Bool.or_eq_true, Bool.not_eq_true', Bool.and_eq_false_iff, Bool.or_eq_false_iff, decide_eq_false_iff_not, aI110, aI111, aI112, aI113, aI114, aL100, aL101, aL102, aL103, aL110, aL112, aL113, aL114, aL115, aL116, aB130, aB131, aB132, aB199, aI142, aL140, aL141, aL143, aL144, aB140, aB141, aI150, aL150, aB150]
  repeat' apply And.intro
  all_goals intro ρ hR
  all_goals intros
  all_goals first
    | (exact link_l (by omega))
    | (exact link_r (by omega))
    | (exact link_at (by omega) (by omega) (by assumption))
theorem r0_ok (ρ : Env) : TblOK Φ ρ Try.prog r0 := addFn_ok (t6_ok ρ) cLinked_ok
set_option maxRecDepth 100000 in
theorem gl0_obs : loopObs Φ Try.prog r0 1000 gl0.f (loopAt Try.prog gl0.f gl0.id) gl0.n gl0.T k3 gl0.outs = some
  [{
      pc :=
        [SB.eq
            (SI.len
              (SL.app 110
                (SA.l (SL.v 0)
                  (SA.i (SI.sel (SL.v 9) (SI.v 0) 1)
                    (SA.i (SI.sel (SL.v 9) (SI.v 0) 3)
                      (SA.i (SI.sel (SL.v 9) (SI.v 0) 2) (SA.i (SI.c (Int.ofNat 1)) SA.nil)))))))
            (SI.len (SL.v 0)),
          SB.lt (SI.v 0) (SI.c (Int.ofNat 60)), SB.lt (SI.v 0) (SI.len (SL.v 9)), SB.le (SI.c (Int.ofNat 0)) (SI.v 0),
          SB.le (SI.v 0) (SI.c (Int.ofNat 60)), SB.eq (SI.len (SL.v 0)) (SI.c (Int.ofNat 64)), SB.c true,
          SB.app 140 (SA.l (SL.v 0) SA.nil)],
      eqs :=
        [Eqn.T
            (SB.lt (SI.sub (SI.c (Int.ofNat 60)) (SI.add (SI.v 0) (SI.c (Int.ofNat 1))))
              (SI.sub (SI.c (Int.ofNat 60)) (SI.v 0))),
          Eqn.T
            (SB.app 140
              (SA.l
                (SL.app 110
                  (SA.l (SL.v 0)
                    (SA.i (SI.sel (SL.v 9) (SI.v 0) 1)
                      (SA.i (SI.sel (SL.v 9) (SI.v 0) 3)
                        (SA.i (SI.sel (SL.v 9) (SI.v 0) 2) (SA.i (SI.c (Int.ofNat 1)) SA.nil))))))
                SA.nil))] }] := by kernel_rfl
theorem gl0_ok : gl0.ok Φ Try.prog := by
  refine ⟨by kernel_rfl, loop_rule (fun ρ => r0_ok ρ) (loopAt_sub (by kernel_rfl)) gl0_obs ?_⟩
  simp only [and_imp, List.forall_mem_cons, List.not_mem_nil, false_implies, implies_true, and_true, Ob.ok, holds, Eqn.ok, evB_eq, evB_lt, evB_le, evB_not, evB_and, evB_or, evB_eqL, evB_app, evB_v, evB_c, ev_sel, ev_len, ev_v, ev_c, ev_add, ev_sub, ev_mul, ev_quo, ev_rem, ev_bits, ev_wrap, evL_v, evL_lit, evL_app, ev_app, evA_l, evA_i, evA_nil, std_min, std_max, std_cat, std_take, std_drop, std_row, std_set, std_rep, std_find, std_put, std_del, std_flag, std_unflag, std_clr, std_left, std_copy, ints_cons, ints_nil, ofNat_lit, negSucc_lit, decide_eq_true_eq, Bool.and_eq_true, Bool.or_eq_true, Bool.not_eq_true', Bool.and_eq_false_iff, Bool.or_eq_false_iff, decide_eq_false_iff_not, aI110, aI111, aI112, aI113, aI114, aL100, aL101, aL102, aL103, aL110, aL112, aL113, aL114, aL115, aL116, aB130, aB131, aB132, aB199, aI142, aL140, aL141, aL143, aL144, aB140, aB141, aI150, aL150, aB150]
  repeat' apply And.intro
  all_goals intro ρ hR
  all_goals intros
  all_goals first
    | (exact ⟨by omega, okGB_off (by with_reducible assumption) _ _ _ _⟩)
theorem r1_ok (ρ : Env) : TblOK Φ ρ Try.prog r1 := addLp_ok (r0_ok ρ) gl0_ok
set_option maxRecDepth 100000 in
theorem lLinks0_obs : callObs Φ Try.prog r1 1000 lLinks0.f lLinks0.vs lLinks0.o lLinks0.pc lLinks0.outs = some
  [{
      pc :=
        [SB.app 141
            (SA.l
              (SL.app 116
                (SA.l (SL.v 1000) (SA.i (SI.add (SI.rem (SI.v 20) (SI.c (Int.ofNat 16))) (SI.c (Int.ofNat 1))) SA.nil)))
              (SA.i (SI.c (Int.ofNat 0))
                (SA.i (SI.add (SI.rem (SI.v 20) (SI.c (Int.ofNat 16))) (SI.c (Int.ofNat 1))) SA.nil))),
          SB.app 140
            (SA.l
              (SL.app 116
                (SA.l (SL.v 1000) (SA.i (SI.add (SI.rem (SI.v 20) (SI.c (Int.ofNat 16))) (SI.c (Int.ofNat 1))) SA.nil)))
              SA.nil),
          SB.eq (SI.add (SI.rem (SI.v 20) (SI.c (Int.ofNat 16))) (SI.c (Int.ofNat 1)))
            (SI.add (SI.rem (SI.v 21) (SI.c (Int.ofNat 16))) (SI.c (Int.ofNat 1))),
          SB.le
            (SI.len
              (SL.app 102
                (SA.l (SL.v 1000)
                  (SA.i (SI.c (Int.ofNat 0))
                    (SA.i (SI.add (SI.rem (SI.v 20) (SI.c (Int.ofNat 16))) (SI.c (Int.ofNat 1))) SA.nil)))))
            (SI.len (SL.v 1000)),
          SB.eq
            (SI.len
              (SL.app 116
                (SA.l (SL.v 1000)
                  (SA.i (SI.add (SI.rem (SI.v 20) (SI.c (Int.ofNat 16))) (SI.c (Int.ofNat 1))) SA.nil))))
            (SI.len (SL.v 1000)),
          SB.app 141
            (SA.l (SL.v 1000)
              (SA.i (SI.add (SI.rem (SI.v 20) (SI.c (Int.ofNat 16))) (SI.c (Int.ofNat 1)))
                (SA.i (SI.add (SI.rem (SI.v 22) (SI.c (Int.ofNat 16))) (SI.c (Int.ofNat 1))) SA.nil))),
          SB.app 141
            (SA.l (SL.v 1000)
              (SA.i (SI.add (SI.rem (SI.v 21) (SI.c (Int.ofNat 16))) (SI.c (Int.ofNat 1)))
                (SA.i (SI.add (SI.rem (SI.v 22) (SI.c (Int.ofNat 16))) (SI.c (Int.ofNat 1))) SA.nil))),
          SB.app 141
            (SA.l (SL.v 1000)
              (SA.i (SI.add (SI.rem (SI.v 20) (SI.c (Int.ofNat 16))) (SI.c (Int.ofNat 1)))
                (SA.i (SI.add (SI.rem (SI.v 20) (SI.c (Int.ofNat 16))) (SI.c (Int.ofNat 1))) SA.nil))),
          SB.app 141
            (SA.l (SL.v 1000)
              (SA.i (SI.add (SI.rem (SI.v 21) (SI.c (Int.ofNat 16))) (SI.c (Int.ofNat 1)))
                (SA.i (SI.add (SI.rem (SI.v 20) (SI.c (Int.ofNat 16))) (SI.c (Int.ofNat 1))) SA.nil))),
          SB.app 141
            (SA.l (SL.v 1000)
              (SA.i (SI.add (SI.rem (SI.v 20) (SI.c (Int.ofNat 16))) (SI.c (Int.ofNat 1)))
                (SA.i (SI.add (SI.rem (SI.v 21) (SI.c (Int.ofNat 16))) (SI.c (Int.ofNat 1))) SA.nil))),
          SB.app 140 (SA.l (SL.v 1000) SA.nil), SB.eq (SI.len (SL.v 1000)) (SI.c (Int.ofNat 64)),
          SB.le (SI.c (Int.ofNat 0)) (SI.v 20), SB.le (SI.v 20) (SI.c (Int.ofNat 255)),
          SB.le (SI.c (Int.ofNat 0)) (SI.v 21), SB.le (SI.v 21) (SI.c (Int.ofNat 255)),
          SB.le (SI.c (Int.ofNat 0)) (SI.v 22), SB.le (SI.v 22) (SI.c (Int.ofNat 255))],
      eqs := [Eqn.T (SB.app 199 SA.nil)] },
    {
      pc :=
        [SB.app 141
            (SA.l
              (SL.app 116
                (SA.l (SL.v 1000) (SA.i (SI.add (SI.rem (SI.v 20) (SI.c (Int.ofNat 16))) (SI.c (Int.ofNat 1))) SA.nil)))
              (SA.i (SI.add (SI.rem (SI.v 20) (SI.c (Int.ofNat 16))) (SI.c (Int.ofNat 1)))
                (SA.i (SI.c (Int.ofNat 17)) SA.nil))),
          SB.not
            (SB.app 141
              (SA.l
                (SL.app 116
                  (SA.l (SL.v 1000)
                    (SA.i (SI.add (SI.rem (SI.v 20) (SI.c (Int.ofNat 16))) (SI.c (Int.ofNat 1))) SA.nil)))
                (SA.i (SI.c (Int.ofNat 0))
                  (SA.i (SI.add (SI.rem (SI.v 20) (SI.c (Int.ofNat 16))) (SI.c (Int.ofNat 1))) SA.nil)))),
          SB.app 140
            (SA.l
              (SL.app 116
                (SA.l (SL.v 1000) (SA.i (SI.add (SI.rem (SI.v 20) (SI.c (Int.ofNat 16))) (SI.c (Int.ofNat 1))) SA.nil)))
              SA.nil),
          SB.eq (SI.add (SI.rem (SI.v 20) (SI.c (Int.ofNat 16))) (SI.c (Int.ofNat 1)))
            (SI.add (SI.rem (SI.v 21) (SI.c (Int.ofNat 16))) (SI.c (Int.ofNat 1))),
          SB.le
            (SI.len
              (SL.app 102
                (SA.l (SL.v 1000)
                  (SA.i (SI.c (Int.ofNat 0))
                    (SA.i (SI.add (SI.rem (SI.v 20) (SI.c (Int.ofNat 16))) (SI.c (Int.ofNat 1))) SA.nil)))))
            (SI.len (SL.v 1000)),
          SB.eq
            (SI.len
              (SL.app 116
                (SA.l (SL.v 1000)
                  (SA.i (SI.add (SI.rem (SI.v 20) (SI.c (Int.ofNat 16))) (SI.c (Int.ofNat 1))) SA.nil))))
            (SI.len (SL.v 1000)),
          SB.app 141
            (SA.l (SL.v 1000)
              (SA.i (SI.add (SI.rem (SI.v 20) (SI.c (Int.ofNat 16))) (SI.c (Int.ofNat 1)))
                (SA.i (SI.add (SI.rem (SI.v 22) (SI.c (Int.ofNat 16))) (SI.c (Int.ofNat 1))) SA.nil))),
          SB.app 141
            (SA.l (SL.v 1000)
              (SA.i (SI.add (SI.rem (SI.v 21) (SI.c (Int.ofNat 16))) (SI.c (Int.ofNat 1)))
                (SA.i (SI.add (SI.rem (SI.v 22) (SI.c (Int.ofNat 16))) (SI.c (Int.ofNat 1))) SA.nil))),
          SB.app 141
            (SA.l (SL.v 1000)
              (SA.i (SI.add (SI.rem (SI.v 20) (SI.c (Int.ofNat 16))) (SI.c (Int.ofNat 1)))
                (SA.i (SI.add (SI.rem (SI.v 20) (SI.c (Int.ofNat 16))) (SI.c (Int.ofNat 1))) SA.nil))),
          SB.app 141
            (SA.l (SL.v 1000)
              (SA.i (SI.add (SI.rem (SI.v 21) (SI.c (Int.ofNat 16))) (SI.c (Int.ofNat 1)))
                (SA.i (SI.add (SI.rem (SI.v 20) (SI.c (Int.ofNat 16))) (SI.c (Int.ofNat 1))) SA.nil))),
          SB.app 141
            (SA.l (SL.v 1000)
              (SA.i (SI.add (SI.rem (SI.v 20) (SI.c (Int.ofNat 16))) (SI.c (Int.ofNat 1)))
                (SA.i (SI.add (SI.rem (SI.v 21) (SI.c (Int.ofNat 16))) (SI.c (Int.ofNat 1))) SA.nil))),
          SB.app 140 (SA.l (SL.v 1000) SA.nil), SB.eq (SI.len (SL.v 1000)) (SI.c (Int.ofNat 64)),
          SB.le (SI.c (Int.ofNat 0)) (SI.v 20), SB.le (SI.v 20) (SI.c (Int.ofNat 255)),
          SB.le (SI.c (Int.ofNat 0)) (SI.v 21), SB.le (SI.v 21) (SI.c (Int.ofNat 255)),
          SB.le (SI.c (Int.ofNat 0)) (SI.v 22), SB.le (SI.v 22) (SI.c (Int.ofNat 255))],
      eqs := [Eqn.T (SB.app 199 SA.nil)] },
    {
      pc :=
        [SB.not
            (SB.app 140
              (SA.l
                (SL.app 116
                  (SA.l (SL.v 1000)
                    (SA.i (SI.add (SI.rem (SI.v 20) (SI.c (Int.ofNat 16))) (SI.c (Int.ofNat 1))) SA.nil)))
                SA.nil)),
          SB.eq (SI.add (SI.rem (SI.v 20) (SI.c (Int.ofNat 16))) (SI.c (Int.ofNat 1)))
            (SI.add (SI.rem (SI.v 21) (SI.c (Int.ofNat 16))) (SI.c (Int.ofNat 1))),
          SB.le
            (SI.len
              (SL.app 102
                (SA.l (SL.v 1000)
                  (SA.i (SI.c (Int.ofNat 0))
                    (SA.i (SI.add (SI.rem (SI.v 20) (SI.c (Int.ofNat 16))) (SI.c (Int.ofNat 1))) SA.nil)))))
            (SI.len (SL.v 1000)),
          SB.eq
            (SI.len
              (SL.app 116
                (SA.l (SL.v 1000)
                  (SA.i (SI.add (SI.rem (SI.v 20) (SI.c (Int.ofNat 16))) (SI.c (Int.ofNat 1))) SA.nil))))
            (SI.len (SL.v 1000)),
          SB.app 141
            (SA.l (SL.v 1000)
              (SA.i (SI.add (SI.rem (SI.v 20) (SI.c (Int.ofNat 16))) (SI.c (Int.ofNat 1)))
                (SA.i (SI.add (SI.rem (SI.v 22) (SI.c (Int.ofNat 16))) (SI.c (Int.ofNat 1))) SA.nil))),
          SB.app 141
            (SA.l (SL.v 1000)
              (SA.i (SI.add (SI.rem (SI.v 21) (SI.c (Int.ofNat 16))) (SI.c (Int.ofNat 1)))
                (SA.i (SI.add (SI.rem (SI.v 22) (SI.c (Int.ofNat 16))) (SI.c (Int.ofNat 1))) SA.nil))),
          SB.app 141
            (SA.l (SL.v 1000)
              (SA.i (SI.add (SI.rem (SI.v 20) (SI.c (Int.ofNat 16))) (SI.c (Int.ofNat 1)))
                (SA.i (SI.add (SI.rem (SI.v 20) (SI.c (Int.ofNat 16))) (SI.c (Int.ofNat 1))) SA.nil))),
          SB.app 141
            (SA.l (SL.v 1000)
              (SA.i (SI.add (SI.rem (SI.v 21) (SI.c (Int.ofNat 16))) (SI.c (Int.ofNat 1)))
                (SA.i (SI.add (SI.rem (SI.v 20) (SI.c (Int.ofNat 16))) (SI.c (Int.ofNat 1))) SA.nil))),
          SB.app 141
            (SA.l (SL.v 1000)
              (SA.i (SI.add (SI.rem (SI.v 20) (SI.c (Int.ofNat 16))) (SI.c (Int.ofNat 1)))
                (SA.i (SI.add (SI.rem (SI.v 21) (SI.c (Int.ofNat 16))) (SI.c (Int.ofNat 1))) SA.nil))),
          SB.app 140 (SA.l (SL.v 1000) SA.nil), SB.eq (SI.len (SL.v 1000)) (SI.c (Int.ofNat 64)),
          SB.le (SI.c (Int.ofNat 0)) (SI.v 20), SB.le (SI.v 20) (SI.c (Int.ofNat 255)),
          SB.le (SI.c (Int.ofNat 0)) (SI.v 21), SB.le (SI.v 21) (SI.c (Int.ofNat 255)),
          SB.le (SI.c (Int.ofNat 0)) (SI.v 22), SB.le (SI.v 22) (SI.c (Int.ofNat 255))],
      eqs := [Eqn.T (SB.c false)] },
    {
      pc :=
        [SB.app 141
            (SA.l
              (SL.app 116
                (SA.l (SL.v 1000) (SA.i (SI.add (SI.rem (SI.v 20) (SI.c (Int.ofNat 16))) (SI.c (Int.ofNat 1))) SA.nil)))
              (SA.i (SI.add (SI.rem (SI.v 20) (SI.c (Int.ofNat 16))) (SI.c (Int.ofNat 1)))
                (SA.i (SI.add (SI.rem (SI.v 21) (SI.c (Int.ofNat 16))) (SI.c (Int.ofNat 1))) SA.nil))),
          SB.app 140
            (SA.l
              (SL.app 116
                (SA.l (SL.v 1000) (SA.i (SI.add (SI.rem (SI.v 20) (SI.c (Int.ofNat 16))) (SI.c (Int.ofNat 1))) SA.nil)))
              SA.nil),
          SB.not
            (SB.eq (SI.add (SI.rem (SI.v 20) (SI.c (Int.ofNat 16))) (SI.c (Int.ofNat 1)))
              (SI.add (SI.rem (SI.v 21) (SI.c (Int.ofNat 16))) (SI.c (Int.ofNat 1)))),
          SB.le
            (SI.len
              (SL.app 102
                (SA.l (SL.v 1000)
                  (SA.i (SI.c (Int.ofNat 0))
                    (SA.i (SI.add (SI.rem (SI.v 20) (SI.c (Int.ofNat 16))) (SI.c (Int.ofNat 1))) SA.nil)))))
            (SI.len (SL.v 1000)),
          SB.eq
            (SI.len
              (SL.app 116
                (SA.l (SL.v 1000)
                  (SA.i (SI.add (SI.rem (SI.v 20) (SI.c (Int.ofNat 16))) (SI.c (Int.ofNat 1))) SA.nil))))
            (SI.len (SL.v 1000)),
          SB.app 141
            (SA.l (SL.v 1000)
              (SA.i (SI.add (SI.rem (SI.v 20) (SI.c (Int.ofNat 16))) (SI.c (Int.ofNat 1)))
                (SA.i (SI.add (SI.rem (SI.v 22) (SI.c (Int.ofNat 16))) (SI.c (Int.ofNat 1))) SA.nil))),
          SB.app 141
            (SA.l (SL.v 1000)
              (SA.i (SI.add (SI.rem (SI.v 21) (SI.c (Int.ofNat 16))) (SI.c (Int.ofNat 1)))
                (SA.i (SI.add (SI.rem (SI.v 22) (SI.c (Int.ofNat 16))) (SI.c (Int.ofNat 1))) SA.nil))),
          SB.app 141
            (SA.l (SL.v 1000)
              (SA.i (SI.add (SI.rem (SI.v 20) (SI.c (Int.ofNat 16))) (SI.c (Int.ofNat 1)))
                (SA.i (SI.add (SI.rem (SI.v 20) (SI.c (Int.ofNat 16))) (SI.c (Int.ofNat 1))) SA.nil))),
          SB.app 141
            (SA.l (SL.v 1000)
              (SA.i (SI.add (SI.rem (SI.v 21) (SI.c (Int.ofNat 16))) (SI.c (Int.ofNat 1)))
                (SA.i (SI.add (SI.rem (SI.v 20) (SI.c (Int.ofNat 16))) (SI.c (Int.ofNat 1))) SA.nil))),
          SB.app 141
            (SA.l (SL.v 1000)
              (SA.i (SI.add (SI.rem (SI.v 20) (SI.c (Int.ofNat 16))) (SI.c (Int.ofNat 1)))
                (SA.i (SI.add (SI.rem (SI.v 21) (SI.c (Int.ofNat 16))) (SI.c (Int.ofNat 1))) SA.nil))),
          SB.app 140 (SA.l (SL.v 1000) SA.nil), SB.eq (SI.len (SL.v 1000)) (SI.c (Int.ofNat 64)),
          SB.le (SI.c (Int.ofNat 0)) (SI.v 20), SB.le (SI.v 20) (SI.c (Int.ofNat 255)),
          SB.le (SI.c (Int.ofNat 0)) (SI.v 21), SB.le (SI.v 21) (SI.c (Int.ofNat 255)),
          SB.le (SI.c (Int.ofNat 0)) (SI.v 22), SB.le (SI.v 22) (SI.c (Int.ofNat 255))],
      eqs := [Eqn.T (SB.app 199 SA.nil)] },
    {
      pc :=
        [SB.app 141
            (SA.l
              (SL.app 116
                (SA.l (SL.v 1000) (SA.i (SI.add (SI.rem (SI.v 20) (SI.c (Int.ofNat 16))) (SI.c (Int.ofNat 1))) SA.nil)))
              (SA.i (SI.c (Int.ofNat 0))
                (SA.i (SI.add (SI.rem (SI.v 20) (SI.c (Int.ofNat 16))) (SI.c (Int.ofNat 1))) SA.nil))),
          SB.not
            (SB.app 141
              (SA.l
                (SL.app 116
                  (SA.l (SL.v 1000)
                    (SA.i (SI.add (SI.rem (SI.v 20) (SI.c (Int.ofNat 16))) (SI.c (Int.ofNat 1))) SA.nil)))
                (SA.i (SI.add (SI.rem (SI.v 20) (SI.c (Int.ofNat 16))) (SI.c (Int.ofNat 1)))
                  (SA.i (SI.add (SI.rem (SI.v 21) (SI.c (Int.ofNat 16))) (SI.c (Int.ofNat 1))) SA.nil)))),
          SB.app 140
            (SA.l
              (SL.app 116
                (SA.l (SL.v 1000) (SA.i (SI.add (SI.rem (SI.v 20) (SI.c (Int.ofNat 16))) (SI.c (Int.ofNat 1))) SA.nil)))
              SA.nil),
          SB.not
            (SB.eq (SI.add (SI.rem (SI.v 20) (SI.c (Int.ofNat 16))) (SI.c (Int.ofNat 1)))
              (SI.add (SI.rem (SI.v 21) (SI.c (Int.ofNat 16))) (SI.c (Int.ofNat 1)))),
          SB.le
            (SI.len
              (SL.app 102
                (SA.l (SL.v 1000)
                  (SA.i (SI.c (Int.ofNat 0))
                    (SA.i (SI.add (SI.rem (SI.v 20) (SI.c (Int.ofNat 16))) (SI.c (Int.ofNat 1))) SA.nil)))))
            (SI.len (SL.v 1000)),
          SB.eq
            (SI.len
              (SL.app 116
                (SA.l (SL.v 1000)
                  (SA.i (SI.add (SI.rem (SI.v 20) (SI.c (Int.ofNat 16))) (SI.c (Int.ofNat 1))) SA.nil))))
            (SI.len (SL.v 1000)),
          SB.app 141
            (SA.l (SL.v 1000)
              (SA.i (SI.add (SI.rem (SI.v 20) (SI.c (Int.ofNat 16))) (SI.c (Int.ofNat 1)))
                (SA.i (SI.add (SI.rem (SI.v 22) (SI.c (Int.ofNat 16))) (SI.c (Int.ofNat 1))) SA.nil))),
          SB.app 141
            (SA.l (SL.v 1000)
              (SA.i (SI.add (SI.rem (SI.v 21) (SI.c (Int.ofNat 16))) (SI.c (Int.ofNat 1)))
                (SA.i (SI.add (SI.rem (SI.v 22) (SI.c (Int.ofNat 16))) (SI.c (Int.ofNat 1))) SA.nil))),
          SB.app 141
            (SA.l (SL.v 1000)
              (SA.i (SI.add (SI.rem (SI.v 20) (SI.c (Int.ofNat 16))) (SI.c (Int.ofNat 1)))
                (SA.i (SI.add (SI.rem (SI.v 20) (SI.c (Int.ofNat 16))) (SI.c (Int.ofNat 1))) SA.nil))),
          SB.app 141
            (SA.l (SL.v 1000)
              (SA.i (SI.add (SI.rem (SI.v 21) (SI.c (Int.ofNat 16))) (SI.c (Int.ofNat 1)))
                (SA.i (SI.add (SI.rem (SI.v 20) (SI.c (Int.ofNat 16))) (SI.c (Int.ofNat 1))) SA.nil))),
          SB.app 141
            (SA.l (SL.v 1000)
              (SA.i (SI.add (SI.rem (SI.v 20) (SI.c (Int.ofNat 16))) (SI.c (Int.ofNat 1)))
                (SA.i (SI.add (SI.rem (SI.v 21) (SI.c (Int.ofNat 16))) (SI.c (Int.ofNat 1))) SA.nil))),
          SB.app 140 (SA.l (SL.v 1000) SA.nil), SB.eq (SI.len (SL.v 1000)) (SI.c (Int.ofNat 64)),
          SB.le (SI.c (Int.ofNat 0)) (SI.v 20), SB.le (SI.v 20) (SI.c (Int.ofNat 255)),
          SB.le (SI.c (Int.ofNat 0)) (SI.v 21), SB.le (SI.v 21) (SI.c (Int.ofNat 255)),
          SB.le (SI.c (Int.ofNat 0)) (SI.v 22), SB.le (SI.v 22) (SI.c (Int.ofNat 255))],
      eqs := [Eqn.T (SB.app 199 SA.nil)] },
    {
      pc :=
        [SB.app 141
            (SA.l
              (SL.app 116
                (SA.l (SL.v 1000) (SA.i (SI.add (SI.rem (SI.v 20) (SI.c (Int.ofNat 16))) (SI.c (Int.ofNat 1))) SA.nil)))
              (SA.i (SI.add (SI.rem (SI.v 20) (SI.c (Int.ofNat 16))) (SI.c (Int.ofNat 1)))
                (SA.i (SI.c (Int.ofNat 17)) SA.nil))),
          SB.not
            (SB.app 141
              (SA.l
                (SL.app 116
                  (SA.l (SL.v 1000)
                    (SA.i (SI.add (SI.rem (SI.v 20) (SI.c (Int.ofNat 16))) (SI.c (Int.ofNat 1))) SA.nil)))
                (SA.i (SI.c (Int.ofNat 0))
                  (SA.i (SI.add (SI.rem (SI.v 20) (SI.c (Int.ofNat 16))) (SI.c (Int.ofNat 1))) SA.nil)))),
          SB.not
            (SB.app 141
              (SA.l
                (SL.app 116
                  (SA.l (SL.v 1000)
                    (SA.i (SI.add (SI.rem (SI.v 20) (SI.c (Int.ofNat 16))) (SI.c (Int.ofNat 1))) SA.nil)))
                (SA.i (SI.add (SI.rem (SI.v 20) (SI.c (Int.ofNat 16))) (SI.c (Int.ofNat 1)))
                  (SA.i (SI.add (SI.rem (SI.v 21) (SI.c (Int.ofNat 16))) (SI.c (Int.ofNat 1))) SA.nil)))),
          SB.app 140
            (SA.l
              (SL.app 116
                (SA.l (SL.v 1000) (SA.i (SI.add (SI.rem (SI.v 20) (SI.c (Int.ofNat 16))) (SI.c (Int.ofNat 1))) SA.nil)))
              SA.nil),
          SB.not
            (SB.eq (SI.add (SI.rem (SI.v 20) (SI.c (Int.ofNat 16))) (SI.c (Int.ofNat 1)))
              (SI.add (SI.rem (SI.v 21) (SI.c (Int.ofNat 16))) (SI.c (Int.ofNat 1)))),
          SB.le
            (SI.len
              (SL.app 102
                (SA.l (SL.v 1000)
                  (SA.i (SI.c (Int.ofNat 0))
                    (SA.i (SI.add (SI.rem (SI.v 20) (SI.c (Int.ofNat 16))) (SI.c (Int.ofNat 1))) SA.nil)))))
            (SI.len (SL.v 1000)),
          SB.eq
            (SI.len
              (SL.app 116
                (SA.l (SL.v 1000)
                  (SA.i (SI.add (SI.rem (SI.v 20) (SI.c (Int.ofNat 16))) (SI.c (Int.ofNat 1))) SA.nil))))
            (SI.len (SL.v 1000)),
          SB.app 141
            (SA.l (SL.v 1000)
              (SA.i (SI.add (SI.rem (SI.v 20) (SI.c (Int.ofNat 16))) (SI.c (Int.ofNat 1)))
                (SA.i (SI.add (SI.rem (SI.v 22) (SI.c (Int.ofNat 16))) (SI.c (Int.ofNat 1))) SA.nil))),
          SB.app 141
            (SA.l (SL.v 1000)
              (SA.i (SI.add (SI.rem (SI.v 21) (SI.c (Int.ofNat 16))) (SI.c (Int.ofNat 1)))
                (SA.i (SI.add (SI.rem (SI.v 22) (SI.c (Int.ofNat 16))) (SI.c (Int.ofNat 1))) SA.nil))),
          SB.app 141
            (SA.l (SL.v 1000)
              (SA.i (SI.add (SI.rem (SI.v 20) (SI.c (Int.ofNat 16))) (SI.c (Int.ofNat 1)))
                (SA.i (SI.add (SI.rem (SI.v 20) (SI.c (Int.ofNat 16))) (SI.c (Int.ofNat 1))) SA.nil))),
          SB.app 141
            (SA.l (SL.v 1000)
              (SA.i (SI.add (SI.rem (SI.v 21) (SI.c (Int.ofNat 16))) (SI.c (Int.ofNat 1)))
                (SA.i (SI.add (SI.rem (SI.v 20) (SI.c (Int.ofNat 16))) (SI.c (Int.ofNat 1))) SA.nil))),
          SB.app 141
            (SA.l (SL.v 1000)
              (SA.i (SI.add (SI.rem (SI.v 20) (SI.c (Int.ofNat 16))) (SI.c (Int.ofNat 1)))
                (SA.i (SI.add (SI.rem (SI.v 21) (SI.c (Int.ofNat 16))) (SI.c (Int.ofNat 1))) SA.nil))),
          SB.app 140 (SA.l (SL.v 1000) SA.nil), SB.eq (SI.len (SL.v 1000)) (SI.c (Int.ofNat 64)),
          SB.le (SI.c (Int.ofNat 0)) (SI.v 20), SB.le (SI.v 20) (SI.c (Int.ofNat 255)),
          SB.le (SI.c (Int.ofNat 0)) (SI.v 21), SB.le (SI.v 21) (SI.c (Int.ofNat 255)),
          SB.le (SI.c (Int.ofNat 0)) (SI.v 22), SB.le (SI.v 22) (SI.c (Int.ofNat 255))],
      eqs := [Eqn.T (SB.app 199 SA.nil)] },
    {
      pc :=
        [SB.not
            (SB.app 140
              (SA.l
                (SL.app 116
                  (SA.l (SL.v 1000)
                    (SA.i (SI.add (SI.rem (SI.v 20) (SI.c (Int.ofNat 16))) (SI.c (Int.ofNat 1))) SA.nil)))
                SA.nil)),
          SB.not
            (SB.eq (SI.add (SI.rem (SI.v 20) (SI.c (Int.ofNat 16))) (SI.c (Int.ofNat 1)))
              (SI.add (SI.rem (SI.v 21) (SI.c (Int.ofNat 16))) (SI.c (Int.ofNat 1)))),
          SB.le
            (SI.len
              (SL.app 102
                (SA.l (SL.v 1000)
                  (SA.i (SI.c (Int.ofNat 0))
                    (SA.i (SI.add (SI.rem (SI.v 20) (SI.c (Int.ofNat 16))) (SI.c (Int.ofNat 1))) SA.nil)))))
            (SI.len (SL.v 1000)),
          SB.eq
            (SI.len
              (SL.app 116
                (SA.l (SL.v 1000)
                  (SA.i (SI.add (SI.rem (SI.v 20) (SI.c (Int.ofNat 16))) (SI.c (Int.ofNat 1))) SA.nil))))
            (SI.len (SL.v 1000)),
          SB.app 141
            (SA.l (SL.v 1000)
              (SA.i (SI.add (SI.rem (SI.v 20) (SI.c (Int.ofNat 16))) (SI.c (Int.ofNat 1)))
                (SA.i (SI.add (SI.rem (SI.v 22) (SI.c (Int.ofNat 16))) (SI.c (Int.ofNat 1))) SA.nil))),
          SB.app 141
            (SA.l (SL.v 1000)
              (SA.i (SI.add (SI.rem (SI.v 21) (SI.c (Int.ofNat 16))) (SI.c (Int.ofNat 1)))
                (SA.i (SI.add (SI.rem (SI.v 22) (SI.c (Int.ofNat 16))) (SI.c (Int.ofNat 1))) SA.nil))),
          SB.app 141
            (SA.l (SL.v 1000)
              (SA.i (SI.add (SI.rem (SI.v 20) (SI.c (Int.ofNat 16))) (SI.c (Int.ofNat 1)))
                (SA.i (SI.add (SI.rem (SI.v 20) (SI.c (Int.ofNat 16))) (SI.c (Int.ofNat 1))) SA.nil))),
          SB.app 141
            (SA.l (SL.v 1000)
              (SA.i (SI.add (SI.rem (SI.v 21) (SI.c (Int.ofNat 16))) (SI.c (Int.ofNat 1)))
                (SA.i (SI.add (SI.rem (SI.v 20) (SI.c (Int.ofNat 16))) (SI.c (Int.ofNat 1))) SA.nil))),
          SB.app 141
            (SA.l (SL.v 1000)
              (SA.i (SI.add (SI.rem (SI.v 20) (SI.c (Int.ofNat 16))) (SI.c (Int.ofNat 1)))
                (SA.i (SI.add (SI.rem (SI.v 21) (SI.c (Int.ofNat 16))) (SI.c (Int.ofNat 1))) SA.nil))),
          SB.app 140 (SA.l (SL.v 1000) SA.nil), SB.eq (SI.len (SL.v 1000)) (SI.c (Int.ofNat 64)),
          SB.le (SI.c (Int.ofNat 0)) (SI.v 20), SB.le (SI.v 20) (SI.c (Int.ofNat 255)),
          SB.le (SI.c (Int.ofNat 0)) (SI.v 21), SB.le (SI.v 21) (SI.c (Int.ofNat 255)),
          SB.le (SI.c (Int.ofNat 0)) (SI.v 22), SB.le (SI.v 22) (SI.c (Int.ofNat 255))],
      eqs := [Eqn.T (SB.c false)] },
    {
      pc :=
        [SB.not
            (SB.app 141
              (SA.l (SL.v 1000)
                (SA.i (SI.add (SI.rem (SI.v 20) (SI.c (Int.ofNat 16))) (SI.c (Int.ofNat 1)))
                  (SA.i (SI.add (SI.rem (SI.v 22) (SI.c (Int.ofNat 16))) (SI.c (Int.ofNat 1))) SA.nil)))),
          SB.app 141
            (SA.l (SL.v 1000)
              (SA.i (SI.add (SI.rem (SI.v 21) (SI.c (Int.ofNat 16))) (SI.c (Int.ofNat 1)))
                (SA.i (SI.add (SI.rem (SI.v 22) (SI.c (Int.ofNat 16))) (SI.c (Int.ofNat 1))) SA.nil))),
          SB.app 141
            (SA.l (SL.v 1000)
              (SA.i (SI.add (SI.rem (SI.v 20) (SI.c (Int.ofNat 16))) (SI.c (Int.ofNat 1)))
                (SA.i (SI.add (SI.rem (SI.v 20) (SI.c (Int.ofNat 16))) (SI.c (Int.ofNat 1))) SA.nil))),
          SB.app 141
            (SA.l (SL.v 1000)
              (SA.i (SI.add (SI.rem (SI.v 21) (SI.c (Int.ofNat 16))) (SI.c (Int.ofNat 1)))
                (SA.i (SI.add (SI.rem (SI.v 20) (SI.c (Int.ofNat 16))) (SI.c (Int.ofNat 1))) SA.nil))),
          SB.app 141
            (SA.l (SL.v 1000)
              (SA.i (SI.add (SI.rem (SI.v 20) (SI.c (Int.ofNat 16))) (SI.c (Int.ofNat 1)))
                (SA.i (SI.add (SI.rem (SI.v 21) (SI.c (Int.ofNat 16))) (SI.c (Int.ofNat 1))) SA.nil))),
          SB.app 140 (SA.l (SL.v 1000) SA.nil), SB.eq (SI.len (SL.v 1000)) (SI.c (Int.ofNat 64)),
          SB.le (SI.c (Int.ofNat 0)) (SI.v 20), SB.le (SI.v 20) (SI.c (Int.ofNat 255)),
          SB.le (SI.c (Int.ofNat 0)) (SI.v 21), SB.le (SI.v 21) (SI.c (Int.ofNat 255)),
          SB.le (SI.c (Int.ofNat 0)) (SI.v 22), SB.le (SI.v 22) (SI.c (Int.ofNat 255))],
      eqs := [Eqn.T (SB.app 199 SA.nil)] },
    {
      pc :=
        [SB.app 141
            (SA.l
              (SL.app 116
                (SA.l (SL.v 1000) (SA.i (SI.add (SI.rem (SI.v 20) (SI.c (Int.ofNat 16))) (SI.c (Int.ofNat 1))) SA.nil)))
              (SA.i (SI.c (Int.ofNat 0))
                (SA.i (SI.add (SI.rem (SI.v 20) (SI.c (Int.ofNat 16))) (SI.c (Int.ofNat 1))) SA.nil))),
          SB.app 140
            (SA.l
              (SL.app 116
                (SA.l (SL.v 1000) (SA.i (SI.add (SI.rem (SI.v 20) (SI.c (Int.ofNat 16))) (SI.c (Int.ofNat 1))) SA.nil)))
              SA.nil),
          SB.eq (SI.add (SI.rem (SI.v 20) (SI.c (Int.ofNat 16))) (SI.c (Int.ofNat 1)))
            (SI.add (SI.rem (SI.v 21) (SI.c (Int.ofNat 16))) (SI.c (Int.ofNat 1))),
          SB.le
            (SI.len
              (SL.app 102
                (SA.l (SL.v 1000)
                  (SA.i (SI.c (Int.ofNat 0))
                    (SA.i (SI.add (SI.rem (SI.v 20) (SI.c (Int.ofNat 16))) (SI.c (Int.ofNat 1))) SA.nil)))))
            (SI.len (SL.v 1000)),
          SB.eq
            (SI.len
              (SL.app 116
                (SA.l (SL.v 1000)
                  (SA.i (SI.add (SI.rem (SI.v 20) (SI.c (Int.ofNat 16))) (SI.c (Int.ofNat 1))) SA.nil))))
            (SI.len (SL.v 1000)),
          SB.not
            (SB.app 141
              (SA.l (SL.v 1000)
                (SA.i (SI.add (SI.rem (SI.v 21) (SI.c (Int.ofNat 16))) (SI.c (Int.ofNat 1)))
                  (SA.i (SI.add (SI.rem (SI.v 22) (SI.c (Int.ofNat 16))) (SI.c (Int.ofNat 1))) SA.nil)))),
          SB.app 141
            (SA.l (SL.v 1000)
              (SA.i (SI.add (SI.rem (SI.v 20) (SI.c (Int.ofNat 16))) (SI.c (Int.ofNat 1)))
                (SA.i (SI.add (SI.rem (SI.v 20) (SI.c (Int.ofNat 16))) (SI.c (Int.ofNat 1))) SA.nil))),
          SB.app 141
            (SA.l (SL.v 1000)
              (SA.i (SI.add (SI.rem (SI.v 21) (SI.c (Int.ofNat 16))) (SI.c (Int.ofNat 1)))
                (SA.i (SI.add (SI.rem (SI.v 20) (SI.c (Int.ofNat 16))) (SI.c (Int.ofNat 1))) SA.nil))),
          SB.app 141
            (SA.l (SL.v 1000)
              (SA.i (SI.add (SI.rem (SI.v 20) (SI.c (Int.ofNat 16))) (SI.c (Int.ofNat 1)))
                (SA.i (SI.add (SI.rem (SI.v 21) (SI.c (Int.ofNat 16))) (SI.c (Int.ofNat 1))) SA.nil))),
          SB.app 140 (SA.l (SL.v 1000) SA.nil), SB.eq (SI.len (SL.v 1000)) (SI.c (Int.ofNat 64)),
          SB.le (SI.c (Int.ofNat 0)) (SI.v 20), SB.le (SI.v 20) (SI.c (Int.ofNat 255)),
          SB.le (SI.c (Int.ofNat 0)) (SI.v 21), SB.le (SI.v 21) (SI.c (Int.ofNat 255)),
          SB.le (SI.c (Int.ofNat 0)) (SI.v 22), SB.le (SI.v 22) (SI.c (Int.ofNat 255))],
      eqs := [Eqn.T (SB.app 199 SA.nil)] },
    {
      pc :=
        [SB.app 141
            (SA.l
              (SL.app 116
                (SA.l (SL.v 1000) (SA.i (SI.add (SI.rem (SI.v 20) (SI.c (Int.ofNat 16))) (SI.c (Int.ofNat 1))) SA.nil)))
              (SA.i (SI.add (SI.rem (SI.v 20) (SI.c (Int.ofNat 16))) (SI.c (Int.ofNat 1)))
                (SA.i (SI.c (Int.ofNat 17)) SA.nil))),
          SB.not
            (SB.app 141
              (SA.l
                (SL.app 116
                  (SA.l (SL.v 1000)
                    (SA.i (SI.add (SI.rem (SI.v 20) (SI.c (Int.ofNat 16))) (SI.c (Int.ofNat 1))) SA.nil)))
                (SA.i (SI.c (Int.ofNat 0))
                  (SA.i (SI.add (SI.rem (SI.v 20) (SI.c (Int.ofNat 16))) (SI.c (Int.ofNat 1))) SA.nil)))),
          SB.app 140
            (SA.l
              (SL.app 116
                (SA.l (SL.v 1000) (SA.i (SI.add (SI.rem (SI.v 20) (SI.c (Int.ofNat 16))) (SI.c (Int.ofNat 1))) SA.nil)))
              SA.nil),
          SB.eq (SI.add (SI.rem (SI.v 20) (SI.c (Int.ofNat 16))) (SI.c (Int.ofNat 1)))
            (SI.add (SI.rem (SI.v 21) (SI.c (Int.ofNat 16))) (SI.c (Int.ofNat 1))),
          SB.le
            (SI.len
              (SL.app 102
                (SA.l (SL.v 1000)
                  (SA.i (SI.c (Int.ofNat 0))
                    (SA.i (SI.add (SI.rem (SI.v 20) (SI.c (Int.ofNat 16))) (SI.c (Int.ofNat 1))) SA.nil)))))
            (SI.len (SL.v 1000)),
          SB.eq
            (SI.len
              (SL.app 116
                (SA.l (SL.v 1000)
                  (SA.i (SI.add (SI.rem (SI.v 20) (SI.c (Int.ofNat 16))) (SI.c (Int.ofNat 1))) SA.nil))))
            (SI.len (SL.v 1000)),
          SB.not
            (SB.app 141
              (SA.l (SL.v 1000)
                (SA.i (SI.add (SI.rem (SI.v 21) (SI.c (Int.ofNat 16))) (SI.c (Int.ofNat 1)))
                  (SA.i (SI.add (SI.rem (SI.v 22) (SI.c (Int.ofNat 16))) (SI.c (Int.ofNat 1))) SA.nil)))),
          SB.app 141
            (SA.l (SL.v 1000)
              (SA.i (SI.add (SI.rem (SI.v 20) (SI.c (Int.ofNat 16))) (SI.c (Int.ofNat 1)))
                (SA.i (SI.add (SI.rem (SI.v 20) (SI.c (Int.ofNat 16))) (SI.c (Int.ofNat 1))) SA.nil))),
          SB.app 141
            (SA.l (SL.v 1000)
              (SA.i (SI.add (SI.rem (SI.v 21) (SI.c (Int.ofNat 16))) (SI.c (Int.ofNat 1)))
                (SA.i (SI.add (SI.rem (SI.v 20) (SI.c (Int.ofNat 16))) (SI.c (Int.ofNat 1))) SA.nil))),
          SB.app 141
            (SA.l (SL.v 1000)
              (SA.i (SI.add (SI.rem (SI.v 20) (SI.c (Int.ofNat 16))) (SI.c (Int.ofNat 1)))
                (SA.i (SI.add (SI.rem (SI.v 21) (SI.c (Int.ofNat 16))) (SI.c (Int.ofNat 1))) SA.nil))),
          SB.app 140 (SA.l (SL.v 1000) SA.nil), SB.eq (SI.len (SL.v 1000)) (SI.c (Int.ofNat 64)),
          SB.le (SI.c (Int.ofNat 0)) (SI.v 20), SB.le (SI.v 20) (SI.c (Int.ofNat 255)),
          SB.le (SI.c (Int.ofNat 0)) (SI.v 21), SB.le (SI.v 21) (SI.c (Int.ofNat 255)),
          SB.le (SI.c (Int.ofNat 0)) (SI.v 22), SB.le (SI.v 22) (SI.c (Int.ofNat 255))],
      eqs := [Eqn.T (SB.app 199 SA.nil)] },
    {
      pc :=
        [SB.not
            (SB.app 140
              (SA.l
                (SL.app 116
                  (SA.l (SL.v 1000)
                    (SA.i (SI.add (SI.rem (SI.v 20) (SI.c (Int.ofNat 16))) (SI.c (Int.ofNat 1))) SA.nil)))
                SA.nil)),
          SB.eq (SI.add (SI.rem (SI.v 20) (SI.c (Int.ofNat 16))) (SI.c (Int.ofNat 1)))
            (SI.add (SI.rem (SI.v 21) (SI.c (Int.ofNat 16))) (SI.c (Int.ofNat 1))),
          SB.le
            (SI.len
              (SL.app 102
                (SA.l (SL.v 1000)
                  (SA.i (SI.c (Int.ofNat 0))
                    (SA.i (SI.add (SI.rem (SI.v 20) (SI.c (Int.ofNat 16))) (SI.c (Int.ofNat 1))) SA.nil)))))
            (SI.len (SL.v 1000)),
          SB.eq
            (SI.len
              (SL.app 116
                (SA.l (SL.v 1000)
                  (SA.i (SI.add (SI.rem (SI.v 20) (SI.c (Int.ofNat 16))) (SI.c (Int.ofNat 1))) SA.nil))))
            (SI.len (SL.v 1000)),
          SB.not
            (SB.app 141
              (SA.l (SL.v 1000)
                (SA.i (SI.add (SI.rem (SI.v 21) (SI.c (Int.ofNat 16))) (SI.c (Int.ofNat 1)))
                  (SA.i (SI.add (SI.rem (SI.v 22) (SI.c (Int.ofNat 16))) (SI.c (Int.ofNat 1))) SA.nil)))),
          SB.app 141
            (SA.l (SL.v 1000)
              (SA.i (SI.add (SI.rem (SI.v 20) (SI.c (Int.ofNat 16))) (SI.c (Int.ofNat 1)))
                (SA.i (SI.add (SI.rem (SI.v 20) (SI.c (Int.ofNat 16))) (SI.c (Int.ofNat 1))) SA.nil))),
          SB.app 141
            (SA.l (SL.v 1000)
              (SA.i (SI.add (SI.rem (SI.v 21) (SI.c (Int.ofNat 16))) (SI.c (Int.ofNat 1)))
                (SA.i (SI.add (SI.rem (SI.v 20) (SI.c (Int.ofNat 16))) (SI.c (Int.ofNat 1))) SA.nil))),
          SB.app 141
            (SA.l (SL.v 1000)
              (SA.i (SI.add (SI.rem (SI.v 20) (SI.c (Int.ofNat 16))) (SI.c (Int.ofNat 1)))
                (SA.i (SI.add (SI.rem (SI.v 21) (SI.c (Int.ofNat 16))) (SI.c (Int.ofNat 1))) SA.nil))),
          SB.app 140 (SA.l (SL.v 1000) SA.nil), SB.eq (SI.len (SL.v 1000)) (SI.c (Int.ofNat 64)),
          SB.le (SI.c (Int.ofNat 0)) (SI.v 20), SB.le (SI.v 20) (SI.c (Int.ofNat 255)),
          SB.le (SI.c (Int.ofNat 0)) (SI.v 21), SB.le (SI.v 21) (SI.c (Int.ofNat 255)),
          SB.le (SI.c (Int.ofNat 0)) (SI.v 22), SB.le (SI.v 22) (SI.c (Int.ofNat 255))],
      eqs := [Eqn.T (SB.c false)] },
    {
      pc :=
        [SB.app 141
            (SA.l
              (SL.app 116
                (SA.l (SL.v 1000) (SA.i (SI.add (SI.rem (SI.v 20) (SI.c (Int.ofNat 16))) (SI.c (Int.ofNat 1))) SA.nil)))
              (SA.i (SI.add (SI.rem (SI.v 20) (SI.c (Int.ofNat 16))) (SI.c (Int.ofNat 1)))
                (SA.i (SI.add (SI.rem (SI.v 21) (SI.c (Int.ofNat 16))) (SI.c (Int.ofNat 1))) SA.nil))),
          SB.app 140
            (SA.l
              (SL.app 116
                (SA.l (SL.v 1000) (SA.i (SI.add (SI.rem (SI.v 20) (SI.c (Int.ofNat 16))) (SI.c (Int.ofNat 1))) SA.nil)))
              SA.nil),
          SB.not
            (SB.eq (SI.add (SI.rem (SI.v 20) (SI.c (Int.ofNat 16))) (SI.c (Int.ofNat 1)))
              (SI.add (SI.rem (SI.v 21) (SI.c (Int.ofNat 16))) (SI.c (Int.ofNat 1)))),
          SB.le
            (SI.len
              (SL.app 102
                (SA.l (SL.v 1000)
                  (SA.i (SI.c (Int.ofNat 0))
                    (SA.i (SI.add (SI.rem (SI.v 20) (SI.c (Int.ofNat 16))) (SI.c (Int.ofNat 1))) SA.nil)))))
            (SI.len (SL.v 1000)),
          SB.eq
            (SI.len
              (SL.app 116
                (SA.l (SL.v 1000)
                  (SA.i (SI.add (SI.rem (SI.v 20) (SI.c (Int.ofNat 16))) (SI.c (Int.ofNat 1))) SA.nil))))
            (SI.len (SL.v 1000)),
          SB.not
            (SB.app 141
              (SA.l (SL.v 1000)
                (SA.i (SI.add (SI.rem (SI.v 21) (SI.c (Int.ofNat 16))) (SI.c (Int.ofNat 1)))
                  (SA.i (SI.add (SI.rem (SI.v 22) (SI.c (Int.ofNat 16))) (SI.c (Int.ofNat 1))) SA.nil)))),
          SB.app 141
            (SA.l (SL.v 1000)
              (SA.i (SI.add (SI.rem (SI.v 20) (SI.c (Int.ofNat 16))) (SI.c (Int.ofNat 1)))
                (SA.i (SI.add (SI.rem (SI.v 20) (SI.c (Int.ofNat 16))) (SI.c (Int.ofNat 1))) SA.nil))),
          SB.app 141
            (SA.l (SL.v 1000)
              (SA.i (SI.add (SI.rem (SI.v 21) (SI.c (Int.ofNat 16))) (SI.c (Int.ofNat 1)))
                (SA.i (SI.add (SI.rem (SI.v 20) (SI.c (Int.ofNat 16))) (SI.c (Int.ofNat 1))) SA.nil))),
          SB.app 141
            (SA.l (SL.v 1000)
              (SA.i (SI.add (SI.rem (SI.v 20) (SI.c (Int.ofNat 16))) (SI.c (Int.ofNat 1)))
                (SA.i (SI.add (SI.rem (SI.v 21) (SI.c (Int.ofNat 16))) (SI.c (Int.ofNat 1))) SA.nil))),
          SB.app 140 (SA.l (SL.v 1000) SA.nil), SB.eq (SI.len (SL.v 1000)) (SI.c (Int.ofNat 64)),
          SB.le (SI.c (Int.ofNat 0)) (SI.v 20), SB.le (SI.v 20) (SI.c (Int.ofNat 255)),
          SB.le (SI.c (Int.ofNat 0)) (SI.v 21), SB.le (SI.v 21) (SI.c (Int.ofNat 255)),
          SB.le (SI.c (Int.ofNat 0)) (SI.v 22), SB.le (SI.v 22) (SI.c (Int.ofNat 255))],
      eqs := [Eqn.T (SB.app 199 SA.nil)] },
    {
      pc :=
        [SB.app 141
            (SA.l
              (SL.app 116
                (SA.l (SL.v 1000) (SA.i (SI.add (SI.rem (SI.v 20) (SI.c (Int.ofNat 16))) (SI.c (Int.ofNat 1))) SA.nil)))
              (SA.i (SI.c (Int.ofNat 0))
                (SA.i (SI.add (SI.rem (SI.v 20) (SI.c (Int.ofNat 16))) (SI.c (Int.ofNat 1))) SA.nil))),
          SB.not
            (SB.app 141
              (SA.l
                (SL.app 116
                  (SA.l (SL.v 1000)
                    (SA.i (SI.add (SI.rem (SI.v 20) (SI.c (Int.ofNat 16))) (SI.c (Int.ofNat 1))) SA.nil)))
                (SA.i (SI.add (SI.rem (SI.v 20) (SI.c (Int.ofNat 16))) (SI.c (Int.ofNat 1)))
                  (SA.i (SI.add (SI.rem (SI.v 21) (SI.c (Int.ofNat 16))) (SI.c (Int.ofNat 1))) SA.nil)))),
          SB.app 140
            (SA.l
              (SL.app 116
                (SA.l (SL.v 1000) (SA.i (SI.add (SI.rem (SI.v 20) (SI.c (Int.ofNat 16))) (SI.c (Int.ofNat 1))) SA.nil)))
              SA.nil),
          SB.not
            (SB.eq (SI.add (SI.rem (SI.v 20) (SI.c (Int.ofNat 16))) (SI.c (Int.ofNat 1)))
              (SI.add (SI.rem (SI.v 21) (SI.c (Int.ofNat 16))) (SI.c (Int.ofNat 1)))),
          SB.le
            (SI.len
              (SL.app 102
                (SA.l (SL.v 1000)
                  (SA.i (SI.c (Int.ofNat 0))
                    (SA.i (SI.add (SI.rem (SI.v 20) (SI.c (Int.ofNat 16))) (SI.c (Int.ofNat 1))) SA.nil)))))
            (SI.len (SL.v 1000)),
          SB.eq
            (SI.len
              (SL.app 116
                (SA.l (SL.v 1000)
                  (SA.i (SI.add (SI.rem (SI.v 20) (SI.c (Int.ofNat 16))) (SI.c (Int.ofNat 1))) SA.nil))))
            (SI.len (SL.v 1000)),
          SB.not
            (SB.app 141
              (SA.l (SL.v 1000)
                (SA.i (SI.add (SI.rem (SI.v 21) (SI.c (Int.ofNat 16))) (SI.c (Int.ofNat 1)))
                  (SA.i (SI.add (SI.rem (SI.v 22) (SI.c (Int.ofNat 16))) (SI.c (Int.ofNat 1))) SA.nil)))),
          SB.app 141
            (SA.l (SL.v 1000)
              (SA.i (SI.add (SI.rem (SI.v 20) (SI.c (Int.ofNat 16))) (SI.c (Int.ofNat 1)))
                (SA.i (SI.add (SI.rem (SI.v 20) (SI.c (Int.ofNat 16))) (SI.c (Int.ofNat 1))) SA.nil))),
          SB.app 141
            (SA.l (SL.v 1000)
              (SA.i (SI.add (SI.rem (SI.v 21) (SI.c (Int.ofNat 16))) (SI.c (Int.ofNat 1)))
                (SA.i (SI.add (SI.rem (SI.v 20) (SI.c (Int.ofNat 16))) (SI.c (Int.ofNat 1))) SA.nil))),
          SB.app 141
            (SA.l (SL.v 1000)
              (SA.i (SI.add (SI.rem (SI.v 20) (SI.c (Int.ofNat 16))) (SI.c (Int.ofNat 1)))
                (SA.i (SI.add (SI.rem (SI.v 21) (SI.c (Int.ofNat 16))) (SI.c (Int.ofNat 1))) SA.nil))),
          SB.app 140 (SA.l (SL.v 1000) SA.nil), SB.eq (SI.len (SL.v 1000)) (SI.c (Int.ofNat 64)),
          SB.le (SI.c (Int.ofNat 0)) (SI.v 20), SB.le (SI.v 20) (SI.c (Int.ofNat 255)),
          SB.le (SI.c (Int.ofNat 0)) (SI.v 21), SB.le (SI.v 21) (SI.c (Int.ofNat 255)),
          SB.le (SI.c (Int.ofNat 0)) (SI.v 22), SB.le (SI.v 22) (SI.c (Int.ofNat 255))],
      eqs := [Eqn.T (SB.app 199 SA.nil)] },
    {
      pc :=
        [SB.app 141
            (SA.l
              (SL.app 116
                (SA.l (SL.v 1000) (SA.i (SI.add (SI.rem (SI.v 20) (SI.c (Int.ofNat 16))) (SI.c (Int.ofNat 1))) SA.nil)))
              (SA.i (SI.add (SI.rem (SI.v 20) (SI.c (Int.ofNat 16))) (SI.c (Int.ofNat 1)))
                (SA.i (SI.c (Int.ofNat 17)) SA.nil))),
          SB.not
            (SB.app 141
              (SA.l
                (SL.app 116
                  (SA.l (SL.v 1000)
                    (SA.i (SI.add (SI.rem (SI.v 20) (SI.c (Int.ofNat 16))) (SI.c (Int.ofNat 1))) SA.nil)))
                (SA.i (SI.c (Int.ofNat 0))
                  (SA.i (SI.add (SI.rem (SI.v 20) (SI.c (Int.ofNat 16))) (SI.c (Int.ofNat 1))) SA.nil)))),
          SB.not
            (SB.app 141
              (SA.l
                (SL.app 116
                  (SA.l (SL.v 1000)
                    (SA.i (SI.add (SI.rem (SI.v 20) (SI.c (Int.ofNat 16))) (SI.c (Int.ofNat 1))) SA.nil)))
                (SA.i (SI.add (SI.rem (SI.v 20) (SI.c (Int.ofNat 16))) (SI.c (Int.ofNat 1)))
                  (SA.i (SI.add (SI.rem (SI.v 21) (SI.c (Int.ofNat 16))) (SI.c (Int.ofNat 1))) SA.nil)))),
          SB.app 140
            (SA.l
              (SL.app 116
                (SA.l (SL.v 1000) (SA.i (SI.add (SI.rem (SI.v 20) (SI.c (Int.ofNat 16))) (SI.c (Int.ofNat 1))) SA.nil)))
              SA.nil),
          SB.not
            (SB.eq (SI.add (SI.rem (SI.v 20) (SI.c (Int.ofNat 16))) (SI.c (Int.ofNat 1)))
              (SI.add (SI.rem (SI.v 21) (SI.c (Int.ofNat 16))) (SI.c (Int.ofNat 1)))),
          SB.le
            (SI.len
              (SL.app 102
                (SA.l (SL.v 1000)
                  (SA.i (SI.c (Int.ofNat 0))
                    (SA.i (SI.add (SI.rem (SI.v 20) (SI.c (Int.ofNat 16))) (SI.c (Int.ofNat 1))) SA.nil)))))
            (SI.len (SL.v 1000)),
          SB.eq
            (SI.len
              (SL.app 116
                (SA.l (SL.v 1000)
                  (SA.i (SI.add (SI.rem (SI.v 20) (SI.c (Int.ofNat 16))) (SI.c (Int.ofNat 1))) SA.nil))))
            (SI.len (SL.v 1000)),
          SB.not
            (SB.app 141
              (SA.l (SL.v 1000)
                (SA.i (SI.add (SI.rem (SI.v 21) (SI.c (Int.ofNat 16))) (SI.c (Int.ofNat 1)))
                  (SA.i (SI.add (SI.rem (SI.v 22) (SI.c (Int.ofNat 16))) (SI.c (Int.ofNat 1))) SA.nil)))),
          SB.app 141
            (SA.l (SL.v 1000)
              (SA.i (SI.add (SI.rem (SI.v 20) (SI.c (Int.ofNat 16))) (SI.c (Int.ofNat 1)))
                (SA.i (SI.add (SI.rem (SI.v 20) (SI.c (Int.ofNat 16))) (SI.c (Int.ofNat 1))) SA.nil))),
          SB.app 141
            (SA.l (SL.v 1000)
              (SA.i (SI.add (SI.rem (SI.v 21) (SI.c (Int.ofNat 16))) (SI.c (Int.ofNat 1)))
                (SA.i (SI.add (SI.rem (SI.v 20) (SI.c (Int.ofNat 16))) (SI.c (Int.ofNat 1))) SA.nil))),
          SB.app 141
            (SA.l (SL.v 1000)
              (SA.i (SI.add (SI.rem (SI.v 20) (SI.c (Int.ofNat 16))) (SI.c (Int.ofNat 1)))
                (SA.i (SI.add (SI.rem (SI.v 21) (SI.c (Int.ofNat 16))) (SI.c (Int.ofNat 1))) SA.nil))),
          SB.app 140 (SA.l (SL.v 1000) SA.nil), SB.eq (SI.len (SL.v 1000)) (SI.c (Int.ofNat 64)),
          SB.le (SI.c (Int.ofNat 0)) (SI.v 20), SB.le (SI.v 20) (SI.c (Int.ofNat 255)),
          SB.le (SI.c (Int.ofNat 0)) (SI.v 21), SB.le (SI.v 21) (SI.c (Int.ofNat 255)),
          SB.le (SI.c (Int.ofNat 0)) (SI.v 22), SB.le (SI.v 22) (SI.c (Int.ofNat 255))],
      eqs := [Eqn.T (SB.app 199 SA.nil)] },
    {
      pc :=
        [SB.not
            (SB.app 140
              (SA.l
                (SL.app 116
                  (SA.l (SL.v 1000)
                    (SA.i (SI.add (SI.rem (SI.v 20) (SI.c (Int.ofNat 16))) (SI.c (Int.ofNat 1))) SA.nil)))
                SA.nil)),
          SB.not
            (SB.eq (SI.add (SI.rem (SI.v 20) (SI.c (Int.ofNat 16))) (SI.c (Int.ofNat 1)))
              (SI.add (SI.rem (SI.v 21) (SI.c (Int.ofNat 16))) (SI.c (Int.ofNat 1)))),
          SB.le
            (SI.len
              (SL.app 102
                (SA.l (SL.v 1000)
                  (SA.i (SI.c (Int.ofNat 0))
                    (SA.i (SI.add (SI.rem (SI.v 20) (SI.c (Int.ofNat 16))) (SI.c (Int.ofNat 1))) SA.nil)))))
            (SI.len (SL.v 1000)),
          SB.eq
            (SI.len
              (SL.app 116
                (SA.l (SL.v 1000)
                  (SA.i (SI.add (SI.rem (SI.v 20) (SI.c (Int.ofNat 16))) (SI.c (Int.ofNat 1))) SA.nil))))
            (SI.len (SL.v 1000)),
          SB.not
            (SB.app 141
              (SA.l (SL.v 1000)
                (SA.i (SI.add (SI.rem (SI.v 21) (SI.c (Int.ofNat 16))) (SI.c (Int.ofNat 1)))
                  (SA.i (SI.add (SI.rem (SI.v 22) (SI.c (Int.ofNat 16))) (SI.c (Int.ofNat 1))) SA.nil)))),
          SB.app 141
            (SA.l (SL.v 1000)
              (SA.i (SI.add (SI.rem (SI.v 20) (SI.c (Int.ofNat 16))) (SI.c (Int.ofNat 1)))
                (SA.i (SI.add (SI.rem (SI.v 20) (SI.c (Int.ofNat 16))) (SI.c (Int.ofNat 1))) SA.nil))),
          SB.app 141
            (SA.l (SL.v 1000)
              (SA.i (SI.add (SI.rem (SI.v 21) (SI.c (Int.ofNat 16))) (SI.c (Int.ofNat 1)))
                (SA.i (SI.add (SI.rem (SI.v 20) (SI.c (Int.ofNat 16))) (SI.c (Int.ofNat 1))) SA.nil))),
          SB.app 141
            (SA.l (SL.v 1000)
              (SA.i (SI.add (SI.rem (SI.v 20) (SI.c (Int.ofNat 16))) (SI.c (Int.ofNat 1)))
                (SA.i (SI.add (SI.rem (SI.v 21) (SI.c (Int.ofNat 16))) (SI.c (Int.ofNat 1))) SA.nil))),
          SB.app 140 (SA.l (SL.v 1000) SA.nil), SB.eq (SI.len (SL.v 1000)) (SI.c (Int.ofNat 64)),
          SB.le (SI.c (Int.ofNat 0)) (SI.v 20), SB.le (SI.v 20) (SI.c (Int.ofNat 255)),
          SB.le (SI.c (Int.ofNat 0)) (SI.v 21), SB.le (SI.v 21) (SI.c (Int.ofNat 255)),
          SB.le (SI.c (Int.ofNat 0)) (SI.v 22), SB.le (SI.v 22) (SI.c (Int.ofNat 255))],
      eqs := [Eqn.T (SB.c false)] },
    {
      pc :=
        [SB.not
            (SB.app 141
              (SA.l (SL.v 1000)
                (SA.i (SI.add (SI.rem (SI.v 20) (SI.c (Int.ofNat 16))) (SI.c (Int.ofNat 1)))
                  (SA.i (SI.add (SI.rem (SI.v 20) (SI.c (Int.ofNat 16))) (SI.c (Int.ofNat 1))) SA.nil)))),
          SB.app 141
            (SA.l (SL.v 1000)
              (SA.i (SI.add (SI.rem (SI.v 21) (SI.c (Int.ofNat 16))) (SI.c (Int.ofNat 1)))
                (SA.i (SI.add (SI.rem (SI.v 20) (SI.c (Int.ofNat 16))) (SI.c (Int.ofNat 1))) SA.nil))),
          SB.app 141
            (SA.l (SL.v 1000)
              (SA.i (SI.add (SI.rem (SI.v 20) (SI.c (Int.ofNat 16))) (SI.c (Int.ofNat 1)))
                (SA.i (SI.add (SI.rem (SI.v 21) (SI.c (Int.ofNat 16))) (SI.c (Int.ofNat 1))) SA.nil))),
          SB.app 140 (SA.l (SL.v 1000) SA.nil), SB.eq (SI.len (SL.v 1000)) (SI.c (Int.ofNat 64)),
          SB.le (SI.c (Int.ofNat 0)) (SI.v 20), SB.le (SI.v 20) (SI.c (Int.ofNat 255)),
          SB.le (SI.c (Int.ofNat 0)) (SI.v 21), SB.le (SI.v 21) (SI.c (Int.ofNat 255)),
          SB.le (SI.c (Int.ofNat 0)) (SI.v 22), SB.le (SI.v 22) (SI.c (Int.ofNat 255))],
      eqs := [Eqn.T (SB.app 199 SA.nil)] },
    {
      pc :=
        [SB.not
            (SB.app 141
              (SA.l (SL.v 1000)
                (SA.i (SI.add (SI.rem (SI.v 21) (SI.c (Int.ofNat 16))) (SI.c (Int.ofNat 1)))
                  (SA.i (SI.add (SI.rem (SI.v 20) (SI.c (Int.ofNat 16))) (SI.c (Int.ofNat 1))) SA.nil)))),
          SB.app 141
            (SA.l (SL.v 1000)
              (SA.i (SI.add (SI.rem (SI.v 20) (SI.c (Int.ofNat 16))) (SI.c (Int.ofNat 1)))
                (SA.i (SI.add (SI.rem (SI.v 21) (SI.c (Int.ofNat 16))) (SI.c (Int.ofNat 1))) SA.nil))),
          SB.app 140 (SA.l (SL.v 1000) SA.nil), SB.eq (SI.len (SL.v 1000)) (SI.c (Int.ofNat 64)),
          SB.le (SI.c (Int.ofNat 0)) (SI.v 20), SB.le (SI.v 20) (SI.c (Int.ofNat 255)),
          SB.le (SI.c (Int.ofNat 0)) (SI.v 21), SB.le (SI.v 21) (SI.c (Int.ofNat 255)),
          SB.le (SI.c (Int.ofNat 0)) (SI.v 22), SB.le (SI.v 22) (SI.c (Int.ofNat 255))],
      eqs := [Eqn.T (SB.app 199 SA.nil)] },
    {
      pc :=
        [SB.app 141
            (SA.l (SL.v 1000)
              (SA.i (SI.add (SI.rem (SI.v 21) (SI.c (Int.ofNat 16))) (SI.c (Int.ofNat 1)))
                (SA.i (SI.add (SI.rem (SI.v 20) (SI.c (Int.ofNat 16))) (SI.c (Int.ofNat 1))) SA.nil))),
          SB.not
            (SB.app 141
              (SA.l (SL.v 1000)
                (SA.i (SI.add (SI.rem (SI.v 20) (SI.c (Int.ofNat 16))) (SI.c (Int.ofNat 1)))
                  (SA.i (SI.add (SI.rem (SI.v 21) (SI.c (Int.ofNat 16))) (SI.c (Int.ofNat 1))) SA.nil)))),
          SB.app 140 (SA.l (SL.v 1000) SA.nil), SB.eq (SI.len (SL.v 1000)) (SI.c (Int.ofNat 64)),
          SB.le (SI.c (Int.ofNat 0)) (SI.v 20), SB.le (SI.v 20) (SI.c (Int.ofNat 255)),
          SB.le (SI.c (Int.ofNat 0)) (SI.v 21), SB.le (SI.v 21) (SI.c (Int.ofNat 255)),
          SB.le (SI.c (Int.ofNat 0)) (SI.v 22), SB.le (SI.v 22) (SI.c (Int.ofNat 255))],
      eqs := [Eqn.T (SB.app 199 SA.nil)] },
    {
      pc :=
        [SB.app 141
            (SA.l
              (SL.app 116
                (SA.l (SL.v 1000) (SA.i (SI.add (SI.rem (SI.v 20) (SI.c (Int.ofNat 16))) (SI.c (Int.ofNat 1))) SA.nil)))
              (SA.i (SI.c (Int.ofNat 0))
                (SA.i (SI.add (SI.rem (SI.v 20) (SI.c (Int.ofNat 16))) (SI.c (Int.ofNat 1))) SA.nil))),
          SB.app 140
            (SA.l
              (SL.app 116
                (SA.l (SL.v 1000) (SA.i (SI.add (SI.rem (SI.v 20) (SI.c (Int.ofNat 16))) (SI.c (Int.ofNat 1))) SA.nil)))
              SA.nil),
          SB.eq (SI.add (SI.rem (SI.v 20) (SI.c (Int.ofNat 16))) (SI.c (Int.ofNat 1)))
            (SI.add (SI.rem (SI.v 21) (SI.c (Int.ofNat 16))) (SI.c (Int.ofNat 1))),
          SB.le
            (SI.len
              (SL.app 102
                (SA.l (SL.v 1000)
                  (SA.i (SI.c (Int.ofNat 0))
                    (SA.i (SI.add (SI.rem (SI.v 20) (SI.c (Int.ofNat 16))) (SI.c (Int.ofNat 1))) SA.nil)))))
            (SI.len (SL.v 1000)),
          SB.eq
            (SI.len
              (SL.app 116
                (SA.l (SL.v 1000)
                  (SA.i (SI.add (SI.rem (SI.v 20) (SI.c (Int.ofNat 16))) (SI.c (Int.ofNat 1))) SA.nil))))
            (SI.len (SL.v 1000)),
          SB.app 141
            (SA.l (SL.v 1000)
              (SA.i (SI.add (SI.rem (SI.v 20) (SI.c (Int.ofNat 16))) (SI.c (Int.ofNat 1)))
                (SA.i (SI.add (SI.rem (SI.v 20) (SI.c (Int.ofNat 16))) (SI.c (Int.ofNat 1))) SA.nil))),
          SB.not
            (SB.app 141
              (SA.l (SL.v 1000)
                (SA.i (SI.add (SI.rem (SI.v 21) (SI.c (Int.ofNat 16))) (SI.c (Int.ofNat 1)))
                  (SA.i (SI.add (SI.rem (SI.v 20) (SI.c (Int.ofNat 16))) (SI.c (Int.ofNat 1))) SA.nil)))),
          SB.not
            (SB.app 141
              (SA.l (SL.v 1000)
                (SA.i (SI.add (SI.rem (SI.v 20) (SI.c (Int.ofNat 16))) (SI.c (Int.ofNat 1)))
                  (SA.i (SI.add (SI.rem (SI.v 21) (SI.c (Int.ofNat 16))) (SI.c (Int.ofNat 1))) SA.nil)))),
          SB.app 140 (SA.l (SL.v 1000) SA.nil), SB.eq (SI.len (SL.v 1000)) (SI.c (Int.ofNat 64)),
          SB.le (SI.c (Int.ofNat 0)) (SI.v 20), SB.le (SI.v 20) (SI.c (Int.ofNat 255)),
          SB.le (SI.c (Int.ofNat 0)) (SI.v 21), SB.le (SI.v 21) (SI.c (Int.ofNat 255)),
          SB.le (SI.c (Int.ofNat 0)) (SI.v 22), SB.le (SI.v 22) (SI.c (Int.ofNat 255))],
      eqs := [Eqn.T (SB.app 199 SA.nil)] },
    {
      pc :=
        [SB.app 141
            (SA.l
              (SL.app 116
                (SA.l (SL.v 1000) (SA.i (SI.add (SI.rem (SI.v 20) (SI.c (Int.ofNat 16))) (SI.c (Int.ofNat 1))) SA.nil)))
              (SA.i (SI.add (SI.rem (SI.v 20) (SI.c (Int.ofNat 16))) (SI.c (Int.ofNat 1)))
                (SA.i (SI.c (Int.ofNat 17)) SA.nil))),
          SB.not
            (SB.app 141
              (SA.l
                (SL.app 116
                  (SA.l (SL.v 1000)
                    (SA.i (SI.add (SI.rem (SI.v 20) (SI.c (Int.ofNat 16))) (SI.c (Int.ofNat 1))) SA.nil)))
                (SA.i (SI.c (Int.ofNat 0))
                  (SA.i (SI.add (SI.rem (SI.v 20) (SI.c (Int.ofNat 16))) (SI.c (Int.ofNat 1))) SA.nil)))),
          SB.app 140
            (SA.l
              (SL.app 116
                (SA.l (SL.v 1000) (SA.i (SI.add (SI.rem (SI.v 20) (SI.c (Int.ofNat 16))) (SI.c (Int.ofNat 1))) SA.nil)))
              SA.nil),
          SB.eq (SI.add (SI.rem (SI.v 20) (SI.c (Int.ofNat 16))) (SI.c (Int.ofNat 1)))
            (SI.add (SI.rem (SI.v 21) (SI.c (Int.ofNat 16))) (SI.c (Int.ofNat 1))),
          SB.le
            (SI.len
              (SL.app 102
                (SA.l (SL.v 1000)
                  (SA.i (SI.c (Int.ofNat 0))
                    (SA.i (SI.add (SI.rem (SI.v 20) (SI.c (Int.ofNat 16))) (SI.c (Int.ofNat 1))) SA.nil)))))
            (SI.len (SL.v 1000)),
          SB.eq
            (SI.len
              (SL.app 116
                (SA.l (SL.v 1000)
                  (SA.i (SI.add (SI.rem (SI.v 20) (SI.c (Int.ofNat 16))) (SI.c (Int.ofNat 1))) SA.nil))))
            (SI.len (SL.v 1000)),
          SB.app 141
            (SA.l (SL.v 1000)
              (SA.i (SI.add (SI.rem (SI.v 20) (SI.c (Int.ofNat 16))) (SI.c (Int.ofNat 1)))
                (SA.i (SI.add (SI.rem (SI.v 20) (SI.c (Int.ofNat 16))) (SI.c (Int.ofNat 1))) SA.nil))),
          SB.not
            (SB.app 141
              (SA.l (SL.v 1000)
                (SA.i (SI.add (SI.rem (SI.v 21) (SI.c (Int.ofNat 16))) (SI.c (Int.ofNat 1)))
                  (SA.i (SI.add (SI.rem (SI.v 20) (SI.c (Int.ofNat 16))) (SI.c (Int.ofNat 1))) SA.nil)))),
          SB.not
            (SB.app 141
              (SA.l (SL.v 1000)
                (SA.i (SI.add (SI.rem (SI.v 20) (SI.c (Int.ofNat 16))) (SI.c (Int.ofNat 1)))
                  (SA.i (SI.add (SI.rem (SI.v 21) (SI.c (Int.ofNat 16))) (SI.c (Int.ofNat 1))) SA.nil)))),
          SB.app 140 (SA.l (SL.v 1000) SA.nil), SB.eq (SI.len (SL.v 1000)) (SI.c (Int.ofNat 64)),
          SB.le (SI.c (Int.ofNat 0)) (SI.v 20), SB.le (SI.v 20) (SI.c (Int.ofNat 255)),
          SB.le (SI.c (Int.ofNat 0)) (SI.v 21), SB.le (SI.v 21) (SI.c (Int.ofNat 255)),
          SB.le (SI.c (Int.ofNat 0)) (SI.v 22), SB.le (SI.v 22) (SI.c (Int.ofNat 255))],
      eqs := [Eqn.T (SB.app 199 SA.nil)] },
    {
      pc :=
        [SB.not
            (SB.app 140
              (SA.l
                (SL.app 116
                  (SA.l (SL.v 1000)
                    (SA.i (SI.add (SI.rem (SI.v 20) (SI.c (Int.ofNat 16))) (SI.c (Int.ofNat 1))) SA.nil)))
                SA.nil)),
          SB.eq (SI.add (SI.rem (SI.v 20) (SI.c (Int.ofNat 16))) (SI.c (Int.ofNat 1)))
            (SI.add (SI.rem (SI.v 21) (SI.c (Int.ofNat 16))) (SI.c (Int.ofNat 1))),
          SB.le
            (SI.len
              (SL.app 102
                (SA.l (SL.v 1000)
                  (SA.i (SI.c (Int.ofNat 0))
                    (SA.i (SI.add (SI.rem (SI.v 20) (SI.c (Int.ofNat 16))) (SI.c (Int.ofNat 1))) SA.nil)))))
            (SI.len (SL.v 1000)),
          SB.eq
            (SI.len
              (SL.app 116
                (SA.l (SL.v 1000)
                  (SA.i (SI.add (SI.rem (SI.v 20) (SI.c (Int.ofNat 16))) (SI.c (Int.ofNat 1))) SA.nil))))
            (SI.len (SL.v 1000)),
          SB.app 141
            (SA.l (SL.v 1000)
              (SA.i (SI.add (SI.rem (SI.v 20) (SI.c (Int.ofNat 16))) (SI.c (Int.ofNat 1)))
                (SA.i (SI.add (SI.rem (SI.v 20) (SI.c (Int.ofNat 16))) (SI.c (Int.ofNat 1))) SA.nil))),
          SB.not
            (SB.app 141
              (SA.l (SL.v 1000)
                (SA.i (SI.add (SI.rem (SI.v 21) (SI.c (Int.ofNat 16))) (SI.c (Int.ofNat 1)))
                  (SA.i (SI.add (SI.rem (SI.v 20) (SI.c (Int.ofNat 16))) (SI.c (Int.ofNat 1))) SA.nil)))),
          SB.not
            (SB.app 141
              (SA.l (SL.v 1000)
                (SA.i (SI.add (SI.rem (SI.v 20) (SI.c (Int.ofNat 16))) (SI.c (Int.ofNat 1)))
                  (SA.i (SI.add (SI.rem (SI.v 21) (SI.c (Int.ofNat 16))) (SI.c (Int.ofNat 1))) SA.nil)))),
          SB.app 140 (SA.l (SL.v 1000) SA.nil), SB.eq (SI.len (SL.v 1000)) (SI.c (Int.ofNat 64)),
          SB.le (SI.c (Int.ofNat 0)) (SI.v 20), SB.le (SI.v 20) (SI.c (Int.ofNat 255)),
          SB.le (SI.c (Int.ofNat 0)) (SI.v 21), SB.le (SI.v 21) (SI.c (Int.ofNat 255)),
          SB.le (SI.c (Int.ofNat 0)) (SI.v 22), SB.le (SI.v 22) (SI.c (Int.ofNat 255))],
      eqs := [Eqn.T (SB.c false)] },
    {
      pc :=
        [SB.app 141
            (SA.l
              (SL.app 116
                (SA.l (SL.v 1000) (SA.i (SI.add (SI.rem (SI.v 20) (SI.c (Int.ofNat 16))) (SI.c (Int.ofNat 1))) SA.nil)))
              (SA.i (SI.add (SI.rem (SI.v 20) (SI.c (Int.ofNat 16))) (SI.c (Int.ofNat 1)))
                (SA.i (SI.add (SI.rem (SI.v 21) (SI.c (Int.ofNat 16))) (SI.c (Int.ofNat 1))) SA.nil))),
          SB.app 140
            (SA.l
              (SL.app 116
                (SA.l (SL.v 1000) (SA.i (SI.add (SI.rem (SI.v 20) (SI.c (Int.ofNat 16))) (SI.c (Int.ofNat 1))) SA.nil)))
              SA.nil),
          SB.not
            (SB.eq (SI.add (SI.rem (SI.v 20) (SI.c (Int.ofNat 16))) (SI.c (Int.ofNat 1)))
              (SI.add (SI.rem (SI.v 21) (SI.c (Int.ofNat 16))) (SI.c (Int.ofNat 1)))),
          SB.le
            (SI.len
              (SL.app 102
                (SA.l (SL.v 1000)
                  (SA.i (SI.c (Int.ofNat 0))
                    (SA.i (SI.add (SI.rem (SI.v 20) (SI.c (Int.ofNat 16))) (SI.c (Int.ofNat 1))) SA.nil)))))
            (SI.len (SL.v 1000)),
          SB.eq
            (SI.len
              (SL.app 116
                (SA.l (SL.v 1000)
                  (SA.i (SI.add (SI.rem (SI.v 20) (SI.c (Int.ofNat 16))) (SI.c (Int.ofNat 1))) SA.nil))))
            (SI.len (SL.v 1000)),
          SB.app 141
            (SA.l (SL.v 1000)
              (SA.i (SI.add (SI.rem (SI.v 20) (SI.c (Int.ofNat 16))) (SI.c (Int.ofNat 1)))
                (SA.i (SI.add (SI.rem (SI.v 20) (SI.c (Int.ofNat 16))) (SI.c (Int.ofNat 1))) SA.nil))),
          SB.not
            (SB.app 141
              (SA.l (SL.v 1000)
                (SA.i (SI.add (SI.rem (SI.v 21) (SI.c (Int.ofNat 16))) (SI.c (Int.ofNat 1)))
                  (SA.i (SI.add (SI.rem (SI.v 20) (SI.c (Int.ofNat 16))) (SI.c (Int.ofNat 1))) SA.nil)))),
          SB.not
            (SB.app 141
              (SA.l (SL.v 1000)
                (SA.i (SI.add (SI.rem (SI.v 20) (SI.c (Int.ofNat 16))) (SI.c (Int.ofNat 1)))
                  (SA.i (SI.add (SI.rem (SI.v 21) (SI.c (Int.ofNat 16))) (SI.c (Int.ofNat 1))) SA.nil)))),
          SB.app 140 (SA.l (SL.v 1000) SA.nil), SB.eq (SI.len (SL.v 1000)) (SI.c (Int.ofNat 64)),
          SB.le (SI.c (Int.ofNat 0)) (SI.v 20), SB.le (SI.v 20) (SI.c (Int.ofNat 255)),
          SB.le (SI.c (Int.ofNat 0)) (SI.v 21), SB.le (SI.v 21) (SI.c (Int.ofNat 255)),
          SB.le (SI.c (Int.ofNat 0)) (SI.v 22), SB.le (SI.v 22) (SI.c (Int.ofNat 255))],
      eqs := [Eqn.T (SB.app 199 SA.nil)] },
    {
      pc :=
        [SB.app 141
            (SA.l
              (SL.app 116
                (SA.l (SL.v 1000) (SA.i (SI.add (SI.rem (SI.v 20) (SI.c (Int.ofNat 16))) (SI.c (Int.ofNat 1))) SA.nil)))
              (SA.i (SI.c (Int.ofNat 0))
                (SA.i (SI.add (SI.rem (SI.v 20) (SI.c (Int.ofNat 16))) (SI.c (Int.ofNat 1))) SA.nil))),
          SB.not
            (SB.app 141
              (SA.l
                (SL.app 116
                  (SA.l (SL.v 1000)
                    (SA.i (SI.add (SI.rem (SI.v 20) (SI.c (Int.ofNat 16))) (SI.c (Int.ofNat 1))) SA.nil)))
                (SA.i (SI.add (SI.rem (SI.v 20) (SI.c (Int.ofNat 16))) (SI.c (Int.ofNat 1)))
                  (SA.i (SI.add (SI.rem (SI.v 21) (SI.c (Int.ofNat 16))) (SI.c (Int.ofNat 1))) SA.nil)))),
          SB.app 140
            (SA.l
              (SL.app 116
                (SA.l (SL.v 1000) (SA.i (SI.add (SI.rem (SI.v 20) (SI.c (Int.ofNat 16))) (SI.c (Int.ofNat 1))) SA.nil)))
              SA.nil),
          SB.not
            (SB.eq (SI.add (SI.rem (SI.v 20) (SI.c (Int.ofNat 16))) (SI.c (Int.ofNat 1)))
              (SI.add (SI.rem (SI.v 21) (SI.c (Int.ofNat 16))) (SI.c (Int.ofNat 1)))),
          SB.le
            (SI.len
              (SL.app 102
                (SA.l (SL.v 1000)
                  (SA.i (SI.c (Int.ofNat 0))
                    (SA.i (SI.add (SI.rem (SI.v 20) (SI.c (Int.ofNat 16))) (SI.c (Int.ofNat 1))) SA.nil)))))
            (SI.len (SL.v 1000)),
          SB.eq
            (SI.len
              (SL.app 116
                (SA.l (SL.v 1000)
                  (SA.i (SI.add (SI.rem (SI.v 20) (SI.c (Int.ofNat 16))) (SI.c (Int.ofNat 1))) SA.nil))))
            (SI.len (SL.v 1000)),
          SB.app 141
            (SA.l (SL.v 1000)
              (SA.i (SI.add (SI.rem (SI.v 20) (SI.c (Int.ofNat 16))) (SI.c (Int.ofNat 1)))
                (SA.i (SI.add (SI.rem (SI.v 20) (SI.c (Int.ofNat 16))) (SI.c (Int.ofNat 1))) SA.nil))),
          SB.not
            (SB.app 141
              (SA.l (SL.v 1000)
                (SA.i (SI.add (SI.rem (SI.v 21) (SI.c (Int.ofNat 16))) (SI.c (Int.ofNat 1)))
                  (SA.i (SI.add (SI.rem (SI.v 20) (SI.c (Int.ofNat 16))) (SI.c (Int.ofNat 1))) SA.nil)))),
          SB.not
            (SB.app 141
              (SA.l (SL.v 1000)
                (SA.i (SI.add (SI.rem (SI.v 20) (SI.c (Int.ofNat 16))) (SI.c (Int.ofNat 1)))
                  (SA.i (SI.add (SI.rem (SI.v 21) (SI.c (Int.ofNat 16))) (SI.c (Int.ofNat 1))) SA.nil)))),
          SB.app 140 (SA.l (SL.v 1000) SA.nil), SB.eq (SI.len (SL.v 1000)) (SI.c (Int.ofNat 64)),
          SB.le (SI.c (Int.ofNat 0)) (SI.v 20), SB.le (SI.v 20) (SI.c (Int.ofNat 255)),
          SB.le (SI.c (Int.ofNat 0)) (SI.v 21), SB.le (SI.v 21) (SI.c (Int.ofNat 255)),
          SB.le (SI.c (Int.ofNat 0)) (SI.v 22), SB.le (SI.v 22) (SI.c (Int.ofNat 255))],
      eqs := [Eqn.T (SB.app 199 SA.nil)] },
    {
      pc :=
        [SB.app 141
            (SA.l
              (SL.app 116
                (SA.l (SL.v 1000) (SA.i (SI.add (SI.rem (SI.v 20) (SI.c (Int.ofNat 16))) (SI.c (Int.ofNat 1))) SA.nil)))
              (SA.i (SI.add (SI.rem (SI.v 20) (SI.c (Int.ofNat 16))) (SI.c (Int.ofNat 1)))
                (SA.i (SI.c (Int.ofNat 17)) SA.nil))),
          SB.not
            (SB.app 141
              (SA.l
                (SL.app 116
                  (SA.l (SL.v 1000)
                    (SA.i (SI.add (SI.rem (SI.v 20) (SI.c (Int.ofNat 16))) (SI.c (Int.ofNat 1))) SA.nil)))
                (SA.i (SI.c (Int.ofNat 0))
                  (SA.i (SI.add (SI.rem (SI.v 20) (SI.c (Int.ofNat 16))) (SI.c (Int.ofNat 1))) SA.nil)))),
          SB.not
            (SB.app 141
              (SA.l
                (SL.app 116
                  (SA.l (SL.v 1000)
                    (SA.i (SI.add (SI.rem (SI.v 20) (SI.c (Int.ofNat 16))) (SI.c (Int.ofNat 1))) SA.nil)))
                (SA.i (SI.add (SI.rem (SI.v 20) (SI.c (Int.ofNat 16))) (SI.c (Int.ofNat 1)))
                  (SA.i (SI.add (SI.rem (SI.v 21) (SI.c (Int.ofNat 16))) (SI.c (Int.ofNat 1))) SA.nil)))),
          SB.app 140
            (SA.l
              (SL.app 116
                (SA.l (SL.v 1000) (SA.i (SI.add (SI.rem (SI.v 20) (SI.c (Int.ofNat 16))) (SI.c (Int.ofNat 1))) SA.nil)))
              SA.nil),
          SB.not
            (SB.eq (SI.add (SI.rem (SI.v 20) (SI.c (Int.ofNat 16))) (SI.c (Int.ofNat 1)))
              (SI.add (SI.rem (SI.v 21) (SI.c (Int.ofNat 16))) (SI.c (Int.ofNat 1)))),
          SB.le
            (SI.len
              (SL.app 102
                (SA.l (SL.v 1000)
                  (SA.i (SI.c (Int.ofNat 0))
                    (SA.i (SI.add (SI.rem (SI.v 20) (SI.c (Int.ofNat 16))) (SI.c (Int.ofNat 1))) SA.nil)))))
            (SI.len (SL.v 1000)),
          SB.eq
            (SI.len
              (SL.app 116
                (SA.l (SL.v 1000)
                  (SA.i (SI.add (SI.rem (SI.v 20) (SI.c (Int.ofNat 16))) (SI.c (Int.ofNat 1))) SA.nil))))
            (SI.len (SL.v 1000)),
          SB.app 141
            (SA.l (SL.v 1000)
              (SA.i (SI.add (SI.rem (SI.v 20) (SI.c (Int.ofNat 16))) (SI.c (Int.ofNat 1)))
                (SA.i (SI.add (SI.rem (SI.v 20) (SI.c (Int.ofNat 16))) (SI.c (Int.ofNat 1))) SA.nil))),
          SB.not
            (SB.app 141
              (SA.l (SL.v 1000)
                (SA.i (SI.add (SI.rem (SI.v 21) (SI.c (Int.ofNat 16))) (SI.c (Int.ofNat 1)))
                  (SA.i (SI.add (SI.rem (SI.v 20) (SI.c (Int.ofNat 16))) (SI.c (Int.ofNat 1))) SA.nil)))),
          SB.not
            (SB.app 141
              (SA.l (SL.v 1000)
                (SA.i (SI.add (SI.rem (SI.v 20) (SI.c (Int.ofNat 16))) (SI.c (Int.ofNat 1)))
                  (SA.i (SI.add (SI.rem (SI.v 21) (SI.c (Int.ofNat 16))) (SI.c (Int.ofNat 1))) SA.nil)))),
          SB.app 140 (SA.l (SL.v 1000) SA.nil), SB.eq (SI.len (SL.v 1000)) (SI.c (Int.ofNat 64)),
          SB.le (SI.c (Int.ofNat 0)) (SI.v 20), SB.le (SI.v 20) (SI.c (Int.ofNat 255)),
          SB.le (SI.c (Int.ofNat 0)) (SI.v 21), SB.le (SI.v 21) (SI.c (Int.ofNat 255)),
          SB.le (SI.c (Int.ofNat 0)) (SI.v 22), SB.le (SI.v 22) (SI.c (Int.ofNat 255))],
      eqs := [Eqn.T (SB.app 199 SA.nil)] },
    {
      pc :=
        [SB.not
            (SB.app 140
              (SA.l
                (SL.app 116
                  (SA.l (SL.v 1000)
                    (SA.i (SI.add (SI.rem (SI.v 20) (SI.c (Int.ofNat 16))) (SI.c (Int.ofNat 1))) SA.nil)))
                SA.nil)),
          SB.not
            (SB.eq (SI.add (SI.rem (SI.v 20) (SI.c (Int.ofNat 16))) (SI.c (Int.ofNat 1)))
              (SI.add (SI.rem (SI.v 21) (SI.c (Int.ofNat 16))) (SI.c (Int.ofNat 1)))),
          SB.le
            (SI.len
              (SL.app 102
                (SA.l (SL.v 1000)
                  (SA.i (SI.c (Int.ofNat 0))
                    (SA.i (SI.add (SI.rem (SI.v 20) (SI.c (Int.ofNat 16))) (SI.c (Int.ofNat 1))) SA.nil)))))
            (SI.len (SL.v 1000)),
          SB.eq
            (SI.len
              (SL.app 116
                (SA.l (SL.v 1000)
                  (SA.i (SI.add (SI.rem (SI.v 20) (SI.c (Int.ofNat 16))) (SI.c (Int.ofNat 1))) SA.nil))))
            (SI.len (SL.v 1000)),
          SB.app 141
            (SA.l (SL.v 1000)
              (SA.i (SI.add (SI.rem (SI.v 20) (SI.c (Int.ofNat 16))) (SI.c (Int.ofNat 1)))
                (SA.i (SI.add (SI.rem (SI.v 20) (SI.c (Int.ofNat 16))) (SI.c (Int.ofNat 1))) SA.nil))),
          SB.not
            (SB.app 141
              (SA.l (SL.v 1000)
                (SA.i (SI.add (SI.rem (SI.v 21) (SI.c (Int.ofNat 16))) (SI.c (Int.ofNat 1)))
                  (SA.i (SI.add (SI.rem (SI.v 20) (SI.c (Int.ofNat 16))) (SI.c (Int.ofNat 1))) SA.nil)))),
          SB.not
            (SB.app 141
              (SA.l (SL.v 1000)
                (SA.i (SI.add (SI.rem (SI.v 20) (SI.c (Int.ofNat 16))) (SI.c (Int.ofNat 1)))
                  (SA.i (SI.add (SI.rem (SI.v 21) (SI.c (Int.ofNat 16))) (SI.c (Int.ofNat 1))) SA.nil)))),
          SB.app 140 (SA.l (SL.v 1000) SA.nil), SB.eq (SI.len (SL.v 1000)) (SI.c (Int.ofNat 64)),
          SB.le (SI.c (Int.ofNat 0)) (SI.v 20), SB.le (SI.v 20) (SI.c (Int.ofNat 255)),
          SB.le (SI.c (Int.ofNat 0)) (SI.v 21), SB.le (SI.v 21) (SI.c (Int.ofNat 255)),
          SB.le (SI.c (Int.ofNat 0)) (SI.v 22), SB.le (SI.v 22) (SI.c (Int.ofNat 255))],
      eqs := [Eqn.T (SB.c false)] },
    {
      pc :=
        [SB.not
            (SB.app 141
              (SA.l (SL.v 1000)
                (SA.i (SI.add (SI.rem (SI.v 20) (SI.c (Int.ofNat 16))) (SI.c (Int.ofNat 1)))
                  (SA.i (SI.add (SI.rem (SI.v 20) (SI.c (Int.ofNat 16))) (SI.c (Int.ofNat 1))) SA.nil)))),
          SB.not
            (SB.app 141
              (SA.l (SL.v 1000)
                (SA.i (SI.add (SI.rem (SI.v 21) (SI.c (Int.ofNat 16))) (SI.c (Int.ofNat 1)))
                  (SA.i (SI.add (SI.rem (SI.v 20) (SI.c (Int.ofNat 16))) (SI.c (Int.ofNat 1))) SA.nil)))),
          SB.not
            (SB.app 141
              (SA.l (SL.v 1000)
                (SA.i (SI.add (SI.rem (SI.v 20) (SI.c (Int.ofNat 16))) (SI.c (Int.ofNat 1)))
                  (SA.i (SI.add (SI.rem (SI.v 21) (SI.c (Int.ofNat 16))) (SI.c (Int.ofNat 1))) SA.nil)))),
          SB.app 140 (SA.l (SL.v 1000) SA.nil), SB.eq (SI.len (SL.v 1000)) (SI.c (Int.ofNat 64)),
          SB.le (SI.c (Int.ofNat 0)) (SI.v 20), SB.le (SI.v 20) (SI.c (Int.ofNat 255)),
          SB.le (SI.c (Int.ofNat 0)) (SI.v 21), SB.le (SI.v 21) (SI.c (Int.ofNat 255)),
          SB.le (SI.c (Int.ofNat 0)) (SI.v 22), SB.le (SI.v 22) (SI.c (Int.ofNat 255))],
      eqs := [Eqn.T (SB.app 199 SA.nil)] }] := by kernel_rfl
theorem lLinks0_ok : lLinks0.ok Φ Try.prog := by
  refine call_rule (fun ρ => r1_ok ρ) lLinks0_obs ?_
  simp only [and_imp, List.forall_mem_cons, List.not_mem_nil, false_implies, implies_true, and_true, Ob.ok, holds, Eqn.ok, evB_eq, evB_lt, evB_le, evB_not, evB_and, evB_or, evB_eqL, evB_app, evB_v, evB_c, ev_sel, ev_len, ev_v, ev_c, ev_add, ev_sub, ev_mul, ev_quo, ev_rem, ev_bits, ev_wrap, evL_v, evL_lit, evL_app, ev_app, evA_l, evA_i, evA_nil, std_min, std_max, std_cat, std_take, std_drop, std_row, std_set, std_rep, std_find, std_put, std_del, std_flag, std_unflag, std_clr, std_left, std_copy, ints_cons, ints_nil, ofNat_lit, negSucc_lit, decide_eq_true_eq, Bool.and_eq_true, Bool.or_eq_true, Bool.not_eq_true', Bool.and_eq_false_iff, Bool.or_eq_false_iff, decide_eq_false_iff_not, aI110, aI111, aI112, aI113, aI114, aL100, aL101, aL102, aL103, aL110, aL112, aL113, aL114, aL115, aL116, aB130, aB131, aB132, aB199, aI142, aL140, aL141, aL143, aL144, aB140, aB141, aI150, aL150, aB150]
  repeat' apply And.intro
  all_goals intro ρ hR
  all_goals intros
  all_goals first
    | (exfalso
       exact Bool.false_ne_true (‹okGB _ = false›.symm.trans (okGB_rep _)))
    | (have h20 := rem16 (x := ρ.i 20) (by omega)
       have h21 := rem16 (x := ρ.i 21) (by omega)
       have h22 := rem16 (x := ρ.i 22) (by omega)
       have hG : okGB (ρ.l 1000) = true := by with_reducible assumption
       have e1 := link_symm hG (a := ((ρ.i 20).tmod 16 + 1)) (b := ((ρ.i 21).tmod 16 + 1))
       have e2 := link_refl hG (a := ((ρ.i 20).tmod 16 + 1)) (by omega) (by omega)
       have e3 := @link_trans (ρ.l 1000) ((ρ.i 20).tmod 16 + 1) ((ρ.i 21).tmod 16 + 1) ((ρ.i 22).tmod 16 + 1) hG
       have e4 := all_clr hG (a := ((ρ.i 20).tmod 16 + 1))
       have e5 := @link_drop (ρ.l 1000) ((ρ.i 20).tmod 16 + 1) ((ρ.i 21).tmod 16 + 1) hG
       have e6 := @link_l (clrG ((ρ.i 20).tmod 16 + 1) (ρ.l 1000)) 0 ((ρ.i 20).tmod 16 + 1) (by omega)
       have e7 := @link_r (clrG ((ρ.i 20).tmod 16 + 1) (ρ.l 1000)) ((ρ.i 20).tmod 16 + 1) 17 (by omega)
       clear hR h20 h21 h22
       exfalso
       simp_all
       done)
theorem lLinks_ok : lLinks.ok Φ Try.prog := drop_never rfl lLinks0_ok
end Go.SF.C19
