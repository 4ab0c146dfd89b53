/- The law of the next time, shown. -/
import Derived.Test.YtnjnmeidjcdppaaQ2
import Derived.Test.YtnjnmeidjcdppaaC3
import Derived.Test.YtnjnmeidjcdppaaP3
import Derived.KernelRfl
namespace Go.SF.C18
open Go Go.SF Go.Proofs
set_option linter.unusedVariables false
set_option linter.unusedSimpArgs false

set_option maxRecDepth 100000 in
theorem ne1_obs : loopObs Φ Try.prog t10 1000 ne1.f (loopAt Try.prog ne1.f ne1.id) ne1.n ne1.T i7 ne1.outs = some
  [{
      pc :=
        [SB.le
            (SI.len
              (SL.app 110
                (SA.l (SL.v 0)
                  (SA.i (SI.v 0)
                    (SA.i (SI.add (SI.sel (SL.v 8) (SI.v 0) 0) (SI.c (Int.ofNat 1)))
                      (SA.i (SI.sel (SL.v 9) (SI.v 0) 0) (SA.i (SI.c (Int.ofNat 0)) SA.nil)))))))
            (SI.add (SI.len (SL.v 0)) (SI.c (Int.ofNat 1))),
          SB.le (SI.c (Int.ofNat 0)) (SI.sel (SL.v 8) (SI.v 0) 0),
          SB.le (SI.sel (SL.v 8) (SI.v 0) 0) (SI.c (Int.ofNat 65535)),
          SB.le (SI.c (Int.ofNat 0)) (SI.sel (SL.v 9) (SI.v 0) 0),
          SB.le (SI.sel (SL.v 9) (SI.v 0) 0) (SI.c (Int.ofNat 65535)), SB.lt (SI.v 0) (SI.len (SL.v 9)),
          SB.lt (SI.v 0) (SI.len (SL.v 8)), SB.le (SI.c (Int.ofNat 0)) (SI.v 0), SB.le (SI.v 0) (SI.len (SL.v 8)),
          SB.le (SI.len (SL.v 8)) (SI.c (Int.ofNat 20)), SB.le (SI.len (SL.v 0)) (SI.v 0),
          SB.app 140 (SA.l (SL.v 0) (SA.i (SI.c (Int.ofNat 0)) (SA.i (SI.c (Int.ofNat 0)) SA.nil)))],
      eqs :=
        [Eqn.T
            (SB.lt (SI.sub (SI.len (SL.v 8)) (SI.add (SI.v 0) (SI.c (Int.ofNat 1))))
              (SI.sub (SI.len (SL.v 8)) (SI.v 0))),
          Eqn.T (SB.lt (SI.c (Int.ofNat 0)) (SI.sub (SI.len (SL.v 8)) (SI.v 0))),
          Eqn.T
            (SB.app 140
              (SA.l
                (SL.app 110
                  (SA.l (SL.v 0)
                    (SA.i (SI.v 0)
                      (SA.i (SI.add (SI.sel (SL.v 8) (SI.v 0) 0) (SI.c (Int.ofNat 1)))
                        (SA.i (SI.sel (SL.v 9) (SI.v 0) 0) (SA.i (SI.c (Int.ofNat 0)) SA.nil))))))
                (SA.i (SI.c (Int.ofNat 0)) (SA.i (SI.c (Int.ofNat 0)) SA.nil))))] },
    {
      pc :=
        [SB.le
            (SI.len
              (SL.app 110
                (SA.l (SL.v 0)
                  (SA.i (SI.v 0)
                    (SA.i (SI.add (SI.sel (SL.v 8) (SI.v 0) 0) (SI.c (Int.ofNat 1)))
                      (SA.i (SI.c (Int.ofNat 0)) (SA.i (SI.c (Int.ofNat 0)) SA.nil)))))))
            (SI.add (SI.len (SL.v 0)) (SI.c (Int.ofNat 1))),
          SB.le (SI.c (Int.ofNat 0)) (SI.sel (SL.v 8) (SI.v 0) 0),
          SB.le (SI.sel (SL.v 8) (SI.v 0) 0) (SI.c (Int.ofNat 65535)), SB.not (SB.lt (SI.v 0) (SI.len (SL.v 9))),
          SB.lt (SI.v 0) (SI.len (SL.v 8)), SB.le (SI.c (Int.ofNat 0)) (SI.v 0), SB.le (SI.v 0) (SI.len (SL.v 8)),
          SB.le (SI.len (SL.v 8)) (SI.c (Int.ofNat 20)), SB.le (SI.len (SL.v 0)) (SI.v 0),
          SB.app 140 (SA.l (SL.v 0) (SA.i (SI.c (Int.ofNat 0)) (SA.i (SI.c (Int.ofNat 0)) SA.nil)))],
      eqs :=
        [Eqn.T
            (SB.lt (SI.sub (SI.len (SL.v 8)) (SI.add (SI.v 0) (SI.c (Int.ofNat 1))))
              (SI.sub (SI.len (SL.v 8)) (SI.v 0))),
          Eqn.T (SB.lt (SI.c (Int.ofNat 0)) (SI.sub (SI.len (SL.v 8)) (SI.v 0))),
          Eqn.T
            (SB.app 140
              (SA.l
                (SL.app 110
                  (SA.l (SL.v 0)
                    (SA.i (SI.v 0)
                      (SA.i (SI.add (SI.sel (SL.v 8) (SI.v 0) 0) (SI.c (Int.ofNat 1)))
                        (SA.i (SI.c (Int.ofNat 0)) (SA.i (SI.c (Int.ofNat 0)) SA.nil))))))
                (SA.i (SI.c (Int.ofNat 0)) (SA.i (SI.c (Int.ofNat 0)) SA.nil))))] }] := by kernel_rfl
theorem ne1_ok : ne1.ok Φ Try.prog := by
  refine ⟨by kernel_rfl, loop_rule (fun ρ => t10_ok ρ) (loopAt_sub (by kernel_rfl)) ne1_obs ?_⟩
  simp only [and_imp, List.forall_mem_cons, List.not_mem_nil, false_implies, implies_true, and_true, Ob.ok, holds, Eqn.ok, evB_eq, evB_lt, evB_le, evB_not, evB_and, evB_or, evB_eqL, evB_app, evB_v, evB_c, ev_sel, ev_len, ev_v, ev_c, ev_add, ev_sub, ev_mul, ev_quo, ev_rem, ev_bits, ev_wrap, evL_v, evL_lit, evL_app, ev_app, evA_l, evA_i, evA_nil, std_min, std_max, std_cat, std_take, std_drop, std_row, std_set, std_rep, std_find, std_put, std_del, std_flag, std_unflag, std_clr, std_left, std_copy, ints_cons, ints_nil, ofNat_lit, negSucc_lit, decide_eq_true_eq, Bool.and_eq_true, Bool.or_eq_true, Bool.not_eq_true', Bool.and_eq_false_iff, Bool.or_eq_false_iff, decide_eq_false_iff_not, aI110, aI111, aI112, aI113, aI114, aI115, aI120, aI121, aI122, aL110, aL116, aL120, aL122, aL123, aL124, aL125, aB130, aB132, aB140, aB141, aB142, aL126, aL127, aL128, aB199]
  repeat' apply And.intro
  all_goals intro ρ hR
  all_goals intros
  all_goals first
    | (exact ⟨by omega, by omega, good_arm (by with_reducible assumption) (by omega) (by omega) (by omega) (by omega)⟩)
    | (omega)
theorem t12_ok (ρ : Env) : TblOK Φ ρ Try.prog t12 := addLp_ok (t10_ok ρ) ne1_ok
set_option maxRecDepth 100000 in
theorem ne2_obs : loopObs Φ Try.prog t12 1000 ne2.f (loopAt Try.prog ne2.f ne2.id) ne2.n ne2.T i8 ne2.outs = some
  [{
      pc :=
        [SB.le (SI.app 112 (SA.l (SL.v 0) SA.nil)) (SI.v 9), SB.not (SB.eq (SI.len (SL.v 0)) (SI.c (Int.ofNat 0))),
          SB.lt (SI.v 0) (SI.c (Int.ofNat 30)), SB.le (SI.c (Int.ofNat 0)) (SI.v 0),
          SB.le (SI.v 0) (SI.c (Int.ofNat 30)), SB.le (SI.c (Int.ofNat 0)) (SI.v 9),
          SB.le (SI.len (SL.v 0)) (SI.c (Int.ofNat 20)),
          SB.app 140 (SA.l (SL.v 0) (SA.i (SI.v 9) (SA.i (SI.v 0) SA.nil)))],
      eqs := [Eqn.T (SB.app 199 SA.nil)] },
    {
      pc :=
        [SB.or (SB.lt (SI.app 112 (SA.l (SL.v 0) SA.nil)) (SI.v 9))
            (SB.lt (SI.c (Int.ofNat 549755813888)) (SI.app 112 (SA.l (SL.v 0) SA.nil))),
          SB.or (SB.lt (SI.wrap IntKind.i64 (SI.sub (SI.app 112 (SA.l (SL.v 0) SA.nil)) (SI.c (Int.ofNat 1)))) (SI.v 9))
            (SB.lt (SI.c (Int.ofNat 549755813888))
              (SI.wrap IntKind.i64 (SI.sub (SI.app 112 (SA.l (SL.v 0) SA.nil)) (SI.c (Int.ofNat 1))))),
          SB.not (SB.le (SI.app 112 (SA.l (SL.v 0) SA.nil)) (SI.v 9)),
          SB.not (SB.eq (SI.len (SL.v 0)) (SI.c (Int.ofNat 0))), SB.lt (SI.v 0) (SI.c (Int.ofNat 30)),
          SB.le (SI.c (Int.ofNat 0)) (SI.v 0), SB.le (SI.v 0) (SI.c (Int.ofNat 30)),
          SB.le (SI.c (Int.ofNat 0)) (SI.v 9), SB.le (SI.len (SL.v 0)) (SI.c (Int.ofNat 20)),
          SB.app 140 (SA.l (SL.v 0) (SA.i (SI.v 9) (SA.i (SI.v 0) SA.nil)))],
      eqs := [Eqn.T (SB.app 199 SA.nil)] },
    {
      pc :=
        [SB.eq (SI.len (SL.app 124 (SA.l (SL.v 0) (SA.i (SI.app 112 (SA.l (SL.v 0) SA.nil)) SA.nil))))
            (SI.c (Int.ofNat 0)),
          SB.le (SI.len (SL.app 125 (SA.l (SL.v 0) (SA.i (SI.app 112 (SA.l (SL.v 0) SA.nil)) SA.nil))))
            (SI.len (SL.v 0)),
          SB.lt (SI.len (SL.app 124 (SA.l (SL.v 0) (SA.i (SI.app 112 (SA.l (SL.v 0) SA.nil)) SA.nil))))
            (SI.c (Int.ofNat 80000)),
          SB.le (SI.app 112 (SA.l (SL.v 0) SA.nil)) (SI.c (Int.ofNat 549755813888)),
          SB.or (SB.lt (SI.wrap IntKind.i64 (SI.sub (SI.app 112 (SA.l (SL.v 0) SA.nil)) (SI.c (Int.ofNat 1)))) (SI.v 9))
            (SB.lt (SI.c (Int.ofNat 549755813888))
              (SI.wrap IntKind.i64 (SI.sub (SI.app 112 (SA.l (SL.v 0) SA.nil)) (SI.c (Int.ofNat 1))))),
          SB.not (SB.le (SI.app 112 (SA.l (SL.v 0) SA.nil)) (SI.v 9)),
          SB.not (SB.eq (SI.len (SL.v 0)) (SI.c (Int.ofNat 0))), SB.lt (SI.v 0) (SI.c (Int.ofNat 30)),
          SB.le (SI.c (Int.ofNat 0)) (SI.v 0), SB.le (SI.v 0) (SI.c (Int.ofNat 30)),
          SB.le (SI.c (Int.ofNat 0)) (SI.v 9), SB.le (SI.len (SL.v 0)) (SI.c (Int.ofNat 20)),
          SB.app 140 (SA.l (SL.v 0) (SA.i (SI.v 9) (SA.i (SI.v 0) SA.nil)))],
      eqs := [Eqn.T (SB.app 199 SA.nil)] },
    {
      pc :=
        [SB.eq
            (SI.sel (SL.app 124 (SA.l (SL.v 0) (SA.i (SI.app 112 (SA.l (SL.v 0) SA.nil)) SA.nil))) (SI.c (Int.ofNat 0))
              1)
            (SI.app 112 (SA.l (SL.v 0) SA.nil)),
          SB.not
            (SB.eq (SI.len (SL.app 124 (SA.l (SL.v 0) (SA.i (SI.app 112 (SA.l (SL.v 0) SA.nil)) SA.nil))))
              (SI.c (Int.ofNat 0))),
          SB.le (SI.len (SL.app 125 (SA.l (SL.v 0) (SA.i (SI.app 112 (SA.l (SL.v 0) SA.nil)) SA.nil))))
            (SI.len (SL.v 0)),
          SB.lt (SI.len (SL.app 124 (SA.l (SL.v 0) (SA.i (SI.app 112 (SA.l (SL.v 0) SA.nil)) SA.nil))))
            (SI.c (Int.ofNat 80000)),
          SB.le (SI.app 112 (SA.l (SL.v 0) SA.nil)) (SI.c (Int.ofNat 549755813888)),
          SB.or (SB.lt (SI.wrap IntKind.i64 (SI.sub (SI.app 112 (SA.l (SL.v 0) SA.nil)) (SI.c (Int.ofNat 1)))) (SI.v 9))
            (SB.lt (SI.c (Int.ofNat 549755813888))
              (SI.wrap IntKind.i64 (SI.sub (SI.app 112 (SA.l (SL.v 0) SA.nil)) (SI.c (Int.ofNat 1))))),
          SB.not (SB.le (SI.app 112 (SA.l (SL.v 0) SA.nil)) (SI.v 9)),
          SB.not (SB.eq (SI.len (SL.v 0)) (SI.c (Int.ofNat 0))), SB.lt (SI.v 0) (SI.c (Int.ofNat 30)),
          SB.le (SI.c (Int.ofNat 0)) (SI.v 0), SB.le (SI.v 0) (SI.c (Int.ofNat 30)),
          SB.le (SI.c (Int.ofNat 0)) (SI.v 9), SB.le (SI.len (SL.v 0)) (SI.c (Int.ofNat 20)),
          SB.app 140 (SA.l (SL.v 0) (SA.i (SI.v 9) (SA.i (SI.v 0) SA.nil)))],
      eqs :=
        [Eqn.T
            (SB.lt (SI.sub (SI.c (Int.ofNat 30)) (SI.add (SI.v 0) (SI.c (Int.ofNat 1))))
              (SI.sub (SI.c (Int.ofNat 30)) (SI.v 0))),
          Eqn.T
            (SB.app 140
              (SA.l (SL.app 125 (SA.l (SL.v 0) (SA.i (SI.app 112 (SA.l (SL.v 0) SA.nil)) SA.nil)))
                (SA.i (SI.app 112 (SA.l (SL.v 0) SA.nil)) (SA.i (SI.add (SI.v 0) (SI.c (Int.ofNat 1))) SA.nil))))] },
    {
      pc :=
        [SB.not
            (SB.eq
              (SI.sel (SL.app 124 (SA.l (SL.v 0) (SA.i (SI.app 112 (SA.l (SL.v 0) SA.nil)) SA.nil)))
                (SI.c (Int.ofNat 0)) 1)
              (SI.app 112 (SA.l (SL.v 0) SA.nil))),
          SB.not
            (SB.eq (SI.len (SL.app 124 (SA.l (SL.v 0) (SA.i (SI.app 112 (SA.l (SL.v 0) SA.nil)) SA.nil))))
              (SI.c (Int.ofNat 0))),
          SB.le (SI.len (SL.app 125 (SA.l (SL.v 0) (SA.i (SI.app 112 (SA.l (SL.v 0) SA.nil)) SA.nil))))
            (SI.len (SL.v 0)),
          SB.lt (SI.len (SL.app 124 (SA.l (SL.v 0) (SA.i (SI.app 112 (SA.l (SL.v 0) SA.nil)) SA.nil))))
            (SI.c (Int.ofNat 80000)),
          SB.le (SI.app 112 (SA.l (SL.v 0) SA.nil)) (SI.c (Int.ofNat 549755813888)),
          SB.or (SB.lt (SI.wrap IntKind.i64 (SI.sub (SI.app 112 (SA.l (SL.v 0) SA.nil)) (SI.c (Int.ofNat 1)))) (SI.v 9))
            (SB.lt (SI.c (Int.ofNat 549755813888))
              (SI.wrap IntKind.i64 (SI.sub (SI.app 112 (SA.l (SL.v 0) SA.nil)) (SI.c (Int.ofNat 1))))),
          SB.not (SB.le (SI.app 112 (SA.l (SL.v 0) SA.nil)) (SI.v 9)),
          SB.not (SB.eq (SI.len (SL.v 0)) (SI.c (Int.ofNat 0))), SB.lt (SI.v 0) (SI.c (Int.ofNat 30)),
          SB.le (SI.c (Int.ofNat 0)) (SI.v 0), SB.le (SI.v 0) (SI.c (Int.ofNat 30)),
          SB.le (SI.c (Int.ofNat 0)) (SI.v 9), SB.le (SI.len (SL.v 0)) (SI.c (Int.ofNat 20)),
          SB.app 140 (SA.l (SL.v 0) (SA.i (SI.v 9) (SA.i (SI.v 0) SA.nil)))],
      eqs := [Eqn.T (SB.app 199 SA.nil)] },
    {
      pc :=
        [SB.eq
            (SI.len
              (SL.app 124
                (SA.l (SL.v 0)
                  (SA.i (SI.wrap IntKind.i64 (SI.sub (SI.app 112 (SA.l (SL.v 0) SA.nil)) (SI.c (Int.ofNat 1))))
                    SA.nil))))
            (SI.c (Int.ofNat 0)),
          SB.or
            (SB.lt (SI.app 112 (SA.l (SL.v 0) SA.nil))
              (SI.wrap IntKind.i64 (SI.sub (SI.app 112 (SA.l (SL.v 0) SA.nil)) (SI.c (Int.ofNat 1)))))
            (SB.lt (SI.c (Int.ofNat 549755813888)) (SI.app 112 (SA.l (SL.v 0) SA.nil))),
          SB.le
            (SI.len
              (SL.app 125
                (SA.l (SL.v 0)
                  (SA.i (SI.wrap IntKind.i64 (SI.sub (SI.app 112 (SA.l (SL.v 0) SA.nil)) (SI.c (Int.ofNat 1))))
                    SA.nil))))
            (SI.len (SL.v 0)),
          SB.lt
            (SI.len
              (SL.app 124
                (SA.l (SL.v 0)
                  (SA.i (SI.wrap IntKind.i64 (SI.sub (SI.app 112 (SA.l (SL.v 0) SA.nil)) (SI.c (Int.ofNat 1))))
                    SA.nil))))
            (SI.c (Int.ofNat 80000)),
          SB.le (SI.wrap IntKind.i64 (SI.sub (SI.app 112 (SA.l (SL.v 0) SA.nil)) (SI.c (Int.ofNat 1))))
            (SI.c (Int.ofNat 549755813888)),
          SB.le (SI.v 9) (SI.wrap IntKind.i64 (SI.sub (SI.app 112 (SA.l (SL.v 0) SA.nil)) (SI.c (Int.ofNat 1)))),
          SB.not (SB.le (SI.app 112 (SA.l (SL.v 0) SA.nil)) (SI.v 9)),
          SB.not (SB.eq (SI.len (SL.v 0)) (SI.c (Int.ofNat 0))), SB.lt (SI.v 0) (SI.c (Int.ofNat 30)),
          SB.le (SI.c (Int.ofNat 0)) (SI.v 0), SB.le (SI.v 0) (SI.c (Int.ofNat 30)),
          SB.le (SI.c (Int.ofNat 0)) (SI.v 9), SB.le (SI.len (SL.v 0)) (SI.c (Int.ofNat 20)),
          SB.app 140 (SA.l (SL.v 0) (SA.i (SI.v 9) (SA.i (SI.v 0) SA.nil)))],
      eqs := [Eqn.T (SB.app 199 SA.nil)] },
    {
      pc :=
        [SB.not
            (SB.eq
              (SI.len
                (SL.app 124
                  (SA.l (SL.v 0)
                    (SA.i (SI.wrap IntKind.i64 (SI.sub (SI.app 112 (SA.l (SL.v 0) SA.nil)) (SI.c (Int.ofNat 1))))
                      SA.nil))))
              (SI.c (Int.ofNat 0))),
          SB.or
            (SB.lt (SI.app 112 (SA.l (SL.v 0) SA.nil))
              (SI.wrap IntKind.i64 (SI.sub (SI.app 112 (SA.l (SL.v 0) SA.nil)) (SI.c (Int.ofNat 1)))))
            (SB.lt (SI.c (Int.ofNat 549755813888)) (SI.app 112 (SA.l (SL.v 0) SA.nil))),
          SB.le
            (SI.len
              (SL.app 125
                (SA.l (SL.v 0)
                  (SA.i (SI.wrap IntKind.i64 (SI.sub (SI.app 112 (SA.l (SL.v 0) SA.nil)) (SI.c (Int.ofNat 1))))
                    SA.nil))))
            (SI.len (SL.v 0)),
          SB.lt
            (SI.len
              (SL.app 124
                (SA.l (SL.v 0)
                  (SA.i (SI.wrap IntKind.i64 (SI.sub (SI.app 112 (SA.l (SL.v 0) SA.nil)) (SI.c (Int.ofNat 1))))
                    SA.nil))))
            (SI.c (Int.ofNat 80000)),
          SB.le (SI.wrap IntKind.i64 (SI.sub (SI.app 112 (SA.l (SL.v 0) SA.nil)) (SI.c (Int.ofNat 1))))
            (SI.c (Int.ofNat 549755813888)),
          SB.le (SI.v 9) (SI.wrap IntKind.i64 (SI.sub (SI.app 112 (SA.l (SL.v 0) SA.nil)) (SI.c (Int.ofNat 1)))),
          SB.not (SB.le (SI.app 112 (SA.l (SL.v 0) SA.nil)) (SI.v 9)),
          SB.not (SB.eq (SI.len (SL.v 0)) (SI.c (Int.ofNat 0))), SB.lt (SI.v 0) (SI.c (Int.ofNat 30)),
          SB.le (SI.c (Int.ofNat 0)) (SI.v 0), SB.le (SI.v 0) (SI.c (Int.ofNat 30)),
          SB.le (SI.c (Int.ofNat 0)) (SI.v 9), SB.le (SI.len (SL.v 0)) (SI.c (Int.ofNat 20)),
          SB.app 140 (SA.l (SL.v 0) (SA.i (SI.v 9) (SA.i (SI.v 0) SA.nil)))],
      eqs := [Eqn.T (SB.app 199 SA.nil)] },
    {
      pc :=
        [SB.eq
            (SI.len
              (SL.app 124
                (SA.l
                  (SL.app 125
                    (SA.l (SL.v 0)
                      (SA.i (SI.wrap IntKind.i64 (SI.sub (SI.app 112 (SA.l (SL.v 0) SA.nil)) (SI.c (Int.ofNat 1))))
                        SA.nil)))
                  (SA.i (SI.app 112 (SA.l (SL.v 0) SA.nil)) SA.nil))))
            (SI.c (Int.ofNat 0)),
          SB.eq
            (SI.len
              (SL.app 124
                (SA.l (SL.v 0)
                  (SA.i (SI.wrap IntKind.i64 (SI.sub (SI.app 112 (SA.l (SL.v 0) SA.nil)) (SI.c (Int.ofNat 1))))
                    SA.nil))))
            (SI.c (Int.ofNat 0)),
          SB.le
            (SI.len
              (SL.app 125
                (SA.l
                  (SL.app 125
                    (SA.l (SL.v 0)
                      (SA.i (SI.wrap IntKind.i64 (SI.sub (SI.app 112 (SA.l (SL.v 0) SA.nil)) (SI.c (Int.ofNat 1))))
                        SA.nil)))
                  (SA.i (SI.app 112 (SA.l (SL.v 0) SA.nil)) SA.nil))))
            (SI.len
              (SL.app 125
                (SA.l (SL.v 0)
                  (SA.i (SI.wrap IntKind.i64 (SI.sub (SI.app 112 (SA.l (SL.v 0) SA.nil)) (SI.c (Int.ofNat 1))))
                    SA.nil)))),
          SB.lt
            (SI.len
              (SL.app 124
                (SA.l
                  (SL.app 125
                    (SA.l (SL.v 0)
                      (SA.i (SI.wrap IntKind.i64 (SI.sub (SI.app 112 (SA.l (SL.v 0) SA.nil)) (SI.c (Int.ofNat 1))))
                        SA.nil)))
                  (SA.i (SI.app 112 (SA.l (SL.v 0) SA.nil)) SA.nil))))
            (SI.c (Int.ofNat 80000)),
          SB.le (SI.app 112 (SA.l (SL.v 0) SA.nil)) (SI.c (Int.ofNat 549755813888)),
          SB.le (SI.wrap IntKind.i64 (SI.sub (SI.app 112 (SA.l (SL.v 0) SA.nil)) (SI.c (Int.ofNat 1))))
            (SI.app 112 (SA.l (SL.v 0) SA.nil)),
          SB.le
            (SI.len
              (SL.app 125
                (SA.l (SL.v 0)
                  (SA.i (SI.wrap IntKind.i64 (SI.sub (SI.app 112 (SA.l (SL.v 0) SA.nil)) (SI.c (Int.ofNat 1))))
                    SA.nil))))
            (SI.len (SL.v 0)),
          SB.lt
            (SI.len
              (SL.app 124
                (SA.l (SL.v 0)
                  (SA.i (SI.wrap IntKind.i64 (SI.sub (SI.app 112 (SA.l (SL.v 0) SA.nil)) (SI.c (Int.ofNat 1))))
                    SA.nil))))
            (SI.c (Int.ofNat 80000)),
          SB.le (SI.wrap IntKind.i64 (SI.sub (SI.app 112 (SA.l (SL.v 0) SA.nil)) (SI.c (Int.ofNat 1))))
            (SI.c (Int.ofNat 549755813888)),
          SB.le (SI.v 9) (SI.wrap IntKind.i64 (SI.sub (SI.app 112 (SA.l (SL.v 0) SA.nil)) (SI.c (Int.ofNat 1)))),
          SB.not (SB.le (SI.app 112 (SA.l (SL.v 0) SA.nil)) (SI.v 9)),
          SB.not (SB.eq (SI.len (SL.v 0)) (SI.c (Int.ofNat 0))), SB.lt (SI.v 0) (SI.c (Int.ofNat 30)),
          SB.le (SI.c (Int.ofNat 0)) (SI.v 0), SB.le (SI.v 0) (SI.c (Int.ofNat 30)),
          SB.le (SI.c (Int.ofNat 0)) (SI.v 9), SB.le (SI.len (SL.v 0)) (SI.c (Int.ofNat 20)),
          SB.app 140 (SA.l (SL.v 0) (SA.i (SI.v 9) (SA.i (SI.v 0) SA.nil)))],
      eqs := [Eqn.T (SB.app 199 SA.nil)] },
    {
      pc :=
        [SB.eq
            (SI.sel
              (SL.app 124
                (SA.l
                  (SL.app 125
                    (SA.l (SL.v 0)
                      (SA.i (SI.wrap IntKind.i64 (SI.sub (SI.app 112 (SA.l (SL.v 0) SA.nil)) (SI.c (Int.ofNat 1))))
                        SA.nil)))
                  (SA.i (SI.app 112 (SA.l (SL.v 0) SA.nil)) SA.nil)))
              (SI.c (Int.ofNat 0)) 1)
            (SI.app 112 (SA.l (SL.v 0) SA.nil)),
          SB.not
            (SB.eq
              (SI.len
                (SL.app 124
                  (SA.l
                    (SL.app 125
                      (SA.l (SL.v 0)
                        (SA.i (SI.wrap IntKind.i64 (SI.sub (SI.app 112 (SA.l (SL.v 0) SA.nil)) (SI.c (Int.ofNat 1))))
                          SA.nil)))
                    (SA.i (SI.app 112 (SA.l (SL.v 0) SA.nil)) SA.nil))))
              (SI.c (Int.ofNat 0))),
          SB.eq
            (SI.len
              (SL.app 124
                (SA.l (SL.v 0)
                  (SA.i (SI.wrap IntKind.i64 (SI.sub (SI.app 112 (SA.l (SL.v 0) SA.nil)) (SI.c (Int.ofNat 1))))
                    SA.nil))))
            (SI.c (Int.ofNat 0)),
          SB.le
            (SI.len
              (SL.app 125
                (SA.l
                  (SL.app 125
                    (SA.l (SL.v 0)
                      (SA.i (SI.wrap IntKind.i64 (SI.sub (SI.app 112 (SA.l (SL.v 0) SA.nil)) (SI.c (Int.ofNat 1))))
                        SA.nil)))
                  (SA.i (SI.app 112 (SA.l (SL.v 0) SA.nil)) SA.nil))))
            (SI.len
              (SL.app 125
                (SA.l (SL.v 0)
                  (SA.i (SI.wrap IntKind.i64 (SI.sub (SI.app 112 (SA.l (SL.v 0) SA.nil)) (SI.c (Int.ofNat 1))))
                    SA.nil)))),
          SB.lt
            (SI.len
              (SL.app 124
                (SA.l
                  (SL.app 125
                    (SA.l (SL.v 0)
                      (SA.i (SI.wrap IntKind.i64 (SI.sub (SI.app 112 (SA.l (SL.v 0) SA.nil)) (SI.c (Int.ofNat 1))))
                        SA.nil)))
                  (SA.i (SI.app 112 (SA.l (SL.v 0) SA.nil)) SA.nil))))
            (SI.c (Int.ofNat 80000)),
          SB.le (SI.app 112 (SA.l (SL.v 0) SA.nil)) (SI.c (Int.ofNat 549755813888)),
          SB.le (SI.wrap IntKind.i64 (SI.sub (SI.app 112 (SA.l (SL.v 0) SA.nil)) (SI.c (Int.ofNat 1))))
            (SI.app 112 (SA.l (SL.v 0) SA.nil)),
          SB.le
            (SI.len
              (SL.app 125
                (SA.l (SL.v 0)
                  (SA.i (SI.wrap IntKind.i64 (SI.sub (SI.app 112 (SA.l (SL.v 0) SA.nil)) (SI.c (Int.ofNat 1))))
                    SA.nil))))
            (SI.len (SL.v 0)),
          SB.lt
            (SI.len
              (SL.app 124
                (SA.l (SL.v 0)
                  (SA.i (SI.wrap IntKind.i64 (SI.sub (SI.app 112 (SA.l (SL.v 0) SA.nil)) (SI.c (Int.ofNat 1))))
                    SA.nil))))
            (SI.c (Int.ofNat 80000)),
          SB.le (SI.wrap IntKind.i64 (SI.sub (SI.app 112 (SA.l (SL.v 0) SA.nil)) (SI.c (Int.ofNat 1))))
            (SI.c (Int.ofNat 549755813888)),
          SB.le (SI.v 9) (SI.wrap IntKind.i64 (SI.sub (SI.app 112 (SA.l (SL.v 0) SA.nil)) (SI.c (Int.ofNat 1)))),
          SB.not (SB.le (SI.app 112 (SA.l (SL.v 0) SA.nil)) (SI.v 9)),
          SB.not (SB.eq (SI.len (SL.v 0)) (SI.c (Int.ofNat 0))), SB.lt (SI.v 0) (SI.c (Int.ofNat 30)),
          SB.le (SI.c (Int.ofNat 0)) (SI.v 0), SB.le (SI.v 0) (SI.c (Int.ofNat 30)),
          SB.le (SI.c (Int.ofNat 0)) (SI.v 9), SB.le (SI.len (SL.v 0)) (SI.c (Int.ofNat 20)),
          SB.app 140 (SA.l (SL.v 0) (SA.i (SI.v 9) (SA.i (SI.v 0) SA.nil)))],
      eqs :=
        [Eqn.T
            (SB.lt (SI.sub (SI.c (Int.ofNat 30)) (SI.add (SI.v 0) (SI.c (Int.ofNat 1))))
              (SI.sub (SI.c (Int.ofNat 30)) (SI.v 0))),
          Eqn.T
            (SB.app 140
              (SA.l
                (SL.app 125
                  (SA.l
                    (SL.app 125
                      (SA.l (SL.v 0)
                        (SA.i (SI.wrap IntKind.i64 (SI.sub (SI.app 112 (SA.l (SL.v 0) SA.nil)) (SI.c (Int.ofNat 1))))
                          SA.nil)))
                    (SA.i (SI.app 112 (SA.l (SL.v 0) SA.nil)) SA.nil)))
                (SA.i (SI.app 112 (SA.l (SL.v 0) SA.nil)) (SA.i (SI.add (SI.v 0) (SI.c (Int.ofNat 1))) SA.nil))))] },
    {
      pc :=
        [SB.not
            (SB.eq
              (SI.sel
                (SL.app 124
                  (SA.l
                    (SL.app 125
                      (SA.l (SL.v 0)
                        (SA.i (SI.wrap IntKind.i64 (SI.sub (SI.app 112 (SA.l (SL.v 0) SA.nil)) (SI.c (Int.ofNat 1))))
                          SA.nil)))
                    (SA.i (SI.app 112 (SA.l (SL.v 0) SA.nil)) SA.nil)))
                (SI.c (Int.ofNat 0)) 1)
              (SI.app 112 (SA.l (SL.v 0) SA.nil))),
          SB.not
            (SB.eq
              (SI.len
                (SL.app 124
                  (SA.l
                    (SL.app 125
                      (SA.l (SL.v 0)
                        (SA.i (SI.wrap IntKind.i64 (SI.sub (SI.app 112 (SA.l (SL.v 0) SA.nil)) (SI.c (Int.ofNat 1))))
                          SA.nil)))
                    (SA.i (SI.app 112 (SA.l (SL.v 0) SA.nil)) SA.nil))))
              (SI.c (Int.ofNat 0))),
          SB.eq
            (SI.len
              (SL.app 124
                (SA.l (SL.v 0)
                  (SA.i (SI.wrap IntKind.i64 (SI.sub (SI.app 112 (SA.l (SL.v 0) SA.nil)) (SI.c (Int.ofNat 1))))
                    SA.nil))))
            (SI.c (Int.ofNat 0)),
          SB.le
            (SI.len
              (SL.app 125
                (SA.l
                  (SL.app 125
                    (SA.l (SL.v 0)
                      (SA.i (SI.wrap IntKind.i64 (SI.sub (SI.app 112 (SA.l (SL.v 0) SA.nil)) (SI.c (Int.ofNat 1))))
                        SA.nil)))
                  (SA.i (SI.app 112 (SA.l (SL.v 0) SA.nil)) SA.nil))))
            (SI.len
              (SL.app 125
                (SA.l (SL.v 0)
                  (SA.i (SI.wrap IntKind.i64 (SI.sub (SI.app 112 (SA.l (SL.v 0) SA.nil)) (SI.c (Int.ofNat 1))))
                    SA.nil)))),
          SB.lt
            (SI.len
              (SL.app 124
                (SA.l
                  (SL.app 125
                    (SA.l (SL.v 0)
                      (SA.i (SI.wrap IntKind.i64 (SI.sub (SI.app 112 (SA.l (SL.v 0) SA.nil)) (SI.c (Int.ofNat 1))))
                        SA.nil)))
                  (SA.i (SI.app 112 (SA.l (SL.v 0) SA.nil)) SA.nil))))
            (SI.c (Int.ofNat 80000)),
          SB.le (SI.app 112 (SA.l (SL.v 0) SA.nil)) (SI.c (Int.ofNat 549755813888)),
          SB.le (SI.wrap IntKind.i64 (SI.sub (SI.app 112 (SA.l (SL.v 0) SA.nil)) (SI.c (Int.ofNat 1))))
            (SI.app 112 (SA.l (SL.v 0) SA.nil)),
          SB.le
            (SI.len
              (SL.app 125
                (SA.l (SL.v 0)
                  (SA.i (SI.wrap IntKind.i64 (SI.sub (SI.app 112 (SA.l (SL.v 0) SA.nil)) (SI.c (Int.ofNat 1))))
                    SA.nil))))
            (SI.len (SL.v 0)),
          SB.lt
            (SI.len
              (SL.app 124
                (SA.l (SL.v 0)
                  (SA.i (SI.wrap IntKind.i64 (SI.sub (SI.app 112 (SA.l (SL.v 0) SA.nil)) (SI.c (Int.ofNat 1))))
                    SA.nil))))
            (SI.c (Int.ofNat 80000)),
          SB.le (SI.wrap IntKind.i64 (SI.sub (SI.app 112 (SA.l (SL.v 0) SA.nil)) (SI.c (Int.ofNat 1))))
            (SI.c (Int.ofNat 549755813888)),
          SB.le (SI.v 9) (SI.wrap IntKind.i64 (SI.sub (SI.app 112 (SA.l (SL.v 0) SA.nil)) (SI.c (Int.ofNat 1)))),
          SB.not (SB.le (SI.app 112 (SA.l (SL.v 0) SA.nil)) (SI.v 9)),
          SB.not (SB.eq (SI.len (SL.v 0)) (SI.c (Int.ofNat 0))), SB.lt (SI.v 0) (SI.c (Int.ofNat 30)),
          SB.le (SI.c (Int.ofNat 0)) (SI.v 0), SB.le (SI.v 0) (SI.c (Int.ofNat 30)),
          SB.le (SI.c (Int.ofNat 0)) (SI.v 9), SB.le (SI.len (SL.v 0)) (SI.c (Int.ofNat 20)),
          SB.app 140 (SA.l (SL.v 0) (SA.i (SI.v 9) (SA.i (SI.v 0) SA.nil)))],
      eqs := [Eqn.T (SB.app 199 SA.nil)] },
    {
      pc :=
        [SB.not
            (SB.eq
              (SI.len
                (SL.app 124
                  (SA.l (SL.v 0)
                    (SA.i (SI.wrap IntKind.i64 (SI.sub (SI.app 112 (SA.l (SL.v 0) SA.nil)) (SI.c (Int.ofNat 1))))
                      SA.nil))))
              (SI.c (Int.ofNat 0))),
          SB.le
            (SI.len
              (SL.app 125
                (SA.l
                  (SL.app 125
                    (SA.l (SL.v 0)
                      (SA.i (SI.wrap IntKind.i64 (SI.sub (SI.app 112 (SA.l (SL.v 0) SA.nil)) (SI.c (Int.ofNat 1))))
                        SA.nil)))
                  (SA.i (SI.app 112 (SA.l (SL.v 0) SA.nil)) SA.nil))))
            (SI.len
              (SL.app 125
                (SA.l (SL.v 0)
                  (SA.i (SI.wrap IntKind.i64 (SI.sub (SI.app 112 (SA.l (SL.v 0) SA.nil)) (SI.c (Int.ofNat 1))))
                    SA.nil)))),
          SB.lt
            (SI.len
              (SL.app 124
                (SA.l
                  (SL.app 125
                    (SA.l (SL.v 0)
                      (SA.i (SI.wrap IntKind.i64 (SI.sub (SI.app 112 (SA.l (SL.v 0) SA.nil)) (SI.c (Int.ofNat 1))))
                        SA.nil)))
                  (SA.i (SI.app 112 (SA.l (SL.v 0) SA.nil)) SA.nil))))
            (SI.c (Int.ofNat 80000)),
          SB.le (SI.app 112 (SA.l (SL.v 0) SA.nil)) (SI.c (Int.ofNat 549755813888)),
          SB.le (SI.wrap IntKind.i64 (SI.sub (SI.app 112 (SA.l (SL.v 0) SA.nil)) (SI.c (Int.ofNat 1))))
            (SI.app 112 (SA.l (SL.v 0) SA.nil)),
          SB.le
            (SI.len
              (SL.app 125
                (SA.l (SL.v 0)
                  (SA.i (SI.wrap IntKind.i64 (SI.sub (SI.app 112 (SA.l (SL.v 0) SA.nil)) (SI.c (Int.ofNat 1))))
                    SA.nil))))
            (SI.len (SL.v 0)),
          SB.lt
            (SI.len
              (SL.app 124
                (SA.l (SL.v 0)
                  (SA.i (SI.wrap IntKind.i64 (SI.sub (SI.app 112 (SA.l (SL.v 0) SA.nil)) (SI.c (Int.ofNat 1))))
                    SA.nil))))
            (SI.c (Int.ofNat 80000)),
          SB.le (SI.wrap IntKind.i64 (SI.sub (SI.app 112 (SA.l (SL.v 0) SA.nil)) (SI.c (Int.ofNat 1))))
            (SI.c (Int.ofNat 549755813888)),
          SB.le (SI.v 9) (SI.wrap IntKind.i64 (SI.sub (SI.app 112 (SA.l (SL.v 0) SA.nil)) (SI.c (Int.ofNat 1)))),
          SB.not (SB.le (SI.app 112 (SA.l (SL.v 0) SA.nil)) (SI.v 9)),
          SB.not (SB.eq (SI.len (SL.v 0)) (SI.c (Int.ofNat 0))), SB.lt (SI.v 0) (SI.c (Int.ofNat 30)),
          SB.le (SI.c (Int.ofNat 0)) (SI.v 0), SB.le (SI.v 0) (SI.c (Int.ofNat 30)),
          SB.le (SI.c (Int.ofNat 0)) (SI.v 9), SB.le (SI.len (SL.v 0)) (SI.c (Int.ofNat 20)),
          SB.app 140 (SA.l (SL.v 0) (SA.i (SI.v 9) (SA.i (SI.v 0) SA.nil)))],
      eqs := [Eqn.T (SB.app 199 SA.nil)] }] := by kernel_rfl
theorem ne2_ok : ne2.ok Φ Try.prog := by
  refine ⟨by kernel_rfl, loop_rule (fun ρ => t12_ok ρ) (loopAt_sub (by kernel_rfl)) ne2_obs ?_⟩
  simp only [and_imp, List.forall_mem_cons, List.not_mem_nil, false_implies, implies_true, and_true, Ob.ok, holds, Eqn.ok, evB_eq, evB_lt, evB_le, evB_not, evB_and, evB_or, evB_eqL, evB_app, evB_v, evB_c, ev_sel, ev_len, ev_v, ev_c, ev_add, ev_sub, ev_mul, ev_quo, ev_rem, ev_bits, ev_wrap, evL_v, evL_lit, evL_app, ev_app, evA_l, evA_i, evA_nil, std_min, std_max, std_cat, std_take, std_drop, std_row, std_set, std_rep, std_find, std_put, std_del, std_flag, std_unflag, std_clr, std_left, std_copy, ints_cons, ints_nil, ofNat_lit, negSucc_lit, decide_eq_true_eq, Bool.and_eq_true, Bool.or_eq_true, Bool.not_eq_true', Bool.and_eq_false_iff, Bool.or_eq_false_iff, decide_eq_false_iff_not, aI110, aI111, aI112, aI113, aI114, aI115, aI120, aI121, aI122, aL110, aL116, aL120, aL122, aL123, aL124, aL125, aB130, aB132, aB140, aB141, aB142, aL126, aL127, aL128, aB199]
  repeat' apply And.intro
  all_goals intro ρ hR
  all_goals intros
  all_goals first
    | (have hg : goodB (ρ.l 0) (ρ.i 9) (ρ.i 0) = true := by with_reducible assumption
       obtain ⟨h1, h2, h3, h4⟩ := least_of hg (by omega) (by omega)
       have hw : IntKind.i64.wrap (leastI (ρ.l 0) - 1) = leastI (ρ.l 0) - 1 := wrap_in (by simp only [kmin]; omega) (by simp only [kmax]; omega)
       have hn := tick_none (T := ρ.l 0) (n := leastI (ρ.l 0) - 1) (fun r hr => by have := h3 r hr; omega)
       have ha := tick_at h3 h4
       have ht := good_tick (n := leastI (ρ.l 0)) hg (by omega) (by omega) (by omega) h3
       have ha1 := ha.1
       simp only [hw, hn.1, hn.2, List.length_nil] at *
       exact ⟨by omega, ht⟩)
    | (have hg : goodB (ρ.l 0) (ρ.i 9) (ρ.i 0) = true := by with_reducible assumption
       obtain ⟨h1, h2, h3, h4⟩ := least_of hg (by omega) (by omega)
       have hw : IntKind.i64.wrap (leastI (ρ.l 0) - 1) = leastI (ρ.l 0) - 1 := wrap_in (by simp only [kmin]; omega) (by simp only [kmax]; omega)
       have hn := tick_none (T := ρ.l 0) (n := leastI (ρ.l 0) - 1) (fun r hr => by have := h3 r hr; omega)
       have ha := tick_at h3 h4
       have ht := good_tick (n := leastI (ρ.l 0)) hg (by omega) (by omega) (by omega) h3
       have ha1 := ha.1
       simp only [hw, hn.1, hn.2, List.length_nil] at *
       exfalso
       omega)
    | (have hg : goodB (ρ.l 0) (ρ.i 9) (ρ.i 0) = true := by with_reducible assumption
       obtain ⟨h1, h2, h3, h4⟩ := least_of hg (by omega) (by omega)
       have hw : IntKind.i64.wrap (leastI (ρ.l 0) - 1) = leastI (ρ.l 0) - 1 := wrap_in (by simp only [kmin]; omega) (by simp only [kmax]; omega)
       have hn := tick_none (T := ρ.l 0) (n := leastI (ρ.l 0) - 1) (fun r hr => by have := h3 r hr; omega)
       have ha := tick_at h3 h4
       have ht := good_tick (n := leastI (ρ.l 0)) hg (by omega) (by omega) (by omega) h3
       have ha1 := ha.1
       simp only [hw, hn.1, hn.2, List.length_nil] at *
       exfalso
       exact absurd ha.2 (by assumption))
theorem t13_ok (ρ : Env) : TblOK Φ ρ Try.prog t13 := addLp_ok (t12_ok ρ) ne2_ok
set_option maxRecDepth 100000 in
theorem lNext_obs : callObs Φ Try.prog t13 1000 lNext.f lNext.vs lNext.o lNext.pc lNext.outs = some
  [] := by kernel_rfl
theorem lNext_ok : lNext.ok Φ Try.prog := by
  refine call_rule (fun ρ => t13_ok ρ) lNext_obs ?_
  intro ob h; cases h
end Go.SF.C18
