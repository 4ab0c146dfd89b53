/- The law of steps, shown. -/
import Derived.Test.YtnjnmeidjcdppaaQ2
import Derived.Test.YtnjnmeidjcdppaaC4
import Derived.Test.YtnjnmeidjcdppaaP5
import Derived.KernelRfl
namespace Go.SF.C18
open Go Go.SF Go.Proofs
set_option linter.unusedVariables false
set_option linter.unusedSimpArgs false

set_option maxRecDepth 100000 in
theorem st1_obs : loopObs Φ Try.prog t10 1000 st1.f (loopAt Try.prog st1.f st1.id) st1.n st1.T i9 st1.outs = some
  [{
      pc :=
        [SB.le
            (SI.len
              (SL.app 110
                (SA.l (SL.v 0)
                  (SA.i (SI.v 0)
                    (SA.i (SI.add (SI.sel (SL.v 5) (SI.v 0) 0) (SI.c (Int.ofNat 1)))
                      (SA.i (SI.sel (SL.v 6) (SI.v 0) 0) (SA.i (SI.c (Int.ofNat 0)) SA.nil)))))))
            (SI.add (SI.len (SL.v 0)) (SI.c (Int.ofNat 1))),
          SB.le (SI.c (Int.ofNat 0)) (SI.sel (SL.v 5) (SI.v 0) 0),
          SB.le (SI.sel (SL.v 5) (SI.v 0) 0) (SI.c (Int.ofNat 65535)),
          SB.le (SI.c (Int.ofNat 0)) (SI.sel (SL.v 6) (SI.v 0) 0),
          SB.le (SI.sel (SL.v 6) (SI.v 0) 0) (SI.c (Int.ofNat 65535)), SB.lt (SI.v 0) (SI.len (SL.v 6)),
          SB.lt (SI.v 0) (SI.len (SL.v 5)), SB.le (SI.c (Int.ofNat 0)) (SI.v 0), SB.le (SI.v 0) (SI.len (SL.v 5)),
          SB.le (SI.len (SL.v 5)) (SI.c (Int.ofNat 30)), SB.le (SI.len (SL.v 0)) (SI.v 0),
          SB.app 142 (SA.l (SL.v 0) (SA.i (SI.v 0) SA.nil))],
      eqs :=
        [Eqn.T
            (SB.lt (SI.sub (SI.len (SL.v 5)) (SI.add (SI.v 0) (SI.c (Int.ofNat 1))))
              (SI.sub (SI.len (SL.v 5)) (SI.v 0))),
          Eqn.T (SB.lt (SI.c (Int.ofNat 0)) (SI.sub (SI.len (SL.v 5)) (SI.v 0))),
          Eqn.T
            (SB.app 142
              (SA.l
                (SL.app 110
                  (SA.l (SL.v 0)
                    (SA.i (SI.v 0)
                      (SA.i (SI.add (SI.sel (SL.v 5) (SI.v 0) 0) (SI.c (Int.ofNat 1)))
                        (SA.i (SI.sel (SL.v 6) (SI.v 0) 0) (SA.i (SI.c (Int.ofNat 0)) SA.nil))))))
                (SA.i (SI.add (SI.v 0) (SI.c (Int.ofNat 1))) SA.nil)))] },
    {
      pc :=
        [SB.le
            (SI.len
              (SL.app 110
                (SA.l (SL.v 0)
                  (SA.i (SI.v 0)
                    (SA.i (SI.add (SI.sel (SL.v 5) (SI.v 0) 0) (SI.c (Int.ofNat 1)))
                      (SA.i (SI.c (Int.ofNat 0)) (SA.i (SI.c (Int.ofNat 0)) SA.nil)))))))
            (SI.add (SI.len (SL.v 0)) (SI.c (Int.ofNat 1))),
          SB.le (SI.c (Int.ofNat 0)) (SI.sel (SL.v 5) (SI.v 0) 0),
          SB.le (SI.sel (SL.v 5) (SI.v 0) 0) (SI.c (Int.ofNat 65535)), SB.not (SB.lt (SI.v 0) (SI.len (SL.v 6))),
          SB.lt (SI.v 0) (SI.len (SL.v 5)), SB.le (SI.c (Int.ofNat 0)) (SI.v 0), SB.le (SI.v 0) (SI.len (SL.v 5)),
          SB.le (SI.len (SL.v 5)) (SI.c (Int.ofNat 30)), SB.le (SI.len (SL.v 0)) (SI.v 0),
          SB.app 142 (SA.l (SL.v 0) (SA.i (SI.v 0) SA.nil))],
      eqs :=
        [Eqn.T
            (SB.lt (SI.sub (SI.len (SL.v 5)) (SI.add (SI.v 0) (SI.c (Int.ofNat 1))))
              (SI.sub (SI.len (SL.v 5)) (SI.v 0))),
          Eqn.T (SB.lt (SI.c (Int.ofNat 0)) (SI.sub (SI.len (SL.v 5)) (SI.v 0))),
          Eqn.T
            (SB.app 142
              (SA.l
                (SL.app 110
                  (SA.l (SL.v 0)
                    (SA.i (SI.v 0)
                      (SA.i (SI.add (SI.sel (SL.v 5) (SI.v 0) 0) (SI.c (Int.ofNat 1)))
                        (SA.i (SI.c (Int.ofNat 0)) (SA.i (SI.c (Int.ofNat 0)) SA.nil))))))
                (SA.i (SI.add (SI.v 0) (SI.c (Int.ofNat 1))) SA.nil)))] },
    {
      pc :=
        [SB.not (SB.lt (SI.v 0) (SI.len (SL.v 5))), SB.le (SI.c (Int.ofNat 0)) (SI.v 0),
          SB.le (SI.v 0) (SI.len (SL.v 5)), SB.le (SI.len (SL.v 5)) (SI.c (Int.ofNat 30)),
          SB.le (SI.len (SL.v 0)) (SI.v 0), SB.app 142 (SA.l (SL.v 0) (SA.i (SI.v 0) SA.nil))],
      eqs := [Eqn.T (SB.app 142 (SA.l (SL.v 0) (SA.i (SI.c (Int.ofNat 30)) SA.nil)))] }] := by kernel_rfl
theorem st1_ok : st1.ok Φ Try.prog := by
  refine ⟨by kernel_rfl, loop_rule (fun ρ => t10_ok ρ) (loopAt_sub (by kernel_rfl)) st1_obs ?_⟩
  simp only [and_imp, List.forall_mem_cons, List.not_mem_nil, false_implies, implies_true, and_true, Ob.ok, holds, Eqn.ok, evB_eq, evB_lt, evB_le, evB_not, evB_and, evB_or, evB_eqL, evB_app, evB_v, evB_c, ev_sel, ev_len, ev_v, ev_c, ev_add, ev_sub, ev_mul, ev_quo, ev_rem, ev_bits, ev_wrap, evL_v, evL_lit, evL_app, ev_app, evA_l, evA_i, evA_nil, std_min, std_max, std_cat, std_take, std_drop, std_row, std_set, std_rep, std_find, std_put, std_del, std_flag, std_unflag, std_clr, std_left, std_copy, ints_cons, ints_nil, ofNat_lit, negSucc_lit, decide_eq_true_eq, Bool.and_eq_true, Bool.or_eq_true, Bool.not_eq_true', Bool.and_eq_false_iff, Bool.or_eq_false_iff, decide_eq_false_iff_not, aI110, aI111, aI112, aI113, aI114, aI115, aI120, aI121, aI122, aL110, aL116, aL120, aL122, aL123, aL124, aL125, aB130, aB132, aB140, aB141, aB142, aL126, aL127, aL128, aB199]
  repeat' apply And.intro
  all_goals intro ρ hR
  all_goals intros
  all_goals first
    | (exact ⟨by omega, by omega, okT_arm (by with_reducible assumption) (by omega) (by omega) (by omega) (by omega) (by omega)⟩)
    | (exact okT_more (i := ρ.i 0) (by with_reducible assumption) (by omega))
    | (omega)
theorem t14_ok (ρ : Env) : TblOK Φ ρ Try.prog t14 := addLp_ok (t10_ok ρ) st1_ok
set_option maxRecDepth 100000 in
theorem cTickOn_obs : callObs Φ Try.prog t5 1000 cTickOn.f cTickOn.vs cTickOn.o cTickOn.pc cTickOn.outs = some
  [{
      pc :=
        [SB.lt (SI.len (SL.app 122 (SA.l (SL.lit []) (SA.l (SL.app 9 (SA.l (SL.v 0) SA.nil)) (SA.i (SI.v 0) SA.nil)))))
            (SI.c (Int.ofNat 80000)),
          SB.lt (SI.len (SL.app 12 (SA.l (SL.app 9 (SA.l (SL.v 0) SA.nil)) SA.nil))) (SI.c (Int.ofNat 80000)),
          SB.le (SI.c (Int.ofNat 1)) (SI.v 8), SB.le (SI.v 8) (SI.c (Int.ofNat 10000)),
          SB.lt (SI.len (SL.v 0)) (SI.c (Int.ofNat 80000)), SB.c true, SB.le (SI.v 9) (SI.v 0),
          SB.le (SI.v 0) (SI.c (Int.ofNat 549755813888))],
      eqs :=
        [Eqn.T (SB.lt (SI.len (SL.app 124 (SA.l (SL.v 0) (SA.i (SI.v 0) SA.nil)))) (SI.c (Int.ofNat 80000))),
          Eqn.T (SB.le (SI.len (SL.app 125 (SA.l (SL.v 0) (SA.i (SI.v 0) SA.nil)))) (SI.len (SL.v 0))),
          Eqn.I (SI.len (SL.app 124 (SA.l (SL.v 0) (SA.i (SI.v 0) SA.nil))))
            (SI.len (SL.app 122 (SA.l (SL.lit []) (SA.l (SL.app 9 (SA.l (SL.v 0) SA.nil)) (SA.i (SI.v 0) SA.nil))))),
          Eqn.L (SL.app 125 (SA.l (SL.v 0) (SA.i (SI.v 0) SA.nil)))
            (SL.app 10 (SA.l (SL.app 123 (SA.l (SL.app 9 (SA.l (SL.v 0) SA.nil)) (SA.i (SI.v 0) SA.nil))) SA.nil)),
          Eqn.L (SL.app 124 (SA.l (SL.v 0) (SA.i (SI.v 0) SA.nil)))
            (SL.app 122 (SA.l (SL.lit []) (SA.l (SL.app 9 (SA.l (SL.v 0) SA.nil)) (SA.i (SI.v 0) SA.nil))))] },
    {
      pc :=
        [SB.not (SB.lt (SI.len (SL.app 12 (SA.l (SL.app 9 (SA.l (SL.v 0) SA.nil)) SA.nil))) (SI.c (Int.ofNat 80000))),
          SB.le (SI.c (Int.ofNat 1)) (SI.v 8), SB.le (SI.v 8) (SI.c (Int.ofNat 10000)),
          SB.lt (SI.len (SL.v 0)) (SI.c (Int.ofNat 80000)), SB.c true, SB.le (SI.v 9) (SI.v 0),
          SB.le (SI.v 0) (SI.c (Int.ofNat 549755813888))],
      eqs := [Eqn.T (SB.c false)] }] := by kernel_rfl
theorem cTickOn_ok : cTickOn.ok Φ Try.prog := by
  refine call_rule (fun ρ => t5_ok ρ) cTickOn_obs ?_
  simp only [and_imp, List.forall_mem_cons, List.not_mem_nil, false_implies, implies_true, and_true, Ob.ok, holds, Eqn.ok, evB_eq, evB_lt, evB_le, evB_not, evB_and, evB_or, evB_eqL, evB_app, evB_v, evB_c, ev_sel, ev_len, ev_v, ev_c, ev_add, ev_sub, ev_mul, ev_quo, ev_rem, ev_bits, ev_wrap, evL_v, evL_lit, evL_app, ev_app, evA_l, evA_i, evA_nil, std_min, std_max, std_cat, std_take, std_drop, std_row, std_set, std_rep, std_find, std_put, std_del, std_flag, std_unflag, std_clr, std_left, std_copy, ints_cons, ints_nil, ofNat_lit, negSucc_lit, decide_eq_true_eq, Bool.and_eq_true, Bool.or_eq_true, Bool.not_eq_true', Bool.and_eq_false_iff, Bool.or_eq_false_iff, decide_eq_false_iff_not, aI110, aI111, aI112, aI113, aI114, aI115, aI120, aI121, aI122, aL110, aL116, aL120, aL122, aL123, aL124, aL125, aB130, aB132, aB140, aB141, aB142, aL126, aL127, aL128, aB199]
  repeat' apply And.intro
  all_goals intro ρ hR
  all_goals intros
  all_goals first
    | (have e := tickL_flag (A := ρ.l 0) (hR.row 1 rfl rfl) (ρ.i 0)
       have e2 := tickT_flag (A := ρ.l 0) (hR.row 1 rfl rfl) (ρ.i 0)
       have hl := tickT_len (ρ.l 0) (ρ.i 0)
       rw [e]
       exact ⟨by omega, by omega, rfl, e2, rfl⟩)
    | (have h1 := remT_len (flagT (ρ.l 0))
       have h2 := flagT_len (ρ.l 0)
       omega)
theorem t14a_ok (ρ : Env) : TblOK Φ ρ Try.prog t14a := addFn_ok (t14_ok ρ) cTickOn_ok
set_option maxRecDepth 100000 in
theorem st3_obs : loopObs Φ Try.prog t14 1000 st3.f (loopAt Try.prog st3.f st3.id) st3.n st3.T i10 st3.outs = some
  [{
      pc :=
        [SB.lt (SI.sel (SL.v 4) (SI.v 1) 0) (SI.c (Int.ofNat 0)), SB.lt (SI.v 1) (SI.len (SL.v 4)),
          SB.le (SI.c (Int.ofNat 0)) (SI.v 1), SB.le (SI.v 1) (SI.len (SL.v 4)),
          SB.lt (SI.len (SL.v 4)) (SI.c (Int.ofNat 80000)), SB.eq (SI.len (SL.v 3)) (SI.c (Int.ofNat 30)),
          SB.le (SI.c (Int.ofNat 0)) (SI.v 9), SB.c true, SB.app 141 (SA.l (SL.v 4) (SA.i (SI.v 9) SA.nil))],
      eqs :=
        [Eqn.T (SB.app 199 SA.nil),
          Eqn.L (SL.app 126 (SA.l (SL.v 3) (SA.l (SL.v 4) (SA.i (SI.v 1) SA.nil)))) (SL.v 3)] },
    {
      pc :=
        [SB.lt (SI.c (Int.ofNat 29)) (SI.sel (SL.v 4) (SI.v 1) 0),
          SB.not (SB.lt (SI.sel (SL.v 4) (SI.v 1) 0) (SI.c (Int.ofNat 0))), SB.lt (SI.v 1) (SI.len (SL.v 4)),
          SB.le (SI.c (Int.ofNat 0)) (SI.v 1), SB.le (SI.v 1) (SI.len (SL.v 4)),
          SB.lt (SI.len (SL.v 4)) (SI.c (Int.ofNat 80000)), SB.eq (SI.len (SL.v 3)) (SI.c (Int.ofNat 30)),
          SB.le (SI.c (Int.ofNat 0)) (SI.v 9), SB.c true, SB.app 141 (SA.l (SL.v 4) (SA.i (SI.v 9) SA.nil))],
      eqs :=
        [Eqn.T (SB.app 199 SA.nil),
          Eqn.L (SL.app 126 (SA.l (SL.v 3) (SA.l (SL.v 4) (SA.i (SI.v 1) SA.nil)))) (SL.v 3)] },
    {
      pc :=
        [SB.lt (SI.v 9) (SI.sel (SL.v 4) (SI.v 1) 1), SB.not (SB.lt (SI.c (Int.ofNat 29)) (SI.sel (SL.v 4) (SI.v 1) 0)),
          SB.not (SB.lt (SI.sel (SL.v 4) (SI.v 1) 0) (SI.c (Int.ofNat 0))), SB.lt (SI.v 1) (SI.len (SL.v 4)),
          SB.le (SI.c (Int.ofNat 0)) (SI.v 1), SB.le (SI.v 1) (SI.len (SL.v 4)),
          SB.lt (SI.len (SL.v 4)) (SI.c (Int.ofNat 80000)), SB.eq (SI.len (SL.v 3)) (SI.c (Int.ofNat 30)),
          SB.le (SI.c (Int.ofNat 0)) (SI.v 9), SB.c true, SB.app 141 (SA.l (SL.v 4) (SA.i (SI.v 9) SA.nil))],
      eqs :=
        [Eqn.T (SB.app 199 SA.nil),
          Eqn.L (SL.app 126 (SA.l (SL.v 3) (SA.l (SL.v 4) (SA.i (SI.v 1) SA.nil)))) (SL.v 3)] },
    {
      pc :=
        [SB.lt (SI.sel (SL.v 4) (SI.v 1) 2) (SI.c (Int.ofNat 1)), SB.not (SB.lt (SI.v 9) (SI.sel (SL.v 4) (SI.v 1) 1)),
          SB.not (SB.lt (SI.c (Int.ofNat 29)) (SI.sel (SL.v 4) (SI.v 1) 0)),
          SB.not (SB.lt (SI.sel (SL.v 4) (SI.v 1) 0) (SI.c (Int.ofNat 0))), SB.lt (SI.v 1) (SI.len (SL.v 4)),
          SB.le (SI.c (Int.ofNat 0)) (SI.v 1), SB.le (SI.v 1) (SI.len (SL.v 4)),
          SB.lt (SI.len (SL.v 4)) (SI.c (Int.ofNat 80000)), SB.eq (SI.len (SL.v 3)) (SI.c (Int.ofNat 30)),
          SB.le (SI.c (Int.ofNat 0)) (SI.v 9), SB.c true, SB.app 141 (SA.l (SL.v 4) (SA.i (SI.v 9) SA.nil))],
      eqs :=
        [Eqn.T (SB.app 199 SA.nil),
          Eqn.L (SL.app 126 (SA.l (SL.v 3) (SA.l (SL.v 4) (SA.i (SI.v 1) SA.nil)))) (SL.v 3)] },
    {
      pc :=
        [SB.not (SB.lt (SI.sel (SL.v 4) (SI.v 1) 2) (SI.c (Int.ofNat 1))),
          SB.not (SB.lt (SI.v 9) (SI.sel (SL.v 4) (SI.v 1) 1)),
          SB.not (SB.lt (SI.c (Int.ofNat 29)) (SI.sel (SL.v 4) (SI.v 1) 0)),
          SB.not (SB.lt (SI.sel (SL.v 4) (SI.v 1) 0) (SI.c (Int.ofNat 0))), SB.lt (SI.v 1) (SI.len (SL.v 4)),
          SB.le (SI.c (Int.ofNat 0)) (SI.v 1), SB.le (SI.v 1) (SI.len (SL.v 4)),
          SB.lt (SI.len (SL.v 4)) (SI.c (Int.ofNat 80000)), SB.eq (SI.len (SL.v 3)) (SI.c (Int.ofNat 30)),
          SB.le (SI.c (Int.ofNat 0)) (SI.v 9), SB.c true, SB.app 141 (SA.l (SL.v 4) (SA.i (SI.v 9) SA.nil))],
      eqs :=
        [Eqn.T
            (SB.lt (SI.sub (SI.len (SL.v 4)) (SI.add (SI.v 1) (SI.c (Int.ofNat 1))))
              (SI.sub (SI.len (SL.v 4)) (SI.v 1))),
          Eqn.T (SB.lt (SI.c (Int.ofNat 0)) (SI.sub (SI.len (SL.v 4)) (SI.v 1)))] },
    {
      pc :=
        [SB.eq
            (SI.len
              (SL.app 126
                (SA.l
                  (SL.app 4
                    (SA.l (SL.v 3)
                      (SA.i (SI.sel (SL.v 4) (SI.v 1) 0)
                        (SA.i (SI.c (Int.ofNat 0))
                          (SA.i
                            (SI.wrap IntKind.i64
                              (SI.add (SI.sel (SL.v 3) (SI.sel (SL.v 4) (SI.v 1) 0) 0) (SI.sel (SL.v 4) (SI.v 1) 2)))
                            SA.nil)))))
                  (SA.l (SL.v 4) (SA.i (SI.add (SI.v 1) (SI.c (Int.ofNat 1))) SA.nil)))))
            (SI.c (Int.ofNat 30)),
          SB.not (SB.lt (SI.sel (SL.v 4) (SI.v 1) 2) (SI.c (Int.ofNat 1))),
          SB.not (SB.lt (SI.v 9) (SI.sel (SL.v 4) (SI.v 1) 1)),
          SB.not (SB.lt (SI.c (Int.ofNat 29)) (SI.sel (SL.v 4) (SI.v 1) 0)),
          SB.not (SB.lt (SI.sel (SL.v 4) (SI.v 1) 0) (SI.c (Int.ofNat 0))), SB.lt (SI.v 1) (SI.len (SL.v 4)),
          SB.le (SI.c (Int.ofNat 0)) (SI.v 1), SB.le (SI.v 1) (SI.len (SL.v 4)),
          SB.lt (SI.len (SL.v 4)) (SI.c (Int.ofNat 80000)), SB.eq (SI.len (SL.v 3)) (SI.c (Int.ofNat 30)),
          SB.le (SI.c (Int.ofNat 0)) (SI.v 9), SB.c true, SB.app 141 (SA.l (SL.v 4) (SA.i (SI.v 9) SA.nil))],
      eqs :=
        [Eqn.T
            (SB.eq (SI.len (SL.app 126 (SA.l (SL.v 3) (SA.l (SL.v 4) (SA.i (SI.v 1) SA.nil))))) (SI.c (Int.ofNat 30))),
          Eqn.I (SI.len (SL.app 126 (SA.l (SL.v 3) (SA.l (SL.v 4) (SA.i (SI.v 1) SA.nil)))))
            (SI.len
              (SL.app 126
                (SA.l
                  (SL.app 4
                    (SA.l (SL.v 3)
                      (SA.i (SI.sel (SL.v 4) (SI.v 1) 0)
                        (SA.i (SI.c (Int.ofNat 0))
                          (SA.i
                            (SI.wrap IntKind.i64
                              (SI.add (SI.sel (SL.v 3) (SI.sel (SL.v 4) (SI.v 1) 0) 0) (SI.sel (SL.v 4) (SI.v 1) 2)))
                            SA.nil)))))
                  (SA.l (SL.v 4) (SA.i (SI.add (SI.v 1) (SI.c (Int.ofNat 1))) SA.nil))))),
          Eqn.L (SL.app 126 (SA.l (SL.v 3) (SA.l (SL.v 4) (SA.i (SI.v 1) SA.nil))))
            (SL.app 126
              (SA.l
                (SL.app 4
                  (SA.l (SL.v 3)
                    (SA.i (SI.sel (SL.v 4) (SI.v 1) 0)
                      (SA.i (SI.c (Int.ofNat 0))
                        (SA.i
                          (SI.wrap IntKind.i64
                            (SI.add (SI.sel (SL.v 3) (SI.sel (SL.v 4) (SI.v 1) 0) 0) (SI.sel (SL.v 4) (SI.v 1) 2)))
                          SA.nil)))))
                (SA.l (SL.v 4) (SA.i (SI.add (SI.v 1) (SI.c (Int.ofNat 1))) SA.nil))))] },
    {
      pc :=
        [SB.not (SB.lt (SI.v 1) (SI.len (SL.v 4))), SB.le (SI.c (Int.ofNat 0)) (SI.v 1),
          SB.le (SI.v 1) (SI.len (SL.v 4)), SB.lt (SI.len (SL.v 4)) (SI.c (Int.ofNat 80000)),
          SB.eq (SI.len (SL.v 3)) (SI.c (Int.ofNat 30)), SB.le (SI.c (Int.ofNat 0)) (SI.v 9), SB.c true,
          SB.app 141 (SA.l (SL.v 4) (SA.i (SI.v 9) SA.nil))],
      eqs :=
        [Eqn.T
            (SB.eq (SI.len (SL.app 126 (SA.l (SL.v 3) (SA.l (SL.v 4) (SA.i (SI.v 1) SA.nil))))) (SI.c (Int.ofNat 30))),
          Eqn.I (SI.len (SL.app 126 (SA.l (SL.v 3) (SA.l (SL.v 4) (SA.i (SI.v 1) SA.nil))))) (SI.len (SL.v 3)),
          Eqn.L (SL.app 126 (SA.l (SL.v 3) (SA.l (SL.v 4) (SA.i (SI.v 1) SA.nil)))) (SL.v 3)] }] := by kernel_rfl
theorem st3_ok : st3.ok Φ Try.prog := by
  refine ⟨by kernel_rfl, loop_rule (fun ρ => t14_ok ρ) (loopAt_sub (by kernel_rfl)) st3_obs ?_⟩
  simp only [and_imp, List.forall_mem_cons, List.not_mem_nil, false_implies, implies_true, and_true, Ob.ok, holds, Eqn.ok, evB_eq, evB_lt, evB_le, evB_not, evB_and, evB_or, evB_eqL, evB_app, evB_v, evB_c, ev_sel, ev_len, ev_v, ev_c, ev_add, ev_sub, ev_mul, ev_quo, ev_rem, ev_bits, ev_wrap, evL_v, evL_lit, evL_app, ev_app, evA_l, evA_i, evA_nil, std_min, std_max, std_cat, std_take, std_drop, std_row, std_set, std_rep, std_find, std_put, std_del, std_flag, std_unflag, std_clr, std_left, std_copy, ints_cons, ints_nil, ofNat_lit, negSucc_lit, decide_eq_true_eq, Bool.and_eq_true, Bool.or_eq_true, Bool.not_eq_true', Bool.and_eq_false_iff, Bool.or_eq_false_iff, decide_eq_false_iff_not, aI110, aI111, aI112, aI113, aI114, aI115, aI120, aI121, aI122, aL110, aL116, aL120, aL122, aL123, aL124, aL125, aB130, aB132, aB140, aB141, aB142, aL126, aL127, aL128, aB199]
  repeat' apply And.intro
  all_goals intro ρ hR
  all_goals intros
  all_goals first
    | (have h := okL_at (L := ρ.l 4) (n := ρ.i 9) (k := ρ.i 1) (by with_reducible assumption) (by omega) (by omega)
       exfalso
       omega)
    | (omega)
    | (have e := add_step (N := ρ.l 3) (L := ρ.l 4) (k := ρ.i 1) (by omega) (by omega)
       have h30 := ‹(((addAll _ _).length : Nat) : Int) = 30›
       exact ⟨(congrArg (fun x : Tab => (x.length : Int)) e).trans h30, congrArg (fun x : Tab => (x.length : Int)) e, e⟩)
    | (have e := add_end (N := ρ.l 3) (L := ρ.l 4) (k := ρ.i 1) (by omega)
       rw [e]
       exact ⟨by omega, rfl, rfl⟩)
theorem t15_ok (ρ : Env) : TblOK Φ ρ Try.prog t15 := addLp_ok (t14a_ok ρ) st3_ok
set_option maxRecDepth 100000 in
theorem st2_obs : loopObs Φ Try.prog t15 1000 st2.f (loopAt Try.prog st2.f st2.id) st2.n st2.T i11 st2.outs = some
  [{
      pc :=
        [SB.eq
            (SI.len
              (SL.app 126
                (SA.l (SL.v 3)
                  (SA.l (SL.app 124 (SA.l (SL.v 2) (SA.i (SI.add (SI.v 9) (SI.sel (SL.v 7) (SI.v 0) 0)) SA.nil)))
                    (SA.i (SI.c (Int.ofNat 0)) SA.nil)))))
            (SI.c (Int.ofNat 30)),
          SB.app 141
            (SA.l (SL.app 124 (SA.l (SL.v 2) (SA.i (SI.add (SI.v 9) (SI.sel (SL.v 7) (SI.v 0) 0)) SA.nil)))
              (SA.i (SI.add (SI.v 9) (SI.sel (SL.v 7) (SI.v 0) 0)) SA.nil)),
          SB.le (SI.len (SL.app 125 (SA.l (SL.v 2) (SA.i (SI.add (SI.v 9) (SI.sel (SL.v 7) (SI.v 0) 0)) SA.nil))))
            (SI.len (SL.v 2)),
          SB.lt (SI.len (SL.app 124 (SA.l (SL.v 2) (SA.i (SI.add (SI.v 9) (SI.sel (SL.v 7) (SI.v 0) 0)) SA.nil))))
            (SI.c (Int.ofNat 80000)),
          SB.le (SI.v 9) (SI.add (SI.v 9) (SI.sel (SL.v 7) (SI.v 0) 0)),
          SB.le (SI.c (Int.ofNat 0)) (SI.sel (SL.v 7) (SI.v 0) 0),
          SB.le (SI.sel (SL.v 7) (SI.v 0) 0) (SI.c (Int.ofNat 65535)), SB.lt (SI.v 0) (SI.len (SL.v 7)),
          SB.le (SI.c (Int.ofNat 0)) (SI.v 0), SB.le (SI.v 0) (SI.len (SL.v 7)),
          SB.le (SI.len (SL.v 7)) (SI.c (Int.ofNat 30)), SB.le (SI.c (Int.ofNat 0)) (SI.v 9),
          SB.le (SI.v 9) (SI.c (Int.ofNat 3000000)), SB.eq (SI.len (SL.v 3)) (SI.c (Int.ofNat 30)),
          SB.le (SI.len (SL.v 2)) (SI.c (Int.ofNat 30)), SB.le (SI.len (SL.v 0)) (SI.c (Int.ofNat 30)),
          SB.app 142 (SA.l (SL.v 0) (SA.i (SI.c (Int.ofNat 30)) SA.nil)), SB.c true,
          SB.le (SI.v 9) (SI.mul (SI.c (Int.ofNat 65535)) (SI.v 0)),
          SB.eqL (SL.v 2) (SL.app 125 (SA.l (SL.v 0) (SA.i (SI.v 9) SA.nil))),
          SB.eqL (SL.v 3) (SL.app 128 (SA.l (SL.v 0) (SA.i (SI.v 9) SA.nil)))],
      eqs :=
        [Eqn.T
            (SB.lt (SI.sub (SI.len (SL.v 7)) (SI.add (SI.v 0) (SI.c (Int.ofNat 1))))
              (SI.sub (SI.len (SL.v 7)) (SI.v 0))),
          Eqn.T (SB.lt (SI.c (Int.ofNat 0)) (SI.sub (SI.len (SL.v 7)) (SI.v 0))),
          Eqn.T (SB.le (SI.add (SI.v 9) (SI.sel (SL.v 7) (SI.v 0) 0)) (SI.c (Int.ofNat 3000000))),
          Eqn.T
            (SB.le (SI.add (SI.v 9) (SI.sel (SL.v 7) (SI.v 0) 0))
              (SI.mul (SI.c (Int.ofNat 65535)) (SI.add (SI.v 0) (SI.c (Int.ofNat 1))))),
          Eqn.T
            (SB.eqL (SL.app 125 (SA.l (SL.v 2) (SA.i (SI.add (SI.v 9) (SI.sel (SL.v 7) (SI.v 0) 0)) SA.nil)))
              (SL.app 125 (SA.l (SL.v 0) (SA.i (SI.add (SI.v 9) (SI.sel (SL.v 7) (SI.v 0) 0)) SA.nil)))),
          Eqn.T
            (SB.eqL
              (SL.app 126
                (SA.l (SL.v 3)
                  (SA.l (SL.app 124 (SA.l (SL.v 2) (SA.i (SI.add (SI.v 9) (SI.sel (SL.v 7) (SI.v 0) 0)) SA.nil)))
                    (SA.i (SI.c (Int.ofNat 0)) SA.nil))))
              (SL.app 128 (SA.l (SL.v 0) (SA.i (SI.add (SI.v 9) (SI.sel (SL.v 7) (SI.v 0) 0)) SA.nil))))] },
    {
      pc :=
        [SB.not
            (SB.app 141
              (SA.l (SL.app 124 (SA.l (SL.v 2) (SA.i (SI.add (SI.v 9) (SI.sel (SL.v 7) (SI.v 0) 0)) SA.nil)))
                (SA.i (SI.add (SI.v 9) (SI.sel (SL.v 7) (SI.v 0) 0)) SA.nil))),
          SB.le (SI.len (SL.app 125 (SA.l (SL.v 2) (SA.i (SI.add (SI.v 9) (SI.sel (SL.v 7) (SI.v 0) 0)) SA.nil))))
            (SI.len (SL.v 2)),
          SB.lt (SI.len (SL.app 124 (SA.l (SL.v 2) (SA.i (SI.add (SI.v 9) (SI.sel (SL.v 7) (SI.v 0) 0)) SA.nil))))
            (SI.c (Int.ofNat 80000)),
          SB.le (SI.v 9) (SI.add (SI.v 9) (SI.sel (SL.v 7) (SI.v 0) 0)),
          SB.le (SI.c (Int.ofNat 0)) (SI.sel (SL.v 7) (SI.v 0) 0),
          SB.le (SI.sel (SL.v 7) (SI.v 0) 0) (SI.c (Int.ofNat 65535)), SB.lt (SI.v 0) (SI.len (SL.v 7)),
          SB.le (SI.c (Int.ofNat 0)) (SI.v 0), SB.le (SI.v 0) (SI.len (SL.v 7)),
          SB.le (SI.len (SL.v 7)) (SI.c (Int.ofNat 30)), SB.le (SI.c (Int.ofNat 0)) (SI.v 9),
          SB.le (SI.v 9) (SI.c (Int.ofNat 3000000)), SB.eq (SI.len (SL.v 3)) (SI.c (Int.ofNat 30)),
          SB.le (SI.len (SL.v 2)) (SI.c (Int.ofNat 30)), SB.le (SI.len (SL.v 0)) (SI.c (Int.ofNat 30)),
          SB.app 142 (SA.l (SL.v 0) (SA.i (SI.c (Int.ofNat 30)) SA.nil)), SB.c true,
          SB.le (SI.v 9) (SI.mul (SI.c (Int.ofNat 65535)) (SI.v 0)),
          SB.eqL (SL.v 2) (SL.app 125 (SA.l (SL.v 0) (SA.i (SI.v 9) SA.nil))),
          SB.eqL (SL.v 3) (SL.app 128 (SA.l (SL.v 0) (SA.i (SI.v 9) SA.nil)))],
      eqs := [Eqn.T (SB.c false)] },
    {
      pc :=
        [SB.not (SB.le (SI.v 9) (SI.add (SI.v 9) (SI.sel (SL.v 7) (SI.v 0) 0))),
          SB.le (SI.c (Int.ofNat 0)) (SI.sel (SL.v 7) (SI.v 0) 0),
          SB.le (SI.sel (SL.v 7) (SI.v 0) 0) (SI.c (Int.ofNat 65535)), SB.lt (SI.v 0) (SI.len (SL.v 7)),
          SB.le (SI.c (Int.ofNat 0)) (SI.v 0), SB.le (SI.v 0) (SI.len (SL.v 7)),
          SB.le (SI.len (SL.v 7)) (SI.c (Int.ofNat 30)), SB.le (SI.c (Int.ofNat 0)) (SI.v 9),
          SB.le (SI.v 9) (SI.c (Int.ofNat 3000000)), SB.eq (SI.len (SL.v 3)) (SI.c (Int.ofNat 30)),
          SB.le (SI.len (SL.v 2)) (SI.c (Int.ofNat 30)), SB.le (SI.len (SL.v 0)) (SI.c (Int.ofNat 30)),
          SB.app 142 (SA.l (SL.v 0) (SA.i (SI.c (Int.ofNat 30)) SA.nil)), SB.c true,
          SB.le (SI.v 9) (SI.mul (SI.c (Int.ofNat 65535)) (SI.v 0)),
          SB.eqL (SL.v 2) (SL.app 125 (SA.l (SL.v 0) (SA.i (SI.v 9) SA.nil))),
          SB.eqL (SL.v 3) (SL.app 128 (SA.l (SL.v 0) (SA.i (SI.v 9) SA.nil)))],
      eqs := [Eqn.T (SB.c false)] },
    {
      pc :=
        [SB.not (SB.lt (SI.v 0) (SI.len (SL.v 7))), SB.le (SI.c (Int.ofNat 0)) (SI.v 0),
          SB.le (SI.v 0) (SI.len (SL.v 7)), SB.le (SI.len (SL.v 7)) (SI.c (Int.ofNat 30)),
          SB.le (SI.c (Int.ofNat 0)) (SI.v 9), SB.le (SI.v 9) (SI.c (Int.ofNat 3000000)),
          SB.eq (SI.len (SL.v 3)) (SI.c (Int.ofNat 30)), SB.le (SI.len (SL.v 2)) (SI.c (Int.ofNat 30)),
          SB.le (SI.len (SL.v 0)) (SI.c (Int.ofNat 30)), SB.app 142 (SA.l (SL.v 0) (SA.i (SI.c (Int.ofNat 30)) SA.nil)),
          SB.c true, SB.le (SI.v 9) (SI.mul (SI.c (Int.ofNat 65535)) (SI.v 0)),
          SB.eqL (SL.v 2) (SL.app 125 (SA.l (SL.v 0) (SA.i (SI.v 9) SA.nil))),
          SB.eqL (SL.v 3) (SL.app 128 (SA.l (SL.v 0) (SA.i (SI.v 9) SA.nil)))],
      eqs :=
        [Eqn.T (SB.eq (SI.len (SL.app 128 (SA.l (SL.v 0) (SA.i (SI.v 9) SA.nil)))) (SI.c (Int.ofNat 30))),
          Eqn.T (SB.le (SI.len (SL.app 125 (SA.l (SL.v 0) (SA.i (SI.v 9) SA.nil)))) (SI.c (Int.ofNat 30))),
          Eqn.I (SI.len (SL.app 128 (SA.l (SL.v 0) (SA.i (SI.v 9) SA.nil)))) (SI.len (SL.v 3)),
          Eqn.L (SL.app 125 (SA.l (SL.v 0) (SA.i (SI.v 9) SA.nil))) (SL.v 2),
          Eqn.L (SL.app 128 (SA.l (SL.v 0) (SA.i (SI.v 9) SA.nil))) (SL.v 3)] }] := by kernel_rfl
theorem st2_ok : st2.ok Φ Try.prog := by
  refine ⟨by kernel_rfl, loop_rule (fun ρ => t15_ok ρ) (loopAt_sub (by kernel_rfl)) st2_obs ?_⟩
  simp only [and_imp, List.forall_mem_cons, List.not_mem_nil, false_implies, implies_true, and_true, Ob.ok, holds, Eqn.ok, evB_eq, evB_lt, evB_le, evB_not, evB_and, evB_or, evB_eqL, evB_app, evB_v, evB_c, ev_sel, ev_len, ev_v, ev_c, ev_add, ev_sub, ev_mul, ev_quo, ev_rem, ev_bits, ev_wrap, evL_v, evL_lit, evL_app, ev_app, evA_l, evA_i, evA_nil, std_min, std_max, std_cat, std_take, std_drop, std_row, std_set, std_rep, std_find, std_put, std_del, std_flag, std_unflag, std_clr, std_left, std_copy, ints_cons, ints_nil, ofNat_lit, negSucc_lit, decide_eq_true_eq, Bool.and_eq_true, Bool.or_eq_true, Bool.not_eq_true', Bool.and_eq_false_iff, Bool.or_eq_false_iff, decide_eq_false_iff_not, aI110, aI111, aI112, aI113, aI114, aI115, aI120, aI121, aI122, aL110, aL116, aL120, aL122, aL123, aL124, aL125, aB130, aB132, aB140, aB141, aB142, aL126, aL127, aL128, aB199]
  repeat' apply And.intro
  all_goals intro ρ hR
  all_goals intros
  all_goals first
    | (omega)
    | (have hT : okT (ρ.l 0) 30 = true := by with_reducible assumption
       have e2 : ρ.l 2 = tickT (ρ.l 0) (ρ.i 9) := by with_reducible assumption
       have e3 : ρ.l 3 = cntN (ρ.l 0) (ρ.i 9) := by with_reducible assumption
       have b1 := tick_two (m := ρ.i 9) (n := (ρ.i 9 + ((ρ.l 7).getD (ρ.i 0).toNat []).getD 0 0)) hT (by omega) (by omega) (by omega)
       have b2 := add_two (m := ρ.i 9) (n := (ρ.i 9 + ((ρ.l 7).getD (ρ.i 0).toNat []).getD 0 0)) hT (by omega) (by omega) (by omega) (by omega)
       rw [e2, e3]
       exact ⟨by omega, by omega, by omega, by omega, b1, b2⟩)
    | (have hT : okT (ρ.l 0) 30 = true := by with_reducible assumption
       have e2 : ρ.l 2 = tickT (ρ.l 0) (ρ.i 9) := by with_reducible assumption
       have e3 : ρ.l 3 = cntN (ρ.l 0) (ρ.i 9) := by with_reducible assumption
       exfalso
       have b3 := fires_ok (n := (ρ.i 9 + ((ρ.l 7).getD (ρ.i 0).toNat []).getD 0 0)) (fun s hs => (tick_ok hT (by omega) (by omega) s hs).1 : ∀ s ∈ tickT (ρ.l 0) (ρ.i 9), okS s) (by omega)
       rw [← e2] at b3
       exact Bool.false_ne_true (‹okL _ _ = false›.symm.trans b3))
    | (have hT : okT (ρ.l 0) 30 = true := by with_reducible assumption
       have e2 : ρ.l 2 = tickT (ρ.l 0) (ρ.i 9) := by with_reducible assumption
       have e3 : ρ.l 3 = cntN (ρ.l 0) (ρ.i 9) := by with_reducible assumption
       rw [← e2, ← e3]
       exact ⟨by omega, by omega, rfl, rfl, rfl⟩)
theorem t16_ok (ρ : Env) : TblOK Φ ρ Try.prog t16 := addLp_ok (t15_ok ρ) st2_ok
set_option maxRecDepth 100000 in
theorem st4_obs : loopObs Φ Try.prog t10 1000 st4.f (loopAt Try.prog st4.f st4.id) st4.n st4.T i10 st4.outs = some
  [{
      pc :=
        [SB.lt (SI.sel (SL.v 4) (SI.v 1) 0) (SI.c (Int.ofNat 0)), SB.lt (SI.v 1) (SI.len (SL.v 4)),
          SB.le (SI.c (Int.ofNat 0)) (SI.v 1), SB.le (SI.v 1) (SI.len (SL.v 4)),
          SB.lt (SI.len (SL.v 4)) (SI.c (Int.ofNat 80000)), SB.eq (SI.len (SL.v 3)) (SI.c (Int.ofNat 30)),
          SB.le (SI.c (Int.ofNat 0)) (SI.v 9), SB.c true, SB.app 141 (SA.l (SL.v 4) (SA.i (SI.v 9) SA.nil))],
      eqs :=
        [Eqn.T (SB.app 199 SA.nil),
          Eqn.L (SL.app 127 (SA.l (SL.v 3) (SA.l (SL.v 4) (SA.i (SI.v 1) SA.nil)))) (SL.v 3)] },
    {
      pc :=
        [SB.lt (SI.c (Int.ofNat 29)) (SI.sel (SL.v 4) (SI.v 1) 0),
          SB.not (SB.lt (SI.sel (SL.v 4) (SI.v 1) 0) (SI.c (Int.ofNat 0))), SB.lt (SI.v 1) (SI.len (SL.v 4)),
          SB.le (SI.c (Int.ofNat 0)) (SI.v 1), SB.le (SI.v 1) (SI.len (SL.v 4)),
          SB.lt (SI.len (SL.v 4)) (SI.c (Int.ofNat 80000)), SB.eq (SI.len (SL.v 3)) (SI.c (Int.ofNat 30)),
          SB.le (SI.c (Int.ofNat 0)) (SI.v 9), SB.c true, SB.app 141 (SA.l (SL.v 4) (SA.i (SI.v 9) SA.nil))],
      eqs :=
        [Eqn.T (SB.app 199 SA.nil),
          Eqn.L (SL.app 127 (SA.l (SL.v 3) (SA.l (SL.v 4) (SA.i (SI.v 1) SA.nil)))) (SL.v 3)] },
    {
      pc :=
        [SB.not (SB.lt (SI.c (Int.ofNat 29)) (SI.sel (SL.v 4) (SI.v 1) 0)),
          SB.not (SB.lt (SI.sel (SL.v 4) (SI.v 1) 0) (SI.c (Int.ofNat 0))), SB.lt (SI.v 1) (SI.len (SL.v 4)),
          SB.le (SI.c (Int.ofNat 0)) (SI.v 1), SB.le (SI.v 1) (SI.len (SL.v 4)),
          SB.lt (SI.len (SL.v 4)) (SI.c (Int.ofNat 80000)), SB.eq (SI.len (SL.v 3)) (SI.c (Int.ofNat 30)),
          SB.le (SI.c (Int.ofNat 0)) (SI.v 9), SB.c true, SB.app 141 (SA.l (SL.v 4) (SA.i (SI.v 9) SA.nil))],
      eqs :=
        [Eqn.T
            (SB.lt (SI.sub (SI.len (SL.v 4)) (SI.add (SI.v 1) (SI.c (Int.ofNat 1))))
              (SI.sub (SI.len (SL.v 4)) (SI.v 1))),
          Eqn.T (SB.lt (SI.c (Int.ofNat 0)) (SI.sub (SI.len (SL.v 4)) (SI.v 1)))] },
    {
      pc :=
        [SB.eq
            (SI.len
              (SL.app 127
                (SA.l
                  (SL.app 4
                    (SA.l (SL.v 3)
                      (SA.i (SI.sel (SL.v 4) (SI.v 1) 0)
                        (SA.i (SI.c (Int.ofNat 0))
                          (SA.i
                            (SI.wrap IntKind.i64
                              (SI.sub (SI.sel (SL.v 3) (SI.sel (SL.v 4) (SI.v 1) 0) 0) (SI.sel (SL.v 4) (SI.v 1) 2)))
                            SA.nil)))))
                  (SA.l (SL.v 4) (SA.i (SI.add (SI.v 1) (SI.c (Int.ofNat 1))) SA.nil)))))
            (SI.c (Int.ofNat 30)),
          SB.not (SB.lt (SI.c (Int.ofNat 29)) (SI.sel (SL.v 4) (SI.v 1) 0)),
          SB.not (SB.lt (SI.sel (SL.v 4) (SI.v 1) 0) (SI.c (Int.ofNat 0))), SB.lt (SI.v 1) (SI.len (SL.v 4)),
          SB.le (SI.c (Int.ofNat 0)) (SI.v 1), SB.le (SI.v 1) (SI.len (SL.v 4)),
          SB.lt (SI.len (SL.v 4)) (SI.c (Int.ofNat 80000)), SB.eq (SI.len (SL.v 3)) (SI.c (Int.ofNat 30)),
          SB.le (SI.c (Int.ofNat 0)) (SI.v 9), SB.c true, SB.app 141 (SA.l (SL.v 4) (SA.i (SI.v 9) SA.nil))],
      eqs :=
        [Eqn.T
            (SB.eq (SI.len (SL.app 127 (SA.l (SL.v 3) (SA.l (SL.v 4) (SA.i (SI.v 1) SA.nil))))) (SI.c (Int.ofNat 30))),
          Eqn.I (SI.len (SL.app 127 (SA.l (SL.v 3) (SA.l (SL.v 4) (SA.i (SI.v 1) SA.nil)))))
            (SI.len
              (SL.app 127
                (SA.l
                  (SL.app 4
                    (SA.l (SL.v 3)
                      (SA.i (SI.sel (SL.v 4) (SI.v 1) 0)
                        (SA.i (SI.c (Int.ofNat 0))
                          (SA.i
                            (SI.wrap IntKind.i64
                              (SI.sub (SI.sel (SL.v 3) (SI.sel (SL.v 4) (SI.v 1) 0) 0) (SI.sel (SL.v 4) (SI.v 1) 2)))
                            SA.nil)))))
                  (SA.l (SL.v 4) (SA.i (SI.add (SI.v 1) (SI.c (Int.ofNat 1))) SA.nil))))),
          Eqn.L (SL.app 127 (SA.l (SL.v 3) (SA.l (SL.v 4) (SA.i (SI.v 1) SA.nil))))
            (SL.app 127
              (SA.l
                (SL.app 4
                  (SA.l (SL.v 3)
                    (SA.i (SI.sel (SL.v 4) (SI.v 1) 0)
                      (SA.i (SI.c (Int.ofNat 0))
                        (SA.i
                          (SI.wrap IntKind.i64
                            (SI.sub (SI.sel (SL.v 3) (SI.sel (SL.v 4) (SI.v 1) 0) 0) (SI.sel (SL.v 4) (SI.v 1) 2)))
                          SA.nil)))))
                (SA.l (SL.v 4) (SA.i (SI.add (SI.v 1) (SI.c (Int.ofNat 1))) SA.nil))))] },
    {
      pc :=
        [SB.not (SB.lt (SI.v 1) (SI.len (SL.v 4))), SB.le (SI.c (Int.ofNat 0)) (SI.v 1),
          SB.le (SI.v 1) (SI.len (SL.v 4)), SB.lt (SI.len (SL.v 4)) (SI.c (Int.ofNat 80000)),
          SB.eq (SI.len (SL.v 3)) (SI.c (Int.ofNat 30)), SB.le (SI.c (Int.ofNat 0)) (SI.v 9), SB.c true,
          SB.app 141 (SA.l (SL.v 4) (SA.i (SI.v 9) SA.nil))],
      eqs :=
        [Eqn.T
            (SB.eq (SI.len (SL.app 127 (SA.l (SL.v 3) (SA.l (SL.v 4) (SA.i (SI.v 1) SA.nil))))) (SI.c (Int.ofNat 30))),
          Eqn.I (SI.len (SL.app 127 (SA.l (SL.v 3) (SA.l (SL.v 4) (SA.i (SI.v 1) SA.nil))))) (SI.len (SL.v 3)),
          Eqn.L (SL.app 127 (SA.l (SL.v 3) (SA.l (SL.v 4) (SA.i (SI.v 1) SA.nil)))) (SL.v 3)] }] := by kernel_rfl
theorem st4_ok : st4.ok Φ Try.prog := by
  refine ⟨by kernel_rfl, loop_rule (fun ρ => t10_ok ρ) (loopAt_sub (by kernel_rfl)) st4_obs ?_⟩
  simp only [and_imp, List.forall_mem_cons, List.not_mem_nil, false_implies, implies_true, and_true, Ob.ok, holds, Eqn.ok, evB_eq, evB_lt, evB_le, evB_not, evB_and, evB_or, evB_eqL, evB_app, evB_v, evB_c, ev_sel, ev_len, ev_v, ev_c, ev_add, ev_sub, ev_mul, ev_quo, ev_rem, ev_bits, ev_wrap, evL_v, evL_lit, evL_app, ev_app, evA_l, evA_i, evA_nil, std_min, std_max, std_cat, std_take, std_drop, std_row, std_set, std_rep, std_find, std_put, std_del, std_flag, std_unflag, std_clr, std_left, std_copy, ints_cons, ints_nil, ofNat_lit, negSucc_lit, decide_eq_true_eq, Bool.and_eq_true, Bool.or_eq_true, Bool.not_eq_true', Bool.and_eq_false_iff, Bool.or_eq_false_iff, decide_eq_false_iff_not, aI110, aI111, aI112, aI113, aI114, aI115, aI120, aI121, aI122, aL110, aL116, aL120, aL122, aL123, aL124, aL125, aB130, aB132, aB140, aB141, aB142, aL126, aL127, aL128, aB199]
  repeat' apply And.intro
  all_goals intro ρ hR
  all_goals intros
  all_goals first
    | (have h := okL_at (L := ρ.l 4) (n := ρ.i 9) (k := ρ.i 1) (by with_reducible assumption) (by omega) (by omega)
       exfalso
       omega)
    | (omega)
    | (have e := sub_step (N := ρ.l 3) (L := ρ.l 4) (k := ρ.i 1) (by omega) (by omega)
       have h30 := ‹(((subAll _ _).length : Nat) : Int) = 30›
       exact ⟨(congrArg (fun x : Tab => (x.length : Int)) e).trans h30, congrArg (fun x : Tab => (x.length : Int)) e, e⟩)
    | (have e := sub_end (N := ρ.l 3) (L := ρ.l 4) (k := ρ.i 1) (by omega)
       rw [e]
       exact ⟨by omega, rfl, rfl⟩)
theorem t17_ok (ρ : Env) : TblOK Φ ρ Try.prog t17 := addLp_ok (t16_ok ρ) st4_ok
set_option maxRecDepth 100000 in
theorem st5_obs : loopObs Φ Try.prog t10 1000 st5.f (loopAt Try.prog st5.f st5.id) st5.n st5.T i12 st5.outs = some
  [{
      pc :=
        [SB.eq (SI.sel (SL.v 3) (SI.v 1) 0) (SI.c (Int.ofNat 0)), SB.lt (SI.v 1) (SI.c (Int.ofNat 30)),
          SB.le (SI.c (Int.ofNat 0)) (SI.v 1), SB.le (SI.v 1) (SI.c (Int.ofNat 30)),
          SB.eq (SI.len (SL.v 3)) (SI.c (Int.ofNat 30)), SB.c true,
          SB.eqL (SL.v 3)
            (SL.lit
              [[Int.ofNat 0], [Int.ofNat 0], [Int.ofNat 0], [Int.ofNat 0], [Int.ofNat 0], [Int.ofNat 0], [Int.ofNat 0],
                [Int.ofNat 0], [Int.ofNat 0], [Int.ofNat 0], [Int.ofNat 0], [Int.ofNat 0], [Int.ofNat 0], [Int.ofNat 0],
                [Int.ofNat 0], [Int.ofNat 0], [Int.ofNat 0], [Int.ofNat 0], [Int.ofNat 0], [Int.ofNat 0], [Int.ofNat 0],
                [Int.ofNat 0], [Int.ofNat 0], [Int.ofNat 0], [Int.ofNat 0], [Int.ofNat 0], [Int.ofNat 0], [Int.ofNat 0],
                [Int.ofNat 0], [Int.ofNat 0]])],
      eqs :=
        [Eqn.T
            (SB.lt (SI.sub (SI.c (Int.ofNat 30)) (SI.add (SI.v 1) (SI.c (Int.ofNat 1))))
              (SI.sub (SI.c (Int.ofNat 30)) (SI.v 1)))] },
    {
      pc :=
        [SB.not (SB.eq (SI.sel (SL.v 3) (SI.v 1) 0) (SI.c (Int.ofNat 0))), SB.lt (SI.v 1) (SI.c (Int.ofNat 30)),
          SB.le (SI.c (Int.ofNat 0)) (SI.v 1), SB.le (SI.v 1) (SI.c (Int.ofNat 30)),
          SB.eq (SI.len (SL.v 3)) (SI.c (Int.ofNat 30)), SB.c true,
          SB.eqL (SL.v 3)
            (SL.lit
              [[Int.ofNat 0], [Int.ofNat 0], [Int.ofNat 0], [Int.ofNat 0], [Int.ofNat 0], [Int.ofNat 0], [Int.ofNat 0],
                [Int.ofNat 0], [Int.ofNat 0], [Int.ofNat 0], [Int.ofNat 0], [Int.ofNat 0], [Int.ofNat 0], [Int.ofNat 0],
                [Int.ofNat 0], [Int.ofNat 0], [Int.ofNat 0], [Int.ofNat 0], [Int.ofNat 0], [Int.ofNat 0], [Int.ofNat 0],
                [Int.ofNat 0], [Int.ofNat 0], [Int.ofNat 0], [Int.ofNat 0], [Int.ofNat 0], [Int.ofNat 0], [Int.ofNat 0],
                [Int.ofNat 0], [Int.ofNat 0]])],
      eqs := [Eqn.T (SB.app 199 SA.nil)] }] := by kernel_rfl
theorem st5_ok : st5.ok Φ Try.prog := by
  refine ⟨by kernel_rfl, loop_rule (fun ρ => t10_ok ρ) (loopAt_sub (by kernel_rfl)) st5_obs ?_⟩
  simp only [and_imp, List.forall_mem_cons, List.not_mem_nil, false_implies, implies_true, and_true, Ob.ok, holds, Eqn.ok, evB_eq, evB_lt, evB_le, evB_not, evB_and, evB_or, evB_eqL, evB_app, evB_v, evB_c, ev_sel, ev_len, ev_v, ev_c, ev_add, ev_sub, ev_mul, ev_quo, ev_rem, ev_bits, ev_wrap, evL_v, evL_lit, evL_app, ev_app, evA_l, evA_i, evA_nil, std_min, std_max, std_cat, std_take, std_drop, std_row, std_set, std_rep, std_find, std_put, std_del, std_flag, std_unflag, std_clr, std_left, std_copy, ints_cons, ints_nil, ofNat_lit, negSucc_lit, decide_eq_true_eq, Bool.and_eq_true, Bool.or_eq_true, Bool.not_eq_true', Bool.and_eq_false_iff, Bool.or_eq_false_iff, decide_eq_false_iff_not, aI110, aI111, aI112, aI113, aI114, aI115, aI120, aI121, aI122, aL110, aL116, aL120, aL122, aL123, aL124, aL125, aB130, aB132, aB140, aB141, aB142, aL126, aL127, aL128, aB199]
  repeat' apply And.intro
  all_goals intro ρ hR
  all_goals intros
  all_goals first
    | (omega)
    | (exfalso
       have e0 := ‹ρ.l 3 = _›
       have e : ρ.l 3 = List.replicate 30 [0] := e0
       have h := zeros_at (i := ρ.i 1) (by omega) (by omega)
       rw [← e] at h
       exact absurd h (by with_reducible assumption))
theorem t18_ok (ρ : Env) : TblOK Φ ρ Try.prog t18 := addLp_ok (t17_ok ρ) st5_ok
set_option maxRecDepth 100000 in
theorem lSteps0_obs : callObs Φ Try.prog t18 1000 lSteps0.f lSteps0.vs lSteps0.o lSteps0.pc lSteps0.outs = some
  [{
      pc :=
        [SB.not
            (SB.lt (SI.v 2001) (SI.app 112 (SA.l (SL.app 125 (SA.l (SL.v 1000) (SA.i (SI.v 2001) SA.nil))) SA.nil))),
          SB.not (SB.eq (SI.len (SL.app 125 (SA.l (SL.v 1000) (SA.i (SI.v 2001) SA.nil)))) (SI.c (Int.ofNat 0))),
          SB.eqL
            (SL.app 127
              (SA.l (SL.app 128 (SA.l (SL.v 1000) (SA.i (SI.v 2001) SA.nil)))
                (SA.l (SL.app 124 (SA.l (SL.v 1000) (SA.i (SI.v 2001) SA.nil))) (SA.i (SI.c (Int.ofNat 0)) SA.nil))))
            (SL.lit
              [[Int.ofNat 0], [Int.ofNat 0], [Int.ofNat 0], [Int.ofNat 0], [Int.ofNat 0], [Int.ofNat 0], [Int.ofNat 0],
                [Int.ofNat 0], [Int.ofNat 0], [Int.ofNat 0], [Int.ofNat 0], [Int.ofNat 0], [Int.ofNat 0], [Int.ofNat 0],
                [Int.ofNat 0], [Int.ofNat 0], [Int.ofNat 0], [Int.ofNat 0], [Int.ofNat 0], [Int.ofNat 0], [Int.ofNat 0],
                [Int.ofNat 0], [Int.ofNat 0], [Int.ofNat 0], [Int.ofNat 0], [Int.ofNat 0], [Int.ofNat 0], [Int.ofNat 0],
                [Int.ofNat 0], [Int.ofNat 0]]),
          SB.eq
            (SI.len
              (SL.app 127
                (SA.l (SL.app 128 (SA.l (SL.v 1000) (SA.i (SI.v 2001) SA.nil)))
                  (SA.l (SL.app 124 (SA.l (SL.v 1000) (SA.i (SI.v 2001) SA.nil))) (SA.i (SI.c (Int.ofNat 0)) SA.nil)))))
            (SI.c (Int.ofNat 30)),
          SB.app 141 (SA.l (SL.app 124 (SA.l (SL.v 1000) (SA.i (SI.v 2001) SA.nil))) (SA.i (SI.v 2001) SA.nil)),
          SB.le (SI.len (SL.app 125 (SA.l (SL.v 1000) (SA.i (SI.v 2001) SA.nil)))) (SI.len (SL.v 1000)),
          SB.lt (SI.len (SL.app 124 (SA.l (SL.v 1000) (SA.i (SI.v 2001) SA.nil)))) (SI.c (Int.ofNat 80000)),
          SB.le (SI.len (SL.app 125 (SA.l (SL.v 1000) (SA.i (SI.v 2001) SA.nil)))) (SI.c (Int.ofNat 30)),
          SB.eq (SI.len (SL.app 128 (SA.l (SL.v 1000) (SA.i (SI.v 2001) SA.nil)))) (SI.c (Int.ofNat 30)),
          SB.le (SI.v 2001) (SI.c (Int.ofNat 3000000)), SB.le (SI.c (Int.ofNat 0)) (SI.v 2001),
          SB.eqL (SL.v 1000) (SL.app 125 (SA.l (SL.v 1000) (SA.i (SI.c (Int.ofNat 0)) SA.nil))),
          SB.eqL
            (SL.lit
              [[Int.ofNat 0], [Int.ofNat 0], [Int.ofNat 0], [Int.ofNat 0], [Int.ofNat 0], [Int.ofNat 0], [Int.ofNat 0],
                [Int.ofNat 0], [Int.ofNat 0], [Int.ofNat 0], [Int.ofNat 0], [Int.ofNat 0], [Int.ofNat 0], [Int.ofNat 0],
                [Int.ofNat 0], [Int.ofNat 0], [Int.ofNat 0], [Int.ofNat 0], [Int.ofNat 0], [Int.ofNat 0], [Int.ofNat 0],
                [Int.ofNat 0], [Int.ofNat 0], [Int.ofNat 0], [Int.ofNat 0], [Int.ofNat 0], [Int.ofNat 0], [Int.ofNat 0],
                [Int.ofNat 0], [Int.ofNat 0]])
            (SL.app 128 (SA.l (SL.v 1000) (SA.i (SI.c (Int.ofNat 0)) SA.nil))),
          SB.le (SI.len (SL.v 1000)) (SI.c (Int.ofNat 30)),
          SB.app 142 (SA.l (SL.v 1000) (SA.i (SI.c (Int.ofNat 30)) SA.nil)),
          SB.not (SB.lt (SI.c (Int.ofNat 30)) (SI.len (SL.v 7))),
          SB.not (SB.lt (SI.c (Int.ofNat 30)) (SI.len (SL.v 5)))],
      eqs := [Eqn.T (SB.app 199 SA.nil)] },
    {
      pc :=
        [SB.not
            (SB.eqL
              (SL.app 127
                (SA.l (SL.app 128 (SA.l (SL.v 1000) (SA.i (SI.v 2001) SA.nil)))
                  (SA.l (SL.app 124 (SA.l (SL.v 1000) (SA.i (SI.v 2001) SA.nil))) (SA.i (SI.c (Int.ofNat 0)) SA.nil))))
              (SL.lit
                [[Int.ofNat 0], [Int.ofNat 0], [Int.ofNat 0], [Int.ofNat 0], [Int.ofNat 0], [Int.ofNat 0],
                  [Int.ofNat 0], [Int.ofNat 0], [Int.ofNat 0], [Int.ofNat 0], [Int.ofNat 0], [Int.ofNat 0],
                  [Int.ofNat 0], [Int.ofNat 0], [Int.ofNat 0], [Int.ofNat 0], [Int.ofNat 0], [Int.ofNat 0],
                  [Int.ofNat 0], [Int.ofNat 0], [Int.ofNat 0], [Int.ofNat 0], [Int.ofNat 0], [Int.ofNat 0],
                  [Int.ofNat 0], [Int.ofNat 0], [Int.ofNat 0], [Int.ofNat 0], [Int.ofNat 0], [Int.ofNat 0]])),
          SB.eq
            (SI.len
              (SL.app 127
                (SA.l (SL.app 128 (SA.l (SL.v 1000) (SA.i (SI.v 2001) SA.nil)))
                  (SA.l (SL.app 124 (SA.l (SL.v 1000) (SA.i (SI.v 2001) SA.nil))) (SA.i (SI.c (Int.ofNat 0)) SA.nil)))))
            (SI.c (Int.ofNat 30)),
          SB.app 141 (SA.l (SL.app 124 (SA.l (SL.v 1000) (SA.i (SI.v 2001) SA.nil))) (SA.i (SI.v 2001) SA.nil)),
          SB.le (SI.len (SL.app 125 (SA.l (SL.v 1000) (SA.i (SI.v 2001) SA.nil)))) (SI.len (SL.v 1000)),
          SB.lt (SI.len (SL.app 124 (SA.l (SL.v 1000) (SA.i (SI.v 2001) SA.nil)))) (SI.c (Int.ofNat 80000)),
          SB.le (SI.len (SL.app 125 (SA.l (SL.v 1000) (SA.i (SI.v 2001) SA.nil)))) (SI.c (Int.ofNat 30)),
          SB.eq (SI.len (SL.app 128 (SA.l (SL.v 1000) (SA.i (SI.v 2001) SA.nil)))) (SI.c (Int.ofNat 30)),
          SB.le (SI.v 2001) (SI.c (Int.ofNat 3000000)), SB.le (SI.c (Int.ofNat 0)) (SI.v 2001),
          SB.eqL (SL.v 1000) (SL.app 125 (SA.l (SL.v 1000) (SA.i (SI.c (Int.ofNat 0)) SA.nil))),
          SB.eqL
            (SL.lit
              [[Int.ofNat 0], [Int.ofNat 0], [Int.ofNat 0], [Int.ofNat 0], [Int.ofNat 0], [Int.ofNat 0], [Int.ofNat 0],
                [Int.ofNat 0], [Int.ofNat 0], [Int.ofNat 0], [Int.ofNat 0], [Int.ofNat 0], [Int.ofNat 0], [Int.ofNat 0],
                [Int.ofNat 0], [Int.ofNat 0], [Int.ofNat 0], [Int.ofNat 0], [Int.ofNat 0], [Int.ofNat 0], [Int.ofNat 0],
                [Int.ofNat 0], [Int.ofNat 0], [Int.ofNat 0], [Int.ofNat 0], [Int.ofNat 0], [Int.ofNat 0], [Int.ofNat 0],
                [Int.ofNat 0], [Int.ofNat 0]])
            (SL.app 128 (SA.l (SL.v 1000) (SA.i (SI.c (Int.ofNat 0)) SA.nil))),
          SB.le (SI.len (SL.v 1000)) (SI.c (Int.ofNat 30)),
          SB.app 142 (SA.l (SL.v 1000) (SA.i (SI.c (Int.ofNat 30)) SA.nil)),
          SB.not (SB.lt (SI.c (Int.ofNat 30)) (SI.len (SL.v 7))),
          SB.not (SB.lt (SI.c (Int.ofNat 30)) (SI.len (SL.v 5)))],
      eqs := [Eqn.T (SB.c false)] },
    {
      pc :=
        [SB.not (SB.app 141 (SA.l (SL.app 124 (SA.l (SL.v 1000) (SA.i (SI.v 2001) SA.nil))) (SA.i (SI.v 2001) SA.nil))),
          SB.le (SI.len (SL.app 125 (SA.l (SL.v 1000) (SA.i (SI.v 2001) SA.nil)))) (SI.len (SL.v 1000)),
          SB.lt (SI.len (SL.app 124 (SA.l (SL.v 1000) (SA.i (SI.v 2001) SA.nil)))) (SI.c (Int.ofNat 80000)),
          SB.le (SI.len (SL.app 125 (SA.l (SL.v 1000) (SA.i (SI.v 2001) SA.nil)))) (SI.c (Int.ofNat 30)),
          SB.eq (SI.len (SL.app 128 (SA.l (SL.v 1000) (SA.i (SI.v 2001) SA.nil)))) (SI.c (Int.ofNat 30)),
          SB.le (SI.v 2001) (SI.c (Int.ofNat 3000000)), SB.le (SI.c (Int.ofNat 0)) (SI.v 2001),
          SB.eqL (SL.v 1000) (SL.app 125 (SA.l (SL.v 1000) (SA.i (SI.c (Int.ofNat 0)) SA.nil))),
          SB.eqL
            (SL.lit
              [[Int.ofNat 0], [Int.ofNat 0], [Int.ofNat 0], [Int.ofNat 0], [Int.ofNat 0], [Int.ofNat 0], [Int.ofNat 0],
                [Int.ofNat 0], [Int.ofNat 0], [Int.ofNat 0], [Int.ofNat 0], [Int.ofNat 0], [Int.ofNat 0], [Int.ofNat 0],
                [Int.ofNat 0], [Int.ofNat 0], [Int.ofNat 0], [Int.ofNat 0], [Int.ofNat 0], [Int.ofNat 0], [Int.ofNat 0],
                [Int.ofNat 0], [Int.ofNat 0], [Int.ofNat 0], [Int.ofNat 0], [Int.ofNat 0], [Int.ofNat 0], [Int.ofNat 0],
                [Int.ofNat 0], [Int.ofNat 0]])
            (SL.app 128 (SA.l (SL.v 1000) (SA.i (SI.c (Int.ofNat 0)) SA.nil))),
          SB.le (SI.len (SL.v 1000)) (SI.c (Int.ofNat 30)),
          SB.app 142 (SA.l (SL.v 1000) (SA.i (SI.c (Int.ofNat 30)) SA.nil)),
          SB.not (SB.lt (SI.c (Int.ofNat 30)) (SI.len (SL.v 7))),
          SB.not (SB.lt (SI.c (Int.ofNat 30)) (SI.len (SL.v 5)))],
      eqs := [Eqn.T (SB.c false)] },
    {
      pc :=
        [SB.not (SB.eqL (SL.v 1000) (SL.app 125 (SA.l (SL.v 1000) (SA.i (SI.c (Int.ofNat 0)) SA.nil)))),
          SB.le (SI.len (SL.v 1000)) (SI.c (Int.ofNat 30)),
          SB.app 142 (SA.l (SL.v 1000) (SA.i (SI.c (Int.ofNat 30)) SA.nil)),
          SB.not (SB.lt (SI.c (Int.ofNat 30)) (SI.len (SL.v 7))),
          SB.not (SB.lt (SI.c (Int.ofNat 30)) (SI.len (SL.v 5)))],
      eqs := [Eqn.T (SB.c false)] },
    {
      pc :=
        [SB.not
            (SB.eqL
              (SL.lit
                [[Int.ofNat 0], [Int.ofNat 0], [Int.ofNat 0], [Int.ofNat 0], [Int.ofNat 0], [Int.ofNat 0],
                  [Int.ofNat 0], [Int.ofNat 0], [Int.ofNat 0], [Int.ofNat 0], [Int.ofNat 0], [Int.ofNat 0],
                  [Int.ofNat 0], [Int.ofNat 0], [Int.ofNat 0], [Int.ofNat 0], [Int.ofNat 0], [Int.ofNat 0],
                  [Int.ofNat 0], [Int.ofNat 0], [Int.ofNat 0], [Int.ofNat 0], [Int.ofNat 0], [Int.ofNat 0],
                  [Int.ofNat 0], [Int.ofNat 0], [Int.ofNat 0], [Int.ofNat 0], [Int.ofNat 0], [Int.ofNat 0]])
              (SL.app 128 (SA.l (SL.v 1000) (SA.i (SI.c (Int.ofNat 0)) SA.nil)))),
          SB.le (SI.len (SL.v 1000)) (SI.c (Int.ofNat 30)),
          SB.app 142 (SA.l (SL.v 1000) (SA.i (SI.c (Int.ofNat 30)) SA.nil)),
          SB.not (SB.lt (SI.c (Int.ofNat 30)) (SI.len (SL.v 7))),
          SB.not (SB.lt (SI.c (Int.ofNat 30)) (SI.len (SL.v 5)))],
      eqs := [Eqn.T (SB.c false)] }] := by kernel_rfl
theorem lSteps0_ok : lSteps0.ok Φ Try.prog := by
  refine call_rule (fun ρ => t18_ok ρ) lSteps0_obs ?_
  simp only [and_imp, List.forall_mem_cons, List.not_mem_nil, false_implies, implies_true, and_true, Ob.ok, holds, Eqn.ok, evB_eq, evB_lt, evB_le, evB_not, evB_and, evB_or, evB_eqL, evB_app, evB_v, evB_c, ev_sel, ev_len, ev_v, ev_c, ev_add, ev_sub, ev_mul, ev_quo, ev_rem, ev_bits, ev_wrap, evL_v, evL_lit, evL_app, ev_app, evA_l, evA_i, evA_nil, std_min, std_max, std_cat, std_take, std_drop, std_row, std_set, std_rep, std_find, std_put, std_del, std_flag, std_unflag, std_clr, std_left, std_copy, ints_cons, ints_nil, ofNat_lit, negSucc_lit, decide_eq_true_eq, Bool.and_eq_true, Bool.or_eq_true, Bool.not_eq_true', Bool.and_eq_false_iff, Bool.or_eq_false_iff, decide_eq_false_iff_not, aI110, aI111, aI112, aI113, aI114, aI115, aI120, aI121, aI122, aL110, aL116, aL120, aL122, aL123, aL124, aL125, aB130, aB132, aB140, aB141, aB142, aL126, aL127, aL128, aB199]
  repeat' apply And.intro
  all_goals intro ρ hR
  all_goals intros
  all_goals first
    | (exfalso
       have hT : okT (ρ.l 1000) 30 = true := by with_reducible assumption
       have h := least_gt (n := ρ.i 2001) hT (by omega) (by omega) (by with_reducible assumption)
       exact absurd h (by with_reducible assumption))
    | (exfalso
       have hT : okT (ρ.l 1000) 30 = true := by with_reducible assumption
       have h := sub_none (n := ρ.i 2001) hT (by omega) (by omega) (by omega)
       exact absurd h (by assumption))
    | (exfalso
       have hT : okT (ρ.l 1000) 30 = true := by with_reducible assumption
       have h := fires_ok (n := ρ.i 2001) (okS_of hT) (by omega)
       exact Bool.false_ne_true (‹okL _ _ = false›.symm.trans h))
    | (exfalso
       have hT : okT (ρ.l 1000) 30 = true := by with_reducible assumption
       exact absurd (start_T hT).symm (by with_reducible assumption))
    | (exfalso
       have hT : okT (ρ.l 1000) 30 = true := by with_reducible assumption
       exact absurd (start_N hT).symm (by assumption))
theorem lSteps_ok : lSteps.ok Φ Try.prog := drop_never rfl lSteps0_ok
end Go.SF.C18
