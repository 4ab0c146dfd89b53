/- The document's answer, shown. -/
import Derived.Test.YtlbppnfmahnnaaaQ2
import Derived.Test.YtlbppnfmahnnaaaC2
import Derived.KernelRfl
namespace Go.SF.C14
open Go Go.SF Go.Proofs
set_option linter.unusedVariables false
set_option linter.unusedSimpArgs false

set_option maxRecDepth 100000 in
theorem wo0_obs : loopObs Φ Try.prog noTbl 1000 wo0.f (loopAt Try.prog wo0.f wo0.id) wo0.n wo0.T (.sub (.add (.len l0) (.c 1)) (.v 3)) wo0.outs = some
  [{
      pc :=
        [SB.eq (SI.sel (SL.v 0) (SI.v 3) 1) (SI.v 1), SB.eq (SI.sel (SL.v 0) (SI.v 3) 0) (SI.v 0),
          SB.lt (SI.v 3) (SI.len (SL.v 0)), SB.le (SI.c (Int.ofNat 0)) (SI.v 3), SB.le (SI.v 3) (SI.len (SL.v 0)),
          SB.lt (SI.len (SL.v 0)) (SI.c (Int.ofNat 100000)), SB.le (SI.len (SL.v 1)) (SI.v 3)],
      eqs :=
        [Eqn.T
            (SB.lt (SI.sub (SI.add (SI.len (SL.v 0)) (SI.c (Int.ofNat 1))) (SI.add (SI.v 3) (SI.c (Int.ofNat 1))))
              (SI.sub (SI.add (SI.len (SL.v 0)) (SI.c (Int.ofNat 1))) (SI.v 3))),
          Eqn.T (SB.lt (SI.c (Int.ofNat 0)) (SI.sub (SI.add (SI.len (SL.v 0)) (SI.c (Int.ofNat 1))) (SI.v 3)))] },
    {
      pc :=
        [SB.le
            (SI.len
              (SL.app 140
                (SA.l (SL.v 0)
                  (SA.l (SL.v 1)
                    (SA.i (SI.add (SI.v 3) (SI.c (Int.ofNat 1))) (SA.i (SI.v 0) (SA.i (SI.v 1) SA.nil)))))))
            (SI.len (SL.v 0)),
          SB.eq (SI.sel (SL.v 0) (SI.v 3) 1) (SI.v 1), SB.eq (SI.sel (SL.v 0) (SI.v 3) 0) (SI.v 0),
          SB.lt (SI.v 3) (SI.len (SL.v 0)), SB.le (SI.c (Int.ofNat 0)) (SI.v 3), SB.le (SI.v 3) (SI.len (SL.v 0)),
          SB.lt (SI.len (SL.v 0)) (SI.c (Int.ofNat 100000)), SB.le (SI.len (SL.v 1)) (SI.v 3)],
      eqs :=
        [Eqn.T
            (SB.le
              (SI.len
                (SL.app 140 (SA.l (SL.v 0) (SA.l (SL.v 1) (SA.i (SI.v 3) (SA.i (SI.v 0) (SA.i (SI.v 1) SA.nil)))))))
              (SI.len (SL.v 0))),
          Eqn.I
            (SI.len (SL.app 140 (SA.l (SL.v 0) (SA.l (SL.v 1) (SA.i (SI.v 3) (SA.i (SI.v 0) (SA.i (SI.v 1) SA.nil)))))))
            (SI.len
              (SL.app 140
                (SA.l (SL.v 0)
                  (SA.l (SL.v 1)
                    (SA.i (SI.add (SI.v 3) (SI.c (Int.ofNat 1))) (SA.i (SI.v 0) (SA.i (SI.v 1) SA.nil))))))),
          Eqn.L (SL.app 140 (SA.l (SL.v 0) (SA.l (SL.v 1) (SA.i (SI.v 3) (SA.i (SI.v 0) (SA.i (SI.v 1) SA.nil))))))
            (SL.app 140
              (SA.l (SL.v 0)
                (SA.l (SL.v 1)
                  (SA.i (SI.add (SI.v 3) (SI.c (Int.ofNat 1))) (SA.i (SI.v 0) (SA.i (SI.v 1) SA.nil))))))] },
    {
      pc :=
        [SB.not (SB.eq (SI.sel (SL.v 0) (SI.v 3) 1) (SI.v 1)), SB.eq (SI.sel (SL.v 0) (SI.v 3) 0) (SI.v 0),
          SB.lt (SI.v 3) (SI.len (SL.v 0)), SB.le (SI.c (Int.ofNat 0)) (SI.v 3), SB.le (SI.v 3) (SI.len (SL.v 0)),
          SB.lt (SI.len (SL.v 0)) (SI.c (Int.ofNat 100000)), SB.le (SI.len (SL.v 1)) (SI.v 3)],
      eqs :=
        [Eqn.T
            (SB.lt (SI.sub (SI.add (SI.len (SL.v 0)) (SI.c (Int.ofNat 1))) (SI.add (SI.v 3) (SI.c (Int.ofNat 1))))
              (SI.sub (SI.add (SI.len (SL.v 0)) (SI.c (Int.ofNat 1))) (SI.v 3))),
          Eqn.T (SB.lt (SI.c (Int.ofNat 0)) (SI.sub (SI.add (SI.len (SL.v 0)) (SI.c (Int.ofNat 1))) (SI.v 3)))] },
    {
      pc :=
        [SB.le
            (SI.len
              (SL.app 140
                (SA.l (SL.v 0)
                  (SA.l
                    (SL.app 0
                      (SA.l (SL.v 1)
                        (SA.l
                          (SL.app 3
                            (SA.i (SI.sel (SL.v 0) (SI.v 3) 0)
                              (SA.i (SI.sel (SL.v 0) (SI.v 3) 1)
                                (SA.i (SI.sel (SL.v 0) (SI.v 3) 2) (SA.i (SI.sel (SL.v 0) (SI.v 3) 3) SA.nil)))))
                          SA.nil)))
                    (SA.i (SI.add (SI.v 3) (SI.c (Int.ofNat 1))) (SA.i (SI.v 0) (SA.i (SI.v 1) SA.nil)))))))
            (SI.len (SL.v 0)),
          SB.not (SB.eq (SI.sel (SL.v 0) (SI.v 3) 1) (SI.v 1)), SB.eq (SI.sel (SL.v 0) (SI.v 3) 0) (SI.v 0),
          SB.lt (SI.v 3) (SI.len (SL.v 0)), SB.le (SI.c (Int.ofNat 0)) (SI.v 3), SB.le (SI.v 3) (SI.len (SL.v 0)),
          SB.lt (SI.len (SL.v 0)) (SI.c (Int.ofNat 100000)), SB.le (SI.len (SL.v 1)) (SI.v 3)],
      eqs :=
        [Eqn.T
            (SB.le
              (SI.len
                (SL.app 140 (SA.l (SL.v 0) (SA.l (SL.v 1) (SA.i (SI.v 3) (SA.i (SI.v 0) (SA.i (SI.v 1) SA.nil)))))))
              (SI.len (SL.v 0))),
          Eqn.I
            (SI.len (SL.app 140 (SA.l (SL.v 0) (SA.l (SL.v 1) (SA.i (SI.v 3) (SA.i (SI.v 0) (SA.i (SI.v 1) SA.nil)))))))
            (SI.len
              (SL.app 140
                (SA.l (SL.v 0)
                  (SA.l
                    (SL.app 0
                      (SA.l (SL.v 1)
                        (SA.l
                          (SL.app 3
                            (SA.i (SI.sel (SL.v 0) (SI.v 3) 0)
                              (SA.i (SI.sel (SL.v 0) (SI.v 3) 1)
                                (SA.i (SI.sel (SL.v 0) (SI.v 3) 2) (SA.i (SI.sel (SL.v 0) (SI.v 3) 3) SA.nil)))))
                          SA.nil)))
                    (SA.i (SI.add (SI.v 3) (SI.c (Int.ofNat 1))) (SA.i (SI.v 0) (SA.i (SI.v 1) SA.nil))))))),
          Eqn.L (SL.app 140 (SA.l (SL.v 0) (SA.l (SL.v 1) (SA.i (SI.v 3) (SA.i (SI.v 0) (SA.i (SI.v 1) SA.nil))))))
            (SL.app 140
              (SA.l (SL.v 0)
                (SA.l
                  (SL.app 0
                    (SA.l (SL.v 1)
                      (SA.l
                        (SL.app 3
                          (SA.i (SI.sel (SL.v 0) (SI.v 3) 0)
                            (SA.i (SI.sel (SL.v 0) (SI.v 3) 1)
                              (SA.i (SI.sel (SL.v 0) (SI.v 3) 2) (SA.i (SI.sel (SL.v 0) (SI.v 3) 3) SA.nil)))))
                        SA.nil)))
                  (SA.i (SI.add (SI.v 3) (SI.c (Int.ofNat 1))) (SA.i (SI.v 0) (SA.i (SI.v 1) SA.nil))))))] },
    {
      pc :=
        [SB.not (SB.eq (SI.sel (SL.v 0) (SI.v 3) 0) (SI.v 0)), SB.lt (SI.v 3) (SI.len (SL.v 0)),
          SB.le (SI.c (Int.ofNat 0)) (SI.v 3), SB.le (SI.v 3) (SI.len (SL.v 0)),
          SB.lt (SI.len (SL.v 0)) (SI.c (Int.ofNat 100000)), SB.le (SI.len (SL.v 1)) (SI.v 3)],
      eqs :=
        [Eqn.T
            (SB.lt (SI.sub (SI.add (SI.len (SL.v 0)) (SI.c (Int.ofNat 1))) (SI.add (SI.v 3) (SI.c (Int.ofNat 1))))
              (SI.sub (SI.add (SI.len (SL.v 0)) (SI.c (Int.ofNat 1))) (SI.v 3))),
          Eqn.T (SB.lt (SI.c (Int.ofNat 0)) (SI.sub (SI.add (SI.len (SL.v 0)) (SI.c (Int.ofNat 1))) (SI.v 3)))] },
    {
      pc :=
        [SB.le
            (SI.len
              (SL.app 140
                (SA.l (SL.v 0)
                  (SA.l
                    (SL.app 0
                      (SA.l (SL.v 1)
                        (SA.l
                          (SL.app 3
                            (SA.i (SI.sel (SL.v 0) (SI.v 3) 0)
                              (SA.i (SI.sel (SL.v 0) (SI.v 3) 1)
                                (SA.i (SI.sel (SL.v 0) (SI.v 3) 2) (SA.i (SI.sel (SL.v 0) (SI.v 3) 3) SA.nil)))))
                          SA.nil)))
                    (SA.i (SI.add (SI.v 3) (SI.c (Int.ofNat 1))) (SA.i (SI.v 0) (SA.i (SI.v 1) SA.nil)))))))
            (SI.len (SL.v 0)),
          SB.not (SB.eq (SI.sel (SL.v 0) (SI.v 3) 0) (SI.v 0)), SB.lt (SI.v 3) (SI.len (SL.v 0)),
          SB.le (SI.c (Int.ofNat 0)) (SI.v 3), SB.le (SI.v 3) (SI.len (SL.v 0)),
          SB.lt (SI.len (SL.v 0)) (SI.c (Int.ofNat 100000)), SB.le (SI.len (SL.v 1)) (SI.v 3)],
      eqs :=
        [Eqn.T
            (SB.le
              (SI.len
                (SL.app 140 (SA.l (SL.v 0) (SA.l (SL.v 1) (SA.i (SI.v 3) (SA.i (SI.v 0) (SA.i (SI.v 1) SA.nil)))))))
              (SI.len (SL.v 0))),
          Eqn.I
            (SI.len (SL.app 140 (SA.l (SL.v 0) (SA.l (SL.v 1) (SA.i (SI.v 3) (SA.i (SI.v 0) (SA.i (SI.v 1) SA.nil)))))))
            (SI.len
              (SL.app 140
                (SA.l (SL.v 0)
                  (SA.l
                    (SL.app 0
                      (SA.l (SL.v 1)
                        (SA.l
                          (SL.app 3
                            (SA.i (SI.sel (SL.v 0) (SI.v 3) 0)
                              (SA.i (SI.sel (SL.v 0) (SI.v 3) 1)
                                (SA.i (SI.sel (SL.v 0) (SI.v 3) 2) (SA.i (SI.sel (SL.v 0) (SI.v 3) 3) SA.nil)))))
                          SA.nil)))
                    (SA.i (SI.add (SI.v 3) (SI.c (Int.ofNat 1))) (SA.i (SI.v 0) (SA.i (SI.v 1) SA.nil))))))),
          Eqn.L (SL.app 140 (SA.l (SL.v 0) (SA.l (SL.v 1) (SA.i (SI.v 3) (SA.i (SI.v 0) (SA.i (SI.v 1) SA.nil))))))
            (SL.app 140
              (SA.l (SL.v 0)
                (SA.l
                  (SL.app 0
                    (SA.l (SL.v 1)
                      (SA.l
                        (SL.app 3
                          (SA.i (SI.sel (SL.v 0) (SI.v 3) 0)
                            (SA.i (SI.sel (SL.v 0) (SI.v 3) 1)
                              (SA.i (SI.sel (SL.v 0) (SI.v 3) 2) (SA.i (SI.sel (SL.v 0) (SI.v 3) 3) SA.nil)))))
                        SA.nil)))
                  (SA.i (SI.add (SI.v 3) (SI.c (Int.ofNat 1))) (SA.i (SI.v 0) (SA.i (SI.v 1) SA.nil))))))] },
    {
      pc :=
        [SB.not (SB.lt (SI.v 3) (SI.len (SL.v 0))), SB.le (SI.c (Int.ofNat 0)) (SI.v 3),
          SB.le (SI.v 3) (SI.len (SL.v 0)), SB.lt (SI.len (SL.v 0)) (SI.c (Int.ofNat 100000)),
          SB.le (SI.len (SL.v 1)) (SI.v 3)],
      eqs :=
        [Eqn.T
            (SB.le
              (SI.len
                (SL.app 140 (SA.l (SL.v 0) (SA.l (SL.v 1) (SA.i (SI.v 3) (SA.i (SI.v 0) (SA.i (SI.v 1) SA.nil)))))))
              (SI.len (SL.v 0))),
          Eqn.I
            (SI.len (SL.app 140 (SA.l (SL.v 0) (SA.l (SL.v 1) (SA.i (SI.v 3) (SA.i (SI.v 0) (SA.i (SI.v 1) SA.nil)))))))
            (SI.len (SL.v 1)),
          Eqn.L (SL.app 140 (SA.l (SL.v 0) (SA.l (SL.v 1) (SA.i (SI.v 3) (SA.i (SI.v 0) (SA.i (SI.v 1) SA.nil))))))
            (SL.v 1)] }] := by kernel_rfl
theorem wo0_ok : wo0.ok Φ Try.prog := by
  refine ⟨by kernel_rfl, loop_rule (fun ρ => noTbl_ok) (loopAt_sub (by kernel_rfl)) wo0_obs ?_⟩
  simp only [and_imp, List.forall_mem_cons, List.not_mem_nil, false_implies, implies_true, and_true, Ob.ok, holds, Eqn.ok, evB_eq, evB_lt, evB_le, evB_not, evB_and, evB_or, evB_eqL, evB_app, evB_v, evB_c, ev_sel, ev_len, ev_v, ev_c, ev_add, ev_sub, ev_mul, ev_quo, ev_rem, ev_bits, ev_wrap, evL_v, evL_lit, evL_app, ev_app, evA_l, evA_i, evA_nil, std_min, std_max, std_cat, std_take, std_drop, std_row, std_set, std_rep, ints_cons, ints_nil, ofNat_lit, negSucc_lit, decide_eq_true_eq, Bool.and_eq_true, Bool.or_eq_true, Bool.not_eq_true', Bool.and_eq_false_iff, Bool.or_eq_false_iff, decide_eq_false_iff_not, aI100, aL100, aI101, aL101, aI102, aL102, aI111, aI112, aI120, aI130, aI131, aL110, aL111, aL112, aL120, aL140, aL141, aL142, aB100, aB130, aB160, aB162, aB199, aL161]
  repeat' apply And.intro
  all_goals intro ρ hR
  all_goals intros
  all_goals first
    | (omega)
    | (exact tri (wkT_yes (by omega) (by omega) (by simp only [pOf, pTag, pFrame, at', Bool.and_eq_true, decide_eq_true_eq]; omega)) (by with_reducible assumption))
    | (exact tri ((wkT_no (i := ρ.i 3) (by omega) (by omega) (by simp only [pOf, pTag, pFrame, at', Bool.and_eq_false_iff, decide_eq_false_iff_not]; omega)).trans (by rw [row4 (show okRow K4 ((ρ.l 0).getD (ρ.i 3).toNat []) from hR.row 1 rfl rfl _ (getD_mem (A := ρ.l 0) (by omega) (by omega)))])) (by with_reducible assumption))
    | (exact tri (wkT_end (by omega)) (by omega))
set_option maxRecDepth 100000 in
theorem wo1_obs : loopObs Φ Try.prog noTbl 1000 wo1.f (loopAt Try.prog wo1.f wo1.id) wo1.n wo1.T (.sub (.add (.len l0) (.c 1)) (.v 3)) wo1.outs = some
  [{
      pc :=
        [SB.eq (SI.sel (SL.v 0) (SI.v 3) 0) (SI.v 0), SB.lt (SI.v 3) (SI.len (SL.v 0)),
          SB.le (SI.c (Int.ofNat 0)) (SI.v 3), SB.le (SI.v 3) (SI.len (SL.v 0)),
          SB.lt (SI.len (SL.v 0)) (SI.c (Int.ofNat 100000)), SB.le (SI.len (SL.v 1)) (SI.v 3)],
      eqs :=
        [Eqn.T
            (SB.lt (SI.sub (SI.add (SI.len (SL.v 0)) (SI.c (Int.ofNat 1))) (SI.add (SI.v 3) (SI.c (Int.ofNat 1))))
              (SI.sub (SI.add (SI.len (SL.v 0)) (SI.c (Int.ofNat 1))) (SI.v 3))),
          Eqn.T (SB.lt (SI.c (Int.ofNat 0)) (SI.sub (SI.add (SI.len (SL.v 0)) (SI.c (Int.ofNat 1))) (SI.v 3)))] },
    {
      pc :=
        [SB.le
            (SI.len
              (SL.app 141
                (SA.l (SL.v 0) (SA.l (SL.v 1) (SA.i (SI.add (SI.v 3) (SI.c (Int.ofNat 1))) (SA.i (SI.v 0) SA.nil))))))
            (SI.len (SL.v 0)),
          SB.eq (SI.sel (SL.v 0) (SI.v 3) 0) (SI.v 0), SB.lt (SI.v 3) (SI.len (SL.v 0)),
          SB.le (SI.c (Int.ofNat 0)) (SI.v 3), SB.le (SI.v 3) (SI.len (SL.v 0)),
          SB.lt (SI.len (SL.v 0)) (SI.c (Int.ofNat 100000)), SB.le (SI.len (SL.v 1)) (SI.v 3)],
      eqs :=
        [Eqn.T
            (SB.le (SI.len (SL.app 141 (SA.l (SL.v 0) (SA.l (SL.v 1) (SA.i (SI.v 3) (SA.i (SI.v 0) SA.nil))))))
              (SI.len (SL.v 0))),
          Eqn.I (SI.len (SL.app 141 (SA.l (SL.v 0) (SA.l (SL.v 1) (SA.i (SI.v 3) (SA.i (SI.v 0) SA.nil))))))
            (SI.len
              (SL.app 141
                (SA.l (SL.v 0) (SA.l (SL.v 1) (SA.i (SI.add (SI.v 3) (SI.c (Int.ofNat 1))) (SA.i (SI.v 0) SA.nil)))))),
          Eqn.L (SL.app 141 (SA.l (SL.v 0) (SA.l (SL.v 1) (SA.i (SI.v 3) (SA.i (SI.v 0) SA.nil)))))
            (SL.app 141
              (SA.l (SL.v 0) (SA.l (SL.v 1) (SA.i (SI.add (SI.v 3) (SI.c (Int.ofNat 1))) (SA.i (SI.v 0) SA.nil)))))] },
    {
      pc :=
        [SB.not (SB.eq (SI.sel (SL.v 0) (SI.v 3) 0) (SI.v 0)), SB.lt (SI.v 3) (SI.len (SL.v 0)),
          SB.le (SI.c (Int.ofNat 0)) (SI.v 3), SB.le (SI.v 3) (SI.len (SL.v 0)),
          SB.lt (SI.len (SL.v 0)) (SI.c (Int.ofNat 100000)), SB.le (SI.len (SL.v 1)) (SI.v 3)],
      eqs :=
        [Eqn.T
            (SB.lt (SI.sub (SI.add (SI.len (SL.v 0)) (SI.c (Int.ofNat 1))) (SI.add (SI.v 3) (SI.c (Int.ofNat 1))))
              (SI.sub (SI.add (SI.len (SL.v 0)) (SI.c (Int.ofNat 1))) (SI.v 3))),
          Eqn.T (SB.lt (SI.c (Int.ofNat 0)) (SI.sub (SI.add (SI.len (SL.v 0)) (SI.c (Int.ofNat 1))) (SI.v 3)))] },
    {
      pc :=
        [SB.le
            (SI.len
              (SL.app 141
                (SA.l (SL.v 0)
                  (SA.l
                    (SL.app 0
                      (SA.l (SL.v 1)
                        (SA.l
                          (SL.app 3
                            (SA.i (SI.sel (SL.v 0) (SI.v 3) 0)
                              (SA.i (SI.sel (SL.v 0) (SI.v 3) 1)
                                (SA.i (SI.sel (SL.v 0) (SI.v 3) 2) (SA.i (SI.sel (SL.v 0) (SI.v 3) 3) SA.nil)))))
                          SA.nil)))
                    (SA.i (SI.add (SI.v 3) (SI.c (Int.ofNat 1))) (SA.i (SI.v 0) SA.nil))))))
            (SI.len (SL.v 0)),
          SB.not (SB.eq (SI.sel (SL.v 0) (SI.v 3) 0) (SI.v 0)), SB.lt (SI.v 3) (SI.len (SL.v 0)),
          SB.le (SI.c (Int.ofNat 0)) (SI.v 3), SB.le (SI.v 3) (SI.len (SL.v 0)),
          SB.lt (SI.len (SL.v 0)) (SI.c (Int.ofNat 100000)), SB.le (SI.len (SL.v 1)) (SI.v 3)],
      eqs :=
        [Eqn.T
            (SB.le (SI.len (SL.app 141 (SA.l (SL.v 0) (SA.l (SL.v 1) (SA.i (SI.v 3) (SA.i (SI.v 0) SA.nil))))))
              (SI.len (SL.v 0))),
          Eqn.I (SI.len (SL.app 141 (SA.l (SL.v 0) (SA.l (SL.v 1) (SA.i (SI.v 3) (SA.i (SI.v 0) SA.nil))))))
            (SI.len
              (SL.app 141
                (SA.l (SL.v 0)
                  (SA.l
                    (SL.app 0
                      (SA.l (SL.v 1)
                        (SA.l
                          (SL.app 3
                            (SA.i (SI.sel (SL.v 0) (SI.v 3) 0)
                              (SA.i (SI.sel (SL.v 0) (SI.v 3) 1)
                                (SA.i (SI.sel (SL.v 0) (SI.v 3) 2) (SA.i (SI.sel (SL.v 0) (SI.v 3) 3) SA.nil)))))
                          SA.nil)))
                    (SA.i (SI.add (SI.v 3) (SI.c (Int.ofNat 1))) (SA.i (SI.v 0) SA.nil)))))),
          Eqn.L (SL.app 141 (SA.l (SL.v 0) (SA.l (SL.v 1) (SA.i (SI.v 3) (SA.i (SI.v 0) SA.nil)))))
            (SL.app 141
              (SA.l (SL.v 0)
                (SA.l
                  (SL.app 0
                    (SA.l (SL.v 1)
                      (SA.l
                        (SL.app 3
                          (SA.i (SI.sel (SL.v 0) (SI.v 3) 0)
                            (SA.i (SI.sel (SL.v 0) (SI.v 3) 1)
                              (SA.i (SI.sel (SL.v 0) (SI.v 3) 2) (SA.i (SI.sel (SL.v 0) (SI.v 3) 3) SA.nil)))))
                        SA.nil)))
                  (SA.i (SI.add (SI.v 3) (SI.c (Int.ofNat 1))) (SA.i (SI.v 0) SA.nil)))))] },
    {
      pc :=
        [SB.not (SB.lt (SI.v 3) (SI.len (SL.v 0))), SB.le (SI.c (Int.ofNat 0)) (SI.v 3),
          SB.le (SI.v 3) (SI.len (SL.v 0)), SB.lt (SI.len (SL.v 0)) (SI.c (Int.ofNat 100000)),
          SB.le (SI.len (SL.v 1)) (SI.v 3)],
      eqs :=
        [Eqn.T
            (SB.le (SI.len (SL.app 141 (SA.l (SL.v 0) (SA.l (SL.v 1) (SA.i (SI.v 3) (SA.i (SI.v 0) SA.nil))))))
              (SI.len (SL.v 0))),
          Eqn.I (SI.len (SL.app 141 (SA.l (SL.v 0) (SA.l (SL.v 1) (SA.i (SI.v 3) (SA.i (SI.v 0) SA.nil))))))
            (SI.len (SL.v 1)),
          Eqn.L (SL.app 141 (SA.l (SL.v 0) (SA.l (SL.v 1) (SA.i (SI.v 3) (SA.i (SI.v 0) SA.nil))))) (SL.v 1)] }] := by kernel_rfl
theorem wo1_ok : wo1.ok Φ Try.prog := by
  refine ⟨by kernel_rfl, loop_rule (fun ρ => noTbl_ok) (loopAt_sub (by kernel_rfl)) wo1_obs ?_⟩
  simp only [and_imp, List.forall_mem_cons, List.not_mem_nil, false_implies, implies_true, and_true, Ob.ok, holds, Eqn.ok, evB_eq, evB_lt, evB_le, evB_not, evB_and, evB_or, evB_eqL, evB_app, evB_v, evB_c, ev_sel, ev_len, ev_v, ev_c, ev_add, ev_sub, ev_mul, ev_quo, ev_rem, ev_bits, ev_wrap, evL_v, evL_lit, evL_app, ev_app, evA_l, evA_i, evA_nil, std_min, std_max, std_cat, std_take, std_drop, std_row, std_set, std_rep, ints_cons, ints_nil, ofNat_lit, negSucc_lit, decide_eq_true_eq, Bool.and_eq_true, Bool.or_eq_true, Bool.not_eq_true', Bool.and_eq_false_iff, Bool.or_eq_false_iff, decide_eq_false_iff_not, aI100, aL100, aI101, aL101, aI102, aL102, aI111, aI112, aI120, aI130, aI131, aL110, aL111, aL112, aL120, aL140, aL141, aL142, aB100, aB130, aB160, aB162, aB199, aL161]
  repeat' apply And.intro
  all_goals intro ρ hR
  all_goals intros
  all_goals first
    | (omega)
    | (exact tri (wkT_yes (by omega) (by omega) (by simp only [pOf, pTag, pFrame, at', Bool.and_eq_true, decide_eq_true_eq]; omega)) (by with_reducible assumption))
    | (exact tri ((wkT_no (i := ρ.i 3) (by omega) (by omega) (by simp only [pOf, pTag, pFrame, at', Bool.and_eq_false_iff, decide_eq_false_iff_not]; omega)).trans (by rw [row4 (show okRow K4 ((ρ.l 0).getD (ρ.i 3).toNat []) from hR.row 1 rfl rfl _ (getD_mem (A := ρ.l 0) (by omega) (by omega)))])) (by with_reducible assumption))
    | (exact tri (wkT_end (by omega)) (by omega))
set_option maxRecDepth 100000 in
theorem wo2_obs : loopObs Φ Try.prog noTbl 1000 wo2.f (loopAt Try.prog wo2.f wo2.id) wo2.n wo2.T (.sub (.add (.len l0) (.c 1)) (.v 3)) wo2.outs = some
  [{
      pc :=
        [SB.eq (SI.sel (SL.v 0) (SI.v 3) 2) (SI.v 0), SB.lt (SI.v 3) (SI.len (SL.v 0)),
          SB.le (SI.c (Int.ofNat 0)) (SI.v 3), SB.le (SI.v 3) (SI.len (SL.v 0)),
          SB.lt (SI.len (SL.v 0)) (SI.c (Int.ofNat 100000)), SB.le (SI.len (SL.v 1)) (SI.v 3)],
      eqs :=
        [Eqn.T
            (SB.lt (SI.sub (SI.add (SI.len (SL.v 0)) (SI.c (Int.ofNat 1))) (SI.add (SI.v 3) (SI.c (Int.ofNat 1))))
              (SI.sub (SI.add (SI.len (SL.v 0)) (SI.c (Int.ofNat 1))) (SI.v 3))),
          Eqn.T (SB.lt (SI.c (Int.ofNat 0)) (SI.sub (SI.add (SI.len (SL.v 0)) (SI.c (Int.ofNat 1))) (SI.v 3)))] },
    {
      pc :=
        [SB.le
            (SI.len
              (SL.app 142
                (SA.l (SL.v 0) (SA.l (SL.v 1) (SA.i (SI.add (SI.v 3) (SI.c (Int.ofNat 1))) (SA.i (SI.v 0) SA.nil))))))
            (SI.len (SL.v 0)),
          SB.eq (SI.sel (SL.v 0) (SI.v 3) 2) (SI.v 0), SB.lt (SI.v 3) (SI.len (SL.v 0)),
          SB.le (SI.c (Int.ofNat 0)) (SI.v 3), SB.le (SI.v 3) (SI.len (SL.v 0)),
          SB.lt (SI.len (SL.v 0)) (SI.c (Int.ofNat 100000)), SB.le (SI.len (SL.v 1)) (SI.v 3)],
      eqs :=
        [Eqn.T
            (SB.le (SI.len (SL.app 142 (SA.l (SL.v 0) (SA.l (SL.v 1) (SA.i (SI.v 3) (SA.i (SI.v 0) SA.nil))))))
              (SI.len (SL.v 0))),
          Eqn.I (SI.len (SL.app 142 (SA.l (SL.v 0) (SA.l (SL.v 1) (SA.i (SI.v 3) (SA.i (SI.v 0) SA.nil))))))
            (SI.len
              (SL.app 142
                (SA.l (SL.v 0) (SA.l (SL.v 1) (SA.i (SI.add (SI.v 3) (SI.c (Int.ofNat 1))) (SA.i (SI.v 0) SA.nil)))))),
          Eqn.L (SL.app 142 (SA.l (SL.v 0) (SA.l (SL.v 1) (SA.i (SI.v 3) (SA.i (SI.v 0) SA.nil)))))
            (SL.app 142
              (SA.l (SL.v 0) (SA.l (SL.v 1) (SA.i (SI.add (SI.v 3) (SI.c (Int.ofNat 1))) (SA.i (SI.v 0) SA.nil)))))] },
    {
      pc :=
        [SB.not (SB.eq (SI.sel (SL.v 0) (SI.v 3) 2) (SI.v 0)), SB.lt (SI.v 3) (SI.len (SL.v 0)),
          SB.le (SI.c (Int.ofNat 0)) (SI.v 3), SB.le (SI.v 3) (SI.len (SL.v 0)),
          SB.lt (SI.len (SL.v 0)) (SI.c (Int.ofNat 100000)), SB.le (SI.len (SL.v 1)) (SI.v 3)],
      eqs :=
        [Eqn.T
            (SB.lt (SI.sub (SI.add (SI.len (SL.v 0)) (SI.c (Int.ofNat 1))) (SI.add (SI.v 3) (SI.c (Int.ofNat 1))))
              (SI.sub (SI.add (SI.len (SL.v 0)) (SI.c (Int.ofNat 1))) (SI.v 3))),
          Eqn.T (SB.lt (SI.c (Int.ofNat 0)) (SI.sub (SI.add (SI.len (SL.v 0)) (SI.c (Int.ofNat 1))) (SI.v 3)))] },
    {
      pc :=
        [SB.le
            (SI.len
              (SL.app 142
                (SA.l (SL.v 0)
                  (SA.l
                    (SL.app 0
                      (SA.l (SL.v 1)
                        (SA.l
                          (SL.app 3
                            (SA.i (SI.sel (SL.v 0) (SI.v 3) 0)
                              (SA.i (SI.sel (SL.v 0) (SI.v 3) 1)
                                (SA.i (SI.sel (SL.v 0) (SI.v 3) 2) (SA.i (SI.sel (SL.v 0) (SI.v 3) 3) SA.nil)))))
                          SA.nil)))
                    (SA.i (SI.add (SI.v 3) (SI.c (Int.ofNat 1))) (SA.i (SI.v 0) SA.nil))))))
            (SI.len (SL.v 0)),
          SB.not (SB.eq (SI.sel (SL.v 0) (SI.v 3) 2) (SI.v 0)), SB.lt (SI.v 3) (SI.len (SL.v 0)),
          SB.le (SI.c (Int.ofNat 0)) (SI.v 3), SB.le (SI.v 3) (SI.len (SL.v 0)),
          SB.lt (SI.len (SL.v 0)) (SI.c (Int.ofNat 100000)), SB.le (SI.len (SL.v 1)) (SI.v 3)],
      eqs :=
        [Eqn.T
            (SB.le (SI.len (SL.app 142 (SA.l (SL.v 0) (SA.l (SL.v 1) (SA.i (SI.v 3) (SA.i (SI.v 0) SA.nil))))))
              (SI.len (SL.v 0))),
          Eqn.I (SI.len (SL.app 142 (SA.l (SL.v 0) (SA.l (SL.v 1) (SA.i (SI.v 3) (SA.i (SI.v 0) SA.nil))))))
            (SI.len
              (SL.app 142
                (SA.l (SL.v 0)
                  (SA.l
                    (SL.app 0
                      (SA.l (SL.v 1)
                        (SA.l
                          (SL.app 3
                            (SA.i (SI.sel (SL.v 0) (SI.v 3) 0)
                              (SA.i (SI.sel (SL.v 0) (SI.v 3) 1)
                                (SA.i (SI.sel (SL.v 0) (SI.v 3) 2) (SA.i (SI.sel (SL.v 0) (SI.v 3) 3) SA.nil)))))
                          SA.nil)))
                    (SA.i (SI.add (SI.v 3) (SI.c (Int.ofNat 1))) (SA.i (SI.v 0) SA.nil)))))),
          Eqn.L (SL.app 142 (SA.l (SL.v 0) (SA.l (SL.v 1) (SA.i (SI.v 3) (SA.i (SI.v 0) SA.nil)))))
            (SL.app 142
              (SA.l (SL.v 0)
                (SA.l
                  (SL.app 0
                    (SA.l (SL.v 1)
                      (SA.l
                        (SL.app 3
                          (SA.i (SI.sel (SL.v 0) (SI.v 3) 0)
                            (SA.i (SI.sel (SL.v 0) (SI.v 3) 1)
                              (SA.i (SI.sel (SL.v 0) (SI.v 3) 2) (SA.i (SI.sel (SL.v 0) (SI.v 3) 3) SA.nil)))))
                        SA.nil)))
                  (SA.i (SI.add (SI.v 3) (SI.c (Int.ofNat 1))) (SA.i (SI.v 0) SA.nil)))))] },
    {
      pc :=
        [SB.not (SB.lt (SI.v 3) (SI.len (SL.v 0))), SB.le (SI.c (Int.ofNat 0)) (SI.v 3),
          SB.le (SI.v 3) (SI.len (SL.v 0)), SB.lt (SI.len (SL.v 0)) (SI.c (Int.ofNat 100000)),
          SB.le (SI.len (SL.v 1)) (SI.v 3)],
      eqs :=
        [Eqn.T
            (SB.le (SI.len (SL.app 142 (SA.l (SL.v 0) (SA.l (SL.v 1) (SA.i (SI.v 3) (SA.i (SI.v 0) SA.nil))))))
              (SI.len (SL.v 0))),
          Eqn.I (SI.len (SL.app 142 (SA.l (SL.v 0) (SA.l (SL.v 1) (SA.i (SI.v 3) (SA.i (SI.v 0) SA.nil))))))
            (SI.len (SL.v 1)),
          Eqn.L (SL.app 142 (SA.l (SL.v 0) (SA.l (SL.v 1) (SA.i (SI.v 3) (SA.i (SI.v 0) SA.nil))))) (SL.v 1)] }] := by kernel_rfl
theorem wo2_ok : wo2.ok Φ Try.prog := by
  refine ⟨by kernel_rfl, loop_rule (fun ρ => noTbl_ok) (loopAt_sub (by kernel_rfl)) wo2_obs ?_⟩
  simp only [and_imp, List.forall_mem_cons, List.not_mem_nil, false_implies, implies_true, and_true, Ob.ok, holds, Eqn.ok, evB_eq, evB_lt, evB_le, evB_not, evB_and, evB_or, evB_eqL, evB_app, evB_v, evB_c, ev_sel, ev_len, ev_v, ev_c, ev_add, ev_sub, ev_mul, ev_quo, ev_rem, ev_bits, ev_wrap, evL_v, evL_lit, evL_app, ev_app, evA_l, evA_i, evA_nil, std_min, std_max, std_cat, std_take, std_drop, std_row, std_set, std_rep, ints_cons, ints_nil, ofNat_lit, negSucc_lit, decide_eq_true_eq, Bool.and_eq_true, Bool.or_eq_true, Bool.not_eq_true', Bool.and_eq_false_iff, Bool.or_eq_false_iff, decide_eq_false_iff_not, aI100, aL100, aI101, aL101, aI102, aL102, aI111, aI112, aI120, aI130, aI131, aL110, aL111, aL112, aL120, aL140, aL141, aL142, aB100, aB130, aB160, aB162, aB199, aL161]
  repeat' apply And.intro
  all_goals intro ρ hR
  all_goals intros
  all_goals first
    | (omega)
    | (exact tri (wkT_yes (by omega) (by omega) (by simp only [pOf, pTag, pFrame, at', Bool.and_eq_true, decide_eq_true_eq]; omega)) (by with_reducible assumption))
    | (exact tri ((wkT_no (i := ρ.i 3) (by omega) (by omega) (by simp only [pOf, pTag, pFrame, at', Bool.and_eq_false_iff, decide_eq_false_iff_not]; omega)).trans (by rw [row4 (show okRow K4 ((ρ.l 0).getD (ρ.i 3).toNat []) from hR.row 1 rfl rfl _ (getD_mem (A := ρ.l 0) (by omega) (by omega)))])) (by with_reducible assumption))
    | (exact tri (wkT_end (by omega)) (by omega))
theorem t5_ok (ρ : Env) : TblOK Φ ρ Try.prog t5 := addLp_ok (addLp_ok (addLp_ok (t4_ok ρ) wo0_ok) wo1_ok) wo2_ok
set_option maxRecDepth 100000 in
theorem rFlush_obs : callObs Φ Try.prog t5 1000 rFlush.f rFlush.vs rFlush.o rFlush.pc rFlush.outs = some
  [{
      pc :=
        [SB.le
            (SI.len
              (SL.app 140
                (SA.l (SL.v 0) (SA.l (SL.lit []) (SA.i (SI.c (Int.ofNat 0)) (SA.i (SI.v 0) (SA.i (SI.v 1) SA.nil)))))))
            (SI.len (SL.v 0)),
          SB.lt (SI.c (Int.ofNat 0)) (SI.v 2), SB.lt (SI.len (SL.v 0)) (SI.c (Int.ofNat 100000))],
      eqs :=
        [Eqn.T (SB.le (SI.len (SL.app 110 (SA.l (SL.v 0) (SA.i (SI.v 0) (SA.i (SI.v 1) SA.nil))))) (SI.len (SL.v 0))),
          Eqn.B (SB.app 100 (SA.l (SL.v 0) (SA.i (SI.v 0) (SA.i (SI.v 1) SA.nil))))
            (SB.lt (SI.c (Int.ofNat 0))
              (SI.sub (SI.len (SL.v 0))
                (SI.len
                  (SL.app 140
                    (SA.l (SL.v 0)
                      (SA.l (SL.lit []) (SA.i (SI.c (Int.ofNat 0)) (SA.i (SI.v 0) (SA.i (SI.v 1) SA.nil))))))))),
          Eqn.I (SI.len (SL.app 110 (SA.l (SL.v 0) (SA.i (SI.v 0) (SA.i (SI.v 1) SA.nil)))))
            (SI.len
              (SL.app 140
                (SA.l (SL.v 0) (SA.l (SL.lit []) (SA.i (SI.c (Int.ofNat 0)) (SA.i (SI.v 0) (SA.i (SI.v 1) SA.nil))))))),
          Eqn.L (SL.app 110 (SA.l (SL.v 0) (SA.i (SI.v 0) (SA.i (SI.v 1) SA.nil))))
            (SL.app 140
              (SA.l (SL.v 0) (SA.l (SL.lit []) (SA.i (SI.c (Int.ofNat 0)) (SA.i (SI.v 0) (SA.i (SI.v 1) SA.nil))))))] }] := by kernel_rfl
theorem rFlush_ok : rFlush.ok Φ Try.prog := by
  refine call_rule (fun ρ => t5_ok ρ) rFlush_obs ?_
  simp only [and_imp, List.forall_mem_cons, List.not_mem_nil, false_implies, implies_true, and_true, Ob.ok, holds, Eqn.ok, evB_eq, evB_lt, evB_le, evB_not, evB_and, evB_or, evB_eqL, evB_app, evB_v, evB_c, ev_sel, ev_len, ev_v, ev_c, ev_add, ev_sub, ev_mul, ev_quo, ev_rem, ev_bits, ev_wrap, evL_v, evL_lit, evL_app, ev_app, evA_l, evA_i, evA_nil, std_min, std_max, std_cat, std_take, std_drop, std_row, std_set, std_rep, ints_cons, ints_nil, ofNat_lit, negSucc_lit, decide_eq_true_eq, Bool.and_eq_true, Bool.or_eq_true, Bool.not_eq_true', Bool.and_eq_false_iff, Bool.or_eq_false_iff, decide_eq_false_iff_not, aI100, aL100, aI101, aL101, aI102, aL102, aI111, aI112, aI120, aI130, aI131, aL110, aL111, aL112, aL120, aL140, aL141, aL142, aB100, aB130, aB160, aB162, aB199, aL161]
  intro ρ hR
  intros
  simp only [wkT_all] at *
  have hn := len_keep (pOf (ρ.i 0) (ρ.i 1)) (ρ.l 0)
  refine ⟨by with_reducible assumption, ?_, by trivial, by trivial⟩
  rw [any_count]; congr 1; simp only [eq_iff_iff]; omega
set_option maxRecDepth 100000 in
theorem rForget_obs : callObs Φ Try.prog t5 1000 rForget.f rForget.vs rForget.o rForget.pc rForget.outs = some
  [{
      pc :=
        [SB.le
            (SI.len (SL.app 141 (SA.l (SL.v 0) (SA.l (SL.lit []) (SA.i (SI.c (Int.ofNat 0)) (SA.i (SI.v 0) SA.nil))))))
            (SI.len (SL.v 0)),
          SB.lt (SI.c (Int.ofNat 0)) (SI.v 2), SB.lt (SI.len (SL.v 0)) (SI.c (Int.ofNat 100000))],
      eqs :=
        [Eqn.T (SB.le (SI.len (SL.app 111 (SA.l (SL.v 0) (SA.i (SI.v 0) SA.nil)))) (SI.len (SL.v 0))),
          Eqn.I (SI.app 111 (SA.l (SL.v 0) (SA.i (SI.v 0) SA.nil)))
            (SI.sub (SI.len (SL.v 0))
              (SI.len
                (SL.app 141 (SA.l (SL.v 0) (SA.l (SL.lit []) (SA.i (SI.c (Int.ofNat 0)) (SA.i (SI.v 0) SA.nil))))))),
          Eqn.I (SI.len (SL.app 111 (SA.l (SL.v 0) (SA.i (SI.v 0) SA.nil))))
            (SI.len (SL.app 141 (SA.l (SL.v 0) (SA.l (SL.lit []) (SA.i (SI.c (Int.ofNat 0)) (SA.i (SI.v 0) SA.nil)))))),
          Eqn.L (SL.app 111 (SA.l (SL.v 0) (SA.i (SI.v 0) SA.nil)))
            (SL.app 141 (SA.l (SL.v 0) (SA.l (SL.lit []) (SA.i (SI.c (Int.ofNat 0)) (SA.i (SI.v 0) SA.nil)))))] }] := by kernel_rfl
theorem rForget_ok : rForget.ok Φ Try.prog := by
  refine call_rule (fun ρ => t5_ok ρ) rForget_obs ?_
  simp only [and_imp, List.forall_mem_cons, List.not_mem_nil, false_implies, implies_true, and_true, Ob.ok, holds, Eqn.ok, evB_eq, evB_lt, evB_le, evB_not, evB_and, evB_or, evB_eqL, evB_app, evB_v, evB_c, ev_sel, ev_len, ev_v, ev_c, ev_add, ev_sub, ev_mul, ev_quo, ev_rem, ev_bits, ev_wrap, evL_v, evL_lit, evL_app, ev_app, evA_l, evA_i, evA_nil, std_min, std_max, std_cat, std_take, std_drop, std_row, std_set, std_rep, ints_cons, ints_nil, ofNat_lit, negSucc_lit, decide_eq_true_eq, Bool.and_eq_true, Bool.or_eq_true, Bool.not_eq_true', Bool.and_eq_false_iff, Bool.or_eq_false_iff, decide_eq_false_iff_not, aI100, aL100, aI101, aL101, aI102, aL102, aI111, aI112, aI120, aI130, aI131, aL110, aL111, aL112, aL120, aL140, aL141, aL142, aB100, aB130, aB160, aB162, aB199, aL161]
  intro ρ hR
  intros
  simp only [wkT_all] at *
  have hn := len_keep (pTag (ρ.i 0)) (ρ.l 0)
  exact ⟨by with_reducible assumption, by omega, by trivial, by trivial⟩
set_option maxRecDepth 100000 in
theorem rDrop_obs : callObs Φ Try.prog t5 1000 rDrop.f rDrop.vs rDrop.o rDrop.pc rDrop.outs = some
  [{
      pc :=
        [SB.le
            (SI.len (SL.app 142 (SA.l (SL.v 0) (SA.l (SL.lit []) (SA.i (SI.c (Int.ofNat 0)) (SA.i (SI.v 0) SA.nil))))))
            (SI.len (SL.v 0)),
          SB.lt (SI.c (Int.ofNat 0)) (SI.v 2), SB.lt (SI.len (SL.v 0)) (SI.c (Int.ofNat 100000))],
      eqs :=
        [Eqn.T (SB.le (SI.len (SL.app 112 (SA.l (SL.v 0) (SA.i (SI.v 0) SA.nil)))) (SI.len (SL.v 0))),
          Eqn.I (SI.app 112 (SA.l (SL.v 0) (SA.i (SI.v 0) SA.nil)))
            (SI.sub (SI.len (SL.v 0))
              (SI.len
                (SL.app 142 (SA.l (SL.v 0) (SA.l (SL.lit []) (SA.i (SI.c (Int.ofNat 0)) (SA.i (SI.v 0) SA.nil))))))),
          Eqn.I (SI.len (SL.app 112 (SA.l (SL.v 0) (SA.i (SI.v 0) SA.nil))))
            (SI.len (SL.app 142 (SA.l (SL.v 0) (SA.l (SL.lit []) (SA.i (SI.c (Int.ofNat 0)) (SA.i (SI.v 0) SA.nil)))))),
          Eqn.L (SL.app 112 (SA.l (SL.v 0) (SA.i (SI.v 0) SA.nil)))
            (SL.app 142 (SA.l (SL.v 0) (SA.l (SL.lit []) (SA.i (SI.c (Int.ofNat 0)) (SA.i (SI.v 0) SA.nil)))))] }] := by kernel_rfl
theorem rDrop_ok : rDrop.ok Φ Try.prog := by
  refine call_rule (fun ρ => t5_ok ρ) rDrop_obs ?_
  simp only [and_imp, List.forall_mem_cons, List.not_mem_nil, false_implies, implies_true, and_true, Ob.ok, holds, Eqn.ok, evB_eq, evB_lt, evB_le, evB_not, evB_and, evB_or, evB_eqL, evB_app, evB_v, evB_c, ev_sel, ev_len, ev_v, ev_c, ev_add, ev_sub, ev_mul, ev_quo, ev_rem, ev_bits, ev_wrap, evL_v, evL_lit, evL_app, ev_app, evA_l, evA_i, evA_nil, std_min, std_max, std_cat, std_take, std_drop, std_row, std_set, std_rep, ints_cons, ints_nil, ofNat_lit, negSucc_lit, decide_eq_true_eq, Bool.and_eq_true, Bool.or_eq_true, Bool.not_eq_true', Bool.and_eq_false_iff, Bool.or_eq_false_iff, decide_eq_false_iff_not, aI100, aL100, aI101, aL101, aI102, aL102, aI111, aI112, aI120, aI130, aI131, aL110, aL111, aL112, aL120, aL140, aL141, aL142, aB100, aB130, aB160, aB162, aB199, aL161]
  intro ρ hR
  intros
  simp only [wkT_all] at *
  have hn := len_keep (pFrame (ρ.i 0)) (ρ.l 0)
  exact ⟨by with_reducible assumption, by omega, by trivial, by trivial⟩
set_option maxRecDepth 100000 in
theorem rFill_obs : callObs Φ Try.prog t5 1000 rFill.f rFill.vs rFill.o rFill.pc rFill.outs = some
  [{
      pc :=
        [SB.lt (SI.v 0) (SI.c (Int.ofNat 1)), SB.lt (SI.c (Int.ofNat 0)) (SI.v 4),
          SB.lt (SI.len (SL.v 0)) (SI.c (Int.ofNat 100000))],
      eqs :=
        [Eqn.T
            (SB.le
              (SI.len
                (SL.app 120
                  (SA.l (SL.v 0)
                    (SA.i (SI.v 4) (SA.i (SI.v 0) (SA.i (SI.v 1) (SA.i (SI.v 2) (SA.i (SI.v 3) SA.nil))))))))
              (SI.add (SI.len (SL.v 0)) (SI.c (Int.ofNat 1)))),
          Eqn.I (SI.app 120 (SA.i (SI.v 0) (SA.i (SI.v 1) (SA.i (SI.v 2) (SA.i (SI.v 3) SA.nil)))))
            (SI.c (Int.ofNat 1)),
          Eqn.I
            (SI.len
              (SL.app 120
                (SA.l (SL.v 0) (SA.i (SI.v 4) (SA.i (SI.v 0) (SA.i (SI.v 1) (SA.i (SI.v 2) (SA.i (SI.v 3) SA.nil))))))))
            (SI.len (SL.v 0)),
          Eqn.L
            (SL.app 120
              (SA.l (SL.v 0) (SA.i (SI.v 4) (SA.i (SI.v 0) (SA.i (SI.v 1) (SA.i (SI.v 2) (SA.i (SI.v 3) SA.nil)))))))
            (SL.v 0)] },
    {
      pc :=
        [SB.lt (SI.c (Int.ofNat 16)) (SI.v 0), SB.not (SB.lt (SI.v 0) (SI.c (Int.ofNat 1))),
          SB.lt (SI.c (Int.ofNat 0)) (SI.v 4), SB.lt (SI.len (SL.v 0)) (SI.c (Int.ofNat 100000))],
      eqs :=
        [Eqn.T
            (SB.le
              (SI.len
                (SL.app 120
                  (SA.l (SL.v 0)
                    (SA.i (SI.v 4) (SA.i (SI.v 0) (SA.i (SI.v 1) (SA.i (SI.v 2) (SA.i (SI.v 3) SA.nil))))))))
              (SI.add (SI.len (SL.v 0)) (SI.c (Int.ofNat 1)))),
          Eqn.I (SI.app 120 (SA.i (SI.v 0) (SA.i (SI.v 1) (SA.i (SI.v 2) (SA.i (SI.v 3) SA.nil)))))
            (SI.c (Int.ofNat 1)),
          Eqn.I
            (SI.len
              (SL.app 120
                (SA.l (SL.v 0) (SA.i (SI.v 4) (SA.i (SI.v 0) (SA.i (SI.v 1) (SA.i (SI.v 2) (SA.i (SI.v 3) SA.nil))))))))
            (SI.len (SL.v 0)),
          Eqn.L
            (SL.app 120
              (SA.l (SL.v 0) (SA.i (SI.v 4) (SA.i (SI.v 0) (SA.i (SI.v 1) (SA.i (SI.v 2) (SA.i (SI.v 3) SA.nil)))))))
            (SL.v 0)] },
    {
      pc :=
        [SB.lt (SI.v 1) (SI.c (Int.ofNat 0)), SB.not (SB.lt (SI.c (Int.ofNat 16)) (SI.v 0)),
          SB.not (SB.lt (SI.v 0) (SI.c (Int.ofNat 1))), SB.lt (SI.c (Int.ofNat 0)) (SI.v 4),
          SB.lt (SI.len (SL.v 0)) (SI.c (Int.ofNat 100000))],
      eqs :=
        [Eqn.T
            (SB.le
              (SI.len
                (SL.app 120
                  (SA.l (SL.v 0)
                    (SA.i (SI.v 4) (SA.i (SI.v 0) (SA.i (SI.v 1) (SA.i (SI.v 2) (SA.i (SI.v 3) SA.nil))))))))
              (SI.add (SI.len (SL.v 0)) (SI.c (Int.ofNat 1)))),
          Eqn.I (SI.app 120 (SA.i (SI.v 0) (SA.i (SI.v 1) (SA.i (SI.v 2) (SA.i (SI.v 3) SA.nil)))))
            (SI.c (Int.ofNat 1)),
          Eqn.I
            (SI.len
              (SL.app 120
                (SA.l (SL.v 0) (SA.i (SI.v 4) (SA.i (SI.v 0) (SA.i (SI.v 1) (SA.i (SI.v 2) (SA.i (SI.v 3) SA.nil))))))))
            (SI.len (SL.v 0)),
          Eqn.L
            (SL.app 120
              (SA.l (SL.v 0) (SA.i (SI.v 4) (SA.i (SI.v 0) (SA.i (SI.v 1) (SA.i (SI.v 2) (SA.i (SI.v 3) SA.nil)))))))
            (SL.v 0)] },
    {
      pc :=
        [SB.lt (SI.c (Int.ofNat 65535)) (SI.v 1), SB.not (SB.lt (SI.v 1) (SI.c (Int.ofNat 0))),
          SB.not (SB.lt (SI.c (Int.ofNat 16)) (SI.v 0)), SB.not (SB.lt (SI.v 0) (SI.c (Int.ofNat 1))),
          SB.lt (SI.c (Int.ofNat 0)) (SI.v 4), SB.lt (SI.len (SL.v 0)) (SI.c (Int.ofNat 100000))],
      eqs :=
        [Eqn.T
            (SB.le
              (SI.len
                (SL.app 120
                  (SA.l (SL.v 0)
                    (SA.i (SI.v 4) (SA.i (SI.v 0) (SA.i (SI.v 1) (SA.i (SI.v 2) (SA.i (SI.v 3) SA.nil))))))))
              (SI.add (SI.len (SL.v 0)) (SI.c (Int.ofNat 1)))),
          Eqn.I (SI.app 120 (SA.i (SI.v 0) (SA.i (SI.v 1) (SA.i (SI.v 2) (SA.i (SI.v 3) SA.nil)))))
            (SI.c (Int.ofNat 1)),
          Eqn.I
            (SI.len
              (SL.app 120
                (SA.l (SL.v 0) (SA.i (SI.v 4) (SA.i (SI.v 0) (SA.i (SI.v 1) (SA.i (SI.v 2) (SA.i (SI.v 3) SA.nil))))))))
            (SI.len (SL.v 0)),
          Eqn.L
            (SL.app 120
              (SA.l (SL.v 0) (SA.i (SI.v 4) (SA.i (SI.v 0) (SA.i (SI.v 1) (SA.i (SI.v 2) (SA.i (SI.v 3) SA.nil)))))))
            (SL.v 0)] },
    {
      pc :=
        [SB.lt (SI.v 2) (SI.c (Int.ofNat 0)), SB.not (SB.lt (SI.c (Int.ofNat 65535)) (SI.v 1)),
          SB.not (SB.lt (SI.v 1) (SI.c (Int.ofNat 0))), SB.not (SB.lt (SI.c (Int.ofNat 16)) (SI.v 0)),
          SB.not (SB.lt (SI.v 0) (SI.c (Int.ofNat 1))), SB.lt (SI.c (Int.ofNat 0)) (SI.v 4),
          SB.lt (SI.len (SL.v 0)) (SI.c (Int.ofNat 100000))],
      eqs :=
        [Eqn.T
            (SB.le
              (SI.len
                (SL.app 120
                  (SA.l (SL.v 0)
                    (SA.i (SI.v 4) (SA.i (SI.v 0) (SA.i (SI.v 1) (SA.i (SI.v 2) (SA.i (SI.v 3) SA.nil))))))))
              (SI.add (SI.len (SL.v 0)) (SI.c (Int.ofNat 1)))),
          Eqn.I (SI.app 120 (SA.i (SI.v 0) (SA.i (SI.v 1) (SA.i (SI.v 2) (SA.i (SI.v 3) SA.nil)))))
            (SI.c (Int.ofNat 1)),
          Eqn.I
            (SI.len
              (SL.app 120
                (SA.l (SL.v 0) (SA.i (SI.v 4) (SA.i (SI.v 0) (SA.i (SI.v 1) (SA.i (SI.v 2) (SA.i (SI.v 3) SA.nil))))))))
            (SI.len (SL.v 0)),
          Eqn.L
            (SL.app 120
              (SA.l (SL.v 0) (SA.i (SI.v 4) (SA.i (SI.v 0) (SA.i (SI.v 1) (SA.i (SI.v 2) (SA.i (SI.v 3) SA.nil)))))))
            (SL.v 0)] },
    {
      pc :=
        [SB.lt (SI.c (Int.ofNat 4095)) (SI.v 2), SB.not (SB.lt (SI.v 2) (SI.c (Int.ofNat 0))),
          SB.not (SB.lt (SI.c (Int.ofNat 65535)) (SI.v 1)), SB.not (SB.lt (SI.v 1) (SI.c (Int.ofNat 0))),
          SB.not (SB.lt (SI.c (Int.ofNat 16)) (SI.v 0)), SB.not (SB.lt (SI.v 0) (SI.c (Int.ofNat 1))),
          SB.lt (SI.c (Int.ofNat 0)) (SI.v 4), SB.lt (SI.len (SL.v 0)) (SI.c (Int.ofNat 100000))],
      eqs :=
        [Eqn.T
            (SB.le
              (SI.len
                (SL.app 120
                  (SA.l (SL.v 0)
                    (SA.i (SI.v 4) (SA.i (SI.v 0) (SA.i (SI.v 1) (SA.i (SI.v 2) (SA.i (SI.v 3) SA.nil))))))))
              (SI.add (SI.len (SL.v 0)) (SI.c (Int.ofNat 1)))),
          Eqn.I (SI.app 120 (SA.i (SI.v 0) (SA.i (SI.v 1) (SA.i (SI.v 2) (SA.i (SI.v 3) SA.nil)))))
            (SI.c (Int.ofNat 1)),
          Eqn.I
            (SI.len
              (SL.app 120
                (SA.l (SL.v 0) (SA.i (SI.v 4) (SA.i (SI.v 0) (SA.i (SI.v 1) (SA.i (SI.v 2) (SA.i (SI.v 3) SA.nil))))))))
            (SI.len (SL.v 0)),
          Eqn.L
            (SL.app 120
              (SA.l (SL.v 0) (SA.i (SI.v 4) (SA.i (SI.v 0) (SA.i (SI.v 1) (SA.i (SI.v 2) (SA.i (SI.v 3) SA.nil)))))))
            (SL.v 0)] },
    {
      pc :=
        [SB.lt (SI.v 3) (SI.c (Int.ofNat 1)), SB.not (SB.lt (SI.c (Int.ofNat 4095)) (SI.v 2)),
          SB.not (SB.lt (SI.v 2) (SI.c (Int.ofNat 0))), SB.not (SB.lt (SI.c (Int.ofNat 65535)) (SI.v 1)),
          SB.not (SB.lt (SI.v 1) (SI.c (Int.ofNat 0))), SB.not (SB.lt (SI.c (Int.ofNat 16)) (SI.v 0)),
          SB.not (SB.lt (SI.v 0) (SI.c (Int.ofNat 1))), SB.lt (SI.c (Int.ofNat 0)) (SI.v 4),
          SB.lt (SI.len (SL.v 0)) (SI.c (Int.ofNat 100000))],
      eqs :=
        [Eqn.T
            (SB.le
              (SI.len
                (SL.app 120
                  (SA.l (SL.v 0)
                    (SA.i (SI.v 4) (SA.i (SI.v 0) (SA.i (SI.v 1) (SA.i (SI.v 2) (SA.i (SI.v 3) SA.nil))))))))
              (SI.add (SI.len (SL.v 0)) (SI.c (Int.ofNat 1)))),
          Eqn.I (SI.app 120 (SA.i (SI.v 0) (SA.i (SI.v 1) (SA.i (SI.v 2) (SA.i (SI.v 3) SA.nil)))))
            (SI.c (Int.ofNat 1)),
          Eqn.I
            (SI.len
              (SL.app 120
                (SA.l (SL.v 0) (SA.i (SI.v 4) (SA.i (SI.v 0) (SA.i (SI.v 1) (SA.i (SI.v 2) (SA.i (SI.v 3) SA.nil))))))))
            (SI.len (SL.v 0)),
          Eqn.L
            (SL.app 120
              (SA.l (SL.v 0) (SA.i (SI.v 4) (SA.i (SI.v 0) (SA.i (SI.v 1) (SA.i (SI.v 2) (SA.i (SI.v 3) SA.nil)))))))
            (SL.v 0)] },
    {
      pc :=
        [SB.lt (SI.c (Int.ofNat 7)) (SI.v 3), SB.not (SB.lt (SI.v 3) (SI.c (Int.ofNat 1))),
          SB.not (SB.lt (SI.c (Int.ofNat 4095)) (SI.v 2)), SB.not (SB.lt (SI.v 2) (SI.c (Int.ofNat 0))),
          SB.not (SB.lt (SI.c (Int.ofNat 65535)) (SI.v 1)), SB.not (SB.lt (SI.v 1) (SI.c (Int.ofNat 0))),
          SB.not (SB.lt (SI.c (Int.ofNat 16)) (SI.v 0)), SB.not (SB.lt (SI.v 0) (SI.c (Int.ofNat 1))),
          SB.lt (SI.c (Int.ofNat 0)) (SI.v 4), SB.lt (SI.len (SL.v 0)) (SI.c (Int.ofNat 100000))],
      eqs :=
        [Eqn.T
            (SB.le
              (SI.len
                (SL.app 120
                  (SA.l (SL.v 0)
                    (SA.i (SI.v 4) (SA.i (SI.v 0) (SA.i (SI.v 1) (SA.i (SI.v 2) (SA.i (SI.v 3) SA.nil))))))))
              (SI.add (SI.len (SL.v 0)) (SI.c (Int.ofNat 1)))),
          Eqn.I (SI.app 120 (SA.i (SI.v 0) (SA.i (SI.v 1) (SA.i (SI.v 2) (SA.i (SI.v 3) SA.nil)))))
            (SI.c (Int.ofNat 1)),
          Eqn.I
            (SI.len
              (SL.app 120
                (SA.l (SL.v 0) (SA.i (SI.v 4) (SA.i (SI.v 0) (SA.i (SI.v 1) (SA.i (SI.v 2) (SA.i (SI.v 3) SA.nil))))))))
            (SI.len (SL.v 0)),
          Eqn.L
            (SL.app 120
              (SA.l (SL.v 0) (SA.i (SI.v 4) (SA.i (SI.v 0) (SA.i (SI.v 1) (SA.i (SI.v 2) (SA.i (SI.v 3) SA.nil)))))))
            (SL.v 0)] },
    {
      pc :=
        [SB.eq
            (SI.len
              (SL.app 140
                (SA.l (SL.v 0) (SA.l (SL.lit []) (SA.i (SI.c (Int.ofNat 0)) (SA.i (SI.v 0) (SA.i (SI.v 1) SA.nil)))))))
            (SI.v 4),
          SB.eq
            (SI.sub (SI.len (SL.v 0))
              (SI.len
                (SL.app 140
                  (SA.l (SL.v 0)
                    (SA.l (SL.lit []) (SA.i (SI.c (Int.ofNat 0)) (SA.i (SI.v 0) (SA.i (SI.v 1) SA.nil))))))))
            (SI.c (Int.ofNat 0)),
          SB.le
            (SI.len
              (SL.app 140
                (SA.l (SL.v 0) (SA.l (SL.lit []) (SA.i (SI.c (Int.ofNat 0)) (SA.i (SI.v 0) (SA.i (SI.v 1) SA.nil)))))))
            (SI.len (SL.v 0)),
          SB.not (SB.lt (SI.c (Int.ofNat 7)) (SI.v 3)), SB.not (SB.lt (SI.v 3) (SI.c (Int.ofNat 1))),
          SB.not (SB.lt (SI.c (Int.ofNat 4095)) (SI.v 2)), SB.not (SB.lt (SI.v 2) (SI.c (Int.ofNat 0))),
          SB.not (SB.lt (SI.c (Int.ofNat 65535)) (SI.v 1)), SB.not (SB.lt (SI.v 1) (SI.c (Int.ofNat 0))),
          SB.not (SB.lt (SI.c (Int.ofNat 16)) (SI.v 0)), SB.not (SB.lt (SI.v 0) (SI.c (Int.ofNat 1))),
          SB.lt (SI.c (Int.ofNat 0)) (SI.v 4), SB.lt (SI.len (SL.v 0)) (SI.c (Int.ofNat 100000))],
      eqs :=
        [Eqn.T
            (SB.le
              (SI.len
                (SL.app 120
                  (SA.l (SL.v 0)
                    (SA.i (SI.v 4) (SA.i (SI.v 0) (SA.i (SI.v 1) (SA.i (SI.v 2) (SA.i (SI.v 3) SA.nil))))))))
              (SI.add (SI.len (SL.v 0)) (SI.c (Int.ofNat 1)))),
          Eqn.I (SI.app 120 (SA.i (SI.v 0) (SA.i (SI.v 1) (SA.i (SI.v 2) (SA.i (SI.v 3) SA.nil)))))
            (SI.c (Int.ofNat 0)),
          Eqn.I
            (SI.len
              (SL.app 120
                (SA.l (SL.v 0) (SA.i (SI.v 4) (SA.i (SI.v 0) (SA.i (SI.v 1) (SA.i (SI.v 2) (SA.i (SI.v 3) SA.nil))))))))
            (SI.add
              (SI.len
                (SL.app 2
                  (SA.l
                    (SL.app 140
                      (SA.l (SL.v 0)
                        (SA.l (SL.lit []) (SA.i (SI.c (Int.ofNat 0)) (SA.i (SI.v 0) (SA.i (SI.v 1) SA.nil))))))
                    (SA.i (SI.c (Int.ofNat 1)) SA.nil))))
              (SI.c (Int.ofNat 1))),
          Eqn.L
            (SL.app 120
              (SA.l (SL.v 0) (SA.i (SI.v 4) (SA.i (SI.v 0) (SA.i (SI.v 1) (SA.i (SI.v 2) (SA.i (SI.v 3) SA.nil)))))))
            (SL.app 0
              (SA.l
                (SL.app 2
                  (SA.l
                    (SL.app 140
                      (SA.l (SL.v 0)
                        (SA.l (SL.lit []) (SA.i (SI.c (Int.ofNat 0)) (SA.i (SI.v 0) (SA.i (SI.v 1) SA.nil))))))
                    (SA.i (SI.c (Int.ofNat 1)) SA.nil)))
                (SA.l (SL.app 3 (SA.i (SI.v 0) (SA.i (SI.v 1) (SA.i (SI.v 2) (SA.i (SI.v 3) SA.nil))))) SA.nil)))] },
    {
      pc :=
        [SB.not
            (SB.eq
              (SI.len
                (SL.app 140
                  (SA.l (SL.v 0)
                    (SA.l (SL.lit []) (SA.i (SI.c (Int.ofNat 0)) (SA.i (SI.v 0) (SA.i (SI.v 1) SA.nil)))))))
              (SI.v 4)),
          SB.eq
            (SI.sub (SI.len (SL.v 0))
              (SI.len
                (SL.app 140
                  (SA.l (SL.v 0)
                    (SA.l (SL.lit []) (SA.i (SI.c (Int.ofNat 0)) (SA.i (SI.v 0) (SA.i (SI.v 1) SA.nil))))))))
            (SI.c (Int.ofNat 0)),
          SB.le
            (SI.len
              (SL.app 140
                (SA.l (SL.v 0) (SA.l (SL.lit []) (SA.i (SI.c (Int.ofNat 0)) (SA.i (SI.v 0) (SA.i (SI.v 1) SA.nil)))))))
            (SI.len (SL.v 0)),
          SB.not (SB.lt (SI.c (Int.ofNat 7)) (SI.v 3)), SB.not (SB.lt (SI.v 3) (SI.c (Int.ofNat 1))),
          SB.not (SB.lt (SI.c (Int.ofNat 4095)) (SI.v 2)), SB.not (SB.lt (SI.v 2) (SI.c (Int.ofNat 0))),
          SB.not (SB.lt (SI.c (Int.ofNat 65535)) (SI.v 1)), SB.not (SB.lt (SI.v 1) (SI.c (Int.ofNat 0))),
          SB.not (SB.lt (SI.c (Int.ofNat 16)) (SI.v 0)), SB.not (SB.lt (SI.v 0) (SI.c (Int.ofNat 1))),
          SB.lt (SI.c (Int.ofNat 0)) (SI.v 4), SB.lt (SI.len (SL.v 0)) (SI.c (Int.ofNat 100000))],
      eqs :=
        [Eqn.T
            (SB.le
              (SI.len
                (SL.app 120
                  (SA.l (SL.v 0)
                    (SA.i (SI.v 4) (SA.i (SI.v 0) (SA.i (SI.v 1) (SA.i (SI.v 2) (SA.i (SI.v 3) SA.nil))))))))
              (SI.add (SI.len (SL.v 0)) (SI.c (Int.ofNat 1)))),
          Eqn.I (SI.app 120 (SA.i (SI.v 0) (SA.i (SI.v 1) (SA.i (SI.v 2) (SA.i (SI.v 3) SA.nil)))))
            (SI.c (Int.ofNat 0)),
          Eqn.I
            (SI.len
              (SL.app 120
                (SA.l (SL.v 0) (SA.i (SI.v 4) (SA.i (SI.v 0) (SA.i (SI.v 1) (SA.i (SI.v 2) (SA.i (SI.v 3) SA.nil))))))))
            (SI.add
              (SI.len
                (SL.app 140
                  (SA.l (SL.v 0)
                    (SA.l (SL.lit []) (SA.i (SI.c (Int.ofNat 0)) (SA.i (SI.v 0) (SA.i (SI.v 1) SA.nil)))))))
              (SI.c (Int.ofNat 1))),
          Eqn.L
            (SL.app 120
              (SA.l (SL.v 0) (SA.i (SI.v 4) (SA.i (SI.v 0) (SA.i (SI.v 1) (SA.i (SI.v 2) (SA.i (SI.v 3) SA.nil)))))))
            (SL.app 0
              (SA.l
                (SL.app 140
                  (SA.l (SL.v 0) (SA.l (SL.lit []) (SA.i (SI.c (Int.ofNat 0)) (SA.i (SI.v 0) (SA.i (SI.v 1) SA.nil))))))
                (SA.l (SL.app 3 (SA.i (SI.v 0) (SA.i (SI.v 1) (SA.i (SI.v 2) (SA.i (SI.v 3) SA.nil))))) SA.nil)))] },
    {
      pc :=
        [SB.not
            (SB.eq
              (SI.sub (SI.len (SL.v 0))
                (SI.len
                  (SL.app 140
                    (SA.l (SL.v 0)
                      (SA.l (SL.lit []) (SA.i (SI.c (Int.ofNat 0)) (SA.i (SI.v 0) (SA.i (SI.v 1) SA.nil))))))))
              (SI.c (Int.ofNat 0))),
          SB.le
            (SI.len
              (SL.app 140
                (SA.l (SL.v 0) (SA.l (SL.lit []) (SA.i (SI.c (Int.ofNat 0)) (SA.i (SI.v 0) (SA.i (SI.v 1) SA.nil)))))))
            (SI.len (SL.v 0)),
          SB.not (SB.lt (SI.c (Int.ofNat 7)) (SI.v 3)), SB.not (SB.lt (SI.v 3) (SI.c (Int.ofNat 1))),
          SB.not (SB.lt (SI.c (Int.ofNat 4095)) (SI.v 2)), SB.not (SB.lt (SI.v 2) (SI.c (Int.ofNat 0))),
          SB.not (SB.lt (SI.c (Int.ofNat 65535)) (SI.v 1)), SB.not (SB.lt (SI.v 1) (SI.c (Int.ofNat 0))),
          SB.not (SB.lt (SI.c (Int.ofNat 16)) (SI.v 0)), SB.not (SB.lt (SI.v 0) (SI.c (Int.ofNat 1))),
          SB.lt (SI.c (Int.ofNat 0)) (SI.v 4), SB.lt (SI.len (SL.v 0)) (SI.c (Int.ofNat 100000))],
      eqs :=
        [Eqn.T
            (SB.le
              (SI.len
                (SL.app 120
                  (SA.l (SL.v 0)
                    (SA.i (SI.v 4) (SA.i (SI.v 0) (SA.i (SI.v 1) (SA.i (SI.v 2) (SA.i (SI.v 3) SA.nil))))))))
              (SI.add (SI.len (SL.v 0)) (SI.c (Int.ofNat 1)))),
          Eqn.I (SI.app 120 (SA.i (SI.v 0) (SA.i (SI.v 1) (SA.i (SI.v 2) (SA.i (SI.v 3) SA.nil)))))
            (SI.c (Int.ofNat 0)),
          Eqn.I
            (SI.len
              (SL.app 120
                (SA.l (SL.v 0) (SA.i (SI.v 4) (SA.i (SI.v 0) (SA.i (SI.v 1) (SA.i (SI.v 2) (SA.i (SI.v 3) SA.nil))))))))
            (SI.add
              (SI.len
                (SL.app 140
                  (SA.l (SL.v 0)
                    (SA.l (SL.lit []) (SA.i (SI.c (Int.ofNat 0)) (SA.i (SI.v 0) (SA.i (SI.v 1) SA.nil)))))))
              (SI.c (Int.ofNat 1))),
          Eqn.L
            (SL.app 120
              (SA.l (SL.v 0) (SA.i (SI.v 4) (SA.i (SI.v 0) (SA.i (SI.v 1) (SA.i (SI.v 2) (SA.i (SI.v 3) SA.nil)))))))
            (SL.app 0
              (SA.l
                (SL.app 140
                  (SA.l (SL.v 0) (SA.l (SL.lit []) (SA.i (SI.c (Int.ofNat 0)) (SA.i (SI.v 0) (SA.i (SI.v 1) SA.nil))))))
                (SA.l (SL.app 3 (SA.i (SI.v 0) (SA.i (SI.v 1) (SA.i (SI.v 2) (SA.i (SI.v 3) SA.nil))))) SA.nil)))] }] := by kernel_rfl
theorem rFill_ok : rFill.ok Φ Try.prog := by
  refine call_rule (fun ρ => t5_ok ρ) rFill_obs ?_
  simp only [and_imp, List.forall_mem_cons, List.not_mem_nil, false_implies, implies_true, and_true, Ob.ok, holds, Eqn.ok, evB_eq, evB_lt, evB_le, evB_not, evB_and, evB_or, evB_eqL, evB_app, evB_v, evB_c, ev_sel, ev_len, ev_v, ev_c, ev_add, ev_sub, ev_mul, ev_quo, ev_rem, ev_bits, ev_wrap, evL_v, evL_lit, evL_app, ev_app, evA_l, evA_i, evA_nil, std_min, std_max, std_cat, std_take, std_drop, std_row, std_set, std_rep, ints_cons, ints_nil, ofNat_lit, negSucc_lit, decide_eq_true_eq, Bool.and_eq_true, Bool.or_eq_true, Bool.not_eq_true', Bool.and_eq_false_iff, Bool.or_eq_false_iff, decide_eq_false_iff_not, aI100, aL100, aI101, aL101, aI102, aL102, aI111, aI112, aI120, aI130, aI131, aL110, aL111, aL112, aL120, aL140, aL141, aL142, aB100, aB130, aB160, aB162, aB199, aL161]
  repeat' apply And.intro
  all_goals intro ρ hR
  all_goals intros
  all_goals first
    | (have hr : rightB (ρ.i 0) (ρ.i 1) (ρ.i 2) (ρ.i 3) = false := by
         simp only [rightB, Bool.and_eq_false_iff, decide_eq_false_iff_not]; omega
       rw [fillL_wrong hr, hr]
       exact ⟨by omega, rfl, rfl, rfl⟩)
    | (have hr : rightB (ρ.i 0) (ρ.i 1) (ρ.i 2) (ρ.i 3) = true := by simp only [rightB, Bool.and_eq_true, decide_eq_true_eq]; omega
       simp only [wkT_all] at *
       have hn := len_keep (pOf (ρ.i 0) (ρ.i 1)) (ρ.l 0)
       have ha : (ρ.l 0).any (pOf (ρ.i 0) (ρ.i 1)) = false := by rw [any_count, decide_eq_false_iff_not]; omega
       have hk : keep (pOf (ρ.i 0) (ρ.i 1)) (ρ.l 0) = ρ.l 0 := keep_none ha
       have hl : (keep (pOf (ρ.i 0) (ρ.i 1)) (ρ.l 0)).length = (ρ.l 0).length := by rw [hk]
       rw [fillL_room hr ha (by omega), if_pos hr, hk]
       simp)
    | (have hr : rightB (ρ.i 0) (ρ.i 1) (ρ.i 2) (ρ.i 3) = true := by simp only [rightB, Bool.and_eq_true, decide_eq_true_eq]; omega
       simp only [wkT_all] at *
       have hn := len_keep (pOf (ρ.i 0) (ρ.i 1)) (ρ.l 0)
       rw [fillL_more hr (.inr (by omega)), if_pos hr]
       refine ⟨?_, rfl, by simp, rfl⟩
       simp; omega)
    | (have hr : rightB (ρ.i 0) (ρ.i 1) (ρ.i 2) (ρ.i 3) = true := by simp only [rightB, Bool.and_eq_true, decide_eq_true_eq]; omega
       simp only [wkT_all] at *
       have hn := len_keep (pOf (ρ.i 0) (ρ.i 1)) (ρ.l 0)
       have ha : (ρ.l 0).any (pOf (ρ.i 0) (ρ.i 1)) = true := by rw [any_count, decide_eq_true_eq]; omega
       rw [fillL_more hr (.inl ha), if_pos hr]
       refine ⟨?_, rfl, by simp, rfl⟩
       simp; omega)
set_option maxRecDepth 100000 in
theorem rlk0_obs : loopObs Φ Try.prog noTbl 1000 rlk0.f (loopAt Try.prog rlk0.f rlk0.id) rlk0.n rlk0.T (.sub (.add (.len l0) (.c 1)) (.v 3)) rlk0.outs = some
  [{
      pc :=
        [SB.lt (SI.v 2) (SI.c (Int.ofNat 0)), SB.eq (SI.sel (SL.v 0) (SI.v 3) 1) (SI.v 1),
          SB.eq (SI.sel (SL.v 0) (SI.v 3) 0) (SI.v 0), SB.lt (SI.v 3) (SI.len (SL.v 0)),
          SB.le (SI.c (Int.ofNat 0)) (SI.v 3), SB.le (SI.v 3) (SI.len (SL.v 0)),
          SB.lt (SI.len (SL.v 0)) (SI.c (Int.ofNat 100000))],
      eqs :=
        [Eqn.T (SB.app 130 (SA.l (SL.v 0) (SA.i (SI.v 3) (SA.i (SI.v 0) (SA.i (SI.v 1) SA.nil))))),
          Eqn.I (SI.app 130 (SA.l (SL.v 0) (SA.i (SI.v 3) (SA.i (SI.v 0) (SA.i (SI.v 1) (SA.i (SI.v 2) SA.nil))))))
            (SI.c (Int.ofNat 0)),
          Eqn.I (SI.app 131 (SA.l (SL.v 0) (SA.i (SI.v 3) (SA.i (SI.v 0) (SA.i (SI.v 1) (SA.i (SI.v 2) SA.nil))))))
            (SI.c (Int.ofNat 7))] },
    {
      pc :=
        [SB.lt (SI.c (Int.ofNat 7)) (SI.v 2), SB.not (SB.lt (SI.v 2) (SI.c (Int.ofNat 0))),
          SB.eq (SI.sel (SL.v 0) (SI.v 3) 1) (SI.v 1), SB.eq (SI.sel (SL.v 0) (SI.v 3) 0) (SI.v 0),
          SB.lt (SI.v 3) (SI.len (SL.v 0)), SB.le (SI.c (Int.ofNat 0)) (SI.v 3), SB.le (SI.v 3) (SI.len (SL.v 0)),
          SB.lt (SI.len (SL.v 0)) (SI.c (Int.ofNat 100000))],
      eqs :=
        [Eqn.T (SB.app 130 (SA.l (SL.v 0) (SA.i (SI.v 3) (SA.i (SI.v 0) (SA.i (SI.v 1) SA.nil))))),
          Eqn.I (SI.app 130 (SA.l (SL.v 0) (SA.i (SI.v 3) (SA.i (SI.v 0) (SA.i (SI.v 1) (SA.i (SI.v 2) SA.nil))))))
            (SI.c (Int.ofNat 0)),
          Eqn.I (SI.app 131 (SA.l (SL.v 0) (SA.i (SI.v 3) (SA.i (SI.v 0) (SA.i (SI.v 1) (SA.i (SI.v 2) SA.nil))))))
            (SI.c (Int.ofNat 7))] },
    {
      pc :=
        [SB.eq (SI.bits BinOp.and IntKind.i64 (SI.sel (SL.v 0) (SI.v 3) 3) (SI.v 2)) (SI.v 2),
          SB.not (SB.lt (SI.c (Int.ofNat 7)) (SI.v 2)), SB.not (SB.lt (SI.v 2) (SI.c (Int.ofNat 0))),
          SB.eq (SI.sel (SL.v 0) (SI.v 3) 1) (SI.v 1), SB.eq (SI.sel (SL.v 0) (SI.v 3) 0) (SI.v 0),
          SB.lt (SI.v 3) (SI.len (SL.v 0)), SB.le (SI.c (Int.ofNat 0)) (SI.v 3), SB.le (SI.v 3) (SI.len (SL.v 0)),
          SB.lt (SI.len (SL.v 0)) (SI.c (Int.ofNat 100000))],
      eqs :=
        [Eqn.T (SB.app 130 (SA.l (SL.v 0) (SA.i (SI.v 3) (SA.i (SI.v 0) (SA.i (SI.v 1) SA.nil))))),
          Eqn.I (SI.app 130 (SA.l (SL.v 0) (SA.i (SI.v 3) (SA.i (SI.v 0) (SA.i (SI.v 1) (SA.i (SI.v 2) SA.nil))))))
            (SI.sel (SL.v 0) (SI.v 3) 2),
          Eqn.I (SI.app 131 (SA.l (SL.v 0) (SA.i (SI.v 3) (SA.i (SI.v 0) (SA.i (SI.v 1) (SA.i (SI.v 2) SA.nil))))))
            (SI.c (Int.ofNat 0))] },
    {
      pc :=
        [SB.not (SB.eq (SI.bits BinOp.and IntKind.i64 (SI.sel (SL.v 0) (SI.v 3) 3) (SI.v 2)) (SI.v 2)),
          SB.not (SB.lt (SI.c (Int.ofNat 7)) (SI.v 2)), SB.not (SB.lt (SI.v 2) (SI.c (Int.ofNat 0))),
          SB.eq (SI.sel (SL.v 0) (SI.v 3) 1) (SI.v 1), SB.eq (SI.sel (SL.v 0) (SI.v 3) 0) (SI.v 0),
          SB.lt (SI.v 3) (SI.len (SL.v 0)), SB.le (SI.c (Int.ofNat 0)) (SI.v 3), SB.le (SI.v 3) (SI.len (SL.v 0)),
          SB.lt (SI.len (SL.v 0)) (SI.c (Int.ofNat 100000))],
      eqs :=
        [Eqn.T (SB.app 130 (SA.l (SL.v 0) (SA.i (SI.v 3) (SA.i (SI.v 0) (SA.i (SI.v 1) SA.nil))))),
          Eqn.I (SI.app 130 (SA.l (SL.v 0) (SA.i (SI.v 3) (SA.i (SI.v 0) (SA.i (SI.v 1) (SA.i (SI.v 2) SA.nil))))))
            (SI.c (Int.ofNat 0)),
          Eqn.I (SI.app 131 (SA.l (SL.v 0) (SA.i (SI.v 3) (SA.i (SI.v 0) (SA.i (SI.v 1) (SA.i (SI.v 2) SA.nil))))))
            (SI.c (Int.ofNat 7))] },
    {
      pc :=
        [SB.not (SB.eq (SI.sel (SL.v 0) (SI.v 3) 1) (SI.v 1)), SB.eq (SI.sel (SL.v 0) (SI.v 3) 0) (SI.v 0),
          SB.lt (SI.v 3) (SI.len (SL.v 0)), SB.le (SI.c (Int.ofNat 0)) (SI.v 3), SB.le (SI.v 3) (SI.len (SL.v 0)),
          SB.lt (SI.len (SL.v 0)) (SI.c (Int.ofNat 100000))],
      eqs :=
        [Eqn.T
            (SB.lt (SI.sub (SI.add (SI.len (SL.v 0)) (SI.c (Int.ofNat 1))) (SI.add (SI.v 3) (SI.c (Int.ofNat 1))))
              (SI.sub (SI.add (SI.len (SL.v 0)) (SI.c (Int.ofNat 1))) (SI.v 3))),
          Eqn.T (SB.lt (SI.c (Int.ofNat 0)) (SI.sub (SI.add (SI.len (SL.v 0)) (SI.c (Int.ofNat 1))) (SI.v 3)))] },
    {
      pc :=
        [SB.app 130
            (SA.l (SL.v 0) (SA.i (SI.add (SI.v 3) (SI.c (Int.ofNat 1))) (SA.i (SI.v 0) (SA.i (SI.v 1) SA.nil)))),
          SB.not (SB.eq (SI.sel (SL.v 0) (SI.v 3) 1) (SI.v 1)), SB.eq (SI.sel (SL.v 0) (SI.v 3) 0) (SI.v 0),
          SB.lt (SI.v 3) (SI.len (SL.v 0)), SB.le (SI.c (Int.ofNat 0)) (SI.v 3), SB.le (SI.v 3) (SI.len (SL.v 0)),
          SB.lt (SI.len (SL.v 0)) (SI.c (Int.ofNat 100000))],
      eqs :=
        [Eqn.T (SB.app 130 (SA.l (SL.v 0) (SA.i (SI.v 3) (SA.i (SI.v 0) (SA.i (SI.v 1) SA.nil))))),
          Eqn.I (SI.app 130 (SA.l (SL.v 0) (SA.i (SI.v 3) (SA.i (SI.v 0) (SA.i (SI.v 1) (SA.i (SI.v 2) SA.nil))))))
            (SI.app 130
              (SA.l (SL.v 0)
                (SA.i (SI.add (SI.v 3) (SI.c (Int.ofNat 1))) (SA.i (SI.v 0) (SA.i (SI.v 1) (SA.i (SI.v 2) SA.nil)))))),
          Eqn.I (SI.app 131 (SA.l (SL.v 0) (SA.i (SI.v 3) (SA.i (SI.v 0) (SA.i (SI.v 1) (SA.i (SI.v 2) SA.nil))))))
            (SI.app 131
              (SA.l (SL.v 0)
                (SA.i (SI.add (SI.v 3) (SI.c (Int.ofNat 1)))
                  (SA.i (SI.v 0) (SA.i (SI.v 1) (SA.i (SI.v 2) SA.nil))))))] },
    {
      pc :=
        [SB.not
            (SB.app 130
              (SA.l (SL.v 0) (SA.i (SI.add (SI.v 3) (SI.c (Int.ofNat 1))) (SA.i (SI.v 0) (SA.i (SI.v 1) SA.nil))))),
          SB.not (SB.eq (SI.sel (SL.v 0) (SI.v 3) 1) (SI.v 1)), SB.eq (SI.sel (SL.v 0) (SI.v 3) 0) (SI.v 0),
          SB.lt (SI.v 3) (SI.len (SL.v 0)), SB.le (SI.c (Int.ofNat 0)) (SI.v 3), SB.le (SI.v 3) (SI.len (SL.v 0)),
          SB.lt (SI.len (SL.v 0)) (SI.c (Int.ofNat 100000))],
      eqs := [Eqn.T (SB.not (SB.app 130 (SA.l (SL.v 0) (SA.i (SI.v 3) (SA.i (SI.v 0) (SA.i (SI.v 1) SA.nil))))))] },
    {
      pc :=
        [SB.not (SB.eq (SI.sel (SL.v 0) (SI.v 3) 0) (SI.v 0)), SB.lt (SI.v 3) (SI.len (SL.v 0)),
          SB.le (SI.c (Int.ofNat 0)) (SI.v 3), SB.le (SI.v 3) (SI.len (SL.v 0)),
          SB.lt (SI.len (SL.v 0)) (SI.c (Int.ofNat 100000))],
      eqs :=
        [Eqn.T
            (SB.lt (SI.sub (SI.add (SI.len (SL.v 0)) (SI.c (Int.ofNat 1))) (SI.add (SI.v 3) (SI.c (Int.ofNat 1))))
              (SI.sub (SI.add (SI.len (SL.v 0)) (SI.c (Int.ofNat 1))) (SI.v 3))),
          Eqn.T (SB.lt (SI.c (Int.ofNat 0)) (SI.sub (SI.add (SI.len (SL.v 0)) (SI.c (Int.ofNat 1))) (SI.v 3)))] },
    {
      pc :=
        [SB.app 130
            (SA.l (SL.v 0) (SA.i (SI.add (SI.v 3) (SI.c (Int.ofNat 1))) (SA.i (SI.v 0) (SA.i (SI.v 1) SA.nil)))),
          SB.not (SB.eq (SI.sel (SL.v 0) (SI.v 3) 0) (SI.v 0)), SB.lt (SI.v 3) (SI.len (SL.v 0)),
          SB.le (SI.c (Int.ofNat 0)) (SI.v 3), SB.le (SI.v 3) (SI.len (SL.v 0)),
          SB.lt (SI.len (SL.v 0)) (SI.c (Int.ofNat 100000))],
      eqs :=
        [Eqn.T (SB.app 130 (SA.l (SL.v 0) (SA.i (SI.v 3) (SA.i (SI.v 0) (SA.i (SI.v 1) SA.nil))))),
          Eqn.I (SI.app 130 (SA.l (SL.v 0) (SA.i (SI.v 3) (SA.i (SI.v 0) (SA.i (SI.v 1) (SA.i (SI.v 2) SA.nil))))))
            (SI.app 130
              (SA.l (SL.v 0)
                (SA.i (SI.add (SI.v 3) (SI.c (Int.ofNat 1))) (SA.i (SI.v 0) (SA.i (SI.v 1) (SA.i (SI.v 2) SA.nil)))))),
          Eqn.I (SI.app 131 (SA.l (SL.v 0) (SA.i (SI.v 3) (SA.i (SI.v 0) (SA.i (SI.v 1) (SA.i (SI.v 2) SA.nil))))))
            (SI.app 131
              (SA.l (SL.v 0)
                (SA.i (SI.add (SI.v 3) (SI.c (Int.ofNat 1)))
                  (SA.i (SI.v 0) (SA.i (SI.v 1) (SA.i (SI.v 2) SA.nil))))))] },
    {
      pc :=
        [SB.not
            (SB.app 130
              (SA.l (SL.v 0) (SA.i (SI.add (SI.v 3) (SI.c (Int.ofNat 1))) (SA.i (SI.v 0) (SA.i (SI.v 1) SA.nil))))),
          SB.not (SB.eq (SI.sel (SL.v 0) (SI.v 3) 0) (SI.v 0)), SB.lt (SI.v 3) (SI.len (SL.v 0)),
          SB.le (SI.c (Int.ofNat 0)) (SI.v 3), SB.le (SI.v 3) (SI.len (SL.v 0)),
          SB.lt (SI.len (SL.v 0)) (SI.c (Int.ofNat 100000))],
      eqs := [Eqn.T (SB.not (SB.app 130 (SA.l (SL.v 0) (SA.i (SI.v 3) (SA.i (SI.v 0) (SA.i (SI.v 1) SA.nil))))))] },
    {
      pc :=
        [SB.not (SB.lt (SI.v 3) (SI.len (SL.v 0))), SB.le (SI.c (Int.ofNat 0)) (SI.v 3),
          SB.le (SI.v 3) (SI.len (SL.v 0)), SB.lt (SI.len (SL.v 0)) (SI.c (Int.ofNat 100000))],
      eqs := [Eqn.T (SB.not (SB.app 130 (SA.l (SL.v 0) (SA.i (SI.v 3) (SA.i (SI.v 0) (SA.i (SI.v 1) SA.nil))))))] }] := by kernel_rfl
theorem rlk0_ok : rlk0.ok Φ Try.prog := by
  refine ⟨by kernel_rfl, loop_rule (fun ρ => noTbl_ok) (loopAt_sub (by kernel_rfl)) rlk0_obs ?_⟩
  simp only [and_imp, List.forall_mem_cons, List.not_mem_nil, false_implies, implies_true, and_true, Ob.ok, holds, Eqn.ok, evB_eq, evB_lt, evB_le, evB_not, evB_and, evB_or, evB_eqL, evB_app, evB_v, evB_c, ev_sel, ev_len, ev_v, ev_c, ev_add, ev_sub, ev_mul, ev_quo, ev_rem, ev_bits, ev_wrap, evL_v, evL_lit, evL_app, ev_app, evA_l, evA_i, evA_nil, std_min, std_max, std_cat, std_take, std_drop, std_row, std_set, std_rep, ints_cons, ints_nil, ofNat_lit, negSucc_lit, decide_eq_true_eq, Bool.and_eq_true, Bool.or_eq_true, Bool.not_eq_true', Bool.and_eq_false_iff, Bool.or_eq_false_iff, decide_eq_false_iff_not, aI100, aL100, aI101, aL101, aI102, aL102, aI111, aI112, aI120, aI130, aI131, aL110, aL111, aL112, aL120, aL140, aL141, aL142, aB100, aB130, aB160, aB162, aB199, aL161]
  repeat' apply And.intro
  all_goals intro ρ hR
  all_goals intros
  all_goals first
    | (omega)
    | (rw [lookAt_yes (A := ρ.l 0) (i := ρ.i 3) (t := ρ.i 0) (p := ρ.i 1) (by omega) (by omega) (by simp only [pOf, pTag, pFrame, at', Bool.and_eq_true, decide_eq_true_eq]; omega)]
       have hb : ρ.i 2 < 0 := by omega
       exact ⟨rfl, if_pos (.inl hb), if_pos (.inl hb)⟩)
    | (rw [lookAt_yes (A := ρ.l 0) (i := ρ.i 3) (t := ρ.i 0) (p := ρ.i 1) (by omega) (by omega) (by simp only [pOf, pTag, pFrame, at', Bool.and_eq_true, decide_eq_true_eq]; omega)]
       have hb : 7 < ρ.i 2 := by omega
       exact ⟨rfl, if_pos (.inr (.inl hb)), if_pos (.inr (.inl hb))⟩)
    | (rw [lookAt_yes (A := ρ.l 0) (i := ρ.i 3) (t := ρ.i 0) (p := ρ.i 1) (by omega) (by omega) (by simp only [pOf, pTag, pFrame, at', Bool.and_eq_true, decide_eq_true_eq]; omega)]
       have hb : ¬ Go.bits .andNot .i64 (ρ.i 2) (((ρ.l 0).getD (ρ.i 3).toNat []).getD 3 0) = 0 := mt (and_mask (by omega) (by omega)).2 (by assumption)
       exact ⟨rfl, if_pos (.inr (.inr hb)), if_pos (.inr (.inr hb))⟩)
    | (rw [lookAt_yes (A := ρ.l 0) (i := ρ.i 3) (t := ρ.i 0) (p := ρ.i 1) (by omega) (by omega) (by simp only [pOf, pTag, pFrame, at', Bool.and_eq_true, decide_eq_true_eq]; omega)]
       have hb : Go.bits .andNot .i64 (ρ.i 2) (((ρ.l 0).getD (ρ.i 3).toNat []).getD 3 0) = 0 := (and_mask (by omega) (by omega)).1 (by assumption)
       have h1 : ¬ ρ.i 2 < 0 := by omega
       have h2 : ¬ 7 < ρ.i 2 := by omega
       exact ⟨rfl, if_neg (fun x => x.elim h1 (fun y => y.elim h2 (fun z => z hb))), if_neg (fun x => x.elim h1 (fun y => y.elim h2 (fun z => z hb)))⟩)
    | (rw [lookAt_no (A := ρ.l 0) (i := ρ.i 3) (t := ρ.i 0) (p := ρ.i 1) (by omega) (by omega) (by simp only [pOf, pTag, pFrame, at', Bool.and_eq_false_iff, decide_eq_false_iff_not]; omega)]
       first | assumption | exact ⟨by assumption, rfl, rfl⟩)
    | (rw [lookAt_end (by omega)]
       rfl)
theorem t6_ok (ρ : Env) : TblOK Φ ρ Try.prog t6 := addLp_ok (addFn_ok (addFn_ok (addFn_ok (addFn_ok (t5_ok ρ) rFlush_ok) rForget_ok) rDrop_ok) rFill_ok) rlk0_ok
set_option maxRecDepth 100000 in
theorem rLook_obs : callObs Φ Try.prog t6 1000 rLook.f rLook.vs rLook.o rLook.pc rLook.outs = some
  [{
      pc :=
        [SB.not (SB.app 130 (SA.l (SL.v 0) (SA.i (SI.c (Int.ofNat 0)) (SA.i (SI.v 0) (SA.i (SI.v 1) SA.nil))))),
          SB.lt (SI.len (SL.v 0)) (SI.c (Int.ofNat 100000))],
      eqs :=
        [Eqn.I
            (SI.app 130
              (SA.l (SL.v 0) (SA.i (SI.c (Int.ofNat 0)) (SA.i (SI.v 0) (SA.i (SI.v 1) (SA.i (SI.v 2) SA.nil))))))
            (SI.c (Int.ofNat 0)),
          Eqn.I
            (SI.app 131
              (SA.l (SL.v 0) (SA.i (SI.c (Int.ofNat 0)) (SA.i (SI.v 0) (SA.i (SI.v 1) (SA.i (SI.v 2) SA.nil))))))
            (SI.c (Int.ofNat 4))] }] := by kernel_rfl
theorem rLook_ok : rLook.ok Φ Try.prog := by
  refine call_rule (fun ρ => t6_ok ρ) rLook_obs ?_
  simp only [and_imp, List.forall_mem_cons, List.not_mem_nil, false_implies, implies_true, and_true, Ob.ok, holds, Eqn.ok, evB_eq, evB_lt, evB_le, evB_not, evB_and, evB_or, evB_eqL, evB_app, evB_v, evB_c, ev_sel, ev_len, ev_v, ev_c, ev_add, ev_sub, ev_mul, ev_quo, ev_rem, ev_bits, ev_wrap, evL_v, evL_lit, evL_app, ev_app, evA_l, evA_i, evA_nil, std_min, std_max, std_cat, std_take, std_drop, std_row, std_set, std_rep, ints_cons, ints_nil, ofNat_lit, negSucc_lit, decide_eq_true_eq, Bool.and_eq_true, Bool.or_eq_true, Bool.not_eq_true', Bool.and_eq_false_iff, Bool.or_eq_false_iff, decide_eq_false_iff_not, aI100, aL100, aI101, aL101, aI102, aL102, aI111, aI112, aI120, aI130, aI131, aL110, aL111, aL112, aL120, aL140, aL141, aL142, aB100, aB130, aB160, aB162, aB199, aL161]
  intro ρ hR
  intros
  have h1 : lookAt (ρ.l 0) 0 (ρ.i 0) (ρ.i 1) = none := by
    have : (lookAt (ρ.l 0) 0 (ρ.i 0) (ρ.i 1)).isSome = false := by assumption
    simpa using this
  rw [h1]
  exact ⟨rfl, rfl⟩
set_option maxRecDepth 100000 in
theorem sm0_obs : loopObs Φ Try.prog noTbl 1000 sm0.f (loopAt Try.prog sm0.f sm0.id) sm0.n sm0.T (.sub (.add (.len l0) (.c 1)) (.v 0)) sm0.outs = some
  [{
      pc :=
        [SB.eq (SI.sel (SL.v 0) (SI.v 0) 3) (SI.sel (SL.v 1) (SI.v 0) 3),
          SB.eq (SI.sel (SL.v 0) (SI.v 0) 2) (SI.sel (SL.v 1) (SI.v 0) 2),
          SB.eq (SI.sel (SL.v 0) (SI.v 0) 1) (SI.sel (SL.v 1) (SI.v 0) 1),
          SB.eq (SI.sel (SL.v 0) (SI.v 0) 0) (SI.sel (SL.v 1) (SI.v 0) 0), SB.lt (SI.v 0) (SI.len (SL.v 0)),
          SB.le (SI.c (Int.ofNat 0)) (SI.v 0), SB.le (SI.v 0) (SI.len (SL.v 0)),
          SB.eq (SI.len (SL.v 0)) (SI.len (SL.v 1)), SB.lt (SI.len (SL.v 0)) (SI.c (Int.ofNat 100000))],
      eqs :=
        [Eqn.T
            (SB.lt (SI.sub (SI.add (SI.len (SL.v 0)) (SI.c (Int.ofNat 1))) (SI.add (SI.v 0) (SI.c (Int.ofNat 1))))
              (SI.sub (SI.add (SI.len (SL.v 0)) (SI.c (Int.ofNat 1))) (SI.v 0))),
          Eqn.T (SB.lt (SI.c (Int.ofNat 0)) (SI.sub (SI.add (SI.len (SL.v 0)) (SI.c (Int.ofNat 1))) (SI.v 0)))] },
    {
      pc :=
        [SB.not
            (SB.eqL (SL.app 2 (SA.l (SL.v 0) (SA.i (SI.add (SI.v 0) (SI.c (Int.ofNat 1))) SA.nil)))
              (SL.app 2 (SA.l (SL.v 1) (SA.i (SI.add (SI.v 0) (SI.c (Int.ofNat 1))) SA.nil)))),
          SB.eq (SI.sel (SL.v 0) (SI.v 0) 3) (SI.sel (SL.v 1) (SI.v 0) 3),
          SB.eq (SI.sel (SL.v 0) (SI.v 0) 2) (SI.sel (SL.v 1) (SI.v 0) 2),
          SB.eq (SI.sel (SL.v 0) (SI.v 0) 1) (SI.sel (SL.v 1) (SI.v 0) 1),
          SB.eq (SI.sel (SL.v 0) (SI.v 0) 0) (SI.sel (SL.v 1) (SI.v 0) 0), SB.lt (SI.v 0) (SI.len (SL.v 0)),
          SB.le (SI.c (Int.ofNat 0)) (SI.v 0), SB.le (SI.v 0) (SI.len (SL.v 0)),
          SB.eq (SI.len (SL.v 0)) (SI.len (SL.v 1)), SB.lt (SI.len (SL.v 0)) (SI.c (Int.ofNat 100000))],
      eqs :=
        [Eqn.T
            (SB.not
              (SB.eqL (SL.app 2 (SA.l (SL.v 0) (SA.i (SI.v 0) SA.nil)))
                (SL.app 2 (SA.l (SL.v 1) (SA.i (SI.v 0) SA.nil)))))] },
    {
      pc :=
        [SB.eqL (SL.app 2 (SA.l (SL.v 0) (SA.i (SI.add (SI.v 0) (SI.c (Int.ofNat 1))) SA.nil)))
            (SL.app 2 (SA.l (SL.v 1) (SA.i (SI.add (SI.v 0) (SI.c (Int.ofNat 1))) SA.nil))),
          SB.eq (SI.sel (SL.v 0) (SI.v 0) 3) (SI.sel (SL.v 1) (SI.v 0) 3),
          SB.eq (SI.sel (SL.v 0) (SI.v 0) 2) (SI.sel (SL.v 1) (SI.v 0) 2),
          SB.eq (SI.sel (SL.v 0) (SI.v 0) 1) (SI.sel (SL.v 1) (SI.v 0) 1),
          SB.eq (SI.sel (SL.v 0) (SI.v 0) 0) (SI.sel (SL.v 1) (SI.v 0) 0), SB.lt (SI.v 0) (SI.len (SL.v 0)),
          SB.le (SI.c (Int.ofNat 0)) (SI.v 0), SB.le (SI.v 0) (SI.len (SL.v 0)),
          SB.eq (SI.len (SL.v 0)) (SI.len (SL.v 1)), SB.lt (SI.len (SL.v 0)) (SI.c (Int.ofNat 100000))],
      eqs :=
        [Eqn.T
            (SB.eqL (SL.app 2 (SA.l (SL.v 0) (SA.i (SI.v 0) SA.nil)))
              (SL.app 2 (SA.l (SL.v 1) (SA.i (SI.v 0) SA.nil))))] },
    {
      pc :=
        [SB.not (SB.eq (SI.sel (SL.v 0) (SI.v 0) 3) (SI.sel (SL.v 1) (SI.v 0) 3)),
          SB.eq (SI.sel (SL.v 0) (SI.v 0) 2) (SI.sel (SL.v 1) (SI.v 0) 2),
          SB.eq (SI.sel (SL.v 0) (SI.v 0) 1) (SI.sel (SL.v 1) (SI.v 0) 1),
          SB.eq (SI.sel (SL.v 0) (SI.v 0) 0) (SI.sel (SL.v 1) (SI.v 0) 0), SB.lt (SI.v 0) (SI.len (SL.v 0)),
          SB.le (SI.c (Int.ofNat 0)) (SI.v 0), SB.le (SI.v 0) (SI.len (SL.v 0)),
          SB.eq (SI.len (SL.v 0)) (SI.len (SL.v 1)), SB.lt (SI.len (SL.v 0)) (SI.c (Int.ofNat 100000))],
      eqs :=
        [Eqn.T
            (SB.not
              (SB.eqL (SL.app 2 (SA.l (SL.v 0) (SA.i (SI.v 0) SA.nil)))
                (SL.app 2 (SA.l (SL.v 1) (SA.i (SI.v 0) SA.nil)))))] },
    {
      pc :=
        [SB.not (SB.eq (SI.sel (SL.v 0) (SI.v 0) 2) (SI.sel (SL.v 1) (SI.v 0) 2)),
          SB.eq (SI.sel (SL.v 0) (SI.v 0) 1) (SI.sel (SL.v 1) (SI.v 0) 1),
          SB.eq (SI.sel (SL.v 0) (SI.v 0) 0) (SI.sel (SL.v 1) (SI.v 0) 0), SB.lt (SI.v 0) (SI.len (SL.v 0)),
          SB.le (SI.c (Int.ofNat 0)) (SI.v 0), SB.le (SI.v 0) (SI.len (SL.v 0)),
          SB.eq (SI.len (SL.v 0)) (SI.len (SL.v 1)), SB.lt (SI.len (SL.v 0)) (SI.c (Int.ofNat 100000))],
      eqs :=
        [Eqn.T
            (SB.not
              (SB.eqL (SL.app 2 (SA.l (SL.v 0) (SA.i (SI.v 0) SA.nil)))
                (SL.app 2 (SA.l (SL.v 1) (SA.i (SI.v 0) SA.nil)))))] },
    {
      pc :=
        [SB.not (SB.eq (SI.sel (SL.v 0) (SI.v 0) 1) (SI.sel (SL.v 1) (SI.v 0) 1)),
          SB.eq (SI.sel (SL.v 0) (SI.v 0) 0) (SI.sel (SL.v 1) (SI.v 0) 0), SB.lt (SI.v 0) (SI.len (SL.v 0)),
          SB.le (SI.c (Int.ofNat 0)) (SI.v 0), SB.le (SI.v 0) (SI.len (SL.v 0)),
          SB.eq (SI.len (SL.v 0)) (SI.len (SL.v 1)), SB.lt (SI.len (SL.v 0)) (SI.c (Int.ofNat 100000))],
      eqs :=
        [Eqn.T
            (SB.not
              (SB.eqL (SL.app 2 (SA.l (SL.v 0) (SA.i (SI.v 0) SA.nil)))
                (SL.app 2 (SA.l (SL.v 1) (SA.i (SI.v 0) SA.nil)))))] },
    {
      pc :=
        [SB.not (SB.eq (SI.sel (SL.v 0) (SI.v 0) 0) (SI.sel (SL.v 1) (SI.v 0) 0)), SB.lt (SI.v 0) (SI.len (SL.v 0)),
          SB.le (SI.c (Int.ofNat 0)) (SI.v 0), SB.le (SI.v 0) (SI.len (SL.v 0)),
          SB.eq (SI.len (SL.v 0)) (SI.len (SL.v 1)), SB.lt (SI.len (SL.v 0)) (SI.c (Int.ofNat 100000))],
      eqs :=
        [Eqn.T
            (SB.not
              (SB.eqL (SL.app 2 (SA.l (SL.v 0) (SA.i (SI.v 0) SA.nil)))
                (SL.app 2 (SA.l (SL.v 1) (SA.i (SI.v 0) SA.nil)))))] },
    {
      pc :=
        [SB.not (SB.lt (SI.v 0) (SI.len (SL.v 0))), SB.le (SI.c (Int.ofNat 0)) (SI.v 0),
          SB.le (SI.v 0) (SI.len (SL.v 0)), SB.eq (SI.len (SL.v 0)) (SI.len (SL.v 1)),
          SB.lt (SI.len (SL.v 0)) (SI.c (Int.ofNat 100000))],
      eqs :=
        [Eqn.T
            (SB.eqL (SL.app 2 (SA.l (SL.v 0) (SA.i (SI.v 0) SA.nil)))
              (SL.app 2 (SA.l (SL.v 1) (SA.i (SI.v 0) SA.nil))))] }] := by kernel_rfl
theorem sm0_ok : sm0.ok Φ Try.prog := by
  refine ⟨by kernel_rfl, loop_rule (fun ρ => noTbl_ok) (loopAt_sub (by kernel_rfl)) sm0_obs ?_⟩
  simp only [and_imp, List.forall_mem_cons, List.not_mem_nil, false_implies, implies_true, and_true, Ob.ok, holds, Eqn.ok, evB_eq, evB_lt, evB_le, evB_not, evB_and, evB_or, evB_eqL, evB_app, evB_v, evB_c, ev_sel, ev_len, ev_v, ev_c, ev_add, ev_sub, ev_mul, ev_quo, ev_rem, ev_bits, ev_wrap, evL_v, evL_lit, evL_app, ev_app, evA_l, evA_i, evA_nil, std_min, std_max, std_cat, std_take, std_drop, std_row, std_set, std_rep, ints_cons, ints_nil, ofNat_lit, negSucc_lit, decide_eq_true_eq, Bool.and_eq_true, Bool.or_eq_true, Bool.not_eq_true', Bool.and_eq_false_iff, Bool.or_eq_false_iff, decide_eq_false_iff_not, aI100, aL100, aI101, aL101, aI102, aL102, aI111, aI112, aI120, aI130, aI131, aL110, aL111, aL112, aL120, aL140, aL141, aL142, aB100, aB130, aB160, aB162, aB199, aL161]
  repeat' apply And.intro
  all_goals intro ρ hR
  all_goals intros
  all_goals first
    | (omega)
    | (rw [drop_step (A := ρ.l 0) (by omega) (by omega), drop_step (A := ρ.l 1) (by omega) (by omega), row4_eq (show okRow K4 ((ρ.l 0).getD (ρ.i 0).toNat []) from hR.row 0 rfl rfl _ (getD_mem (A := ρ.l 0) (by omega) (by omega))) (show okRow K4 ((ρ.l 1).getD (ρ.i 0).toNat []) from hR.row 1 rfl rfl _ (getD_mem (A := ρ.l 1) (by omega) (by omega))) (by omega)]
       first | (have e : List.drop (ρ.i 0 + 1).toNat (ρ.l 0) = List.drop (ρ.i 0 + 1).toNat (ρ.l 1) := (by with_reducible assumption); rw [e]) | (intro e; rw [List.cons.injEq] at e; have e' : ¬ List.drop (ρ.i 0 + 1).toNat (ρ.l 0) = List.drop (ρ.i 0 + 1).toNat (ρ.l 1) := (by with_reducible assumption); exact e' e.2))
    | (rw [drop_step (A := ρ.l 0) (by omega) (by omega), drop_step (A := ρ.l 1) (by omega) (by omega)]
       intro e
       rw [List.cons.injEq] at e
       have e0 := congrArg (fun r => (r.getD 0 0, r.getD 1 0, r.getD 2 0, r.getD 3 0)) e.1
       simp only [Prod.mk.injEq] at e0
       omega)
    | (rw [List.drop_of_length_le (by omega), List.drop_of_length_le (by omega)])
set_option maxRecDepth 100000 in
theorem pl0_obs : loopObs Φ Try.prog noTbl 1000 pl0.f (loopAt Try.prog pl0.f pl0.id) pl0.n pl0.T (.sub (.add (.len l0) (.c 1)) (.v 0)) pl0.outs = some
  [{
      pc :=
        [SB.lt (SI.v 0) (SI.len (SL.v 0)), SB.le (SI.c (Int.ofNat 0)) (SI.v 0), SB.le (SI.v 0) (SI.len (SL.v 0)),
          SB.lt (SI.len (SL.v 0)) (SI.c (Int.ofNat 100000)), SB.le (SI.len (SL.v 1)) (SI.v 0)],
      eqs :=
        [Eqn.T
            (SB.lt (SI.sub (SI.add (SI.len (SL.v 0)) (SI.c (Int.ofNat 1))) (SI.add (SI.v 0) (SI.c (Int.ofNat 1))))
              (SI.sub (SI.add (SI.len (SL.v 0)) (SI.c (Int.ofNat 1))) (SI.v 0))),
          Eqn.T (SB.lt (SI.c (Int.ofNat 0)) (SI.sub (SI.add (SI.len (SL.v 0)) (SI.c (Int.ofNat 1))) (SI.v 0)))] },
    {
      pc :=
        [SB.lt (SI.v 0) (SI.len (SL.v 0)), SB.le (SI.c (Int.ofNat 0)) (SI.v 0), SB.le (SI.v 0) (SI.len (SL.v 0)),
          SB.lt (SI.len (SL.v 0)) (SI.c (Int.ofNat 100000)), SB.le (SI.len (SL.v 1)) (SI.v 0)],
      eqs :=
        [Eqn.I (SI.len (SL.app 0 (SA.l (SL.v 1) (SA.l (SL.app 2 (SA.l (SL.v 0) (SA.i (SI.v 0) SA.nil))) SA.nil))))
            (SI.add (SI.add (SI.len (SL.v 1)) (SI.c (Int.ofNat 1)))
              (SI.len (SL.app 2 (SA.l (SL.v 0) (SA.i (SI.add (SI.v 0) (SI.c (Int.ofNat 1))) SA.nil))))),
          Eqn.L (SL.app 0 (SA.l (SL.v 1) (SA.l (SL.app 2 (SA.l (SL.v 0) (SA.i (SI.v 0) SA.nil))) SA.nil)))
            (SL.app 0
              (SA.l
                (SL.app 0
                  (SA.l (SL.v 1)
                    (SA.l
                      (SL.app 3
                        (SA.i (SI.sel (SL.v 0) (SI.v 0) 0)
                          (SA.i (SI.sel (SL.v 0) (SI.v 0) 1)
                            (SA.i (SI.sel (SL.v 0) (SI.v 0) 2) (SA.i (SI.sel (SL.v 0) (SI.v 0) 3) SA.nil)))))
                      SA.nil)))
                (SA.l (SL.app 2 (SA.l (SL.v 0) (SA.i (SI.add (SI.v 0) (SI.c (Int.ofNat 1))) SA.nil))) SA.nil)))] },
    {
      pc :=
        [SB.not (SB.lt (SI.v 0) (SI.len (SL.v 0))), SB.le (SI.c (Int.ofNat 0)) (SI.v 0),
          SB.le (SI.v 0) (SI.len (SL.v 0)), SB.lt (SI.len (SL.v 0)) (SI.c (Int.ofNat 100000)),
          SB.le (SI.len (SL.v 1)) (SI.v 0)],
      eqs :=
        [Eqn.I (SI.len (SL.app 0 (SA.l (SL.v 1) (SA.l (SL.app 2 (SA.l (SL.v 0) (SA.i (SI.v 0) SA.nil))) SA.nil))))
            (SI.len (SL.v 1)),
          Eqn.L (SL.app 0 (SA.l (SL.v 1) (SA.l (SL.app 2 (SA.l (SL.v 0) (SA.i (SI.v 0) SA.nil))) SA.nil))) (SL.v 1)] }] := by kernel_rfl
theorem pl0_ok : pl0.ok Φ Try.prog := by
  refine ⟨by kernel_rfl, loop_rule (fun ρ => noTbl_ok) (loopAt_sub (by kernel_rfl)) pl0_obs ?_⟩
  simp only [and_imp, List.forall_mem_cons, List.not_mem_nil, false_implies, implies_true, and_true, Ob.ok, holds, Eqn.ok, evB_eq, evB_lt, evB_le, evB_not, evB_and, evB_or, evB_eqL, evB_app, evB_v, evB_c, ev_sel, ev_len, ev_v, ev_c, ev_add, ev_sub, ev_mul, ev_quo, ev_rem, ev_bits, ev_wrap, evL_v, evL_lit, evL_app, ev_app, evA_l, evA_i, evA_nil, std_min, std_max, std_cat, std_take, std_drop, std_row, std_set, std_rep, ints_cons, ints_nil, ofNat_lit, negSucc_lit, decide_eq_true_eq, Bool.and_eq_true, Bool.or_eq_true, Bool.not_eq_true', Bool.and_eq_false_iff, Bool.or_eq_false_iff, decide_eq_false_iff_not, aI100, aL100, aI101, aL101, aI102, aL102, aI111, aI112, aI120, aI130, aI131, aL110, aL111, aL112, aL120, aL140, aL141, aL142, aB100, aB130, aB160, aB162, aB199, aL161]
  repeat' apply And.intro
  all_goals intro ρ hR
  all_goals intros
  all_goals first
    | (omega)
    | (rw [row4 (show okRow K4 ((ρ.l 0).getD (ρ.i 0).toNat []) from hR.row 0 rfl rfl _ (getD_mem (A := ρ.l 0) (by omega) (by omega))), List.append_assoc, List.singleton_append, ← drop_step (by omega) (by omega)]
       exact ⟨by simp; omega, rfl⟩)
    | (rw [List.drop_of_length_le (by omega)]
       simp)
theorem t7_ok (ρ : Env) : TblOK Φ ρ Try.prog t7 := addLp_ok (addLp_ok (addFn_ok (t6_ok ρ) rLook_ok) sm0_ok) pl0_ok
set_option maxRecDepth 100000 in
theorem rSame_obs : callObs Φ Try.prog t7 1000 rSame.f rSame.vs rSame.o rSame.pc rSame.outs = some
  [{
      pc :=
        [SB.not
            (SB.eqL (SL.app 2 (SA.l (SL.v 0) (SA.i (SI.c (Int.ofNat 0)) SA.nil)))
              (SL.app 2 (SA.l (SL.v 1) (SA.i (SI.c (Int.ofNat 0)) SA.nil)))),
          SB.eq (SI.len (SL.v 0)) (SI.len (SL.v 1)), SB.lt (SI.len (SL.v 0)) (SI.c (Int.ofNat 100000))],
      eqs := [Eqn.B (SB.eqL (SL.v 0) (SL.v 1)) (SB.c false)] },
    {
      pc :=
        [SB.eqL (SL.app 2 (SA.l (SL.v 0) (SA.i (SI.c (Int.ofNat 0)) SA.nil)))
            (SL.app 2 (SA.l (SL.v 1) (SA.i (SI.c (Int.ofNat 0)) SA.nil))),
          SB.eq (SI.len (SL.v 0)) (SI.len (SL.v 1)), SB.lt (SI.len (SL.v 0)) (SI.c (Int.ofNat 100000))],
      eqs := [Eqn.B (SB.eqL (SL.v 0) (SL.v 1)) (SB.c true)] },
    { pc := [SB.not (SB.eq (SI.len (SL.v 0)) (SI.len (SL.v 1))), SB.lt (SI.len (SL.v 0)) (SI.c (Int.ofNat 100000))],
      eqs := [Eqn.B (SB.eqL (SL.v 0) (SL.v 1)) (SB.c false)] }] := by kernel_rfl
theorem rSame_ok : rSame.ok Φ Try.prog := by
  refine call_rule (fun ρ => t7_ok ρ) rSame_obs ?_
  simp only [and_imp, List.forall_mem_cons, List.not_mem_nil, false_implies, implies_true, and_true, Ob.ok, holds, Eqn.ok, evB_eq, evB_lt, evB_le, evB_not, evB_and, evB_or, evB_eqL, evB_app, evB_v, evB_c, ev_sel, ev_len, ev_v, ev_c, ev_add, ev_sub, ev_mul, ev_quo, ev_rem, ev_bits, ev_wrap, evL_v, evL_lit, evL_app, ev_app, evA_l, evA_i, evA_nil, std_min, std_max, std_cat, std_take, std_drop, std_row, std_set, std_rep, ints_cons, ints_nil, ofNat_lit, negSucc_lit, decide_eq_true_eq, Bool.and_eq_true, Bool.or_eq_true, Bool.not_eq_true', Bool.and_eq_false_iff, Bool.or_eq_false_iff, decide_eq_false_iff_not, aI100, aL100, aI101, aL101, aI102, aL102, aI111, aI112, aI120, aI130, aI131, aL110, aL111, aL112, aL120, aL140, aL141, aL142, aB100, aB130, aB160, aB162, aB199, aL161]
  repeat' apply And.intro
  all_goals intro ρ hR
  all_goals intros
  all_goals first
    | (have h : ¬ ((ρ.l 0).length : Int) = (ρ.l 1).length := by assumption
       have : ¬ ρ.l 0 = ρ.l 1 := fun e => h (by rw [e])
       simpa using this)
    | (simp_all)
set_option maxRecDepth 100000 in
theorem rPlain_obs : callObs Φ Try.prog t7 1000 rPlain.f rPlain.vs rPlain.o rPlain.pc rPlain.outs = some
  [{ pc := [SB.lt (SI.len (SL.v 0)) (SI.c (Int.ofNat 100000))],
      eqs :=
        [Eqn.I (SI.len (SL.v 0)) (SI.len (SL.app 2 (SA.l (SL.v 0) (SA.i (SI.c (Int.ofNat 0)) SA.nil)))),
          Eqn.L (SL.v 0) (SL.app 2 (SA.l (SL.v 0) (SA.i (SI.c (Int.ofNat 0)) SA.nil)))] }] := by kernel_rfl
theorem rPlain_ok : rPlain.ok Φ Try.prog := by
  refine call_rule (fun ρ => t7_ok ρ) rPlain_obs ?_
  simp only [and_imp, List.forall_mem_cons, List.not_mem_nil, false_implies, implies_true, and_true, Ob.ok, holds, Eqn.ok, evB_eq, evB_lt, evB_le, evB_not, evB_and, evB_or, evB_eqL, evB_app, evB_v, evB_c, ev_sel, ev_len, ev_v, ev_c, ev_add, ev_sub, ev_mul, ev_quo, ev_rem, ev_bits, ev_wrap, evL_v, evL_lit, evL_app, ev_app, evA_l, evA_i, evA_nil, std_min, std_max, std_cat, std_take, std_drop, std_row, std_set, std_rep, ints_cons, ints_nil, ofNat_lit, negSucc_lit, decide_eq_true_eq, Bool.and_eq_true, Bool.or_eq_true, Bool.not_eq_true', Bool.and_eq_false_iff, Bool.or_eq_false_iff, decide_eq_false_iff_not, aI100, aL100, aI101, aL101, aI102, aL102, aI111, aI112, aI120, aI130, aI131, aL110, aL111, aL112, aL120, aL140, aL141, aL142, aB100, aB130, aB160, aB162, aB199, aL161]
  intro ρ hR
  simp
theorem t8_ok (ρ : Env) : TblOK Φ ρ Try.prog t8 := addFn_ok (addFn_ok (t7_ok ρ) rSame_ok) rPlain_ok
end Go.SF.C14
