/- The functions of the package tlb, shown. -/
import Derived.Test.YtlbppnfmahnnaaaQ1
import Derived.KernelRfl
namespace Go.SF.C14
open Go Go.SF Go.Proofs
set_option linter.unusedVariables false
set_option linter.unusedSimpArgs false

set_option maxRecDepth 100000 in
theorem cFlush_obs : callObs Φ Try.prog t1 1000 cFlush.f cFlush.vs cFlush.o cFlush.pc cFlush.outs = some
  [{ pc := [SB.lt (SI.c (Int.ofNat 0)) (SI.v 2), SB.lt (SI.len (SL.v 0)) (SI.c (Int.ofNat 100000))],
      eqs :=
        [Eqn.T (SB.le (SI.len (SL.app 110 (SA.l (SL.v 0) (SA.i (SI.v 0) (SA.i (SI.v 1) SA.nil))))) (SI.len (SL.v 0))),
          Eqn.B (SB.app 100 (SA.l (SL.v 0) (SA.i (SI.v 0) (SA.i (SI.v 1) SA.nil))))
            (SB.lt (SI.c (Int.ofNat 0))
              (SI.app 100
                (SA.l (SL.v 0)
                  (SA.i (SI.sub (SI.len (SL.v 0)) (SI.c (Int.ofNat 1)))
                    (SA.i (SI.c (Int.ofNat 0)) (SA.i (SI.v 0) (SA.i (SI.v 1) SA.nil))))))),
          Eqn.I (SI.len (SL.app 110 (SA.l (SL.v 0) (SA.i (SI.v 0) (SA.i (SI.v 1) SA.nil)))))
            (SI.len
              (SL.app 100
                (SA.l (SL.v 0)
                  (SA.i (SI.sub (SI.len (SL.v 0)) (SI.c (Int.ofNat 1))) (SA.i (SI.v 0) (SA.i (SI.v 1) SA.nil)))))),
          Eqn.L (SL.app 110 (SA.l (SL.v 0) (SA.i (SI.v 0) (SA.i (SI.v 1) SA.nil))))
            (SL.app 100
              (SA.l (SL.v 0)
                (SA.i (SI.sub (SI.len (SL.v 0)) (SI.c (Int.ofNat 1))) (SA.i (SI.v 0) (SA.i (SI.v 1) SA.nil)))))] }] := by kernel_rfl
theorem cFlush_ok : cFlush.ok Φ Try.prog := by
  refine call_rule (fun ρ => t1_ok ρ) cFlush_obs ?_
  simp only [and_imp, List.forall_mem_cons, List.not_mem_nil, false_implies, implies_true, and_true, Ob.ok, holds, Eqn.ok, evB_eq, evB_lt, evB_le, evB_not, evB_and, evB_or, evB_eqL, evB_app, evB_v, evB_c, ev_sel, ev_len, ev_v, ev_c, ev_add, ev_sub, ev_mul, ev_quo, ev_rem, ev_bits, ev_wrap, evL_v, evL_lit, evL_app, ev_app, evA_l, evA_i, evA_nil, std_min, std_max, std_cat, std_take, std_drop, std_row, std_set, std_rep, ints_cons, ints_nil, ofNat_lit, negSucc_lit, decide_eq_true_eq, Bool.and_eq_true, Bool.or_eq_true, Bool.not_eq_true', Bool.and_eq_false_iff, Bool.or_eq_false_iff, decide_eq_false_iff_not, aI100, aL100, aI101, aL101, aI102, aL102, aI111, aI112, aI120, aI130, aI131, aL110, aL111, aL112, aL120, aL140, aL141, aL142, aB100, aB130, aB160, aB162, aB199, aL161]
  intro ρ hR
  intros
  rw [sweepA_all, sweepN_all _ _ (by omega), any_count]
  refine ⟨by have := keep_len (pOf (ρ.i 0) (ρ.i 1)) (ρ.l 0); omega, ?_, rfl, rfl⟩
  congr 1; simp
set_option maxRecDepth 100000 in
theorem cForget_obs : callObs Φ Try.prog t1 1000 cForget.f cForget.vs cForget.o cForget.pc cForget.outs = some
  [{ pc := [SB.lt (SI.c (Int.ofNat 0)) (SI.v 2), SB.lt (SI.len (SL.v 0)) (SI.c (Int.ofNat 100000))],
      eqs :=
        [Eqn.T (SB.le (SI.len (SL.app 111 (SA.l (SL.v 0) (SA.i (SI.v 0) SA.nil)))) (SI.len (SL.v 0))),
          Eqn.I (SI.app 111 (SA.l (SL.v 0) (SA.i (SI.v 0) SA.nil)))
            (SI.app 101
              (SA.l (SL.v 0)
                (SA.i (SI.sub (SI.len (SL.v 0)) (SI.c (Int.ofNat 1)))
                  (SA.i (SI.c (Int.ofNat 0)) (SA.i (SI.v 0) SA.nil))))),
          Eqn.I (SI.len (SL.app 111 (SA.l (SL.v 0) (SA.i (SI.v 0) SA.nil))))
            (SI.len
              (SL.app 101
                (SA.l (SL.v 0) (SA.i (SI.sub (SI.len (SL.v 0)) (SI.c (Int.ofNat 1))) (SA.i (SI.v 0) SA.nil))))),
          Eqn.L (SL.app 111 (SA.l (SL.v 0) (SA.i (SI.v 0) SA.nil)))
            (SL.app 101
              (SA.l (SL.v 0) (SA.i (SI.sub (SI.len (SL.v 0)) (SI.c (Int.ofNat 1))) (SA.i (SI.v 0) SA.nil))))] }] := by kernel_rfl
theorem cForget_ok : cForget.ok Φ Try.prog := by
  refine call_rule (fun ρ => t1_ok ρ) cForget_obs ?_
  simp only [and_imp, List.forall_mem_cons, List.not_mem_nil, false_implies, implies_true, and_true, Ob.ok, holds, Eqn.ok, evB_eq, evB_lt, evB_le, evB_not, evB_and, evB_or, evB_eqL, evB_app, evB_v, evB_c, ev_sel, ev_len, ev_v, ev_c, ev_add, ev_sub, ev_mul, ev_quo, ev_rem, ev_bits, ev_wrap, evL_v, evL_lit, evL_app, ev_app, evA_l, evA_i, evA_nil, std_min, std_max, std_cat, std_take, std_drop, std_row, std_set, std_rep, ints_cons, ints_nil, ofNat_lit, negSucc_lit, decide_eq_true_eq, Bool.and_eq_true, Bool.or_eq_true, Bool.not_eq_true', Bool.and_eq_false_iff, Bool.or_eq_false_iff, decide_eq_false_iff_not, aI100, aL100, aI101, aL101, aI102, aL102, aI111, aI112, aI120, aI130, aI131, aL110, aL111, aL112, aL120, aL140, aL141, aL142, aB100, aB130, aB160, aB162, aB199, aL161]
  intro ρ hR
  intros
  rw [sweepA_all, sweepN_all _ _ (by omega)]
  exact ⟨by have := keep_len (pTag (ρ.i 0)) (ρ.l 0); omega, rfl, rfl, rfl⟩
set_option maxRecDepth 100000 in
theorem cDrop_obs : callObs Φ Try.prog t1 1000 cDrop.f cDrop.vs cDrop.o cDrop.pc cDrop.outs = some
  [{ pc := [SB.lt (SI.c (Int.ofNat 0)) (SI.v 2), SB.lt (SI.len (SL.v 0)) (SI.c (Int.ofNat 100000))],
      eqs :=
        [Eqn.T (SB.le (SI.len (SL.app 112 (SA.l (SL.v 0) (SA.i (SI.v 0) SA.nil)))) (SI.len (SL.v 0))),
          Eqn.I (SI.app 112 (SA.l (SL.v 0) (SA.i (SI.v 0) SA.nil)))
            (SI.app 102
              (SA.l (SL.v 0)
                (SA.i (SI.sub (SI.len (SL.v 0)) (SI.c (Int.ofNat 1)))
                  (SA.i (SI.c (Int.ofNat 0)) (SA.i (SI.v 0) SA.nil))))),
          Eqn.I (SI.len (SL.app 112 (SA.l (SL.v 0) (SA.i (SI.v 0) SA.nil))))
            (SI.len
              (SL.app 102
                (SA.l (SL.v 0) (SA.i (SI.sub (SI.len (SL.v 0)) (SI.c (Int.ofNat 1))) (SA.i (SI.v 0) SA.nil))))),
          Eqn.L (SL.app 112 (SA.l (SL.v 0) (SA.i (SI.v 0) SA.nil)))
            (SL.app 102
              (SA.l (SL.v 0) (SA.i (SI.sub (SI.len (SL.v 0)) (SI.c (Int.ofNat 1))) (SA.i (SI.v 0) SA.nil))))] }] := by kernel_rfl
theorem cDrop_ok : cDrop.ok Φ Try.prog := by
  refine call_rule (fun ρ => t1_ok ρ) cDrop_obs ?_
  simp only [and_imp, List.forall_mem_cons, List.not_mem_nil, false_implies, implies_true, and_true, Ob.ok, holds, Eqn.ok, evB_eq, evB_lt, evB_le, evB_not, evB_and, evB_or, evB_eqL, evB_app, evB_v, evB_c, ev_sel, ev_len, ev_v, ev_c, ev_add, ev_sub, ev_mul, ev_quo, ev_rem, ev_bits, ev_wrap, evL_v, evL_lit, evL_app, ev_app, evA_l, evA_i, evA_nil, std_min, std_max, std_cat, std_take, std_drop, std_row, std_set, std_rep, ints_cons, ints_nil, ofNat_lit, negSucc_lit, decide_eq_true_eq, Bool.and_eq_true, Bool.or_eq_true, Bool.not_eq_true', Bool.and_eq_false_iff, Bool.or_eq_false_iff, decide_eq_false_iff_not, aI100, aL100, aI101, aL101, aI102, aL102, aI111, aI112, aI120, aI130, aI131, aL110, aL111, aL112, aL120, aL140, aL141, aL142, aB100, aB130, aB160, aB162, aB199, aL161]
  intro ρ hR
  intros
  rw [sweepA_all, sweepN_all _ _ (by omega)]
  exact ⟨by have := keep_len (pFrame (ρ.i 0)) (ρ.l 0); omega, rfl, rfl, rfl⟩
theorem t2_ok (ρ : Env) : TblOK Φ ρ Try.prog t2 := addFn_ok (addFn_ok (addFn_ok (t1_ok ρ) cFlush_ok) cForget_ok) cDrop_ok
set_option maxRecDepth 100000 in
theorem cFill_obs : callObs Φ Try.prog t2 1000 cFill.f cFill.vs cFill.o cFill.pc cFill.outs = some
  [{
      pc :=
        [SB.app 100 (SA.l (SL.v 0) (SA.i (SI.v 0) (SA.i (SI.v 1) SA.nil))),
          SB.le (SI.len (SL.app 110 (SA.l (SL.v 0) (SA.i (SI.v 0) (SA.i (SI.v 1) SA.nil))))) (SI.len (SL.v 0)),
          SB.le (SI.v 3) (SI.c (Int.ofNat 7)), SB.le (SI.c (Int.ofNat 1)) (SI.v 3),
          SB.lt (SI.v 2) (SI.c (Int.ofNat 4096)), SB.le (SI.c (Int.ofNat 0)) (SI.v 2),
          SB.lt (SI.v 1) (SI.c (Int.ofNat 65536)), SB.le (SI.c (Int.ofNat 0)) (SI.v 1),
          SB.le (SI.v 0) (SI.c (Int.ofNat 16)), SB.le (SI.c (Int.ofNat 1)) (SI.v 0),
          SB.lt (SI.c (Int.ofNat 0)) (SI.v 4), SB.lt (SI.len (SL.v 0)) (SI.c (Int.ofNat 100000))],
      eqs :=
        [Eqn.T
            (SB.le
              (SI.len
                (SL.app 120
                  (SA.l (SL.v 0)
                    (SA.i (SI.v 4) (SA.i (SI.v 0) (SA.i (SI.v 1) (SA.i (SI.v 2) (SA.i (SI.v 3) SA.nil))))))))
              (SI.add (SI.len (SL.v 0)) (SI.c (Int.ofNat 1)))),
          Eqn.I (SI.app 120 (SA.i (SI.v 0) (SA.i (SI.v 1) (SA.i (SI.v 2) (SA.i (SI.v 3) SA.nil)))))
            (SI.c (Int.ofNat 0)),
          Eqn.I
            (SI.len
              (SL.app 120
                (SA.l (SL.v 0) (SA.i (SI.v 4) (SA.i (SI.v 0) (SA.i (SI.v 1) (SA.i (SI.v 2) (SA.i (SI.v 3) SA.nil))))))))
            (SI.add (SI.len (SL.app 110 (SA.l (SL.v 0) (SA.i (SI.v 0) (SA.i (SI.v 1) SA.nil))))) (SI.c (Int.ofNat 1))),
          Eqn.L
            (SL.app 120
              (SA.l (SL.v 0) (SA.i (SI.v 4) (SA.i (SI.v 0) (SA.i (SI.v 1) (SA.i (SI.v 2) (SA.i (SI.v 3) SA.nil)))))))
            (SL.app 0
              (SA.l (SL.app 110 (SA.l (SL.v 0) (SA.i (SI.v 0) (SA.i (SI.v 1) SA.nil))))
                (SA.l (SL.app 3 (SA.i (SI.v 0) (SA.i (SI.v 1) (SA.i (SI.v 2) (SA.i (SI.v 3) SA.nil))))) SA.nil)))] },
    {
      pc :=
        [SB.eq (SI.len (SL.app 110 (SA.l (SL.v 0) (SA.i (SI.v 0) (SA.i (SI.v 1) SA.nil))))) (SI.v 4),
          SB.not (SB.app 100 (SA.l (SL.v 0) (SA.i (SI.v 0) (SA.i (SI.v 1) SA.nil)))),
          SB.le (SI.len (SL.app 110 (SA.l (SL.v 0) (SA.i (SI.v 0) (SA.i (SI.v 1) SA.nil))))) (SI.len (SL.v 0)),
          SB.le (SI.v 3) (SI.c (Int.ofNat 7)), SB.le (SI.c (Int.ofNat 1)) (SI.v 3),
          SB.lt (SI.v 2) (SI.c (Int.ofNat 4096)), SB.le (SI.c (Int.ofNat 0)) (SI.v 2),
          SB.lt (SI.v 1) (SI.c (Int.ofNat 65536)), SB.le (SI.c (Int.ofNat 0)) (SI.v 1),
          SB.le (SI.v 0) (SI.c (Int.ofNat 16)), SB.le (SI.c (Int.ofNat 1)) (SI.v 0),
          SB.lt (SI.c (Int.ofNat 0)) (SI.v 4), SB.lt (SI.len (SL.v 0)) (SI.c (Int.ofNat 100000))],
      eqs :=
        [Eqn.T
            (SB.le
              (SI.len
                (SL.app 120
                  (SA.l (SL.v 0)
                    (SA.i (SI.v 4) (SA.i (SI.v 0) (SA.i (SI.v 1) (SA.i (SI.v 2) (SA.i (SI.v 3) SA.nil))))))))
              (SI.add (SI.len (SL.v 0)) (SI.c (Int.ofNat 1)))),
          Eqn.I (SI.app 120 (SA.i (SI.v 0) (SA.i (SI.v 1) (SA.i (SI.v 2) (SA.i (SI.v 3) SA.nil)))))
            (SI.c (Int.ofNat 0)),
          Eqn.I
            (SI.len
              (SL.app 120
                (SA.l (SL.v 0) (SA.i (SI.v 4) (SA.i (SI.v 0) (SA.i (SI.v 1) (SA.i (SI.v 2) (SA.i (SI.v 3) SA.nil))))))))
            (SI.add
              (SI.add
                (SI.len
                  (SL.app 1
                    (SA.l (SL.app 110 (SA.l (SL.v 0) (SA.i (SI.v 0) (SA.i (SI.v 1) SA.nil))))
                      (SA.i (SI.c (Int.ofNat 0)) SA.nil))))
                (SI.len
                  (SL.app 2
                    (SA.l (SL.app 110 (SA.l (SL.v 0) (SA.i (SI.v 0) (SA.i (SI.v 1) SA.nil))))
                      (SA.i (SI.c (Int.ofNat 1)) SA.nil)))))
              (SI.c (Int.ofNat 1))),
          Eqn.L
            (SL.app 120
              (SA.l (SL.v 0) (SA.i (SI.v 4) (SA.i (SI.v 0) (SA.i (SI.v 1) (SA.i (SI.v 2) (SA.i (SI.v 3) SA.nil)))))))
            (SL.app 0
              (SA.l
                (SL.app 0
                  (SA.l
                    (SL.app 1
                      (SA.l (SL.app 110 (SA.l (SL.v 0) (SA.i (SI.v 0) (SA.i (SI.v 1) SA.nil))))
                        (SA.i (SI.c (Int.ofNat 0)) SA.nil)))
                    (SA.l
                      (SL.app 2
                        (SA.l (SL.app 110 (SA.l (SL.v 0) (SA.i (SI.v 0) (SA.i (SI.v 1) SA.nil))))
                          (SA.i (SI.c (Int.ofNat 1)) SA.nil)))
                      SA.nil)))
                (SA.l (SL.app 3 (SA.i (SI.v 0) (SA.i (SI.v 1) (SA.i (SI.v 2) (SA.i (SI.v 3) SA.nil))))) SA.nil)))] },
    {
      pc :=
        [SB.not (SB.eq (SI.len (SL.app 110 (SA.l (SL.v 0) (SA.i (SI.v 0) (SA.i (SI.v 1) SA.nil))))) (SI.v 4)),
          SB.not (SB.app 100 (SA.l (SL.v 0) (SA.i (SI.v 0) (SA.i (SI.v 1) SA.nil)))),
          SB.le (SI.len (SL.app 110 (SA.l (SL.v 0) (SA.i (SI.v 0) (SA.i (SI.v 1) SA.nil))))) (SI.len (SL.v 0)),
          SB.le (SI.v 3) (SI.c (Int.ofNat 7)), SB.le (SI.c (Int.ofNat 1)) (SI.v 3),
          SB.lt (SI.v 2) (SI.c (Int.ofNat 4096)), SB.le (SI.c (Int.ofNat 0)) (SI.v 2),
          SB.lt (SI.v 1) (SI.c (Int.ofNat 65536)), SB.le (SI.c (Int.ofNat 0)) (SI.v 1),
          SB.le (SI.v 0) (SI.c (Int.ofNat 16)), SB.le (SI.c (Int.ofNat 1)) (SI.v 0),
          SB.lt (SI.c (Int.ofNat 0)) (SI.v 4), SB.lt (SI.len (SL.v 0)) (SI.c (Int.ofNat 100000))],
      eqs :=
        [Eqn.T
            (SB.le
              (SI.len
                (SL.app 120
                  (SA.l (SL.v 0)
                    (SA.i (SI.v 4) (SA.i (SI.v 0) (SA.i (SI.v 1) (SA.i (SI.v 2) (SA.i (SI.v 3) SA.nil))))))))
              (SI.add (SI.len (SL.v 0)) (SI.c (Int.ofNat 1)))),
          Eqn.I (SI.app 120 (SA.i (SI.v 0) (SA.i (SI.v 1) (SA.i (SI.v 2) (SA.i (SI.v 3) SA.nil)))))
            (SI.c (Int.ofNat 0)),
          Eqn.I
            (SI.len
              (SL.app 120
                (SA.l (SL.v 0) (SA.i (SI.v 4) (SA.i (SI.v 0) (SA.i (SI.v 1) (SA.i (SI.v 2) (SA.i (SI.v 3) SA.nil))))))))
            (SI.add (SI.len (SL.app 110 (SA.l (SL.v 0) (SA.i (SI.v 0) (SA.i (SI.v 1) SA.nil))))) (SI.c (Int.ofNat 1))),
          Eqn.L
            (SL.app 120
              (SA.l (SL.v 0) (SA.i (SI.v 4) (SA.i (SI.v 0) (SA.i (SI.v 1) (SA.i (SI.v 2) (SA.i (SI.v 3) SA.nil)))))))
            (SL.app 0
              (SA.l (SL.app 110 (SA.l (SL.v 0) (SA.i (SI.v 0) (SA.i (SI.v 1) SA.nil))))
                (SA.l (SL.app 3 (SA.i (SI.v 0) (SA.i (SI.v 1) (SA.i (SI.v 2) (SA.i (SI.v 3) SA.nil))))) SA.nil)))] },
    {
      pc :=
        [SB.not (SB.le (SI.v 3) (SI.c (Int.ofNat 7))), SB.le (SI.c (Int.ofNat 1)) (SI.v 3),
          SB.lt (SI.v 2) (SI.c (Int.ofNat 4096)), SB.le (SI.c (Int.ofNat 0)) (SI.v 2),
          SB.lt (SI.v 1) (SI.c (Int.ofNat 65536)), SB.le (SI.c (Int.ofNat 0)) (SI.v 1),
          SB.le (SI.v 0) (SI.c (Int.ofNat 16)), SB.le (SI.c (Int.ofNat 1)) (SI.v 0),
          SB.lt (SI.c (Int.ofNat 0)) (SI.v 4), SB.lt (SI.len (SL.v 0)) (SI.c (Int.ofNat 100000))],
      eqs :=
        [Eqn.T
            (SB.le
              (SI.len
                (SL.app 120
                  (SA.l (SL.v 0)
                    (SA.i (SI.v 4) (SA.i (SI.v 0) (SA.i (SI.v 1) (SA.i (SI.v 2) (SA.i (SI.v 3) SA.nil))))))))
              (SI.add (SI.len (SL.v 0)) (SI.c (Int.ofNat 1)))),
          Eqn.I (SI.app 120 (SA.i (SI.v 0) (SA.i (SI.v 1) (SA.i (SI.v 2) (SA.i (SI.v 3) SA.nil)))))
            (SI.c (Int.ofNat 1)),
          Eqn.I
            (SI.len
              (SL.app 120
                (SA.l (SL.v 0) (SA.i (SI.v 4) (SA.i (SI.v 0) (SA.i (SI.v 1) (SA.i (SI.v 2) (SA.i (SI.v 3) SA.nil))))))))
            (SI.len (SL.v 0)),
          Eqn.L
            (SL.app 120
              (SA.l (SL.v 0) (SA.i (SI.v 4) (SA.i (SI.v 0) (SA.i (SI.v 1) (SA.i (SI.v 2) (SA.i (SI.v 3) SA.nil)))))))
            (SL.v 0)] },
    {
      pc :=
        [SB.not (SB.le (SI.c (Int.ofNat 1)) (SI.v 3)), SB.lt (SI.v 2) (SI.c (Int.ofNat 4096)),
          SB.le (SI.c (Int.ofNat 0)) (SI.v 2), SB.lt (SI.v 1) (SI.c (Int.ofNat 65536)),
          SB.le (SI.c (Int.ofNat 0)) (SI.v 1), SB.le (SI.v 0) (SI.c (Int.ofNat 16)),
          SB.le (SI.c (Int.ofNat 1)) (SI.v 0), SB.lt (SI.c (Int.ofNat 0)) (SI.v 4),
          SB.lt (SI.len (SL.v 0)) (SI.c (Int.ofNat 100000))],
      eqs :=
        [Eqn.T
            (SB.le
              (SI.len
                (SL.app 120
                  (SA.l (SL.v 0)
                    (SA.i (SI.v 4) (SA.i (SI.v 0) (SA.i (SI.v 1) (SA.i (SI.v 2) (SA.i (SI.v 3) SA.nil))))))))
              (SI.add (SI.len (SL.v 0)) (SI.c (Int.ofNat 1)))),
          Eqn.I (SI.app 120 (SA.i (SI.v 0) (SA.i (SI.v 1) (SA.i (SI.v 2) (SA.i (SI.v 3) SA.nil)))))
            (SI.c (Int.ofNat 1)),
          Eqn.I
            (SI.len
              (SL.app 120
                (SA.l (SL.v 0) (SA.i (SI.v 4) (SA.i (SI.v 0) (SA.i (SI.v 1) (SA.i (SI.v 2) (SA.i (SI.v 3) SA.nil))))))))
            (SI.len (SL.v 0)),
          Eqn.L
            (SL.app 120
              (SA.l (SL.v 0) (SA.i (SI.v 4) (SA.i (SI.v 0) (SA.i (SI.v 1) (SA.i (SI.v 2) (SA.i (SI.v 3) SA.nil)))))))
            (SL.v 0)] },
    {
      pc :=
        [SB.not (SB.lt (SI.v 2) (SI.c (Int.ofNat 4096))), SB.le (SI.c (Int.ofNat 0)) (SI.v 2),
          SB.lt (SI.v 1) (SI.c (Int.ofNat 65536)), SB.le (SI.c (Int.ofNat 0)) (SI.v 1),
          SB.le (SI.v 0) (SI.c (Int.ofNat 16)), SB.le (SI.c (Int.ofNat 1)) (SI.v 0),
          SB.lt (SI.c (Int.ofNat 0)) (SI.v 4), SB.lt (SI.len (SL.v 0)) (SI.c (Int.ofNat 100000))],
      eqs :=
        [Eqn.T
            (SB.le
              (SI.len
                (SL.app 120
                  (SA.l (SL.v 0)
                    (SA.i (SI.v 4) (SA.i (SI.v 0) (SA.i (SI.v 1) (SA.i (SI.v 2) (SA.i (SI.v 3) SA.nil))))))))
              (SI.add (SI.len (SL.v 0)) (SI.c (Int.ofNat 1)))),
          Eqn.I (SI.app 120 (SA.i (SI.v 0) (SA.i (SI.v 1) (SA.i (SI.v 2) (SA.i (SI.v 3) SA.nil)))))
            (SI.c (Int.ofNat 1)),
          Eqn.I
            (SI.len
              (SL.app 120
                (SA.l (SL.v 0) (SA.i (SI.v 4) (SA.i (SI.v 0) (SA.i (SI.v 1) (SA.i (SI.v 2) (SA.i (SI.v 3) SA.nil))))))))
            (SI.len (SL.v 0)),
          Eqn.L
            (SL.app 120
              (SA.l (SL.v 0) (SA.i (SI.v 4) (SA.i (SI.v 0) (SA.i (SI.v 1) (SA.i (SI.v 2) (SA.i (SI.v 3) SA.nil)))))))
            (SL.v 0)] },
    {
      pc :=
        [SB.not (SB.le (SI.c (Int.ofNat 0)) (SI.v 2)), SB.lt (SI.v 1) (SI.c (Int.ofNat 65536)),
          SB.le (SI.c (Int.ofNat 0)) (SI.v 1), SB.le (SI.v 0) (SI.c (Int.ofNat 16)),
          SB.le (SI.c (Int.ofNat 1)) (SI.v 0), SB.lt (SI.c (Int.ofNat 0)) (SI.v 4),
          SB.lt (SI.len (SL.v 0)) (SI.c (Int.ofNat 100000))],
      eqs :=
        [Eqn.T
            (SB.le
              (SI.len
                (SL.app 120
                  (SA.l (SL.v 0)
                    (SA.i (SI.v 4) (SA.i (SI.v 0) (SA.i (SI.v 1) (SA.i (SI.v 2) (SA.i (SI.v 3) SA.nil))))))))
              (SI.add (SI.len (SL.v 0)) (SI.c (Int.ofNat 1)))),
          Eqn.I (SI.app 120 (SA.i (SI.v 0) (SA.i (SI.v 1) (SA.i (SI.v 2) (SA.i (SI.v 3) SA.nil)))))
            (SI.c (Int.ofNat 1)),
          Eqn.I
            (SI.len
              (SL.app 120
                (SA.l (SL.v 0) (SA.i (SI.v 4) (SA.i (SI.v 0) (SA.i (SI.v 1) (SA.i (SI.v 2) (SA.i (SI.v 3) SA.nil))))))))
            (SI.len (SL.v 0)),
          Eqn.L
            (SL.app 120
              (SA.l (SL.v 0) (SA.i (SI.v 4) (SA.i (SI.v 0) (SA.i (SI.v 1) (SA.i (SI.v 2) (SA.i (SI.v 3) SA.nil)))))))
            (SL.v 0)] },
    {
      pc :=
        [SB.not (SB.lt (SI.v 1) (SI.c (Int.ofNat 65536))), SB.le (SI.c (Int.ofNat 0)) (SI.v 1),
          SB.le (SI.v 0) (SI.c (Int.ofNat 16)), SB.le (SI.c (Int.ofNat 1)) (SI.v 0),
          SB.lt (SI.c (Int.ofNat 0)) (SI.v 4), SB.lt (SI.len (SL.v 0)) (SI.c (Int.ofNat 100000))],
      eqs :=
        [Eqn.T
            (SB.le
              (SI.len
                (SL.app 120
                  (SA.l (SL.v 0)
                    (SA.i (SI.v 4) (SA.i (SI.v 0) (SA.i (SI.v 1) (SA.i (SI.v 2) (SA.i (SI.v 3) SA.nil))))))))
              (SI.add (SI.len (SL.v 0)) (SI.c (Int.ofNat 1)))),
          Eqn.I (SI.app 120 (SA.i (SI.v 0) (SA.i (SI.v 1) (SA.i (SI.v 2) (SA.i (SI.v 3) SA.nil)))))
            (SI.c (Int.ofNat 1)),
          Eqn.I
            (SI.len
              (SL.app 120
                (SA.l (SL.v 0) (SA.i (SI.v 4) (SA.i (SI.v 0) (SA.i (SI.v 1) (SA.i (SI.v 2) (SA.i (SI.v 3) SA.nil))))))))
            (SI.len (SL.v 0)),
          Eqn.L
            (SL.app 120
              (SA.l (SL.v 0) (SA.i (SI.v 4) (SA.i (SI.v 0) (SA.i (SI.v 1) (SA.i (SI.v 2) (SA.i (SI.v 3) SA.nil)))))))
            (SL.v 0)] },
    {
      pc :=
        [SB.not (SB.le (SI.c (Int.ofNat 0)) (SI.v 1)), SB.le (SI.v 0) (SI.c (Int.ofNat 16)),
          SB.le (SI.c (Int.ofNat 1)) (SI.v 0), SB.lt (SI.c (Int.ofNat 0)) (SI.v 4),
          SB.lt (SI.len (SL.v 0)) (SI.c (Int.ofNat 100000))],
      eqs :=
        [Eqn.T
            (SB.le
              (SI.len
                (SL.app 120
                  (SA.l (SL.v 0)
                    (SA.i (SI.v 4) (SA.i (SI.v 0) (SA.i (SI.v 1) (SA.i (SI.v 2) (SA.i (SI.v 3) SA.nil))))))))
              (SI.add (SI.len (SL.v 0)) (SI.c (Int.ofNat 1)))),
          Eqn.I (SI.app 120 (SA.i (SI.v 0) (SA.i (SI.v 1) (SA.i (SI.v 2) (SA.i (SI.v 3) SA.nil)))))
            (SI.c (Int.ofNat 1)),
          Eqn.I
            (SI.len
              (SL.app 120
                (SA.l (SL.v 0) (SA.i (SI.v 4) (SA.i (SI.v 0) (SA.i (SI.v 1) (SA.i (SI.v 2) (SA.i (SI.v 3) SA.nil))))))))
            (SI.len (SL.v 0)),
          Eqn.L
            (SL.app 120
              (SA.l (SL.v 0) (SA.i (SI.v 4) (SA.i (SI.v 0) (SA.i (SI.v 1) (SA.i (SI.v 2) (SA.i (SI.v 3) SA.nil)))))))
            (SL.v 0)] },
    {
      pc :=
        [SB.not (SB.le (SI.v 0) (SI.c (Int.ofNat 16))), SB.le (SI.c (Int.ofNat 1)) (SI.v 0),
          SB.lt (SI.c (Int.ofNat 0)) (SI.v 4), SB.lt (SI.len (SL.v 0)) (SI.c (Int.ofNat 100000))],
      eqs :=
        [Eqn.T
            (SB.le
              (SI.len
                (SL.app 120
                  (SA.l (SL.v 0)
                    (SA.i (SI.v 4) (SA.i (SI.v 0) (SA.i (SI.v 1) (SA.i (SI.v 2) (SA.i (SI.v 3) SA.nil))))))))
              (SI.add (SI.len (SL.v 0)) (SI.c (Int.ofNat 1)))),
          Eqn.I (SI.app 120 (SA.i (SI.v 0) (SA.i (SI.v 1) (SA.i (SI.v 2) (SA.i (SI.v 3) SA.nil)))))
            (SI.c (Int.ofNat 1)),
          Eqn.I
            (SI.len
              (SL.app 120
                (SA.l (SL.v 0) (SA.i (SI.v 4) (SA.i (SI.v 0) (SA.i (SI.v 1) (SA.i (SI.v 2) (SA.i (SI.v 3) SA.nil))))))))
            (SI.len (SL.v 0)),
          Eqn.L
            (SL.app 120
              (SA.l (SL.v 0) (SA.i (SI.v 4) (SA.i (SI.v 0) (SA.i (SI.v 1) (SA.i (SI.v 2) (SA.i (SI.v 3) SA.nil)))))))
            (SL.v 0)] },
    {
      pc :=
        [SB.not (SB.le (SI.c (Int.ofNat 1)) (SI.v 0)), SB.lt (SI.c (Int.ofNat 0)) (SI.v 4),
          SB.lt (SI.len (SL.v 0)) (SI.c (Int.ofNat 100000))],
      eqs :=
        [Eqn.T
            (SB.le
              (SI.len
                (SL.app 120
                  (SA.l (SL.v 0)
                    (SA.i (SI.v 4) (SA.i (SI.v 0) (SA.i (SI.v 1) (SA.i (SI.v 2) (SA.i (SI.v 3) SA.nil))))))))
              (SI.add (SI.len (SL.v 0)) (SI.c (Int.ofNat 1)))),
          Eqn.I (SI.app 120 (SA.i (SI.v 0) (SA.i (SI.v 1) (SA.i (SI.v 2) (SA.i (SI.v 3) SA.nil)))))
            (SI.c (Int.ofNat 1)),
          Eqn.I
            (SI.len
              (SL.app 120
                (SA.l (SL.v 0) (SA.i (SI.v 4) (SA.i (SI.v 0) (SA.i (SI.v 1) (SA.i (SI.v 2) (SA.i (SI.v 3) SA.nil))))))))
            (SI.len (SL.v 0)),
          Eqn.L
            (SL.app 120
              (SA.l (SL.v 0) (SA.i (SI.v 4) (SA.i (SI.v 0) (SA.i (SI.v 1) (SA.i (SI.v 2) (SA.i (SI.v 3) SA.nil)))))))
            (SL.v 0)] }] := by kernel_rfl
theorem cFill_ok : cFill.ok Φ Try.prog := by
  refine call_rule (fun ρ => t2_ok ρ) cFill_obs ?_
  simp only [and_imp, List.forall_mem_cons, List.not_mem_nil, false_implies, implies_true, and_true, Ob.ok, holds, Eqn.ok, evB_eq, evB_lt, evB_le, evB_not, evB_and, evB_or, evB_eqL, evB_app, evB_v, evB_c, ev_sel, ev_len, ev_v, ev_c, ev_add, ev_sub, ev_mul, ev_quo, ev_rem, ev_bits, ev_wrap, evL_v, evL_lit, evL_app, ev_app, evA_l, evA_i, evA_nil, std_min, std_max, std_cat, std_take, std_drop, std_row, std_set, std_rep, ints_cons, ints_nil, ofNat_lit, negSucc_lit, decide_eq_true_eq, Bool.and_eq_true, Bool.or_eq_true, Bool.not_eq_true', Bool.and_eq_false_iff, Bool.or_eq_false_iff, decide_eq_false_iff_not, aI100, aL100, aI101, aL101, aI102, aL102, aI111, aI112, aI120, aI130, aI131, aL110, aL111, aL112, aL120, aL140, aL141, aL142, aB100, aB130, aB160, aB162, aB199, aL161]
  repeat' apply And.intro
  all_goals intro ρ hR
  all_goals intros
  all_goals first
    | (have hr : rightB (ρ.i 0) (ρ.i 1) (ρ.i 2) (ρ.i 3) = false := by
         simp only [rightB, Bool.and_eq_false_iff, decide_eq_false_iff_not]; omega
       rw [fillL_wrong hr, hr]
       exact ⟨by omega, rfl, rfl, rfl⟩)
    | (have hr : rightB (ρ.i 0) (ρ.i 1) (ρ.i 2) (ρ.i 3) = true := by simp only [rightB, Bool.and_eq_true, decide_eq_true_eq]; omega
       have ha : (ρ.l 0).any (pOf (ρ.i 0) (ρ.i 1)) = false := by assumption
       have hk : keep (pOf (ρ.i 0) (ρ.i 1)) (ρ.l 0) = ρ.l 0 := keep_none ha
       have hl : (keep (pOf (ρ.i 0) (ρ.i 1)) (ρ.l 0)).length = (ρ.l 0).length := by rw [hk]
       rw [fillL_room hr ha (by omega), if_pos hr, hk]
       simp)
    | (have hr : rightB (ρ.i 0) (ρ.i 1) (ρ.i 2) (ρ.i 3) = true := by simp only [rightB, Bool.and_eq_true, decide_eq_true_eq]; omega
       have ha : (ρ.l 0).any (pOf (ρ.i 0) (ρ.i 1)) = false := by assumption
       have hk : keep (pOf (ρ.i 0) (ρ.i 1)) (ρ.l 0) = ρ.l 0 := keep_none ha
       have hl : (keep (pOf (ρ.i 0) (ρ.i 1)) (ρ.l 0)).length = (ρ.l 0).length := by rw [hk]
       rw [fillL_more hr (.inr (by omega)), if_pos hr, hk]
       refine ⟨?_, rfl, by simp, rfl⟩
       simp)
    | (have hr : rightB (ρ.i 0) (ρ.i 1) (ρ.i 2) (ρ.i 3) = true := by simp only [rightB, Bool.and_eq_true, decide_eq_true_eq]; omega
       have ha : (ρ.l 0).any (pOf (ρ.i 0) (ρ.i 1)) = true := by assumption
       rw [fillL_more hr (.inl ha), if_pos hr]
       refine ⟨?_, rfl, by simp, rfl⟩
       simp; omega)
set_option maxRecDepth 100000 in
theorem lk0_obs : loopObs Φ Try.prog noTbl 1000 lk0.f (loopAt Try.prog lk0.f lk0.id) lk0.n lk0.T (.sub (.add (.len l0) (.c 1)) (.v 3)) lk0.outs = some
  [{
      pc :=
        [SB.lt (SI.v 2) (SI.c (Int.ofNat 0)), SB.eq (SI.sel (SL.v 0) (SI.v 3) 1) (SI.v 1),
          SB.eq (SI.sel (SL.v 0) (SI.v 3) 0) (SI.v 0), SB.lt (SI.v 3) (SI.len (SL.v 0)),
          SB.le (SI.c (Int.ofNat 0)) (SI.v 3), SB.le (SI.v 3) (SI.len (SL.v 0)),
          SB.lt (SI.len (SL.v 0)) (SI.c (Int.ofNat 100000))],
      eqs :=
        [Eqn.T (SB.app 130 (SA.l (SL.v 0) (SA.i (SI.v 3) (SA.i (SI.v 0) (SA.i (SI.v 1) SA.nil))))),
          Eqn.I (SI.app 130 (SA.l (SL.v 0) (SA.i (SI.v 3) (SA.i (SI.v 0) (SA.i (SI.v 1) (SA.i (SI.v 2) SA.nil))))))
            (SI.c (Int.ofNat 0)),
          Eqn.I (SI.app 131 (SA.l (SL.v 0) (SA.i (SI.v 3) (SA.i (SI.v 0) (SA.i (SI.v 1) (SA.i (SI.v 2) SA.nil))))))
            (SI.c (Int.ofNat 7))] },
    {
      pc :=
        [SB.lt (SI.c (Int.ofNat 7)) (SI.v 2), SB.not (SB.lt (SI.v 2) (SI.c (Int.ofNat 0))),
          SB.eq (SI.sel (SL.v 0) (SI.v 3) 1) (SI.v 1), SB.eq (SI.sel (SL.v 0) (SI.v 3) 0) (SI.v 0),
          SB.lt (SI.v 3) (SI.len (SL.v 0)), SB.le (SI.c (Int.ofNat 0)) (SI.v 3), SB.le (SI.v 3) (SI.len (SL.v 0)),
          SB.lt (SI.len (SL.v 0)) (SI.c (Int.ofNat 100000))],
      eqs :=
        [Eqn.T (SB.app 130 (SA.l (SL.v 0) (SA.i (SI.v 3) (SA.i (SI.v 0) (SA.i (SI.v 1) SA.nil))))),
          Eqn.I (SI.app 130 (SA.l (SL.v 0) (SA.i (SI.v 3) (SA.i (SI.v 0) (SA.i (SI.v 1) (SA.i (SI.v 2) SA.nil))))))
            (SI.c (Int.ofNat 0)),
          Eqn.I (SI.app 131 (SA.l (SL.v 0) (SA.i (SI.v 3) (SA.i (SI.v 0) (SA.i (SI.v 1) (SA.i (SI.v 2) SA.nil))))))
            (SI.c (Int.ofNat 7))] },
    {
      pc :=
        [SB.eq (SI.bits BinOp.andNot IntKind.i64 (SI.v 2) (SI.sel (SL.v 0) (SI.v 3) 3)) (SI.c (Int.ofNat 0)),
          SB.not (SB.lt (SI.c (Int.ofNat 7)) (SI.v 2)), SB.not (SB.lt (SI.v 2) (SI.c (Int.ofNat 0))),
          SB.eq (SI.sel (SL.v 0) (SI.v 3) 1) (SI.v 1), SB.eq (SI.sel (SL.v 0) (SI.v 3) 0) (SI.v 0),
          SB.lt (SI.v 3) (SI.len (SL.v 0)), SB.le (SI.c (Int.ofNat 0)) (SI.v 3), SB.le (SI.v 3) (SI.len (SL.v 0)),
          SB.lt (SI.len (SL.v 0)) (SI.c (Int.ofNat 100000))],
      eqs :=
        [Eqn.T (SB.app 130 (SA.l (SL.v 0) (SA.i (SI.v 3) (SA.i (SI.v 0) (SA.i (SI.v 1) SA.nil))))),
          Eqn.I (SI.app 130 (SA.l (SL.v 0) (SA.i (SI.v 3) (SA.i (SI.v 0) (SA.i (SI.v 1) (SA.i (SI.v 2) SA.nil))))))
            (SI.sel (SL.v 0) (SI.v 3) 2),
          Eqn.I (SI.app 131 (SA.l (SL.v 0) (SA.i (SI.v 3) (SA.i (SI.v 0) (SA.i (SI.v 1) (SA.i (SI.v 2) SA.nil))))))
            (SI.c (Int.ofNat 0))] },
    {
      pc :=
        [SB.not (SB.eq (SI.bits BinOp.andNot IntKind.i64 (SI.v 2) (SI.sel (SL.v 0) (SI.v 3) 3)) (SI.c (Int.ofNat 0))),
          SB.not (SB.lt (SI.c (Int.ofNat 7)) (SI.v 2)), SB.not (SB.lt (SI.v 2) (SI.c (Int.ofNat 0))),
          SB.eq (SI.sel (SL.v 0) (SI.v 3) 1) (SI.v 1), SB.eq (SI.sel (SL.v 0) (SI.v 3) 0) (SI.v 0),
          SB.lt (SI.v 3) (SI.len (SL.v 0)), SB.le (SI.c (Int.ofNat 0)) (SI.v 3), SB.le (SI.v 3) (SI.len (SL.v 0)),
          SB.lt (SI.len (SL.v 0)) (SI.c (Int.ofNat 100000))],
      eqs :=
        [Eqn.T (SB.app 130 (SA.l (SL.v 0) (SA.i (SI.v 3) (SA.i (SI.v 0) (SA.i (SI.v 1) SA.nil))))),
          Eqn.I (SI.app 130 (SA.l (SL.v 0) (SA.i (SI.v 3) (SA.i (SI.v 0) (SA.i (SI.v 1) (SA.i (SI.v 2) SA.nil))))))
            (SI.c (Int.ofNat 0)),
          Eqn.I (SI.app 131 (SA.l (SL.v 0) (SA.i (SI.v 3) (SA.i (SI.v 0) (SA.i (SI.v 1) (SA.i (SI.v 2) SA.nil))))))
            (SI.c (Int.ofNat 7))] },
    {
      pc :=
        [SB.not (SB.eq (SI.sel (SL.v 0) (SI.v 3) 1) (SI.v 1)), SB.eq (SI.sel (SL.v 0) (SI.v 3) 0) (SI.v 0),
          SB.lt (SI.v 3) (SI.len (SL.v 0)), SB.le (SI.c (Int.ofNat 0)) (SI.v 3), SB.le (SI.v 3) (SI.len (SL.v 0)),
          SB.lt (SI.len (SL.v 0)) (SI.c (Int.ofNat 100000))],
      eqs :=
        [Eqn.T
            (SB.lt (SI.sub (SI.add (SI.len (SL.v 0)) (SI.c (Int.ofNat 1))) (SI.add (SI.v 3) (SI.c (Int.ofNat 1))))
              (SI.sub (SI.add (SI.len (SL.v 0)) (SI.c (Int.ofNat 1))) (SI.v 3))),
          Eqn.T (SB.lt (SI.c (Int.ofNat 0)) (SI.sub (SI.add (SI.len (SL.v 0)) (SI.c (Int.ofNat 1))) (SI.v 3)))] },
    {
      pc :=
        [SB.app 130
            (SA.l (SL.v 0) (SA.i (SI.add (SI.v 3) (SI.c (Int.ofNat 1))) (SA.i (SI.v 0) (SA.i (SI.v 1) SA.nil)))),
          SB.not (SB.eq (SI.sel (SL.v 0) (SI.v 3) 1) (SI.v 1)), SB.eq (SI.sel (SL.v 0) (SI.v 3) 0) (SI.v 0),
          SB.lt (SI.v 3) (SI.len (SL.v 0)), SB.le (SI.c (Int.ofNat 0)) (SI.v 3), SB.le (SI.v 3) (SI.len (SL.v 0)),
          SB.lt (SI.len (SL.v 0)) (SI.c (Int.ofNat 100000))],
      eqs :=
        [Eqn.T (SB.app 130 (SA.l (SL.v 0) (SA.i (SI.v 3) (SA.i (SI.v 0) (SA.i (SI.v 1) SA.nil))))),
          Eqn.I (SI.app 130 (SA.l (SL.v 0) (SA.i (SI.v 3) (SA.i (SI.v 0) (SA.i (SI.v 1) (SA.i (SI.v 2) SA.nil))))))
            (SI.app 130
              (SA.l (SL.v 0)
                (SA.i (SI.add (SI.v 3) (SI.c (Int.ofNat 1))) (SA.i (SI.v 0) (SA.i (SI.v 1) (SA.i (SI.v 2) SA.nil)))))),
          Eqn.I (SI.app 131 (SA.l (SL.v 0) (SA.i (SI.v 3) (SA.i (SI.v 0) (SA.i (SI.v 1) (SA.i (SI.v 2) SA.nil))))))
            (SI.app 131
              (SA.l (SL.v 0)
                (SA.i (SI.add (SI.v 3) (SI.c (Int.ofNat 1)))
                  (SA.i (SI.v 0) (SA.i (SI.v 1) (SA.i (SI.v 2) SA.nil))))))] },
    {
      pc :=
        [SB.not
            (SB.app 130
              (SA.l (SL.v 0) (SA.i (SI.add (SI.v 3) (SI.c (Int.ofNat 1))) (SA.i (SI.v 0) (SA.i (SI.v 1) SA.nil))))),
          SB.not (SB.eq (SI.sel (SL.v 0) (SI.v 3) 1) (SI.v 1)), SB.eq (SI.sel (SL.v 0) (SI.v 3) 0) (SI.v 0),
          SB.lt (SI.v 3) (SI.len (SL.v 0)), SB.le (SI.c (Int.ofNat 0)) (SI.v 3), SB.le (SI.v 3) (SI.len (SL.v 0)),
          SB.lt (SI.len (SL.v 0)) (SI.c (Int.ofNat 100000))],
      eqs := [Eqn.T (SB.not (SB.app 130 (SA.l (SL.v 0) (SA.i (SI.v 3) (SA.i (SI.v 0) (SA.i (SI.v 1) SA.nil))))))] },
    {
      pc :=
        [SB.not (SB.eq (SI.sel (SL.v 0) (SI.v 3) 0) (SI.v 0)), SB.lt (SI.v 3) (SI.len (SL.v 0)),
          SB.le (SI.c (Int.ofNat 0)) (SI.v 3), SB.le (SI.v 3) (SI.len (SL.v 0)),
          SB.lt (SI.len (SL.v 0)) (SI.c (Int.ofNat 100000))],
      eqs :=
        [Eqn.T
            (SB.lt (SI.sub (SI.add (SI.len (SL.v 0)) (SI.c (Int.ofNat 1))) (SI.add (SI.v 3) (SI.c (Int.ofNat 1))))
              (SI.sub (SI.add (SI.len (SL.v 0)) (SI.c (Int.ofNat 1))) (SI.v 3))),
          Eqn.T (SB.lt (SI.c (Int.ofNat 0)) (SI.sub (SI.add (SI.len (SL.v 0)) (SI.c (Int.ofNat 1))) (SI.v 3)))] },
    {
      pc :=
        [SB.app 130
            (SA.l (SL.v 0) (SA.i (SI.add (SI.v 3) (SI.c (Int.ofNat 1))) (SA.i (SI.v 0) (SA.i (SI.v 1) SA.nil)))),
          SB.not (SB.eq (SI.sel (SL.v 0) (SI.v 3) 0) (SI.v 0)), SB.lt (SI.v 3) (SI.len (SL.v 0)),
          SB.le (SI.c (Int.ofNat 0)) (SI.v 3), SB.le (SI.v 3) (SI.len (SL.v 0)),
          SB.lt (SI.len (SL.v 0)) (SI.c (Int.ofNat 100000))],
      eqs :=
        [Eqn.T (SB.app 130 (SA.l (SL.v 0) (SA.i (SI.v 3) (SA.i (SI.v 0) (SA.i (SI.v 1) SA.nil))))),
          Eqn.I (SI.app 130 (SA.l (SL.v 0) (SA.i (SI.v 3) (SA.i (SI.v 0) (SA.i (SI.v 1) (SA.i (SI.v 2) SA.nil))))))
            (SI.app 130
              (SA.l (SL.v 0)
                (SA.i (SI.add (SI.v 3) (SI.c (Int.ofNat 1))) (SA.i (SI.v 0) (SA.i (SI.v 1) (SA.i (SI.v 2) SA.nil)))))),
          Eqn.I (SI.app 131 (SA.l (SL.v 0) (SA.i (SI.v 3) (SA.i (SI.v 0) (SA.i (SI.v 1) (SA.i (SI.v 2) SA.nil))))))
            (SI.app 131
              (SA.l (SL.v 0)
                (SA.i (SI.add (SI.v 3) (SI.c (Int.ofNat 1)))
                  (SA.i (SI.v 0) (SA.i (SI.v 1) (SA.i (SI.v 2) SA.nil))))))] },
    {
      pc :=
        [SB.not
            (SB.app 130
              (SA.l (SL.v 0) (SA.i (SI.add (SI.v 3) (SI.c (Int.ofNat 1))) (SA.i (SI.v 0) (SA.i (SI.v 1) SA.nil))))),
          SB.not (SB.eq (SI.sel (SL.v 0) (SI.v 3) 0) (SI.v 0)), SB.lt (SI.v 3) (SI.len (SL.v 0)),
          SB.le (SI.c (Int.ofNat 0)) (SI.v 3), SB.le (SI.v 3) (SI.len (SL.v 0)),
          SB.lt (SI.len (SL.v 0)) (SI.c (Int.ofNat 100000))],
      eqs := [Eqn.T (SB.not (SB.app 130 (SA.l (SL.v 0) (SA.i (SI.v 3) (SA.i (SI.v 0) (SA.i (SI.v 1) SA.nil))))))] },
    {
      pc :=
        [SB.not (SB.lt (SI.v 3) (SI.len (SL.v 0))), SB.le (SI.c (Int.ofNat 0)) (SI.v 3),
          SB.le (SI.v 3) (SI.len (SL.v 0)), SB.lt (SI.len (SL.v 0)) (SI.c (Int.ofNat 100000))],
      eqs := [Eqn.T (SB.not (SB.app 130 (SA.l (SL.v 0) (SA.i (SI.v 3) (SA.i (SI.v 0) (SA.i (SI.v 1) SA.nil))))))] }] := by kernel_rfl
theorem lk0_ok : lk0.ok Φ Try.prog := by
  refine ⟨by kernel_rfl, loop_rule (fun ρ => noTbl_ok) (loopAt_sub (by kernel_rfl)) lk0_obs ?_⟩
  simp only [and_imp, List.forall_mem_cons, List.not_mem_nil, false_implies, implies_true, and_true, Ob.ok, holds, Eqn.ok, evB_eq, evB_lt, evB_le, evB_not, evB_and, evB_or, evB_eqL, evB_app, evB_v, evB_c, ev_sel, ev_len, ev_v, ev_c, ev_add, ev_sub, ev_mul, ev_quo, ev_rem, ev_bits, ev_wrap, evL_v, evL_lit, evL_app, ev_app, evA_l, evA_i, evA_nil, std_min, std_max, std_cat, std_take, std_drop, std_row, std_set, std_rep, ints_cons, ints_nil, ofNat_lit, negSucc_lit, decide_eq_true_eq, Bool.and_eq_true, Bool.or_eq_true, Bool.not_eq_true', Bool.and_eq_false_iff, Bool.or_eq_false_iff, decide_eq_false_iff_not, aI100, aL100, aI101, aL101, aI102, aL102, aI111, aI112, aI120, aI130, aI131, aL110, aL111, aL112, aL120, aL140, aL141, aL142, aB100, aB130, aB160, aB162, aB199, aL161]
  repeat' apply And.intro
  all_goals intro ρ hR
  all_goals intros
  all_goals first
    | (omega)
    | (rw [lookAt_yes (A := ρ.l 0) (i := ρ.i 3) (t := ρ.i 0) (p := ρ.i 1) (by omega) (by omega) (by simp only [pOf, pTag, pFrame, at', Bool.and_eq_true, decide_eq_true_eq]; omega)]
       have hb : ρ.i 2 < 0 := by omega
       exact ⟨rfl, if_pos (.inl hb), if_pos (.inl hb)⟩)
    | (rw [lookAt_yes (A := ρ.l 0) (i := ρ.i 3) (t := ρ.i 0) (p := ρ.i 1) (by omega) (by omega) (by simp only [pOf, pTag, pFrame, at', Bool.and_eq_true, decide_eq_true_eq]; omega)]
       have hb : 7 < ρ.i 2 := by omega
       exact ⟨rfl, if_pos (.inr (.inl hb)), if_pos (.inr (.inl hb))⟩)
    | (rw [lookAt_yes (A := ρ.l 0) (i := ρ.i 3) (t := ρ.i 0) (p := ρ.i 1) (by omega) (by omega) (by simp only [pOf, pTag, pFrame, at', Bool.and_eq_true, decide_eq_true_eq]; omega)]
       have hb : ¬ Go.bits .andNot .i64 (ρ.i 2) (((ρ.l 0).getD (ρ.i 3).toNat []).getD 3 0) = 0 := by assumption
       exact ⟨rfl, if_pos (.inr (.inr hb)), if_pos (.inr (.inr hb))⟩)
    | (rw [lookAt_yes (A := ρ.l 0) (i := ρ.i 3) (t := ρ.i 0) (p := ρ.i 1) (by omega) (by omega) (by simp only [pOf, pTag, pFrame, at', Bool.and_eq_true, decide_eq_true_eq]; omega)]
       have hb : Go.bits .andNot .i64 (ρ.i 2) (((ρ.l 0).getD (ρ.i 3).toNat []).getD 3 0) = 0 := by assumption
       have h1 : ¬ ρ.i 2 < 0 := by omega
       have h2 : ¬ 7 < ρ.i 2 := by omega
       exact ⟨rfl, if_neg (fun x => x.elim h1 (fun y => y.elim h2 (fun z => z hb))), if_neg (fun x => x.elim h1 (fun y => y.elim h2 (fun z => z hb)))⟩)
    | (rw [lookAt_no (A := ρ.l 0) (i := ρ.i 3) (t := ρ.i 0) (p := ρ.i 1) (by omega) (by omega) (by simp only [pOf, pTag, pFrame, at', Bool.and_eq_false_iff, decide_eq_false_iff_not]; omega)]
       first | assumption | exact ⟨by assumption, rfl, rfl⟩)
    | (rw [lookAt_end (by omega)]
       rfl)
theorem t3_ok (ρ : Env) : TblOK Φ ρ Try.prog t3 := addLp_ok (addFn_ok (t2_ok ρ) cFill_ok) lk0_ok
set_option maxRecDepth 100000 in
theorem cLook_obs : callObs Φ Try.prog t3 1000 cLook.f cLook.vs cLook.o cLook.pc cLook.outs = some
  [{
      pc :=
        [SB.not (SB.app 130 (SA.l (SL.v 0) (SA.i (SI.c (Int.ofNat 0)) (SA.i (SI.v 0) (SA.i (SI.v 1) SA.nil))))),
          SB.lt (SI.c (Int.ofNat 0)) (SI.v 4), SB.lt (SI.len (SL.v 0)) (SI.c (Int.ofNat 100000))],
      eqs :=
        [Eqn.I
            (SI.app 130
              (SA.l (SL.v 0) (SA.i (SI.c (Int.ofNat 0)) (SA.i (SI.v 0) (SA.i (SI.v 1) (SA.i (SI.v 2) SA.nil))))))
            (SI.c (Int.ofNat 0)),
          Eqn.I
            (SI.app 131
              (SA.l (SL.v 0) (SA.i (SI.c (Int.ofNat 0)) (SA.i (SI.v 0) (SA.i (SI.v 1) (SA.i (SI.v 2) SA.nil))))))
            (SI.c (Int.ofNat 4))] }] := by kernel_rfl
theorem cLook_ok : cLook.ok Φ Try.prog := by
  refine call_rule (fun ρ => t3_ok ρ) cLook_obs ?_
  simp only [and_imp, List.forall_mem_cons, List.not_mem_nil, false_implies, implies_true, and_true, Ob.ok, holds, Eqn.ok, evB_eq, evB_lt, evB_le, evB_not, evB_and, evB_or, evB_eqL, evB_app, evB_v, evB_c, ev_sel, ev_len, ev_v, ev_c, ev_add, ev_sub, ev_mul, ev_quo, ev_rem, ev_bits, ev_wrap, evL_v, evL_lit, evL_app, ev_app, evA_l, evA_i, evA_nil, std_min, std_max, std_cat, std_take, std_drop, std_row, std_set, std_rep, ints_cons, ints_nil, ofNat_lit, negSucc_lit, decide_eq_true_eq, Bool.and_eq_true, Bool.or_eq_true, Bool.not_eq_true', Bool.and_eq_false_iff, Bool.or_eq_false_iff, decide_eq_false_iff_not, aI100, aL100, aI101, aL101, aI102, aL102, aI111, aI112, aI120, aI130, aI131, aL110, aL111, aL112, aL120, aL140, aL141, aL142, aB100, aB130, aB160, aB162, aB199, aL161]
  intro ρ hR
  intros
  have h1 : lookAt (ρ.l 0) 0 (ρ.i 0) (ρ.i 1) = none := by
    have : (lookAt (ρ.l 0) 0 (ρ.i 0) (ρ.i 1)).isSome = false := by assumption
    simpa using this
  rw [h1]
  exact ⟨rfl, rfl⟩
theorem t4_ok (ρ : Env) : TblOK Φ ρ Try.prog t4 := addFn_ok (t3_ok ρ) cLook_ok
end Go.SF.C14
