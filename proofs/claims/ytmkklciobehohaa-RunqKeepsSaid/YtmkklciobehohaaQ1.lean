/- The package runq, shown. -/
import Derived.Test.YtmkklciobehohaaC1
import Derived.Test.YtmkklciobehohaaP3
import Derived.KernelRfl
namespace Go.SF.C17
open Go Go.SF Go.Proofs
set_option linter.unusedVariables false
set_option linter.unusedSimpArgs false

set_option maxRecDepth 100000 in
theorem cNew_obs : callObs Φ Try.prog noTbl 1000 cNew.f cNew.vs cNew.o cNew.pc cNew.outs = some
  [{
      pc :=
        [SB.not (SB.lt (SI.c (Int.ofNat 64)) (SI.v 3)), SB.not (SB.lt (SI.v 3) (SI.c (Int.ofNat 1))),
          SB.not (SB.lt (SI.c (Int.ofNat 8)) (SI.v 0)), SB.not (SB.lt (SI.v 0) (SI.c (Int.ofNat 1)))],
      eqs :=
        [Eqn.T (SB.eq (SI.len (SL.app 5 (SA.i (SI.v 0) SA.nil))) (SI.v 0)),
          Eqn.T (SB.app 130 (SA.l (SL.app 5 (SA.i (SI.v 0) SA.nil)) (SA.l (SL.lit []) (SA.i (SI.v 3) SA.nil))))] }] := by kernel_rfl
theorem cNew_ok : cNew.ok Φ Try.prog := by
  refine call_rule (fun ρ => noTbl_ok) cNew_obs ?_
  simp only [and_imp, List.forall_mem_cons, List.not_mem_nil, false_implies, implies_true, and_true, Ob.ok, holds, Eqn.ok, evB_eq, evB_lt, evB_le, evB_not, evB_and, evB_or, evB_eqL, evB_app, evB_v, evB_c, ev_sel, ev_len, ev_v, ev_c, ev_add, ev_sub, ev_mul, ev_quo, ev_rem, ev_bits, ev_wrap, evL_v, evL_lit, evL_app, ev_app, evA_l, evA_i, evA_nil, std_min, std_max, std_cat, std_take, std_drop, std_row, std_set, std_rep, std_find, std_put, std_del, std_flag, std_unflag, std_clr, std_left, std_copy, ints_cons, ints_nil, ofNat_lit, negSucc_lit, decide_eq_true_eq, Bool.and_eq_true, Bool.or_eq_true, Bool.not_eq_true', Bool.and_eq_false_iff, Bool.or_eq_false_iff, decide_eq_false_iff_not, std_rowT, std_setT, lenR_rowT, rowT_get, aI100, aI101, aI102, aI103, aI104, aI105, aI106, aI107, aI110, aI111, aI112, aI113, aI114, aL110, aL111, aL112, aL113, aL115, aL116, aL120, aL121, aB130, aB131, aB132, aB133, aB134, aB135, aB136, aB199]
  repeat' apply And.intro
  all_goals intro ρ hR
  all_goals intros
  all_goals first
    | (exact ⟨by rw [List.length_replicate]; omega, inv_new (by omega)⟩)
set_option maxRecDepth 100000 in
theorem cLay_obs : callObs Φ Try.prog noTbl 1000 cLay.f cLay.vs cLay.o cLay.pc cLay.outs = some
  [{
      pc :=
        [SB.le (SI.c (Int.ofNat 1)) (SI.len (SL.v 0)), SB.le (SI.len (SL.v 0)) (SI.c (Int.ofNat 8)),
          SB.le (SI.c (Int.ofNat 1)) (SI.v 3), SB.le (SI.v 3) (SI.c (Int.ofNat 64)),
          SB.le (SI.c (Int.ofNat 0)) (SI.v 0), SB.lt (SI.v 0) (SI.len (SL.v 0)), SB.c true,
          SB.lt (SI.len (SL.app 14 (SA.l (SL.v 0) (SA.i (SI.v 0) SA.nil)))) (SI.c (Int.ofNat 64))],
      eqs :=
        [Eqn.T (SB.eq (SI.len (SL.app 115 (SA.l (SL.v 0) (SA.i (SI.v 0) (SA.i (SI.v 1) SA.nil))))) (SI.len (SL.v 0))),
          Eqn.I (SI.len (SL.app 115 (SA.l (SL.v 0) (SA.i (SI.v 0) (SA.i (SI.v 1) SA.nil))))) (SI.len (SL.v 0)),
          Eqn.L (SL.app 115 (SA.l (SL.v 0) (SA.i (SI.v 0) (SA.i (SI.v 1) SA.nil))))
            (SL.app 15
              (SA.l (SL.v 0)
                (SA.i (SI.v 0)
                  (SA.l
                    (SL.app 0
                      (SA.l (SL.app 14 (SA.l (SL.v 0) (SA.i (SI.v 0) SA.nil)))
                        (SA.l (SL.app 3 (SA.i (SI.v 1) SA.nil)) SA.nil)))
                    SA.nil))))] }] := by kernel_rfl
theorem cLay_ok : cLay.ok Φ Try.prog := by
  refine call_rule (fun ρ => noTbl_ok) cLay_obs ?_
  simp only [and_imp, List.forall_mem_cons, List.not_mem_nil, false_implies, implies_true, and_true, Ob.ok, holds, Eqn.ok, evB_eq, evB_lt, evB_le, evB_not, evB_and, evB_or, evB_eqL, evB_app, evB_v, evB_c, ev_sel, ev_len, ev_v, ev_c, ev_add, ev_sub, ev_mul, ev_quo, ev_rem, ev_bits, ev_wrap, evL_v, evL_lit, evL_app, ev_app, evA_l, evA_i, evA_nil, std_min, std_max, std_cat, std_take, std_drop, std_row, std_set, std_rep, std_find, std_put, std_del, std_flag, std_unflag, std_clr, std_left, std_copy, ints_cons, ints_nil, ofNat_lit, negSucc_lit, decide_eq_true_eq, Bool.and_eq_true, Bool.or_eq_true, Bool.not_eq_true', Bool.and_eq_false_iff, Bool.or_eq_false_iff, decide_eq_false_iff_not, std_rowT, std_setT, lenR_rowT, rowT_get, aI100, aI101, aI102, aI103, aI104, aI105, aI106, aI107, aI110, aI111, aI112, aI113, aI114, aL110, aL111, aL112, aL113, aL115, aL116, aL120, aL121, aB130, aB131, aB132, aB133, aB134, aB135, aB136, aB199]
  repeat' apply And.intro
  all_goals intro ρ hR
  all_goals intros
  all_goals first
    | (have h := layT_len (ρ.l 0) (ρ.i 0) (ρ.i 1)
       exact ⟨by omega, by omega, (lay_eq _ _ _).symm⟩)
set_option maxRecDepth 100000 in
theorem cCut_obs : callObs Φ Try.prog noTbl 1000 cCut.f cCut.vs cCut.o cCut.pc cCut.outs = some
  [{
      pc :=
        [SB.le (SI.c (Int.ofNat 1)) (SI.len (SL.v 0)), SB.le (SI.len (SL.v 0)) (SI.c (Int.ofNat 8)),
          SB.le (SI.c (Int.ofNat 1)) (SI.v 3), SB.le (SI.v 3) (SI.c (Int.ofNat 64)),
          SB.le (SI.c (Int.ofNat 0)) (SI.v 0), SB.lt (SI.v 0) (SI.len (SL.v 0)), SB.c true,
          SB.le (SI.c (Int.ofNat 0)) (SI.v 1),
          SB.lt (SI.v 1) (SI.len (SL.app 14 (SA.l (SL.v 0) (SA.i (SI.v 0) SA.nil)))),
          SB.le (SI.len (SL.app 14 (SA.l (SL.v 0) (SA.i (SI.v 0) SA.nil)))) (SI.c (Int.ofNat 64))],
      eqs :=
        [Eqn.T (SB.eq (SI.len (SL.app 116 (SA.l (SL.v 0) (SA.i (SI.v 0) (SA.i (SI.v 1) SA.nil))))) (SI.len (SL.v 0))),
          Eqn.I (SI.len (SL.app 116 (SA.l (SL.v 0) (SA.i (SI.v 0) (SA.i (SI.v 1) SA.nil))))) (SI.len (SL.v 0)),
          Eqn.L (SL.app 116 (SA.l (SL.v 0) (SA.i (SI.v 0) (SA.i (SI.v 1) SA.nil))))
            (SL.app 15
              (SA.l (SL.v 0)
                (SA.i (SI.v 0)
                  (SA.l
                    (SL.app 0
                      (SA.l (SL.app 1 (SA.l (SL.app 14 (SA.l (SL.v 0) (SA.i (SI.v 0) SA.nil))) (SA.i (SI.v 1) SA.nil)))
                        (SA.l
                          (SL.app 2
                            (SA.l (SL.app 14 (SA.l (SL.v 0) (SA.i (SI.v 0) SA.nil)))
                              (SA.i (SI.add (SI.v 1) (SI.c (Int.ofNat 1))) SA.nil)))
                          SA.nil)))
                    SA.nil))))] }] := by kernel_rfl
theorem cCut_ok : cCut.ok Φ Try.prog := by
  refine call_rule (fun ρ => noTbl_ok) cCut_obs ?_
  simp only [and_imp, List.forall_mem_cons, List.not_mem_nil, false_implies, implies_true, and_true, Ob.ok, holds, Eqn.ok, evB_eq, evB_lt, evB_le, evB_not, evB_and, evB_or, evB_eqL, evB_app, evB_v, evB_c, ev_sel, ev_len, ev_v, ev_c, ev_add, ev_sub, ev_mul, ev_quo, ev_rem, ev_bits, ev_wrap, evL_v, evL_lit, evL_app, ev_app, evA_l, evA_i, evA_nil, std_min, std_max, std_cat, std_take, std_drop, std_row, std_set, std_rep, std_find, std_put, std_del, std_flag, std_unflag, std_clr, std_left, std_copy, ints_cons, ints_nil, ofNat_lit, negSucc_lit, decide_eq_true_eq, Bool.and_eq_true, Bool.or_eq_true, Bool.not_eq_true', Bool.and_eq_false_iff, Bool.or_eq_false_iff, decide_eq_false_iff_not, std_rowT, std_setT, lenR_rowT, rowT_get, aI100, aI101, aI102, aI103, aI104, aI105, aI106, aI107, aI110, aI111, aI112, aI113, aI114, aL110, aL111, aL112, aL113, aL115, aL116, aL120, aL121, aB130, aB131, aB132, aB133, aB134, aB135, aB136, aB199]
  repeat' apply And.intro
  all_goals intro ρ hR
  all_goals intros
  all_goals first
    | (have h := cutT_len (ρ.l 0) (ρ.i 0) (ρ.i 1)
       exact ⟨by omega, by omega, (cut_eq _ _ _ (by omega)).symm⟩)
set_option maxRecDepth 100000 in
theorem be1_obs : loopObs Φ Try.prog noTbl 1000 be1.f (loopAt Try.prog be1.f be1.id) be1.n be1.T k0 be1.outs = some
  [{
      pc :=
        [SB.lt (SI.len (SL.app 14 (SA.l (SL.v 0) (SA.i (SI.v 1) SA.nil))))
            (SI.len (SL.app 14 (SA.l (SL.v 0) (SA.i (SI.v 0) SA.nil)))),
          SB.lt (SI.v 0) (SI.len (SL.v 0)), SB.le (SI.c (Int.ofNat 1)) (SI.len (SL.v 0)),
          SB.le (SI.len (SL.v 0)) (SI.c (Int.ofNat 8)), SB.le (SI.c (Int.ofNat 1)) (SI.v 3),
          SB.le (SI.v 3) (SI.c (Int.ofNat 64)), SB.le (SI.c (Int.ofNat 0)) (SI.v 0), SB.le (SI.v 0) (SI.len (SL.v 0)),
          SB.le (SI.c (Int.ofNat 0)) (SI.v 1), SB.lt (SI.v 1) (SI.len (SL.v 0))],
      eqs :=
        [Eqn.T
            (SB.lt (SI.sub (SI.len (SL.v 0)) (SI.add (SI.v 0) (SI.c (Int.ofNat 1))))
              (SI.sub (SI.len (SL.v 0)) (SI.v 0))),
          Eqn.T (SB.lt (SI.c (Int.ofNat 0)) (SI.sub (SI.len (SL.v 0)) (SI.v 0)))] },
    {
      pc :=
        [SB.lt
            (SI.app 100
              (SA.l (SL.v 0)
                (SA.i (SI.c (Int.ofNat 1)) (SA.i (SI.add (SI.v 0) (SI.c (Int.ofNat 1))) (SA.i (SI.v 0) SA.nil)))))
            (SI.len (SL.v 0)),
          SB.le (SI.c (Int.ofNat 0))
            (SI.app 100
              (SA.l (SL.v 0)
                (SA.i (SI.c (Int.ofNat 1)) (SA.i (SI.add (SI.v 0) (SI.c (Int.ofNat 1))) (SA.i (SI.v 0) SA.nil))))),
          SB.lt (SI.len (SL.app 14 (SA.l (SL.v 0) (SA.i (SI.v 1) SA.nil))))
            (SI.len (SL.app 14 (SA.l (SL.v 0) (SA.i (SI.v 0) SA.nil)))),
          SB.lt (SI.v 0) (SI.len (SL.v 0)), SB.le (SI.c (Int.ofNat 1)) (SI.len (SL.v 0)),
          SB.le (SI.len (SL.v 0)) (SI.c (Int.ofNat 8)), SB.le (SI.c (Int.ofNat 1)) (SI.v 3),
          SB.le (SI.v 3) (SI.c (Int.ofNat 64)), SB.le (SI.c (Int.ofNat 0)) (SI.v 0), SB.le (SI.v 0) (SI.len (SL.v 0)),
          SB.le (SI.c (Int.ofNat 0)) (SI.v 1), SB.lt (SI.v 1) (SI.len (SL.v 0))],
      eqs :=
        [Eqn.T
            (SB.le (SI.c (Int.ofNat 0))
              (SI.app 100 (SA.l (SL.v 0) (SA.i (SI.c (Int.ofNat 1)) (SA.i (SI.v 0) (SA.i (SI.v 1) SA.nil)))))),
          Eqn.T
            (SB.lt (SI.app 100 (SA.l (SL.v 0) (SA.i (SI.c (Int.ofNat 1)) (SA.i (SI.v 0) (SA.i (SI.v 1) SA.nil)))))
              (SI.len (SL.v 0))),
          Eqn.I (SI.app 100 (SA.l (SL.v 0) (SA.i (SI.c (Int.ofNat 1)) (SA.i (SI.v 0) (SA.i (SI.v 1) SA.nil)))))
            (SI.app 100
              (SA.l (SL.v 0)
                (SA.i (SI.c (Int.ofNat 1)) (SA.i (SI.add (SI.v 0) (SI.c (Int.ofNat 1))) (SA.i (SI.v 0) SA.nil)))))] },
    {
      pc :=
        [SB.not
            (SB.lt (SI.len (SL.app 14 (SA.l (SL.v 0) (SA.i (SI.v 1) SA.nil))))
              (SI.len (SL.app 14 (SA.l (SL.v 0) (SA.i (SI.v 0) SA.nil))))),
          SB.lt (SI.v 0) (SI.len (SL.v 0)), SB.le (SI.c (Int.ofNat 1)) (SI.len (SL.v 0)),
          SB.le (SI.len (SL.v 0)) (SI.c (Int.ofNat 8)), SB.le (SI.c (Int.ofNat 1)) (SI.v 3),
          SB.le (SI.v 3) (SI.c (Int.ofNat 64)), SB.le (SI.c (Int.ofNat 0)) (SI.v 0), SB.le (SI.v 0) (SI.len (SL.v 0)),
          SB.le (SI.c (Int.ofNat 0)) (SI.v 1), SB.lt (SI.v 1) (SI.len (SL.v 0))],
      eqs :=
        [Eqn.T
            (SB.lt (SI.sub (SI.len (SL.v 0)) (SI.add (SI.v 0) (SI.c (Int.ofNat 1))))
              (SI.sub (SI.len (SL.v 0)) (SI.v 0))),
          Eqn.T (SB.lt (SI.c (Int.ofNat 0)) (SI.sub (SI.len (SL.v 0)) (SI.v 0)))] },
    {
      pc :=
        [SB.lt
            (SI.app 100
              (SA.l (SL.v 0)
                (SA.i (SI.c (Int.ofNat 1)) (SA.i (SI.add (SI.v 0) (SI.c (Int.ofNat 1))) (SA.i (SI.v 1) SA.nil)))))
            (SI.len (SL.v 0)),
          SB.le (SI.c (Int.ofNat 0))
            (SI.app 100
              (SA.l (SL.v 0)
                (SA.i (SI.c (Int.ofNat 1)) (SA.i (SI.add (SI.v 0) (SI.c (Int.ofNat 1))) (SA.i (SI.v 1) SA.nil))))),
          SB.not
            (SB.lt (SI.len (SL.app 14 (SA.l (SL.v 0) (SA.i (SI.v 1) SA.nil))))
              (SI.len (SL.app 14 (SA.l (SL.v 0) (SA.i (SI.v 0) SA.nil))))),
          SB.lt (SI.v 0) (SI.len (SL.v 0)), SB.le (SI.c (Int.ofNat 1)) (SI.len (SL.v 0)),
          SB.le (SI.len (SL.v 0)) (SI.c (Int.ofNat 8)), SB.le (SI.c (Int.ofNat 1)) (SI.v 3),
          SB.le (SI.v 3) (SI.c (Int.ofNat 64)), SB.le (SI.c (Int.ofNat 0)) (SI.v 0), SB.le (SI.v 0) (SI.len (SL.v 0)),
          SB.le (SI.c (Int.ofNat 0)) (SI.v 1), SB.lt (SI.v 1) (SI.len (SL.v 0))],
      eqs :=
        [Eqn.T
            (SB.le (SI.c (Int.ofNat 0))
              (SI.app 100 (SA.l (SL.v 0) (SA.i (SI.c (Int.ofNat 1)) (SA.i (SI.v 0) (SA.i (SI.v 1) SA.nil)))))),
          Eqn.T
            (SB.lt (SI.app 100 (SA.l (SL.v 0) (SA.i (SI.c (Int.ofNat 1)) (SA.i (SI.v 0) (SA.i (SI.v 1) SA.nil)))))
              (SI.len (SL.v 0))),
          Eqn.I (SI.app 100 (SA.l (SL.v 0) (SA.i (SI.c (Int.ofNat 1)) (SA.i (SI.v 0) (SA.i (SI.v 1) SA.nil)))))
            (SI.app 100
              (SA.l (SL.v 0)
                (SA.i (SI.c (Int.ofNat 1)) (SA.i (SI.add (SI.v 0) (SI.c (Int.ofNat 1))) (SA.i (SI.v 1) SA.nil)))))] },
    {
      pc :=
        [SB.not (SB.lt (SI.v 0) (SI.len (SL.v 0))), SB.le (SI.c (Int.ofNat 1)) (SI.len (SL.v 0)),
          SB.le (SI.len (SL.v 0)) (SI.c (Int.ofNat 8)), SB.le (SI.c (Int.ofNat 1)) (SI.v 3),
          SB.le (SI.v 3) (SI.c (Int.ofNat 64)), SB.le (SI.c (Int.ofNat 0)) (SI.v 0), SB.le (SI.v 0) (SI.len (SL.v 0)),
          SB.le (SI.c (Int.ofNat 0)) (SI.v 1), SB.lt (SI.v 1) (SI.len (SL.v 0))],
      eqs :=
        [Eqn.T
            (SB.le (SI.c (Int.ofNat 0))
              (SI.app 100 (SA.l (SL.v 0) (SA.i (SI.c (Int.ofNat 1)) (SA.i (SI.v 0) (SA.i (SI.v 1) SA.nil)))))),
          Eqn.T
            (SB.lt (SI.app 100 (SA.l (SL.v 0) (SA.i (SI.c (Int.ofNat 1)) (SA.i (SI.v 0) (SA.i (SI.v 1) SA.nil)))))
              (SI.len (SL.v 0))),
          Eqn.I (SI.app 100 (SA.l (SL.v 0) (SA.i (SI.c (Int.ofNat 1)) (SA.i (SI.v 0) (SA.i (SI.v 1) SA.nil)))))
            (SI.v 1)] }] := by kernel_rfl
theorem be1_ok : be1.ok Φ Try.prog := by
  refine ⟨by kernel_rfl, loop_rule (fun ρ => noTbl_ok) (loopAt_sub (by kernel_rfl)) be1_obs ?_⟩
  simp only [and_imp, List.forall_mem_cons, List.not_mem_nil, false_implies, implies_true, and_true, Ob.ok, holds, Eqn.ok, evB_eq, evB_lt, evB_le, evB_not, evB_and, evB_or, evB_eqL, evB_app, evB_v, evB_c, ev_sel, ev_len, ev_v, ev_c, ev_add, ev_sub, ev_mul, ev_quo, ev_rem, ev_bits, ev_wrap, evL_v, evL_lit, evL_app, ev_app, evA_l, evA_i, evA_nil, std_min, std_max, std_cat, std_take, std_drop, std_row, std_set, std_rep, std_find, std_put, std_del, std_flag, std_unflag, std_clr, std_left, std_copy, ints_cons, ints_nil, ofNat_lit, negSucc_lit, decide_eq_true_eq, Bool.and_eq_true, Bool.or_eq_true, Bool.not_eq_true', Bool.and_eq_false_iff, Bool.or_eq_false_iff, decide_eq_false_iff_not, std_rowT, std_setT, lenR_rowT, rowT_get, aI100, aI101, aI102, aI103, aI104, aI105, aI106, aI107, aI110, aI111, aI112, aI113, aI114, aL110, aL111, aL112, aL113, aL115, aL116, aL120, aL121, aB130, aB131, aB132, aB133, aB134, aB135, aB136, aB199]
  repeat' apply And.intro
  all_goals intro ρ hR
  all_goals intros
  all_goals first
    | (omega)
    | (have e := long_yes (T := ρ.l 0) (c := ρ.i 0) (b := ρ.i 1) (by omega) (by omega) (by omega)
       omega)
    | (have e := long_no (T := ρ.l 0) (c := ρ.i 0) (b := ρ.i 1) (by omega) (by omega) (by omega)
       omega)
    | (have e := best_end (T := ρ.l 0) (s := 1) (c := ρ.i 0) (b := ρ.i 1) (by omega)
       omega)
set_option maxRecDepth 100000 in
theorem be0_obs : loopObs Φ Try.prog noTbl 1000 be0.f (loopAt Try.prog be0.f be0.id) be0.n be0.T k0 be0.outs = some
  [{
      pc :=
        [SB.lt (SI.len (SL.app 14 (SA.l (SL.v 0) (SA.i (SI.v 0) SA.nil))))
            (SI.len (SL.app 14 (SA.l (SL.v 0) (SA.i (SI.v 1) SA.nil)))),
          SB.lt (SI.v 0) (SI.len (SL.v 0)), SB.le (SI.c (Int.ofNat 1)) (SI.len (SL.v 0)),
          SB.le (SI.len (SL.v 0)) (SI.c (Int.ofNat 8)), SB.le (SI.c (Int.ofNat 1)) (SI.v 3),
          SB.le (SI.v 3) (SI.c (Int.ofNat 64)), SB.le (SI.c (Int.ofNat 0)) (SI.v 0), SB.le (SI.v 0) (SI.len (SL.v 0)),
          SB.le (SI.c (Int.ofNat 0)) (SI.v 1), SB.lt (SI.v 1) (SI.len (SL.v 0))],
      eqs :=
        [Eqn.T
            (SB.lt (SI.sub (SI.len (SL.v 0)) (SI.add (SI.v 0) (SI.c (Int.ofNat 1))))
              (SI.sub (SI.len (SL.v 0)) (SI.v 0))),
          Eqn.T (SB.lt (SI.c (Int.ofNat 0)) (SI.sub (SI.len (SL.v 0)) (SI.v 0)))] },
    {
      pc :=
        [SB.lt
            (SI.app 100
              (SA.l (SL.v 0)
                (SA.i (SI.c (Int.ofNat 0)) (SA.i (SI.add (SI.v 0) (SI.c (Int.ofNat 1))) (SA.i (SI.v 0) SA.nil)))))
            (SI.len (SL.v 0)),
          SB.le (SI.c (Int.ofNat 0))
            (SI.app 100
              (SA.l (SL.v 0)
                (SA.i (SI.c (Int.ofNat 0)) (SA.i (SI.add (SI.v 0) (SI.c (Int.ofNat 1))) (SA.i (SI.v 0) SA.nil))))),
          SB.lt (SI.len (SL.app 14 (SA.l (SL.v 0) (SA.i (SI.v 0) SA.nil))))
            (SI.len (SL.app 14 (SA.l (SL.v 0) (SA.i (SI.v 1) SA.nil)))),
          SB.lt (SI.v 0) (SI.len (SL.v 0)), SB.le (SI.c (Int.ofNat 1)) (SI.len (SL.v 0)),
          SB.le (SI.len (SL.v 0)) (SI.c (Int.ofNat 8)), SB.le (SI.c (Int.ofNat 1)) (SI.v 3),
          SB.le (SI.v 3) (SI.c (Int.ofNat 64)), SB.le (SI.c (Int.ofNat 0)) (SI.v 0), SB.le (SI.v 0) (SI.len (SL.v 0)),
          SB.le (SI.c (Int.ofNat 0)) (SI.v 1), SB.lt (SI.v 1) (SI.len (SL.v 0))],
      eqs :=
        [Eqn.T
            (SB.le (SI.c (Int.ofNat 0))
              (SI.app 100 (SA.l (SL.v 0) (SA.i (SI.c (Int.ofNat 0)) (SA.i (SI.v 0) (SA.i (SI.v 1) SA.nil)))))),
          Eqn.T
            (SB.lt (SI.app 100 (SA.l (SL.v 0) (SA.i (SI.c (Int.ofNat 0)) (SA.i (SI.v 0) (SA.i (SI.v 1) SA.nil)))))
              (SI.len (SL.v 0))),
          Eqn.I (SI.app 100 (SA.l (SL.v 0) (SA.i (SI.c (Int.ofNat 0)) (SA.i (SI.v 0) (SA.i (SI.v 1) SA.nil)))))
            (SI.app 100
              (SA.l (SL.v 0)
                (SA.i (SI.c (Int.ofNat 0)) (SA.i (SI.add (SI.v 0) (SI.c (Int.ofNat 1))) (SA.i (SI.v 0) SA.nil)))))] },
    {
      pc :=
        [SB.not
            (SB.lt (SI.len (SL.app 14 (SA.l (SL.v 0) (SA.i (SI.v 0) SA.nil))))
              (SI.len (SL.app 14 (SA.l (SL.v 0) (SA.i (SI.v 1) SA.nil))))),
          SB.lt (SI.v 0) (SI.len (SL.v 0)), SB.le (SI.c (Int.ofNat 1)) (SI.len (SL.v 0)),
          SB.le (SI.len (SL.v 0)) (SI.c (Int.ofNat 8)), SB.le (SI.c (Int.ofNat 1)) (SI.v 3),
          SB.le (SI.v 3) (SI.c (Int.ofNat 64)), SB.le (SI.c (Int.ofNat 0)) (SI.v 0), SB.le (SI.v 0) (SI.len (SL.v 0)),
          SB.le (SI.c (Int.ofNat 0)) (SI.v 1), SB.lt (SI.v 1) (SI.len (SL.v 0))],
      eqs :=
        [Eqn.T
            (SB.lt (SI.sub (SI.len (SL.v 0)) (SI.add (SI.v 0) (SI.c (Int.ofNat 1))))
              (SI.sub (SI.len (SL.v 0)) (SI.v 0))),
          Eqn.T (SB.lt (SI.c (Int.ofNat 0)) (SI.sub (SI.len (SL.v 0)) (SI.v 0)))] },
    {
      pc :=
        [SB.lt
            (SI.app 100
              (SA.l (SL.v 0)
                (SA.i (SI.c (Int.ofNat 0)) (SA.i (SI.add (SI.v 0) (SI.c (Int.ofNat 1))) (SA.i (SI.v 1) SA.nil)))))
            (SI.len (SL.v 0)),
          SB.le (SI.c (Int.ofNat 0))
            (SI.app 100
              (SA.l (SL.v 0)
                (SA.i (SI.c (Int.ofNat 0)) (SA.i (SI.add (SI.v 0) (SI.c (Int.ofNat 1))) (SA.i (SI.v 1) SA.nil))))),
          SB.not
            (SB.lt (SI.len (SL.app 14 (SA.l (SL.v 0) (SA.i (SI.v 0) SA.nil))))
              (SI.len (SL.app 14 (SA.l (SL.v 0) (SA.i (SI.v 1) SA.nil))))),
          SB.lt (SI.v 0) (SI.len (SL.v 0)), SB.le (SI.c (Int.ofNat 1)) (SI.len (SL.v 0)),
          SB.le (SI.len (SL.v 0)) (SI.c (Int.ofNat 8)), SB.le (SI.c (Int.ofNat 1)) (SI.v 3),
          SB.le (SI.v 3) (SI.c (Int.ofNat 64)), SB.le (SI.c (Int.ofNat 0)) (SI.v 0), SB.le (SI.v 0) (SI.len (SL.v 0)),
          SB.le (SI.c (Int.ofNat 0)) (SI.v 1), SB.lt (SI.v 1) (SI.len (SL.v 0))],
      eqs :=
        [Eqn.T
            (SB.le (SI.c (Int.ofNat 0))
              (SI.app 100 (SA.l (SL.v 0) (SA.i (SI.c (Int.ofNat 0)) (SA.i (SI.v 0) (SA.i (SI.v 1) SA.nil)))))),
          Eqn.T
            (SB.lt (SI.app 100 (SA.l (SL.v 0) (SA.i (SI.c (Int.ofNat 0)) (SA.i (SI.v 0) (SA.i (SI.v 1) SA.nil)))))
              (SI.len (SL.v 0))),
          Eqn.I (SI.app 100 (SA.l (SL.v 0) (SA.i (SI.c (Int.ofNat 0)) (SA.i (SI.v 0) (SA.i (SI.v 1) SA.nil)))))
            (SI.app 100
              (SA.l (SL.v 0)
                (SA.i (SI.c (Int.ofNat 0)) (SA.i (SI.add (SI.v 0) (SI.c (Int.ofNat 1))) (SA.i (SI.v 1) SA.nil)))))] },
    {
      pc :=
        [SB.not (SB.lt (SI.v 0) (SI.len (SL.v 0))), SB.le (SI.c (Int.ofNat 1)) (SI.len (SL.v 0)),
          SB.le (SI.len (SL.v 0)) (SI.c (Int.ofNat 8)), SB.le (SI.c (Int.ofNat 1)) (SI.v 3),
          SB.le (SI.v 3) (SI.c (Int.ofNat 64)), SB.le (SI.c (Int.ofNat 0)) (SI.v 0), SB.le (SI.v 0) (SI.len (SL.v 0)),
          SB.le (SI.c (Int.ofNat 0)) (SI.v 1), SB.lt (SI.v 1) (SI.len (SL.v 0))],
      eqs :=
        [Eqn.T
            (SB.le (SI.c (Int.ofNat 0))
              (SI.app 100 (SA.l (SL.v 0) (SA.i (SI.c (Int.ofNat 0)) (SA.i (SI.v 0) (SA.i (SI.v 1) SA.nil)))))),
          Eqn.T
            (SB.lt (SI.app 100 (SA.l (SL.v 0) (SA.i (SI.c (Int.ofNat 0)) (SA.i (SI.v 0) (SA.i (SI.v 1) SA.nil)))))
              (SI.len (SL.v 0))),
          Eqn.I (SI.app 100 (SA.l (SL.v 0) (SA.i (SI.c (Int.ofNat 0)) (SA.i (SI.v 0) (SA.i (SI.v 1) SA.nil)))))
            (SI.v 1)] }] := by kernel_rfl
theorem be0_ok : be0.ok Φ Try.prog := by
  refine ⟨by kernel_rfl, loop_rule (fun ρ => noTbl_ok) (loopAt_sub (by kernel_rfl)) be0_obs ?_⟩
  simp only [and_imp, List.forall_mem_cons, List.not_mem_nil, false_implies, implies_true, and_true, Ob.ok, holds, Eqn.ok, evB_eq, evB_lt, evB_le, evB_not, evB_and, evB_or, evB_eqL, evB_app, evB_v, evB_c, ev_sel, ev_len, ev_v, ev_c, ev_add, ev_sub, ev_mul, ev_quo, ev_rem, ev_bits, ev_wrap, evL_v, evL_lit, evL_app, ev_app, evA_l, evA_i, evA_nil, std_min, std_max, std_cat, std_take, std_drop, std_row, std_set, std_rep, std_find, std_put, std_del, std_flag, std_unflag, std_clr, std_left, std_copy, ints_cons, ints_nil, ofNat_lit, negSucc_lit, decide_eq_true_eq, Bool.and_eq_true, Bool.or_eq_true, Bool.not_eq_true', Bool.and_eq_false_iff, Bool.or_eq_false_iff, decide_eq_false_iff_not, std_rowT, std_setT, lenR_rowT, rowT_get, aI100, aI101, aI102, aI103, aI104, aI105, aI106, aI107, aI110, aI111, aI112, aI113, aI114, aL110, aL111, aL112, aL113, aL115, aL116, aL120, aL121, aB130, aB131, aB132, aB133, aB134, aB135, aB136, aB199]
  repeat' apply And.intro
  all_goals intro ρ hR
  all_goals intros
  all_goals first
    | (omega)
    | (have e := short_yes (T := ρ.l 0) (c := ρ.i 0) (b := ρ.i 1) (by omega) (by omega) (by omega)
       omega)
    | (have e := short_no (T := ρ.l 0) (c := ρ.i 0) (b := ρ.i 1) (by omega) (by omega) (by omega)
       omega)
    | (have e := best_end (T := ρ.l 0) (s := 0) (c := ρ.i 0) (b := ρ.i 1) (by omega)
       omega)
theorem t1_ok (ρ : Env) : TblOK Φ ρ Try.prog t1 := addLp_ok (addLp_ok noTbl_ok be1_ok) be0_ok
set_option maxRecDepth 100000 in
theorem cLong_obs : callObs Φ Try.prog t1 1000 cLong.f cLong.vs cLong.o cLong.pc cLong.outs = some
  [{
      pc :=
        [SB.lt
            (SI.app 100
              (SA.l (SL.v 0)
                (SA.i (SI.c (Int.ofNat 1)) (SA.i (SI.c (Int.ofNat 0)) (SA.i (SI.c (Int.ofNat 0)) SA.nil)))))
            (SI.len (SL.v 0)),
          SB.le (SI.c (Int.ofNat 0))
            (SI.app 100
              (SA.l (SL.v 0)
                (SA.i (SI.c (Int.ofNat 1)) (SA.i (SI.c (Int.ofNat 0)) (SA.i (SI.c (Int.ofNat 0)) SA.nil))))),
          SB.le (SI.c (Int.ofNat 1)) (SI.len (SL.v 0)), SB.le (SI.len (SL.v 0)) (SI.c (Int.ofNat 8)),
          SB.le (SI.c (Int.ofNat 1)) (SI.v 3), SB.le (SI.v 3) (SI.c (Int.ofNat 64)), SB.c true,
          SB.app 130 (SA.l (SL.v 0) (SA.l (SL.v 1) (SA.i (SI.v 3) SA.nil)))],
      eqs :=
        [Eqn.T
            (SB.le
              (SI.len
                (SL.app 14
                  (SA.l (SL.v 0)
                    (SA.i
                      (SI.app 100
                        (SA.l (SL.v 0)
                          (SA.i (SI.c (Int.ofNat 1)) (SA.i (SI.c (Int.ofNat 0)) (SA.i (SI.c (Int.ofNat 0)) SA.nil)))))
                      SA.nil))))
              (SI.v 3))] }] := by kernel_rfl
theorem cLong_ok : cLong.ok Φ Try.prog := by
  refine call_rule (fun ρ => t1_ok ρ) cLong_obs ?_
  simp only [and_imp, List.forall_mem_cons, List.not_mem_nil, false_implies, implies_true, and_true, Ob.ok, holds, Eqn.ok, evB_eq, evB_lt, evB_le, evB_not, evB_and, evB_or, evB_eqL, evB_app, evB_v, evB_c, ev_sel, ev_len, ev_v, ev_c, ev_add, ev_sub, ev_mul, ev_quo, ev_rem, ev_bits, ev_wrap, evL_v, evL_lit, evL_app, ev_app, evA_l, evA_i, evA_nil, std_min, std_max, std_cat, std_take, std_drop, std_row, std_set, std_rep, std_find, std_put, std_del, std_flag, std_unflag, std_clr, std_left, std_copy, ints_cons, ints_nil, ofNat_lit, negSucc_lit, decide_eq_true_eq, Bool.and_eq_true, Bool.or_eq_true, Bool.not_eq_true', Bool.and_eq_false_iff, Bool.or_eq_false_iff, decide_eq_false_iff_not, std_rowT, std_setT, lenR_rowT, rowT_get, aI100, aI101, aI102, aI103, aI104, aI105, aI106, aI107, aI110, aI111, aI112, aI113, aI114, aL110, aL111, aL112, aL113, aL115, aL116, aL120, aL121, aB130, aB131, aB132, aB133, aB134, aB135, aB136, aB199]
  repeat' apply And.intro
  all_goals intro ρ hR
  all_goals intros
  all_goals first
    | (have hi : invB (ρ.l 0) (ρ.l 1) (ρ.i 3) = true := by with_reducible assumption
       exact inv_row hi (by omega) (by omega))
set_option maxRecDepth 100000 in
theorem cShort_obs : callObs Φ Try.prog t1 1000 cShort.f cShort.vs cShort.o cShort.pc cShort.outs = some
  [{
      pc :=
        [SB.lt
            (SI.app 100
              (SA.l (SL.v 0)
                (SA.i (SI.c (Int.ofNat 0)) (SA.i (SI.c (Int.ofNat 0)) (SA.i (SI.c (Int.ofNat 0)) SA.nil)))))
            (SI.len (SL.v 0)),
          SB.le (SI.c (Int.ofNat 0))
            (SI.app 100
              (SA.l (SL.v 0)
                (SA.i (SI.c (Int.ofNat 0)) (SA.i (SI.c (Int.ofNat 0)) (SA.i (SI.c (Int.ofNat 0)) SA.nil))))),
          SB.le (SI.c (Int.ofNat 1)) (SI.len (SL.v 0)), SB.le (SI.len (SL.v 0)) (SI.c (Int.ofNat 8)),
          SB.le (SI.c (Int.ofNat 1)) (SI.v 3), SB.le (SI.v 3) (SI.c (Int.ofNat 64)), SB.c true,
          SB.app 130 (SA.l (SL.v 0) (SA.l (SL.v 1) (SA.i (SI.v 3) SA.nil)))],
      eqs :=
        [Eqn.T
            (SB.le
              (SI.len
                (SL.app 14
                  (SA.l (SL.v 0)
                    (SA.i
                      (SI.app 100
                        (SA.l (SL.v 0)
                          (SA.i (SI.c (Int.ofNat 0)) (SA.i (SI.c (Int.ofNat 0)) (SA.i (SI.c (Int.ofNat 0)) SA.nil)))))
                      SA.nil))))
              (SI.v 3))] }] := by kernel_rfl
theorem cShort_ok : cShort.ok Φ Try.prog := by
  refine call_rule (fun ρ => t1_ok ρ) cShort_obs ?_
  simp only [and_imp, List.forall_mem_cons, List.not_mem_nil, false_implies, implies_true, and_true, Ob.ok, holds, Eqn.ok, evB_eq, evB_lt, evB_le, evB_not, evB_and, evB_or, evB_eqL, evB_app, evB_v, evB_c, ev_sel, ev_len, ev_v, ev_c, ev_add, ev_sub, ev_mul, ev_quo, ev_rem, ev_bits, ev_wrap, evL_v, evL_lit, evL_app, ev_app, evA_l, evA_i, evA_nil, std_min, std_max, std_cat, std_take, std_drop, std_row, std_set, std_rep, std_find, std_put, std_del, std_flag, std_unflag, std_clr, std_left, std_copy, ints_cons, ints_nil, ofNat_lit, negSucc_lit, decide_eq_true_eq, Bool.and_eq_true, Bool.or_eq_true, Bool.not_eq_true', Bool.and_eq_false_iff, Bool.or_eq_false_iff, decide_eq_false_iff_not, std_rowT, std_setT, lenR_rowT, rowT_get, aI100, aI101, aI102, aI103, aI104, aI105, aI106, aI107, aI110, aI111, aI112, aI113, aI114, aL110, aL111, aL112, aL113, aL115, aL116, aL120, aL121, aB130, aB131, aB132, aB133, aB134, aB135, aB136, aB199]
  repeat' apply And.intro
  all_goals intro ρ hR
  all_goals intros
  all_goals first
    | (have hi : invB (ρ.l 0) (ρ.l 1) (ρ.i 3) = true := by with_reducible assumption
       exact inv_row hi (by omega) (by omega))
theorem t2_ok (ρ : Env) : TblOK Φ ρ Try.prog t2 := addFn_ok (addFn_ok (addFn_ok (addFn_ok (t1_ok ρ) cLong_ok) cShort_ok) cLay_ok) cCut_ok
set_option maxRecDepth 100000 in
theorem cPush_obs : callObs Φ Try.prog t2 1000 cPush.f cPush.vs cPush.o cPush.pc cPush.outs = some
  [{
      pc :=
        [SB.lt (SI.v 1) (SI.c (Int.ofNat 0)), SB.lt (SI.v 0) (SI.len (SL.v 0)), SB.le (SI.c (Int.ofNat 0)) (SI.v 0),
          SB.le (SI.c (Int.ofNat 1)) (SI.len (SL.v 0)), SB.le (SI.len (SL.v 0)) (SI.c (Int.ofNat 8)),
          SB.le (SI.c (Int.ofNat 1)) (SI.v 3), SB.le (SI.v 3) (SI.c (Int.ofNat 64)), SB.c true,
          SB.app 130 (SA.l (SL.v 0) (SA.l (SL.v 1) (SA.i (SI.v 3) SA.nil)))],
      eqs :=
        [Eqn.T
            (SB.eq (SI.len (SL.app 110 (SA.l (SL.v 0) (SA.i (SI.v 0) (SA.i (SI.v 1) (SA.i (SI.v 3) SA.nil))))))
              (SI.len (SL.v 0))),
          Eqn.T
            (SB.app 130
              (SA.l (SL.app 110 (SA.l (SL.v 0) (SA.i (SI.v 0) (SA.i (SI.v 1) (SA.i (SI.v 3) SA.nil)))))
                (SA.l (SL.v 1) (SA.i (SI.v 3) SA.nil)))),
          Eqn.I (SI.app 110 (SA.l (SL.v 0) (SA.i (SI.v 0) (SA.i (SI.v 1) (SA.i (SI.v 3) SA.nil)))))
            (SI.c (Int.ofNat 1)),
          Eqn.I (SI.len (SL.app 110 (SA.l (SL.v 0) (SA.i (SI.v 0) (SA.i (SI.v 1) (SA.i (SI.v 3) SA.nil))))))
            (SI.len (SL.v 0)),
          Eqn.L (SL.app 110 (SA.l (SL.v 0) (SA.i (SI.v 0) (SA.i (SI.v 1) (SA.i (SI.v 3) SA.nil))))) (SL.v 0)] },
    {
      pc :=
        [SB.lt (SI.c (Int.ofNat 0)) (SI.len (SL.app 6 (SA.l (SL.v 1) (SA.i (SI.v 1) SA.nil)))),
          SB.not (SB.lt (SI.v 1) (SI.c (Int.ofNat 0))), SB.lt (SI.v 0) (SI.len (SL.v 0)),
          SB.le (SI.c (Int.ofNat 0)) (SI.v 0), SB.le (SI.c (Int.ofNat 1)) (SI.len (SL.v 0)),
          SB.le (SI.len (SL.v 0)) (SI.c (Int.ofNat 8)), SB.le (SI.c (Int.ofNat 1)) (SI.v 3),
          SB.le (SI.v 3) (SI.c (Int.ofNat 64)), SB.c true,
          SB.app 130 (SA.l (SL.v 0) (SA.l (SL.v 1) (SA.i (SI.v 3) SA.nil)))],
      eqs :=
        [Eqn.T
            (SB.eq (SI.len (SL.app 110 (SA.l (SL.v 0) (SA.i (SI.v 0) (SA.i (SI.v 1) (SA.i (SI.v 3) SA.nil))))))
              (SI.len (SL.v 0))),
          Eqn.T
            (SB.app 130
              (SA.l (SL.app 110 (SA.l (SL.v 0) (SA.i (SI.v 0) (SA.i (SI.v 1) (SA.i (SI.v 3) SA.nil)))))
                (SA.l (SL.v 1) (SA.i (SI.v 3) SA.nil)))),
          Eqn.I (SI.app 110 (SA.l (SL.v 0) (SA.i (SI.v 0) (SA.i (SI.v 1) (SA.i (SI.v 3) SA.nil)))))
            (SI.c (Int.ofNat 5)),
          Eqn.I (SI.len (SL.app 110 (SA.l (SL.v 0) (SA.i (SI.v 0) (SA.i (SI.v 1) (SA.i (SI.v 3) SA.nil))))))
            (SI.len (SL.v 0)),
          Eqn.L (SL.app 110 (SA.l (SL.v 0) (SA.i (SI.v 0) (SA.i (SI.v 1) (SA.i (SI.v 3) SA.nil))))) (SL.v 0)] },
    {
      pc :=
        [SB.eq (SI.len (SL.app 14 (SA.l (SL.v 0) (SA.i (SI.v 0) SA.nil)))) (SI.v 3),
          SB.not (SB.lt (SI.c (Int.ofNat 0)) (SI.len (SL.app 6 (SA.l (SL.v 1) (SA.i (SI.v 1) SA.nil))))),
          SB.not (SB.lt (SI.v 1) (SI.c (Int.ofNat 0))), SB.lt (SI.v 0) (SI.len (SL.v 0)),
          SB.le (SI.c (Int.ofNat 0)) (SI.v 0), SB.le (SI.c (Int.ofNat 1)) (SI.len (SL.v 0)),
          SB.le (SI.len (SL.v 0)) (SI.c (Int.ofNat 8)), SB.le (SI.c (Int.ofNat 1)) (SI.v 3),
          SB.le (SI.v 3) (SI.c (Int.ofNat 64)), SB.c true,
          SB.app 130 (SA.l (SL.v 0) (SA.l (SL.v 1) (SA.i (SI.v 3) SA.nil)))],
      eqs :=
        [Eqn.T
            (SB.eq (SI.len (SL.app 110 (SA.l (SL.v 0) (SA.i (SI.v 0) (SA.i (SI.v 1) (SA.i (SI.v 3) SA.nil))))))
              (SI.len (SL.v 0))),
          Eqn.T
            (SB.app 130
              (SA.l (SL.app 110 (SA.l (SL.v 0) (SA.i (SI.v 0) (SA.i (SI.v 1) (SA.i (SI.v 3) SA.nil)))))
                (SA.l (SL.v 1) (SA.i (SI.v 3) SA.nil)))),
          Eqn.I (SI.app 110 (SA.l (SL.v 0) (SA.i (SI.v 0) (SA.i (SI.v 1) (SA.i (SI.v 3) SA.nil)))))
            (SI.c (Int.ofNat 3)),
          Eqn.I (SI.len (SL.app 110 (SA.l (SL.v 0) (SA.i (SI.v 0) (SA.i (SI.v 1) (SA.i (SI.v 3) SA.nil))))))
            (SI.len (SL.v 0)),
          Eqn.L (SL.app 110 (SA.l (SL.v 0) (SA.i (SI.v 0) (SA.i (SI.v 1) (SA.i (SI.v 3) SA.nil))))) (SL.v 0)] },
    {
      pc :=
        [SB.eq (SI.len (SL.app 115 (SA.l (SL.v 0) (SA.i (SI.v 0) (SA.i (SI.v 1) SA.nil))))) (SI.len (SL.v 0)),
          SB.lt (SI.len (SL.app 14 (SA.l (SL.v 0) (SA.i (SI.v 0) SA.nil)))) (SI.c (Int.ofNat 64)),
          SB.not (SB.eq (SI.len (SL.app 14 (SA.l (SL.v 0) (SA.i (SI.v 0) SA.nil)))) (SI.v 3)),
          SB.not (SB.lt (SI.c (Int.ofNat 0)) (SI.len (SL.app 6 (SA.l (SL.v 1) (SA.i (SI.v 1) SA.nil))))),
          SB.not (SB.lt (SI.v 1) (SI.c (Int.ofNat 0))), SB.lt (SI.v 0) (SI.len (SL.v 0)),
          SB.le (SI.c (Int.ofNat 0)) (SI.v 0), SB.le (SI.c (Int.ofNat 1)) (SI.len (SL.v 0)),
          SB.le (SI.len (SL.v 0)) (SI.c (Int.ofNat 8)), SB.le (SI.c (Int.ofNat 1)) (SI.v 3),
          SB.le (SI.v 3) (SI.c (Int.ofNat 64)), SB.c true,
          SB.app 130 (SA.l (SL.v 0) (SA.l (SL.v 1) (SA.i (SI.v 3) SA.nil)))],
      eqs :=
        [Eqn.T
            (SB.eq (SI.len (SL.app 110 (SA.l (SL.v 0) (SA.i (SI.v 0) (SA.i (SI.v 1) (SA.i (SI.v 3) SA.nil))))))
              (SI.len (SL.v 0))),
          Eqn.T
            (SB.app 130
              (SA.l (SL.app 110 (SA.l (SL.v 0) (SA.i (SI.v 0) (SA.i (SI.v 1) (SA.i (SI.v 3) SA.nil)))))
                (SA.l (SL.app 7 (SA.l (SL.v 1) (SA.i (SI.v 1) (SA.i (SI.v 0) SA.nil)))) (SA.i (SI.v 3) SA.nil)))),
          Eqn.I (SI.app 110 (SA.l (SL.v 0) (SA.i (SI.v 0) (SA.i (SI.v 1) (SA.i (SI.v 3) SA.nil)))))
            (SI.c (Int.ofNat 0)),
          Eqn.I (SI.len (SL.app 110 (SA.l (SL.v 0) (SA.i (SI.v 0) (SA.i (SI.v 1) (SA.i (SI.v 3) SA.nil))))))
            (SI.len (SL.app 115 (SA.l (SL.v 0) (SA.i (SI.v 0) (SA.i (SI.v 1) SA.nil))))),
          Eqn.L (SL.app 110 (SA.l (SL.v 0) (SA.i (SI.v 0) (SA.i (SI.v 1) (SA.i (SI.v 3) SA.nil)))))
            (SL.app 115 (SA.l (SL.v 0) (SA.i (SI.v 0) (SA.i (SI.v 1) SA.nil))))] },
    {
      pc :=
        [SB.not (SB.lt (SI.len (SL.app 14 (SA.l (SL.v 0) (SA.i (SI.v 0) SA.nil)))) (SI.c (Int.ofNat 64))),
          SB.not (SB.eq (SI.len (SL.app 14 (SA.l (SL.v 0) (SA.i (SI.v 0) SA.nil)))) (SI.v 3)),
          SB.not (SB.lt (SI.c (Int.ofNat 0)) (SI.len (SL.app 6 (SA.l (SL.v 1) (SA.i (SI.v 1) SA.nil))))),
          SB.not (SB.lt (SI.v 1) (SI.c (Int.ofNat 0))), SB.lt (SI.v 0) (SI.len (SL.v 0)),
          SB.le (SI.c (Int.ofNat 0)) (SI.v 0), SB.le (SI.c (Int.ofNat 1)) (SI.len (SL.v 0)),
          SB.le (SI.len (SL.v 0)) (SI.c (Int.ofNat 8)), SB.le (SI.c (Int.ofNat 1)) (SI.v 3),
          SB.le (SI.v 3) (SI.c (Int.ofNat 64)), SB.c true,
          SB.app 130 (SA.l (SL.v 0) (SA.l (SL.v 1) (SA.i (SI.v 3) SA.nil)))],
      eqs := [Eqn.T (SB.c false)] },
    {
      pc :=
        [SB.not (SB.lt (SI.v 0) (SI.len (SL.v 0))), SB.le (SI.c (Int.ofNat 0)) (SI.v 0),
          SB.le (SI.c (Int.ofNat 1)) (SI.len (SL.v 0)), SB.le (SI.len (SL.v 0)) (SI.c (Int.ofNat 8)),
          SB.le (SI.c (Int.ofNat 1)) (SI.v 3), SB.le (SI.v 3) (SI.c (Int.ofNat 64)), SB.c true,
          SB.app 130 (SA.l (SL.v 0) (SA.l (SL.v 1) (SA.i (SI.v 3) SA.nil)))],
      eqs :=
        [Eqn.T
            (SB.eq (SI.len (SL.app 110 (SA.l (SL.v 0) (SA.i (SI.v 0) (SA.i (SI.v 1) (SA.i (SI.v 3) SA.nil))))))
              (SI.len (SL.v 0))),
          Eqn.T
            (SB.app 130
              (SA.l (SL.app 110 (SA.l (SL.v 0) (SA.i (SI.v 0) (SA.i (SI.v 1) (SA.i (SI.v 3) SA.nil)))))
                (SA.l (SL.v 1) (SA.i (SI.v 3) SA.nil)))),
          Eqn.I (SI.app 110 (SA.l (SL.v 0) (SA.i (SI.v 0) (SA.i (SI.v 1) (SA.i (SI.v 3) SA.nil)))))
            (SI.c (Int.ofNat 2)),
          Eqn.I (SI.len (SL.app 110 (SA.l (SL.v 0) (SA.i (SI.v 0) (SA.i (SI.v 1) (SA.i (SI.v 3) SA.nil))))))
            (SI.len (SL.v 0)),
          Eqn.L (SL.app 110 (SA.l (SL.v 0) (SA.i (SI.v 0) (SA.i (SI.v 1) (SA.i (SI.v 3) SA.nil))))) (SL.v 0)] },
    {
      pc :=
        [SB.not (SB.le (SI.c (Int.ofNat 0)) (SI.v 0)), SB.le (SI.c (Int.ofNat 1)) (SI.len (SL.v 0)),
          SB.le (SI.len (SL.v 0)) (SI.c (Int.ofNat 8)), SB.le (SI.c (Int.ofNat 1)) (SI.v 3),
          SB.le (SI.v 3) (SI.c (Int.ofNat 64)), SB.c true,
          SB.app 130 (SA.l (SL.v 0) (SA.l (SL.v 1) (SA.i (SI.v 3) SA.nil)))],
      eqs :=
        [Eqn.T
            (SB.eq (SI.len (SL.app 110 (SA.l (SL.v 0) (SA.i (SI.v 0) (SA.i (SI.v 1) (SA.i (SI.v 3) SA.nil))))))
              (SI.len (SL.v 0))),
          Eqn.T
            (SB.app 130
              (SA.l (SL.app 110 (SA.l (SL.v 0) (SA.i (SI.v 0) (SA.i (SI.v 1) (SA.i (SI.v 3) SA.nil)))))
                (SA.l (SL.v 1) (SA.i (SI.v 3) SA.nil)))),
          Eqn.I (SI.app 110 (SA.l (SL.v 0) (SA.i (SI.v 0) (SA.i (SI.v 1) (SA.i (SI.v 3) SA.nil)))))
            (SI.c (Int.ofNat 2)),
          Eqn.I (SI.len (SL.app 110 (SA.l (SL.v 0) (SA.i (SI.v 0) (SA.i (SI.v 1) (SA.i (SI.v 3) SA.nil))))))
            (SI.len (SL.v 0)),
          Eqn.L (SL.app 110 (SA.l (SL.v 0) (SA.i (SI.v 0) (SA.i (SI.v 1) (SA.i (SI.v 3) SA.nil))))) (SL.v 0)] }] := by kernel_rfl
theorem cPush_ok : cPush.ok Φ Try.prog := by
  refine call_rule (fun ρ => t2_ok ρ) cPush_obs ?_
  simp only [and_imp, List.forall_mem_cons, List.not_mem_nil, false_implies, implies_true, and_true, Ob.ok, holds, Eqn.ok, evB_eq, evB_lt, evB_le, evB_not, evB_and, evB_or, evB_eqL, evB_app, evB_v, evB_c, ev_sel, ev_len, ev_v, ev_c, ev_add, ev_sub, ev_mul, ev_quo, ev_rem, ev_bits, ev_wrap, evL_v, evL_lit, evL_app, ev_app, evA_l, evA_i, evA_nil, std_min, std_max, std_cat, std_take, std_drop, std_row, std_set, std_rep, std_find, std_put, std_del, std_flag, std_unflag, std_clr, std_left, std_copy, ints_cons, ints_nil, ofNat_lit, negSucc_lit, decide_eq_true_eq, Bool.and_eq_true, Bool.or_eq_true, Bool.not_eq_true', Bool.and_eq_false_iff, Bool.or_eq_false_iff, decide_eq_false_iff_not, std_rowT, std_setT, lenR_rowT, rowT_get, aI100, aI101, aI102, aI103, aI104, aI105, aI106, aI107, aI110, aI111, aI112, aI113, aI114, aL110, aL111, aL112, aL113, aL115, aL116, aL120, aL121, aB130, aB131, aB132, aB133, aB134, aB135, aB136, aB199]
  repeat' apply And.intro
  all_goals intro ρ hR
  all_goals intros
  all_goals first
    | (have e := push_range (T := ρ.l 0) (c := ρ.i 0) (id := ρ.i 1) (rm := ρ.i 3) (by omega)
       rw [push_no e (by decide)]
       exact ⟨rfl, by with_reducible assumption, e, rfl, rfl⟩)
    | (have e := push_arg (T := ρ.l 0) (c := ρ.i 0) (id := ρ.i 1) (rm := ρ.i 3) (by omega) (by omega) (by omega)
       rw [push_no e (by decide)]
       exact ⟨rfl, by with_reducible assumption, e, rfl, rfl⟩)
    | (have hi : invB (ρ.l 0) (ρ.l 1) (ρ.i 3) = true := by with_reducible assumption
       have hM : (ρ.l 1).Pairwise (fun a b => hdK a < hdK b) := hR.keys 3 rfl rfl
       have hk : hasB (ρ.l 0) (ρ.i 1) = true := has_of hi hM (by with_reducible assumption)
       have e := push_twice (T := ρ.l 0) (c := ρ.i 0) (id := ρ.i 1) (rm := ρ.i 3) (by omega) (by omega) (by omega) hk
       rw [push_no e (by decide)]
       exact ⟨rfl, by with_reducible assumption, e, rfl, rfl⟩)
    | (have hi : invB (ρ.l 0) (ρ.l 1) (ρ.i 3) = true := by with_reducible assumption
       have hM : (ρ.l 1).Pairwise (fun a b => hdK a < hdK b) := hR.keys 3 rfl rfl
       have hk : hasB (ρ.l 0) (ρ.i 1) = false := has_not hi hM (by with_reducible assumption)
       have e := push_full (T := ρ.l 0) (c := ρ.i 0) (id := ρ.i 1) (rm := ρ.i 3) (by omega) (by omega) (by omega) hk (by omega)
       rw [push_no e (by decide)]
       exact ⟨rfl, by with_reducible assumption, e, rfl, rfl⟩)
    | (have hi : invB (ρ.l 0) (ρ.l 1) (ρ.i 3) = true := by with_reducible assumption
       have hM : (ρ.l 1).Pairwise (fun a b => hdK a < hdK b) := hR.keys 3 rfl rfl
       have hk : hasB (ρ.l 0) (ρ.i 1) = false := has_not hi hM (by with_reducible assumption)
       obtain ⟨e, e2⟩ := push_ok (T := ρ.l 0) (c := ρ.i 0) (id := ρ.i 1) (rm := ρ.i 3) (by omega) (by omega) (by omega) hk (by omega)
       have hl := layT_len (ρ.l 0) (ρ.i 0) (ρ.i 1)
       have hr := inv_row hi (c := ρ.i 0) (by omega) (by omega)
       rw [e2]
       exact ⟨by omega, inv_lay hi hk (by omega) (by omega) (by omega), e, rfl, rfl⟩)
    | (have hi : invB (ρ.l 0) (ρ.l 1) (ρ.i 3) = true := by with_reducible assumption
       have hr := inv_row hi (c := ρ.i 0) (by omega) (by omega)
       exfalso
       omega)
set_option maxRecDepth 100000 in
theorem wh0_obs : loopObs Φ Try.prog t2 1000 wh0.f (loopAt Try.prog wh0.f wh0.id) wh0.n wh0.T k1 wh0.outs = some
  [{
      pc :=
        [SB.eq (SI.sel (SL.app 14 (SA.l (SL.v 0) (SA.i (SI.v 0) SA.nil))) (SI.v 2) 0) (SI.v 1),
          SB.lt (SI.v 2) (SI.len (SL.app 14 (SA.l (SL.v 0) (SA.i (SI.v 0) SA.nil)))),
          SB.le (SI.c (Int.ofNat 1)) (SI.len (SL.v 0)), SB.le (SI.len (SL.v 0)) (SI.c (Int.ofNat 8)),
          SB.le (SI.c (Int.ofNat 1)) (SI.v 3), SB.le (SI.v 3) (SI.c (Int.ofNat 64)),
          SB.le (SI.c (Int.ofNat 0)) (SI.v 0), SB.lt (SI.v 0) (SI.len (SL.v 0)), SB.le (SI.c (Int.ofNat 0)) (SI.v 2),
          SB.c true,
          SB.lt (SI.app 103 (SA.l (SL.v 0) (SA.i (SI.v 0) (SA.i (SI.v 1) (SA.i (SI.v 2) SA.nil)))))
            (SI.len (SL.app 14 (SA.l (SL.v 0) (SA.i (SI.v 0) SA.nil)))),
          SB.le (SI.len (SL.app 14 (SA.l (SL.v 0) (SA.i (SI.v 0) SA.nil)))) (SI.c (Int.ofNat 64))],
      eqs := [Eqn.I (SI.app 103 (SA.l (SL.v 0) (SA.i (SI.v 0) (SA.i (SI.v 1) (SA.i (SI.v 2) SA.nil))))) (SI.v 2)] },
    {
      pc :=
        [SB.not (SB.eq (SI.sel (SL.app 14 (SA.l (SL.v 0) (SA.i (SI.v 0) SA.nil))) (SI.v 2) 0) (SI.v 1)),
          SB.lt (SI.v 2) (SI.len (SL.app 14 (SA.l (SL.v 0) (SA.i (SI.v 0) SA.nil)))),
          SB.le (SI.c (Int.ofNat 1)) (SI.len (SL.v 0)), SB.le (SI.len (SL.v 0)) (SI.c (Int.ofNat 8)),
          SB.le (SI.c (Int.ofNat 1)) (SI.v 3), SB.le (SI.v 3) (SI.c (Int.ofNat 64)),
          SB.le (SI.c (Int.ofNat 0)) (SI.v 0), SB.lt (SI.v 0) (SI.len (SL.v 0)), SB.le (SI.c (Int.ofNat 0)) (SI.v 2),
          SB.c true,
          SB.lt (SI.app 103 (SA.l (SL.v 0) (SA.i (SI.v 0) (SA.i (SI.v 1) (SA.i (SI.v 2) SA.nil)))))
            (SI.len (SL.app 14 (SA.l (SL.v 0) (SA.i (SI.v 0) SA.nil)))),
          SB.le (SI.len (SL.app 14 (SA.l (SL.v 0) (SA.i (SI.v 0) SA.nil)))) (SI.c (Int.ofNat 64))],
      eqs :=
        [Eqn.T
            (SB.lt
              (SI.sub (SI.len (SL.app 14 (SA.l (SL.v 0) (SA.i (SI.v 0) SA.nil))))
                (SI.add (SI.v 2) (SI.c (Int.ofNat 1))))
              (SI.sub (SI.len (SL.app 14 (SA.l (SL.v 0) (SA.i (SI.v 0) SA.nil)))) (SI.v 2))),
          Eqn.T
            (SB.lt (SI.c (Int.ofNat 0)) (SI.sub (SI.len (SL.app 14 (SA.l (SL.v 0) (SA.i (SI.v 0) SA.nil)))) (SI.v 2))),
          Eqn.T
            (SB.lt
              (SI.app 103
                (SA.l (SL.v 0) (SA.i (SI.v 0) (SA.i (SI.v 1) (SA.i (SI.add (SI.v 2) (SI.c (Int.ofNat 1))) SA.nil)))))
              (SI.len (SL.app 14 (SA.l (SL.v 0) (SA.i (SI.v 0) SA.nil)))))] },
    {
      pc :=
        [SB.not (SB.eq (SI.sel (SL.app 14 (SA.l (SL.v 0) (SA.i (SI.v 0) SA.nil))) (SI.v 2) 0) (SI.v 1)),
          SB.lt (SI.v 2) (SI.len (SL.app 14 (SA.l (SL.v 0) (SA.i (SI.v 0) SA.nil)))),
          SB.le (SI.c (Int.ofNat 1)) (SI.len (SL.v 0)), SB.le (SI.len (SL.v 0)) (SI.c (Int.ofNat 8)),
          SB.le (SI.c (Int.ofNat 1)) (SI.v 3), SB.le (SI.v 3) (SI.c (Int.ofNat 64)),
          SB.le (SI.c (Int.ofNat 0)) (SI.v 0), SB.lt (SI.v 0) (SI.len (SL.v 0)), SB.le (SI.c (Int.ofNat 0)) (SI.v 2),
          SB.c true,
          SB.lt (SI.app 103 (SA.l (SL.v 0) (SA.i (SI.v 0) (SA.i (SI.v 1) (SA.i (SI.v 2) SA.nil)))))
            (SI.len (SL.app 14 (SA.l (SL.v 0) (SA.i (SI.v 0) SA.nil)))),
          SB.le (SI.len (SL.app 14 (SA.l (SL.v 0) (SA.i (SI.v 0) SA.nil)))) (SI.c (Int.ofNat 64))],
      eqs :=
        [Eqn.I (SI.app 103 (SA.l (SL.v 0) (SA.i (SI.v 0) (SA.i (SI.v 1) (SA.i (SI.v 2) SA.nil)))))
            (SI.app 103
              (SA.l (SL.v 0) (SA.i (SI.v 0) (SA.i (SI.v 1) (SA.i (SI.add (SI.v 2) (SI.c (Int.ofNat 1))) SA.nil)))))] },
    {
      pc :=
        [SB.not (SB.lt (SI.v 2) (SI.len (SL.app 14 (SA.l (SL.v 0) (SA.i (SI.v 0) SA.nil))))),
          SB.le (SI.c (Int.ofNat 1)) (SI.len (SL.v 0)), SB.le (SI.len (SL.v 0)) (SI.c (Int.ofNat 8)),
          SB.le (SI.c (Int.ofNat 1)) (SI.v 3), SB.le (SI.v 3) (SI.c (Int.ofNat 64)),
          SB.le (SI.c (Int.ofNat 0)) (SI.v 0), SB.lt (SI.v 0) (SI.len (SL.v 0)), SB.le (SI.c (Int.ofNat 0)) (SI.v 2),
          SB.c true,
          SB.lt (SI.app 103 (SA.l (SL.v 0) (SA.i (SI.v 0) (SA.i (SI.v 1) (SA.i (SI.v 2) SA.nil)))))
            (SI.len (SL.app 14 (SA.l (SL.v 0) (SA.i (SI.v 0) SA.nil)))),
          SB.le (SI.len (SL.app 14 (SA.l (SL.v 0) (SA.i (SI.v 0) SA.nil)))) (SI.c (Int.ofNat 64))],
      eqs := [Eqn.T (SB.c false)] }] := by kernel_rfl
theorem wh0_ok : wh0.ok Φ Try.prog := by
  refine ⟨by kernel_rfl, loop_rule (fun ρ => t2_ok ρ) (loopAt_sub (by kernel_rfl)) wh0_obs ?_⟩
  simp only [and_imp, List.forall_mem_cons, List.not_mem_nil, false_implies, implies_true, and_true, Ob.ok, holds, Eqn.ok, evB_eq, evB_lt, evB_le, evB_not, evB_and, evB_or, evB_eqL, evB_app, evB_v, evB_c, ev_sel, ev_len, ev_v, ev_c, ev_add, ev_sub, ev_mul, ev_quo, ev_rem, ev_bits, ev_wrap, evL_v, evL_lit, evL_app, ev_app, evA_l, evA_i, evA_nil, std_min, std_max, std_cat, std_take, std_drop, std_row, std_set, std_rep, std_find, std_put, std_del, std_flag, std_unflag, std_clr, std_left, std_copy, ints_cons, ints_nil, ofNat_lit, negSucc_lit, decide_eq_true_eq, Bool.and_eq_true, Bool.or_eq_true, Bool.not_eq_true', Bool.and_eq_false_iff, Bool.or_eq_false_iff, decide_eq_false_iff_not, std_rowT, std_setT, lenR_rowT, rowT_get, aI100, aI101, aI102, aI103, aI104, aI105, aI106, aI107, aI110, aI111, aI112, aI113, aI114, aL110, aL111, aL112, aL113, aL115, aL116, aL120, aL121, aB130, aB131, aB132, aB133, aB134, aB135, aB136, aB199]
  repeat' apply And.intro
  all_goals intro ρ hR
  all_goals intros
  all_goals first
    | (exact atG_stop (T := ρ.l 0) (by omega) (by omega) (by with_reducible assumption))
    | (have e := atG_step (T := ρ.l 0) (c := ρ.i 0) (i := ρ.i 2) (id := ρ.i 1) (by omega) (by omega) (by with_reducible assumption)
       omega)
    | (have e := atG_ge (T := ρ.l 0) (c := ρ.i 0) (i := ρ.i 2) (id := ρ.i 1)
       exfalso
       omega)
theorem t3_ok (ρ : Env) : TblOK Φ ρ Try.prog t3 := addLp_ok (t2_ok ρ) wh0_ok
set_option maxRecDepth 100000 in
theorem cWhere_obs : callObs Φ Try.prog t3 1000 cWhere.f cWhere.vs cWhere.o cWhere.pc cWhere.outs = some
  [{
      pc :=
        [SB.eq
            (SI.sel
              (SL.app 14
                (SA.l (SL.v 0)
                  (SA.i (SI.sel (SL.app 6 (SA.l (SL.v 1) (SA.i (SI.v 1) SA.nil))) (SI.c (Int.ofNat 0)) 1) SA.nil)))
              (SI.c (Int.ofNat 0)) 0)
            (SI.v 1),
          SB.lt (SI.c (Int.ofNat 0))
            (SI.len
              (SL.app 14
                (SA.l (SL.v 0)
                  (SA.i (SI.sel (SL.app 6 (SA.l (SL.v 1) (SA.i (SI.v 1) SA.nil))) (SI.c (Int.ofNat 0)) 1) SA.nil)))),
          SB.lt (SI.sel (SL.app 6 (SA.l (SL.v 1) (SA.i (SI.v 1) SA.nil))) (SI.c (Int.ofNat 0)) 1) (SI.len (SL.v 0)),
          SB.le (SI.c (Int.ofNat 0)) (SI.sel (SL.app 6 (SA.l (SL.v 1) (SA.i (SI.v 1) SA.nil))) (SI.c (Int.ofNat 0)) 1),
          SB.lt (SI.c (Int.ofNat 0)) (SI.len (SL.app 6 (SA.l (SL.v 1) (SA.i (SI.v 1) SA.nil)))),
          SB.le (SI.c (Int.ofNat 1)) (SI.len (SL.v 0)), SB.le (SI.len (SL.v 0)) (SI.c (Int.ofNat 8)),
          SB.le (SI.c (Int.ofNat 1)) (SI.v 3), SB.le (SI.v 3) (SI.c (Int.ofNat 64)), SB.c true,
          SB.app 130 (SA.l (SL.v 0) (SA.l (SL.v 1) (SA.i (SI.v 3) SA.nil)))],
      eqs :=
        [Eqn.T (SB.app 131 (SA.l (SL.v 0) (SA.i (SI.v 1) SA.nil))),
          Eqn.T (SB.le (SI.c (Int.ofNat 0)) (SI.app 101 (SA.l (SL.v 0) (SA.i (SI.v 1) SA.nil)))),
          Eqn.T (SB.lt (SI.app 101 (SA.l (SL.v 0) (SA.i (SI.v 1) SA.nil))) (SI.len (SL.v 0))),
          Eqn.T (SB.le (SI.c (Int.ofNat 0)) (SI.app 102 (SA.l (SL.v 0) (SA.i (SI.v 1) SA.nil)))),
          Eqn.T
            (SB.lt (SI.app 102 (SA.l (SL.v 0) (SA.i (SI.v 1) SA.nil)))
              (SI.len (SL.app 14 (SA.l (SL.v 0) (SA.i (SI.app 101 (SA.l (SL.v 0) (SA.i (SI.v 1) SA.nil))) SA.nil))))),
          Eqn.T
            (SB.le
              (SI.len (SL.app 14 (SA.l (SL.v 0) (SA.i (SI.app 101 (SA.l (SL.v 0) (SA.i (SI.v 1) SA.nil))) SA.nil))))
              (SI.v 3)),
          Eqn.T
            (SB.eq
              (SI.sel (SL.app 14 (SA.l (SL.v 0) (SA.i (SI.app 101 (SA.l (SL.v 0) (SA.i (SI.v 1) SA.nil))) SA.nil)))
                (SI.app 102 (SA.l (SL.v 0) (SA.i (SI.v 1) SA.nil))) 0)
              (SI.v 1)),
          Eqn.I (SI.app 101 (SA.l (SL.v 0) (SA.i (SI.v 1) SA.nil)))
            (SI.sel (SL.app 6 (SA.l (SL.v 1) (SA.i (SI.v 1) SA.nil))) (SI.c (Int.ofNat 0)) 1),
          Eqn.I (SI.app 102 (SA.l (SL.v 0) (SA.i (SI.v 1) SA.nil))) (SI.c (Int.ofNat 0))] },
    {
      pc :=
        [SB.lt
            (SI.app 103
              (SA.l (SL.v 0)
                (SA.i (SI.sel (SL.app 6 (SA.l (SL.v 1) (SA.i (SI.v 1) SA.nil))) (SI.c (Int.ofNat 0)) 1)
                  (SA.i (SI.v 1) (SA.i (SI.c (Int.ofNat 1)) SA.nil)))))
            (SI.len
              (SL.app 14
                (SA.l (SL.v 0)
                  (SA.i (SI.sel (SL.app 6 (SA.l (SL.v 1) (SA.i (SI.v 1) SA.nil))) (SI.c (Int.ofNat 0)) 1) SA.nil)))),
          SB.le
            (SI.len
              (SL.app 14
                (SA.l (SL.v 0)
                  (SA.i (SI.sel (SL.app 6 (SA.l (SL.v 1) (SA.i (SI.v 1) SA.nil))) (SI.c (Int.ofNat 0)) 1) SA.nil))))
            (SI.c (Int.ofNat 64)),
          SB.not
            (SB.eq
              (SI.sel
                (SL.app 14
                  (SA.l (SL.v 0)
                    (SA.i (SI.sel (SL.app 6 (SA.l (SL.v 1) (SA.i (SI.v 1) SA.nil))) (SI.c (Int.ofNat 0)) 1) SA.nil)))
                (SI.c (Int.ofNat 0)) 0)
              (SI.v 1)),
          SB.lt (SI.c (Int.ofNat 0))
            (SI.len
              (SL.app 14
                (SA.l (SL.v 0)
                  (SA.i (SI.sel (SL.app 6 (SA.l (SL.v 1) (SA.i (SI.v 1) SA.nil))) (SI.c (Int.ofNat 0)) 1) SA.nil)))),
          SB.lt (SI.sel (SL.app 6 (SA.l (SL.v 1) (SA.i (SI.v 1) SA.nil))) (SI.c (Int.ofNat 0)) 1) (SI.len (SL.v 0)),
          SB.le (SI.c (Int.ofNat 0)) (SI.sel (SL.app 6 (SA.l (SL.v 1) (SA.i (SI.v 1) SA.nil))) (SI.c (Int.ofNat 0)) 1),
          SB.lt (SI.c (Int.ofNat 0)) (SI.len (SL.app 6 (SA.l (SL.v 1) (SA.i (SI.v 1) SA.nil)))),
          SB.le (SI.c (Int.ofNat 1)) (SI.len (SL.v 0)), SB.le (SI.len (SL.v 0)) (SI.c (Int.ofNat 8)),
          SB.le (SI.c (Int.ofNat 1)) (SI.v 3), SB.le (SI.v 3) (SI.c (Int.ofNat 64)), SB.c true,
          SB.app 130 (SA.l (SL.v 0) (SA.l (SL.v 1) (SA.i (SI.v 3) SA.nil)))],
      eqs :=
        [Eqn.T (SB.app 131 (SA.l (SL.v 0) (SA.i (SI.v 1) SA.nil))),
          Eqn.T (SB.le (SI.c (Int.ofNat 0)) (SI.app 101 (SA.l (SL.v 0) (SA.i (SI.v 1) SA.nil)))),
          Eqn.T (SB.lt (SI.app 101 (SA.l (SL.v 0) (SA.i (SI.v 1) SA.nil))) (SI.len (SL.v 0))),
          Eqn.T (SB.le (SI.c (Int.ofNat 0)) (SI.app 102 (SA.l (SL.v 0) (SA.i (SI.v 1) SA.nil)))),
          Eqn.T
            (SB.lt (SI.app 102 (SA.l (SL.v 0) (SA.i (SI.v 1) SA.nil)))
              (SI.len (SL.app 14 (SA.l (SL.v 0) (SA.i (SI.app 101 (SA.l (SL.v 0) (SA.i (SI.v 1) SA.nil))) SA.nil))))),
          Eqn.T
            (SB.le
              (SI.len (SL.app 14 (SA.l (SL.v 0) (SA.i (SI.app 101 (SA.l (SL.v 0) (SA.i (SI.v 1) SA.nil))) SA.nil))))
              (SI.v 3)),
          Eqn.T
            (SB.eq
              (SI.sel (SL.app 14 (SA.l (SL.v 0) (SA.i (SI.app 101 (SA.l (SL.v 0) (SA.i (SI.v 1) SA.nil))) SA.nil)))
                (SI.app 102 (SA.l (SL.v 0) (SA.i (SI.v 1) SA.nil))) 0)
              (SI.v 1)),
          Eqn.I (SI.app 101 (SA.l (SL.v 0) (SA.i (SI.v 1) SA.nil)))
            (SI.sel (SL.app 6 (SA.l (SL.v 1) (SA.i (SI.v 1) SA.nil))) (SI.c (Int.ofNat 0)) 1),
          Eqn.I (SI.app 102 (SA.l (SL.v 0) (SA.i (SI.v 1) SA.nil)))
            (SI.app 103
              (SA.l (SL.v 0)
                (SA.i (SI.sel (SL.app 6 (SA.l (SL.v 1) (SA.i (SI.v 1) SA.nil))) (SI.c (Int.ofNat 0)) 1)
                  (SA.i (SI.v 1) (SA.i (SI.c (Int.ofNat 1)) SA.nil)))))] },
    {
      pc :=
        [SB.not
            (SB.lt
              (SI.app 103
                (SA.l (SL.v 0)
                  (SA.i (SI.sel (SL.app 6 (SA.l (SL.v 1) (SA.i (SI.v 1) SA.nil))) (SI.c (Int.ofNat 0)) 1)
                    (SA.i (SI.v 1) (SA.i (SI.c (Int.ofNat 1)) SA.nil)))))
              (SI.len
                (SL.app 14
                  (SA.l (SL.v 0)
                    (SA.i (SI.sel (SL.app 6 (SA.l (SL.v 1) (SA.i (SI.v 1) SA.nil))) (SI.c (Int.ofNat 0)) 1) SA.nil))))),
          SB.not
            (SB.eq
              (SI.sel
                (SL.app 14
                  (SA.l (SL.v 0)
                    (SA.i (SI.sel (SL.app 6 (SA.l (SL.v 1) (SA.i (SI.v 1) SA.nil))) (SI.c (Int.ofNat 0)) 1) SA.nil)))
                (SI.c (Int.ofNat 0)) 0)
              (SI.v 1)),
          SB.lt (SI.c (Int.ofNat 0))
            (SI.len
              (SL.app 14
                (SA.l (SL.v 0)
                  (SA.i (SI.sel (SL.app 6 (SA.l (SL.v 1) (SA.i (SI.v 1) SA.nil))) (SI.c (Int.ofNat 0)) 1) SA.nil)))),
          SB.lt (SI.sel (SL.app 6 (SA.l (SL.v 1) (SA.i (SI.v 1) SA.nil))) (SI.c (Int.ofNat 0)) 1) (SI.len (SL.v 0)),
          SB.le (SI.c (Int.ofNat 0)) (SI.sel (SL.app 6 (SA.l (SL.v 1) (SA.i (SI.v 1) SA.nil))) (SI.c (Int.ofNat 0)) 1),
          SB.lt (SI.c (Int.ofNat 0)) (SI.len (SL.app 6 (SA.l (SL.v 1) (SA.i (SI.v 1) SA.nil)))),
          SB.le (SI.c (Int.ofNat 1)) (SI.len (SL.v 0)), SB.le (SI.len (SL.v 0)) (SI.c (Int.ofNat 8)),
          SB.le (SI.c (Int.ofNat 1)) (SI.v 3), SB.le (SI.v 3) (SI.c (Int.ofNat 64)), SB.c true,
          SB.app 130 (SA.l (SL.v 0) (SA.l (SL.v 1) (SA.i (SI.v 3) SA.nil)))],
      eqs := [Eqn.T (SB.c false)] },
    {
      pc :=
        [SB.not
            (SB.le
              (SI.len
                (SL.app 14
                  (SA.l (SL.v 0)
                    (SA.i (SI.sel (SL.app 6 (SA.l (SL.v 1) (SA.i (SI.v 1) SA.nil))) (SI.c (Int.ofNat 0)) 1) SA.nil))))
              (SI.c (Int.ofNat 64))),
          SB.not
            (SB.eq
              (SI.sel
                (SL.app 14
                  (SA.l (SL.v 0)
                    (SA.i (SI.sel (SL.app 6 (SA.l (SL.v 1) (SA.i (SI.v 1) SA.nil))) (SI.c (Int.ofNat 0)) 1) SA.nil)))
                (SI.c (Int.ofNat 0)) 0)
              (SI.v 1)),
          SB.lt (SI.c (Int.ofNat 0))
            (SI.len
              (SL.app 14
                (SA.l (SL.v 0)
                  (SA.i (SI.sel (SL.app 6 (SA.l (SL.v 1) (SA.i (SI.v 1) SA.nil))) (SI.c (Int.ofNat 0)) 1) SA.nil)))),
          SB.lt (SI.sel (SL.app 6 (SA.l (SL.v 1) (SA.i (SI.v 1) SA.nil))) (SI.c (Int.ofNat 0)) 1) (SI.len (SL.v 0)),
          SB.le (SI.c (Int.ofNat 0)) (SI.sel (SL.app 6 (SA.l (SL.v 1) (SA.i (SI.v 1) SA.nil))) (SI.c (Int.ofNat 0)) 1),
          SB.lt (SI.c (Int.ofNat 0)) (SI.len (SL.app 6 (SA.l (SL.v 1) (SA.i (SI.v 1) SA.nil)))),
          SB.le (SI.c (Int.ofNat 1)) (SI.len (SL.v 0)), SB.le (SI.len (SL.v 0)) (SI.c (Int.ofNat 8)),
          SB.le (SI.c (Int.ofNat 1)) (SI.v 3), SB.le (SI.v 3) (SI.c (Int.ofNat 64)), SB.c true,
          SB.app 130 (SA.l (SL.v 0) (SA.l (SL.v 1) (SA.i (SI.v 3) SA.nil)))],
      eqs := [Eqn.T (SB.c false)] },
    {
      pc :=
        [SB.not
            (SB.lt (SI.c (Int.ofNat 0))
              (SI.len
                (SL.app 14
                  (SA.l (SL.v 0)
                    (SA.i (SI.sel (SL.app 6 (SA.l (SL.v 1) (SA.i (SI.v 1) SA.nil))) (SI.c (Int.ofNat 0)) 1) SA.nil))))),
          SB.lt (SI.sel (SL.app 6 (SA.l (SL.v 1) (SA.i (SI.v 1) SA.nil))) (SI.c (Int.ofNat 0)) 1) (SI.len (SL.v 0)),
          SB.le (SI.c (Int.ofNat 0)) (SI.sel (SL.app 6 (SA.l (SL.v 1) (SA.i (SI.v 1) SA.nil))) (SI.c (Int.ofNat 0)) 1),
          SB.lt (SI.c (Int.ofNat 0)) (SI.len (SL.app 6 (SA.l (SL.v 1) (SA.i (SI.v 1) SA.nil)))),
          SB.le (SI.c (Int.ofNat 1)) (SI.len (SL.v 0)), SB.le (SI.len (SL.v 0)) (SI.c (Int.ofNat 8)),
          SB.le (SI.c (Int.ofNat 1)) (SI.v 3), SB.le (SI.v 3) (SI.c (Int.ofNat 64)), SB.c true,
          SB.app 130 (SA.l (SL.v 0) (SA.l (SL.v 1) (SA.i (SI.v 3) SA.nil)))],
      eqs := [Eqn.T (SB.c false)] },
    {
      pc :=
        [SB.not
            (SB.lt (SI.sel (SL.app 6 (SA.l (SL.v 1) (SA.i (SI.v 1) SA.nil))) (SI.c (Int.ofNat 0)) 1) (SI.len (SL.v 0))),
          SB.le (SI.c (Int.ofNat 0)) (SI.sel (SL.app 6 (SA.l (SL.v 1) (SA.i (SI.v 1) SA.nil))) (SI.c (Int.ofNat 0)) 1),
          SB.lt (SI.c (Int.ofNat 0)) (SI.len (SL.app 6 (SA.l (SL.v 1) (SA.i (SI.v 1) SA.nil)))),
          SB.le (SI.c (Int.ofNat 1)) (SI.len (SL.v 0)), SB.le (SI.len (SL.v 0)) (SI.c (Int.ofNat 8)),
          SB.le (SI.c (Int.ofNat 1)) (SI.v 3), SB.le (SI.v 3) (SI.c (Int.ofNat 64)), SB.c true,
          SB.app 130 (SA.l (SL.v 0) (SA.l (SL.v 1) (SA.i (SI.v 3) SA.nil)))],
      eqs := [Eqn.T (SB.c false)] },
    {
      pc :=
        [SB.not
            (SB.le (SI.c (Int.ofNat 0))
              (SI.sel (SL.app 6 (SA.l (SL.v 1) (SA.i (SI.v 1) SA.nil))) (SI.c (Int.ofNat 0)) 1)),
          SB.lt (SI.c (Int.ofNat 0)) (SI.len (SL.app 6 (SA.l (SL.v 1) (SA.i (SI.v 1) SA.nil)))),
          SB.le (SI.c (Int.ofNat 1)) (SI.len (SL.v 0)), SB.le (SI.len (SL.v 0)) (SI.c (Int.ofNat 8)),
          SB.le (SI.c (Int.ofNat 1)) (SI.v 3), SB.le (SI.v 3) (SI.c (Int.ofNat 64)), SB.c true,
          SB.app 130 (SA.l (SL.v 0) (SA.l (SL.v 1) (SA.i (SI.v 3) SA.nil)))],
      eqs := [Eqn.T (SB.c false)] },
    {
      pc :=
        [SB.not (SB.lt (SI.c (Int.ofNat 0)) (SI.len (SL.app 6 (SA.l (SL.v 1) (SA.i (SI.v 1) SA.nil))))),
          SB.le (SI.c (Int.ofNat 1)) (SI.len (SL.v 0)), SB.le (SI.len (SL.v 0)) (SI.c (Int.ofNat 8)),
          SB.le (SI.c (Int.ofNat 1)) (SI.v 3), SB.le (SI.v 3) (SI.c (Int.ofNat 64)), SB.c true,
          SB.app 130 (SA.l (SL.v 0) (SA.l (SL.v 1) (SA.i (SI.v 3) SA.nil)))],
      eqs := [Eqn.T (SB.not (SB.app 131 (SA.l (SL.v 0) (SA.i (SI.v 1) SA.nil))))] }] := by kernel_rfl
theorem cWhere_ok : cWhere.ok Φ Try.prog := by
  refine call_rule (fun ρ => t3_ok ρ) cWhere_obs ?_
  simp only [and_imp, List.forall_mem_cons, List.not_mem_nil, false_implies, implies_true, and_true, Ob.ok, holds, Eqn.ok, evB_eq, evB_lt, evB_le, evB_not, evB_and, evB_or, evB_eqL, evB_app, evB_v, evB_c, ev_sel, ev_len, ev_v, ev_c, ev_add, ev_sub, ev_mul, ev_quo, ev_rem, ev_bits, ev_wrap, evL_v, evL_lit, evL_app, ev_app, evA_l, evA_i, evA_nil, std_min, std_max, std_cat, std_take, std_drop, std_row, std_set, std_rep, std_find, std_put, std_del, std_flag, std_unflag, std_clr, std_left, std_copy, ints_cons, ints_nil, ofNat_lit, negSucc_lit, decide_eq_true_eq, Bool.and_eq_true, Bool.or_eq_true, Bool.not_eq_true', Bool.and_eq_false_iff, Bool.or_eq_false_iff, decide_eq_false_iff_not, std_rowT, std_setT, lenR_rowT, rowT_get, aI100, aI101, aI102, aI103, aI104, aI105, aI106, aI107, aI110, aI111, aI112, aI113, aI114, aL110, aL111, aL112, aL113, aL115, aL116, aL120, aL121, aB130, aB131, aB132, aB133, aB134, aB135, aB136, aB199]
  repeat' apply And.intro
  all_goals intro ρ hR
  all_goals intros
  all_goals first
    | (have hi : invB (ρ.l 0) (ρ.l 1) (ρ.i 3) = true := by with_reducible assumption
       have hM : (ρ.l 1).Pairwise (fun a b => hdK a < hdK b) := hR.keys 3 rfl rfl
       have hk : hasB (ρ.l 0) (ρ.i 1) = true := has_of hi hM (by with_reducible assumption)
       rw [where_has hi hM hk] at *
       obtain ⟨c0, c1, c2⟩ := cpu_row hk
       obtain ⟨a0, a1, a2⟩ := at_row hk
       have hl := inv_row hi c0 c1
       have hg := atG0 (T := ρ.l 0) (id := ρ.i 1)
       have hz := atG_stop (T := ρ.l 0) (c := cpuF (ρ.l 0) (ρ.i 1)) (i := 0) (id := ρ.i 1) (by omega) (by omega) (by with_reducible assumption)
       exact ⟨hk, by omega, by omega, by omega, by omega, by omega, a2, by omega, by omega⟩)
    | (have hi : invB (ρ.l 0) (ρ.l 1) (ρ.i 3) = true := by with_reducible assumption
       have hM : (ρ.l 1).Pairwise (fun a b => hdK a < hdK b) := hR.keys 3 rfl rfl
       have hk : hasB (ρ.l 0) (ρ.i 1) = true := has_of hi hM (by with_reducible assumption)
       rw [where_has hi hM hk] at *
       obtain ⟨c0, c1, c2⟩ := cpu_row hk
       obtain ⟨a0, a1, a2⟩ := at_row hk
       have hl := inv_row hi c0 c1
       have hg := atG0 (T := ρ.l 0) (id := ρ.i 1)
       have hz := atG_step (T := ρ.l 0) (c := cpuF (ρ.l 0) (ρ.i 1)) (i := 0) (id := ρ.i 1) (by omega) (by omega) (by with_reducible assumption)
       rw [show (0 : Int) + 1 = 1 from rfl] at hz
       exact ⟨hk, by omega, by omega, by omega, by omega, by omega, a2, by omega, by omega⟩)
    | (have hi : invB (ρ.l 0) (ρ.l 1) (ρ.i 3) = true := by with_reducible assumption
       have hM : (ρ.l 1).Pairwise (fun a b => hdK a < hdK b) := hR.keys 3 rfl rfl
       have hk : hasB (ρ.l 0) (ρ.i 1) = true := has_of hi hM (by with_reducible assumption)
       rw [where_has hi hM hk] at *
       obtain ⟨c0, c1, c2⟩ := cpu_row hk
       obtain ⟨a0, a1, a2⟩ := at_row hk
       have hl := inv_row hi c0 c1
       have hg := atG0 (T := ρ.l 0) (id := ρ.i 1)
       have hz := atG_step (T := ρ.l 0) (c := cpuF (ρ.l 0) (ρ.i 1)) (i := 0) (id := ρ.i 1) (by omega) (by omega) (by with_reducible assumption)
       rw [show (0 : Int) + 1 = 1 from rfl] at hz
       exfalso
       omega)
    | (have hi : invB (ρ.l 0) (ρ.l 1) (ρ.i 3) = true := by with_reducible assumption
       have hM : (ρ.l 1).Pairwise (fun a b => hdK a < hdK b) := hR.keys 3 rfl rfl
       have hk : hasB (ρ.l 0) (ρ.i 1) = true := has_of hi hM (by with_reducible assumption)
       rw [where_has hi hM hk] at *
       obtain ⟨c0, c1, c2⟩ := cpu_row hk
       obtain ⟨a0, a1, a2⟩ := at_row hk
       have hl := inv_row hi c0 c1
       have hg := atG0 (T := ρ.l 0) (id := ρ.i 1)
       exfalso
       omega)
    | (have hi : invB (ρ.l 0) (ρ.l 1) (ρ.i 3) = true := by with_reducible assumption
       have hM : (ρ.l 1).Pairwise (fun a b => hdK a < hdK b) := hR.keys 3 rfl rfl
       exact has_not hi hM (by with_reducible assumption))
theorem t4_ok (ρ : Env) : TblOK Φ ρ Try.prog t4 := addFn_ok (t3_ok ρ) cWhere_ok
set_option maxRecDepth 100000 in
theorem cPop_obs : callObs Φ Try.prog t4 1000 cPop.f cPop.vs cPop.o cPop.pc cPop.outs = some
  [{
      pc :=
        [SB.eq (SI.len (SL.app 116 (SA.l (SL.v 0) (SA.i (SI.v 0) (SA.i (SI.c (Int.ofNat 0)) SA.nil)))))
            (SI.len (SL.v 0)),
          SB.le (SI.len (SL.app 14 (SA.l (SL.v 0) (SA.i (SI.v 0) SA.nil)))) (SI.c (Int.ofNat 64)),
          SB.lt (SI.c (Int.ofNat 0)) (SI.len (SL.app 14 (SA.l (SL.v 0) (SA.i (SI.v 0) SA.nil)))),
          SB.lt (SI.v 0) (SI.len (SL.v 0)), SB.le (SI.c (Int.ofNat 0)) (SI.v 0),
          SB.le (SI.c (Int.ofNat 1)) (SI.len (SL.v 0)), SB.le (SI.len (SL.v 0)) (SI.c (Int.ofNat 8)),
          SB.le (SI.c (Int.ofNat 1)) (SI.v 3), SB.le (SI.v 3) (SI.c (Int.ofNat 64)), SB.c true,
          SB.app 130 (SA.l (SL.v 0) (SA.l (SL.v 1) (SA.i (SI.v 3) SA.nil)))],
      eqs :=
        [Eqn.T (SB.app 132 (SA.l (SL.v 0) SA.nil)),
          Eqn.T (SB.le (SI.c (Int.ofNat 0)) (SI.app 111 (SA.l (SL.v 0) (SA.i (SI.v 0) SA.nil)))),
          Eqn.T (SB.lt (SI.app 111 (SA.l (SL.v 0) (SA.i (SI.v 0) SA.nil))) (SI.len (SL.v 0))),
          Eqn.T (SB.eq (SI.len (SL.app 111 (SA.l (SL.v 0) (SA.i (SI.v 0) SA.nil)))) (SI.len (SL.v 0))),
          Eqn.T
            (SB.app 130
              (SA.l (SL.app 111 (SA.l (SL.v 0) (SA.i (SI.v 0) SA.nil)))
                (SA.l
                  (SL.app 8
                    (SA.l (SL.v 1)
                      (SA.i (SI.sel (SL.app 14 (SA.l (SL.v 0) (SA.i (SI.v 0) SA.nil))) (SI.c (Int.ofNat 0)) 0) SA.nil)))
                  (SA.i (SI.v 3) SA.nil)))),
          Eqn.I (SI.app 112 (SA.l (SL.v 0) (SA.i (SI.v 0) SA.nil)))
            (SI.sel (SL.app 14 (SA.l (SL.v 0) (SA.i (SI.v 0) SA.nil))) (SI.c (Int.ofNat 0)) 0),
          Eqn.I (SI.app 111 (SA.l (SL.v 0) (SA.i (SI.v 0) SA.nil))) (SI.v 0),
          Eqn.I (SI.len (SL.app 111 (SA.l (SL.v 0) (SA.i (SI.v 0) SA.nil))))
            (SI.len (SL.app 116 (SA.l (SL.v 0) (SA.i (SI.v 0) (SA.i (SI.c (Int.ofNat 0)) SA.nil))))),
          Eqn.L (SL.app 111 (SA.l (SL.v 0) (SA.i (SI.v 0) SA.nil)))
            (SL.app 116 (SA.l (SL.v 0) (SA.i (SI.v 0) (SA.i (SI.c (Int.ofNat 0)) SA.nil))))] },
    {
      pc :=
        [SB.not (SB.le (SI.len (SL.app 14 (SA.l (SL.v 0) (SA.i (SI.v 0) SA.nil)))) (SI.c (Int.ofNat 64))),
          SB.lt (SI.c (Int.ofNat 0)) (SI.len (SL.app 14 (SA.l (SL.v 0) (SA.i (SI.v 0) SA.nil)))),
          SB.lt (SI.v 0) (SI.len (SL.v 0)), SB.le (SI.c (Int.ofNat 0)) (SI.v 0),
          SB.le (SI.c (Int.ofNat 1)) (SI.len (SL.v 0)), SB.le (SI.len (SL.v 0)) (SI.c (Int.ofNat 8)),
          SB.le (SI.c (Int.ofNat 1)) (SI.v 3), SB.le (SI.v 3) (SI.c (Int.ofNat 64)), SB.c true,
          SB.app 130 (SA.l (SL.v 0) (SA.l (SL.v 1) (SA.i (SI.v 3) SA.nil)))],
      eqs := [Eqn.T (SB.c false)] },
    {
      pc :=
        [SB.eq
            (SI.len
              (SL.app 14
                (SA.l (SL.v 0)
                  (SA.i
                    (SI.app 100
                      (SA.l (SL.v 0)
                        (SA.i (SI.c (Int.ofNat 1)) (SA.i (SI.c (Int.ofNat 0)) (SA.i (SI.c (Int.ofNat 0)) SA.nil)))))
                    SA.nil))))
            (SI.c (Int.ofNat 0)),
          SB.le
            (SI.len
              (SL.app 14
                (SA.l (SL.v 0)
                  (SA.i
                    (SI.app 100
                      (SA.l (SL.v 0)
                        (SA.i (SI.c (Int.ofNat 1)) (SA.i (SI.c (Int.ofNat 0)) (SA.i (SI.c (Int.ofNat 0)) SA.nil)))))
                    SA.nil))))
            (SI.v 3),
          SB.lt
            (SI.app 100
              (SA.l (SL.v 0)
                (SA.i (SI.c (Int.ofNat 1)) (SA.i (SI.c (Int.ofNat 0)) (SA.i (SI.c (Int.ofNat 0)) SA.nil)))))
            (SI.len (SL.v 0)),
          SB.le (SI.c (Int.ofNat 0))
            (SI.app 100
              (SA.l (SL.v 0)
                (SA.i (SI.c (Int.ofNat 1)) (SA.i (SI.c (Int.ofNat 0)) (SA.i (SI.c (Int.ofNat 0)) SA.nil))))),
          SB.not (SB.lt (SI.c (Int.ofNat 0)) (SI.len (SL.app 14 (SA.l (SL.v 0) (SA.i (SI.v 0) SA.nil))))),
          SB.lt (SI.v 0) (SI.len (SL.v 0)), SB.le (SI.c (Int.ofNat 0)) (SI.v 0),
          SB.le (SI.c (Int.ofNat 1)) (SI.len (SL.v 0)), SB.le (SI.len (SL.v 0)) (SI.c (Int.ofNat 8)),
          SB.le (SI.c (Int.ofNat 1)) (SI.v 3), SB.le (SI.v 3) (SI.c (Int.ofNat 64)), SB.c true,
          SB.app 130 (SA.l (SL.v 0) (SA.l (SL.v 1) (SA.i (SI.v 3) SA.nil)))],
      eqs := [Eqn.T (SB.not (SB.app 132 (SA.l (SL.v 0) SA.nil)))] },
    {
      pc :=
        [SB.eq
            (SI.len
              (SL.app 116
                (SA.l (SL.v 0)
                  (SA.i
                    (SI.app 100
                      (SA.l (SL.v 0)
                        (SA.i (SI.c (Int.ofNat 1)) (SA.i (SI.c (Int.ofNat 0)) (SA.i (SI.c (Int.ofNat 0)) SA.nil)))))
                    (SA.i
                      (SI.sub
                        (SI.len
                          (SL.app 14
                            (SA.l (SL.v 0)
                              (SA.i
                                (SI.app 100
                                  (SA.l (SL.v 0)
                                    (SA.i (SI.c (Int.ofNat 1))
                                      (SA.i (SI.c (Int.ofNat 0)) (SA.i (SI.c (Int.ofNat 0)) SA.nil)))))
                                SA.nil))))
                        (SI.c (Int.ofNat 1)))
                      SA.nil)))))
            (SI.len (SL.v 0)),
          SB.le (SI.c (Int.ofNat 0))
            (SI.sub
              (SI.len
                (SL.app 14
                  (SA.l (SL.v 0)
                    (SA.i
                      (SI.app 100
                        (SA.l (SL.v 0)
                          (SA.i (SI.c (Int.ofNat 1)) (SA.i (SI.c (Int.ofNat 0)) (SA.i (SI.c (Int.ofNat 0)) SA.nil)))))
                      SA.nil))))
              (SI.c (Int.ofNat 1))),
          SB.not
            (SB.eq
              (SI.len
                (SL.app 14
                  (SA.l (SL.v 0)
                    (SA.i
                      (SI.app 100
                        (SA.l (SL.v 0)
                          (SA.i (SI.c (Int.ofNat 1)) (SA.i (SI.c (Int.ofNat 0)) (SA.i (SI.c (Int.ofNat 0)) SA.nil)))))
                      SA.nil))))
              (SI.c (Int.ofNat 0))),
          SB.le
            (SI.len
              (SL.app 14
                (SA.l (SL.v 0)
                  (SA.i
                    (SI.app 100
                      (SA.l (SL.v 0)
                        (SA.i (SI.c (Int.ofNat 1)) (SA.i (SI.c (Int.ofNat 0)) (SA.i (SI.c (Int.ofNat 0)) SA.nil)))))
                    SA.nil))))
            (SI.v 3),
          SB.lt
            (SI.app 100
              (SA.l (SL.v 0)
                (SA.i (SI.c (Int.ofNat 1)) (SA.i (SI.c (Int.ofNat 0)) (SA.i (SI.c (Int.ofNat 0)) SA.nil)))))
            (SI.len (SL.v 0)),
          SB.le (SI.c (Int.ofNat 0))
            (SI.app 100
              (SA.l (SL.v 0)
                (SA.i (SI.c (Int.ofNat 1)) (SA.i (SI.c (Int.ofNat 0)) (SA.i (SI.c (Int.ofNat 0)) SA.nil))))),
          SB.not (SB.lt (SI.c (Int.ofNat 0)) (SI.len (SL.app 14 (SA.l (SL.v 0) (SA.i (SI.v 0) SA.nil))))),
          SB.lt (SI.v 0) (SI.len (SL.v 0)), SB.le (SI.c (Int.ofNat 0)) (SI.v 0),
          SB.le (SI.c (Int.ofNat 1)) (SI.len (SL.v 0)), SB.le (SI.len (SL.v 0)) (SI.c (Int.ofNat 8)),
          SB.le (SI.c (Int.ofNat 1)) (SI.v 3), SB.le (SI.v 3) (SI.c (Int.ofNat 64)), SB.c true,
          SB.app 130 (SA.l (SL.v 0) (SA.l (SL.v 1) (SA.i (SI.v 3) SA.nil)))],
      eqs :=
        [Eqn.T (SB.app 132 (SA.l (SL.v 0) SA.nil)),
          Eqn.T (SB.le (SI.c (Int.ofNat 0)) (SI.app 111 (SA.l (SL.v 0) (SA.i (SI.v 0) SA.nil)))),
          Eqn.T (SB.lt (SI.app 111 (SA.l (SL.v 0) (SA.i (SI.v 0) SA.nil))) (SI.len (SL.v 0))),
          Eqn.T (SB.eq (SI.len (SL.app 111 (SA.l (SL.v 0) (SA.i (SI.v 0) SA.nil)))) (SI.len (SL.v 0))),
          Eqn.T
            (SB.app 130
              (SA.l (SL.app 111 (SA.l (SL.v 0) (SA.i (SI.v 0) SA.nil)))
                (SA.l
                  (SL.app 8
                    (SA.l (SL.v 1)
                      (SA.i
                        (SI.sel
                          (SL.app 14
                            (SA.l (SL.v 0)
                              (SA.i
                                (SI.app 100
                                  (SA.l (SL.v 0)
                                    (SA.i (SI.c (Int.ofNat 1))
                                      (SA.i (SI.c (Int.ofNat 0)) (SA.i (SI.c (Int.ofNat 0)) SA.nil)))))
                                SA.nil)))
                          (SI.sub
                            (SI.len
                              (SL.app 14
                                (SA.l (SL.v 0)
                                  (SA.i
                                    (SI.app 100
                                      (SA.l (SL.v 0)
                                        (SA.i (SI.c (Int.ofNat 1))
                                          (SA.i (SI.c (Int.ofNat 0)) (SA.i (SI.c (Int.ofNat 0)) SA.nil)))))
                                    SA.nil))))
                            (SI.c (Int.ofNat 1)))
                          0)
                        SA.nil)))
                  (SA.i (SI.v 3) SA.nil)))),
          Eqn.I (SI.app 112 (SA.l (SL.v 0) (SA.i (SI.v 0) SA.nil)))
            (SI.sel
              (SL.app 14
                (SA.l (SL.v 0)
                  (SA.i
                    (SI.app 100
                      (SA.l (SL.v 0)
                        (SA.i (SI.c (Int.ofNat 1)) (SA.i (SI.c (Int.ofNat 0)) (SA.i (SI.c (Int.ofNat 0)) SA.nil)))))
                    SA.nil)))
              (SI.sub
                (SI.len
                  (SL.app 14
                    (SA.l (SL.v 0)
                      (SA.i
                        (SI.app 100
                          (SA.l (SL.v 0)
                            (SA.i (SI.c (Int.ofNat 1)) (SA.i (SI.c (Int.ofNat 0)) (SA.i (SI.c (Int.ofNat 0)) SA.nil)))))
                        SA.nil))))
                (SI.c (Int.ofNat 1)))
              0),
          Eqn.I (SI.app 111 (SA.l (SL.v 0) (SA.i (SI.v 0) SA.nil)))
            (SI.app 100
              (SA.l (SL.v 0)
                (SA.i (SI.c (Int.ofNat 1)) (SA.i (SI.c (Int.ofNat 0)) (SA.i (SI.c (Int.ofNat 0)) SA.nil))))),
          Eqn.I (SI.len (SL.app 111 (SA.l (SL.v 0) (SA.i (SI.v 0) SA.nil))))
            (SI.len
              (SL.app 116
                (SA.l (SL.v 0)
                  (SA.i
                    (SI.app 100
                      (SA.l (SL.v 0)
                        (SA.i (SI.c (Int.ofNat 1)) (SA.i (SI.c (Int.ofNat 0)) (SA.i (SI.c (Int.ofNat 0)) SA.nil)))))
                    (SA.i
                      (SI.sub
                        (SI.len
                          (SL.app 14
                            (SA.l (SL.v 0)
                              (SA.i
                                (SI.app 100
                                  (SA.l (SL.v 0)
                                    (SA.i (SI.c (Int.ofNat 1))
                                      (SA.i (SI.c (Int.ofNat 0)) (SA.i (SI.c (Int.ofNat 0)) SA.nil)))))
                                SA.nil))))
                        (SI.c (Int.ofNat 1)))
                      SA.nil))))),
          Eqn.L (SL.app 111 (SA.l (SL.v 0) (SA.i (SI.v 0) SA.nil)))
            (SL.app 116
              (SA.l (SL.v 0)
                (SA.i
                  (SI.app 100
                    (SA.l (SL.v 0)
                      (SA.i (SI.c (Int.ofNat 1)) (SA.i (SI.c (Int.ofNat 0)) (SA.i (SI.c (Int.ofNat 0)) SA.nil)))))
                  (SA.i
                    (SI.sub
                      (SI.len
                        (SL.app 14
                          (SA.l (SL.v 0)
                            (SA.i
                              (SI.app 100
                                (SA.l (SL.v 0)
                                  (SA.i (SI.c (Int.ofNat 1))
                                    (SA.i (SI.c (Int.ofNat 0)) (SA.i (SI.c (Int.ofNat 0)) SA.nil)))))
                              SA.nil))))
                      (SI.c (Int.ofNat 1)))
                    SA.nil))))] },
    {
      pc :=
        [SB.not
            (SB.le (SI.c (Int.ofNat 0))
              (SI.sub
                (SI.len
                  (SL.app 14
                    (SA.l (SL.v 0)
                      (SA.i
                        (SI.app 100
                          (SA.l (SL.v 0)
                            (SA.i (SI.c (Int.ofNat 1)) (SA.i (SI.c (Int.ofNat 0)) (SA.i (SI.c (Int.ofNat 0)) SA.nil)))))
                        SA.nil))))
                (SI.c (Int.ofNat 1)))),
          SB.not
            (SB.eq
              (SI.len
                (SL.app 14
                  (SA.l (SL.v 0)
                    (SA.i
                      (SI.app 100
                        (SA.l (SL.v 0)
                          (SA.i (SI.c (Int.ofNat 1)) (SA.i (SI.c (Int.ofNat 0)) (SA.i (SI.c (Int.ofNat 0)) SA.nil)))))
                      SA.nil))))
              (SI.c (Int.ofNat 0))),
          SB.le
            (SI.len
              (SL.app 14
                (SA.l (SL.v 0)
                  (SA.i
                    (SI.app 100
                      (SA.l (SL.v 0)
                        (SA.i (SI.c (Int.ofNat 1)) (SA.i (SI.c (Int.ofNat 0)) (SA.i (SI.c (Int.ofNat 0)) SA.nil)))))
                    SA.nil))))
            (SI.v 3),
          SB.lt
            (SI.app 100
              (SA.l (SL.v 0)
                (SA.i (SI.c (Int.ofNat 1)) (SA.i (SI.c (Int.ofNat 0)) (SA.i (SI.c (Int.ofNat 0)) SA.nil)))))
            (SI.len (SL.v 0)),
          SB.le (SI.c (Int.ofNat 0))
            (SI.app 100
              (SA.l (SL.v 0)
                (SA.i (SI.c (Int.ofNat 1)) (SA.i (SI.c (Int.ofNat 0)) (SA.i (SI.c (Int.ofNat 0)) SA.nil))))),
          SB.not (SB.lt (SI.c (Int.ofNat 0)) (SI.len (SL.app 14 (SA.l (SL.v 0) (SA.i (SI.v 0) SA.nil))))),
          SB.lt (SI.v 0) (SI.len (SL.v 0)), SB.le (SI.c (Int.ofNat 0)) (SI.v 0),
          SB.le (SI.c (Int.ofNat 1)) (SI.len (SL.v 0)), SB.le (SI.len (SL.v 0)) (SI.c (Int.ofNat 8)),
          SB.le (SI.c (Int.ofNat 1)) (SI.v 3), SB.le (SI.v 3) (SI.c (Int.ofNat 64)), SB.c true,
          SB.app 130 (SA.l (SL.v 0) (SA.l (SL.v 1) (SA.i (SI.v 3) SA.nil)))],
      eqs := [Eqn.T (SB.c false)] }] := by kernel_rfl
theorem cPop_ok : cPop.ok Φ Try.prog := by
  refine call_rule (fun ρ => t4_ok ρ) cPop_obs ?_
  simp only [and_imp, List.forall_mem_cons, List.not_mem_nil, false_implies, implies_true, and_true, Ob.ok, holds, Eqn.ok, evB_eq, evB_lt, evB_le, evB_not, evB_and, evB_or, evB_eqL, evB_app, evB_v, evB_c, ev_sel, ev_len, ev_v, ev_c, ev_add, ev_sub, ev_mul, ev_quo, ev_rem, ev_bits, ev_wrap, evL_v, evL_lit, evL_app, ev_app, evA_l, evA_i, evA_nil, std_min, std_max, std_cat, std_take, std_drop, std_row, std_set, std_rep, std_find, std_put, std_del, std_flag, std_unflag, std_clr, std_left, std_copy, ints_cons, ints_nil, ofNat_lit, negSucc_lit, decide_eq_true_eq, Bool.and_eq_true, Bool.or_eq_true, Bool.not_eq_true', Bool.and_eq_false_iff, Bool.or_eq_false_iff, decide_eq_false_iff_not, std_rowT, std_setT, lenR_rowT, rowT_get, aI100, aI101, aI102, aI103, aI104, aI105, aI106, aI107, aI110, aI111, aI112, aI113, aI114, aL110, aL111, aL112, aL113, aL115, aL116, aL120, aL121, aB130, aB131, aB132, aB133, aB134, aB135, aB136, aB199]
  repeat' apply And.intro
  all_goals intro ρ hR
  all_goals intros
  all_goals first
    | (have hi : invB (ρ.l 0) (ρ.l 1) (ρ.i 3) = true := by with_reducible assumption
       obtain ⟨p1, p2, p3⟩ := pop_own (T := ρ.l 0) (c := ρ.i 0) (by with_reducible assumption)
       have hc := inv_cut hi (c := ρ.i 0) (i := 0) (by omega) (by omega) (by omega) (by omega)
       rw [p1, p2, p3]
       exact ⟨any_of (T := ρ.l 0) (c := ρ.i 0) (by omega) (by omega) (by omega), by omega, by omega, by omega, hc.1, rfl, rfl, rfl, rfl⟩)
    | (have hi : invB (ρ.l 0) (ρ.l 1) (ρ.i 3) = true := by with_reducible assumption
       have hr := inv_row hi (c := ρ.i 0) (by omega) (by omega)
       exfalso
       omega)
    | (exact any_not (T := ρ.l 0) (by omega) (by with_reducible assumption))
    | (have hi : invB (ρ.l 0) (ρ.l 1) (ρ.i 3) = true := by with_reducible assumption
       have hp := lenR_pos (ρ.l 0) (bestF 1 (ρ.l 0) 0 0)
       obtain ⟨p1, p2, p3⟩ := pop_long (T := ρ.l 0) (c := ρ.i 0) (by with_reducible assumption)
       have hc := inv_cut hi (c := (bestF 1 (ρ.l 0) 0 0)) (i := lenR (ρ.l 0) (bestF 1 (ρ.l 0) 0 0) - 1) (by omega) (by omega) (by omega) (by omega)
       rw [p1, p2, p3]
       exact ⟨any_of (T := ρ.l 0) (c := (bestF 1 (ρ.l 0) 0 0)) (by omega) (by omega) (by omega), by omega, by omega, by omega, hc.1, rfl, rfl, rfl, rfl⟩)
    | (have hp := lenR_pos (ρ.l 0) (bestF 1 (ρ.l 0) 0 0)
       exfalso
       omega)
set_option maxRecDepth 100000 in
theorem cDrop_obs : callObs Φ Try.prog t4 1000 cDrop.f cDrop.vs cDrop.o cDrop.pc cDrop.outs = some
  [{
      pc :=
        [SB.not (SB.app 131 (SA.l (SL.v 0) (SA.i (SI.v 1) SA.nil))), SB.le (SI.c (Int.ofNat 1)) (SI.len (SL.v 0)),
          SB.le (SI.len (SL.v 0)) (SI.c (Int.ofNat 8)), SB.le (SI.c (Int.ofNat 1)) (SI.v 3),
          SB.le (SI.v 3) (SI.c (Int.ofNat 64)), SB.c true,
          SB.app 130 (SA.l (SL.v 0) (SA.l (SL.v 1) (SA.i (SI.v 3) SA.nil)))],
      eqs :=
        [Eqn.T (SB.eq (SI.len (SL.app 112 (SA.l (SL.v 0) (SA.i (SI.v 1) SA.nil)))) (SI.len (SL.v 0))),
          Eqn.T
            (SB.app 130
              (SA.l (SL.app 112 (SA.l (SL.v 0) (SA.i (SI.v 1) SA.nil))) (SA.l (SL.v 1) (SA.i (SI.v 3) SA.nil)))),
          Eqn.B (SB.app 131 (SA.l (SL.v 0) (SA.i (SI.v 1) SA.nil))) (SB.c false),
          Eqn.I (SI.len (SL.app 112 (SA.l (SL.v 0) (SA.i (SI.v 1) SA.nil)))) (SI.len (SL.v 0)),
          Eqn.L (SL.app 112 (SA.l (SL.v 0) (SA.i (SI.v 1) SA.nil))) (SL.v 0)] },
    {
      pc :=
        [SB.eq
            (SI.len
              (SL.app 116
                (SA.l (SL.v 0)
                  (SA.i (SI.app 101 (SA.l (SL.v 0) (SA.i (SI.v 1) SA.nil)))
                    (SA.i (SI.app 102 (SA.l (SL.v 0) (SA.i (SI.v 1) SA.nil))) SA.nil)))))
            (SI.len (SL.v 0)),
          SB.eq
            (SI.sel (SL.app 14 (SA.l (SL.v 0) (SA.i (SI.app 101 (SA.l (SL.v 0) (SA.i (SI.v 1) SA.nil))) SA.nil)))
              (SI.app 102 (SA.l (SL.v 0) (SA.i (SI.v 1) SA.nil))) 0)
            (SI.v 1),
          SB.le (SI.len (SL.app 14 (SA.l (SL.v 0) (SA.i (SI.app 101 (SA.l (SL.v 0) (SA.i (SI.v 1) SA.nil))) SA.nil))))
            (SI.v 3),
          SB.lt (SI.app 102 (SA.l (SL.v 0) (SA.i (SI.v 1) SA.nil)))
            (SI.len (SL.app 14 (SA.l (SL.v 0) (SA.i (SI.app 101 (SA.l (SL.v 0) (SA.i (SI.v 1) SA.nil))) SA.nil)))),
          SB.le (SI.c (Int.ofNat 0)) (SI.app 102 (SA.l (SL.v 0) (SA.i (SI.v 1) SA.nil))),
          SB.lt (SI.app 101 (SA.l (SL.v 0) (SA.i (SI.v 1) SA.nil))) (SI.len (SL.v 0)),
          SB.le (SI.c (Int.ofNat 0)) (SI.app 101 (SA.l (SL.v 0) (SA.i (SI.v 1) SA.nil))),
          SB.app 131 (SA.l (SL.v 0) (SA.i (SI.v 1) SA.nil)), SB.le (SI.c (Int.ofNat 1)) (SI.len (SL.v 0)),
          SB.le (SI.len (SL.v 0)) (SI.c (Int.ofNat 8)), SB.le (SI.c (Int.ofNat 1)) (SI.v 3),
          SB.le (SI.v 3) (SI.c (Int.ofNat 64)), SB.c true,
          SB.app 130 (SA.l (SL.v 0) (SA.l (SL.v 1) (SA.i (SI.v 3) SA.nil)))],
      eqs :=
        [Eqn.T (SB.eq (SI.len (SL.app 112 (SA.l (SL.v 0) (SA.i (SI.v 1) SA.nil)))) (SI.len (SL.v 0))),
          Eqn.T
            (SB.app 130
              (SA.l (SL.app 112 (SA.l (SL.v 0) (SA.i (SI.v 1) SA.nil)))
                (SA.l
                  (SL.app 8
                    (SA.l (SL.v 1)
                      (SA.i
                        (SI.sel
                          (SL.app 14 (SA.l (SL.v 0) (SA.i (SI.app 101 (SA.l (SL.v 0) (SA.i (SI.v 1) SA.nil))) SA.nil)))
                          (SI.app 102 (SA.l (SL.v 0) (SA.i (SI.v 1) SA.nil))) 0)
                        SA.nil)))
                  (SA.i (SI.v 3) SA.nil)))),
          Eqn.B (SB.app 131 (SA.l (SL.v 0) (SA.i (SI.v 1) SA.nil))) (SB.c true),
          Eqn.I (SI.len (SL.app 112 (SA.l (SL.v 0) (SA.i (SI.v 1) SA.nil))))
            (SI.len
              (SL.app 116
                (SA.l (SL.v 0)
                  (SA.i (SI.app 101 (SA.l (SL.v 0) (SA.i (SI.v 1) SA.nil)))
                    (SA.i (SI.app 102 (SA.l (SL.v 0) (SA.i (SI.v 1) SA.nil))) SA.nil))))),
          Eqn.L (SL.app 112 (SA.l (SL.v 0) (SA.i (SI.v 1) SA.nil)))
            (SL.app 116
              (SA.l (SL.v 0)
                (SA.i (SI.app 101 (SA.l (SL.v 0) (SA.i (SI.v 1) SA.nil)))
                  (SA.i (SI.app 102 (SA.l (SL.v 0) (SA.i (SI.v 1) SA.nil))) SA.nil))))] }] := by kernel_rfl
theorem cDrop_ok : cDrop.ok Φ Try.prog := by
  refine call_rule (fun ρ => t4_ok ρ) cDrop_obs ?_
  simp only [and_imp, List.forall_mem_cons, List.not_mem_nil, false_implies, implies_true, and_true, Ob.ok, holds, Eqn.ok, evB_eq, evB_lt, evB_le, evB_not, evB_and, evB_or, evB_eqL, evB_app, evB_v, evB_c, ev_sel, ev_len, ev_v, ev_c, ev_add, ev_sub, ev_mul, ev_quo, ev_rem, ev_bits, ev_wrap, evL_v, evL_lit, evL_app, ev_app, evA_l, evA_i, evA_nil, std_min, std_max, std_cat, std_take, std_drop, std_row, std_set, std_rep, std_find, std_put, std_del, std_flag, std_unflag, std_clr, std_left, std_copy, ints_cons, ints_nil, ofNat_lit, negSucc_lit, decide_eq_true_eq, Bool.and_eq_true, Bool.or_eq_true, Bool.not_eq_true', Bool.and_eq_false_iff, Bool.or_eq_false_iff, decide_eq_false_iff_not, std_rowT, std_setT, lenR_rowT, rowT_get, aI100, aI101, aI102, aI103, aI104, aI105, aI106, aI107, aI110, aI111, aI112, aI113, aI114, aL110, aL111, aL112, aL113, aL115, aL116, aL120, aL121, aB130, aB131, aB132, aB133, aB134, aB135, aB136, aB199]
  repeat' apply And.intro
  all_goals intro ρ hR
  all_goals intros
  all_goals first
    | (have hi : invB (ρ.l 0) (ρ.l 1) (ρ.i 3) = true := by with_reducible assumption
       rw [drop_not (by with_reducible assumption)]
       exact ⟨rfl, hi, by with_reducible assumption, rfl, rfl⟩)
    | (have hi : invB (ρ.l 0) (ρ.l 1) (ρ.i 3) = true := by with_reducible assumption
       have hc := inv_cut hi (c := cpuF (ρ.l 0) (ρ.i 1)) (i := atF (ρ.l 0) (ρ.i 1)) (by omega) (by omega) (by omega) (by omega)
       have hl := cutT_len (ρ.l 0) (cpuF (ρ.l 0) (ρ.i 1)) (atF (ρ.l 0) (ρ.i 1))
       rw [drop_has (by with_reducible assumption)]
       exact ⟨by omega, hc.1, by with_reducible assumption, rfl, rfl⟩)
set_option maxRecDepth 100000 in
theorem cList_obs : callObs Φ Try.prog t4 1000 cList.f cList.vs cList.o cList.pc cList.outs = some
  [{
      pc :=
        [SB.lt (SI.v 0) (SI.len (SL.v 0)), SB.le (SI.c (Int.ofNat 0)) (SI.v 0),
          SB.le (SI.c (Int.ofNat 1)) (SI.len (SL.v 0)), SB.le (SI.len (SL.v 0)) (SI.c (Int.ofNat 8)),
          SB.le (SI.c (Int.ofNat 1)) (SI.v 3), SB.le (SI.v 3) (SI.c (Int.ofNat 64)), SB.c true,
          SB.app 130 (SA.l (SL.v 0) (SA.l (SL.v 1) (SA.i (SI.v 3) SA.nil))),
          SB.le (SI.len (SL.app 14 (SA.l (SL.v 0) (SA.i (SI.v 0) SA.nil)))) (SI.c (Int.ofNat 64))],
      eqs := [Eqn.T (SB.le (SI.len (SL.app 14 (SA.l (SL.v 0) (SA.i (SI.v 0) SA.nil)))) (SI.v 3))] }] := by kernel_rfl
theorem cList_ok : cList.ok Φ Try.prog := by
  refine call_rule (fun ρ => t4_ok ρ) cList_obs ?_
  simp only [and_imp, List.forall_mem_cons, List.not_mem_nil, false_implies, implies_true, and_true, Ob.ok, holds, Eqn.ok, evB_eq, evB_lt, evB_le, evB_not, evB_and, evB_or, evB_eqL, evB_app, evB_v, evB_c, ev_sel, ev_len, ev_v, ev_c, ev_add, ev_sub, ev_mul, ev_quo, ev_rem, ev_bits, ev_wrap, evL_v, evL_lit, evL_app, ev_app, evA_l, evA_i, evA_nil, std_min, std_max, std_cat, std_take, std_drop, std_row, std_set, std_rep, std_find, std_put, std_del, std_flag, std_unflag, std_clr, std_left, std_copy, ints_cons, ints_nil, ofNat_lit, negSucc_lit, decide_eq_true_eq, Bool.and_eq_true, Bool.or_eq_true, Bool.not_eq_true', Bool.and_eq_false_iff, Bool.or_eq_false_iff, decide_eq_false_iff_not, std_rowT, std_setT, lenR_rowT, rowT_get, aI100, aI101, aI102, aI103, aI104, aI105, aI106, aI107, aI110, aI111, aI112, aI113, aI114, aL110, aL111, aL112, aL113, aL115, aL116, aL120, aL121, aB130, aB131, aB132, aB133, aB134, aB135, aB136, aB199]
  repeat' apply And.intro
  all_goals intro ρ hR
  all_goals intros
  all_goals first
    | (have hi : invB (ρ.l 0) (ρ.l 1) (ρ.i 3) = true := by with_reducible assumption
       exact inv_row hi (by omega) (by omega))
set_option maxRecDepth 100000 in
theorem cLen_obs : callObs Φ Try.prog t4 1000 cLen.f cLen.vs cLen.o cLen.pc cLen.outs = some
  [{
      pc :=
        [SB.le (SI.c (Int.ofNat 1)) (SI.len (SL.v 0)), SB.le (SI.len (SL.v 0)) (SI.c (Int.ofNat 8)),
          SB.le (SI.c (Int.ofNat 1)) (SI.v 3), SB.le (SI.v 3) (SI.c (Int.ofNat 64)), SB.c true,
          SB.app 130 (SA.l (SL.v 0) (SA.l (SL.v 1) (SA.i (SI.v 3) SA.nil)))],
      eqs := [Eqn.I (SI.app 104 (SA.l (SL.v 0) SA.nil)) (SI.len (SL.v 1))] }] := by kernel_rfl
theorem cLen_ok : cLen.ok Φ Try.prog := by
  refine call_rule (fun ρ => t4_ok ρ) cLen_obs ?_
  simp only [and_imp, List.forall_mem_cons, List.not_mem_nil, false_implies, implies_true, and_true, Ob.ok, holds, Eqn.ok, evB_eq, evB_lt, evB_le, evB_not, evB_and, evB_or, evB_eqL, evB_app, evB_v, evB_c, ev_sel, ev_len, ev_v, ev_c, ev_add, ev_sub, ev_mul, ev_quo, ev_rem, ev_bits, ev_wrap, evL_v, evL_lit, evL_app, ev_app, evA_l, evA_i, evA_nil, std_min, std_max, std_cat, std_take, std_drop, std_row, std_set, std_rep, std_find, std_put, std_del, std_flag, std_unflag, std_clr, std_left, std_copy, ints_cons, ints_nil, ofNat_lit, negSucc_lit, decide_eq_true_eq, Bool.and_eq_true, Bool.or_eq_true, Bool.not_eq_true', Bool.and_eq_false_iff, Bool.or_eq_false_iff, decide_eq_false_iff_not, std_rowT, std_setT, lenR_rowT, rowT_get, aI100, aI101, aI102, aI103, aI104, aI105, aI106, aI107, aI110, aI111, aI112, aI113, aI114, aL110, aL111, aL112, aL113, aL115, aL116, aL120, aL121, aB130, aB131, aB132, aB133, aB134, aB135, aB136, aB199]
  repeat' apply And.intro
  all_goals intro ρ hR
  all_goals intros
  all_goals first
    | (have hi : invB (ρ.l 0) (ρ.l 1) (ρ.i 3) = true := by with_reducible assumption
       rw [total_eq, inv_len hi])
set_option maxRecDepth 100000 in
theorem ev0_obs : loopObs Φ Try.prog t4 1000 ev0.f (loopAt Try.prog ev0.f ev0.id) ev0.n ev0.T sqF ev0.outs = some
  [{
      pc :=
        [SB.lt
            (SI.len
              (SL.app 14
                (SA.l (SL.v 0)
                  (SA.i
                    (SI.app 100
                      (SA.l (SL.v 0)
                        (SA.i (SI.c (Int.ofNat 1)) (SA.i (SI.c (Int.ofNat 0)) (SA.i (SI.c (Int.ofNat 0)) SA.nil)))))
                    SA.nil))))
            (SI.add
              (SI.len
                (SL.app 14
                  (SA.l (SL.v 0)
                    (SA.i
                      (SI.app 100
                        (SA.l (SL.v 0)
                          (SA.i (SI.c (Int.ofNat 0)) (SA.i (SI.c (Int.ofNat 0)) (SA.i (SI.c (Int.ofNat 0)) SA.nil)))))
                      SA.nil))))
              (SI.c (Int.ofNat 2))),
          SB.le
            (SI.len
              (SL.app 14
                (SA.l (SL.v 0)
                  (SA.i
                    (SI.app 100
                      (SA.l (SL.v 0)
                        (SA.i (SI.c (Int.ofNat 0)) (SA.i (SI.c (Int.ofNat 0)) (SA.i (SI.c (Int.ofNat 0)) SA.nil)))))
                    SA.nil))))
            (SI.v 3),
          SB.lt
            (SI.app 100
              (SA.l (SL.v 0)
                (SA.i (SI.c (Int.ofNat 0)) (SA.i (SI.c (Int.ofNat 0)) (SA.i (SI.c (Int.ofNat 0)) SA.nil)))))
            (SI.len (SL.v 0)),
          SB.le (SI.c (Int.ofNat 0))
            (SI.app 100
              (SA.l (SL.v 0)
                (SA.i (SI.c (Int.ofNat 0)) (SA.i (SI.c (Int.ofNat 0)) (SA.i (SI.c (Int.ofNat 0)) SA.nil))))),
          SB.le
            (SI.len
              (SL.app 14
                (SA.l (SL.v 0)
                  (SA.i
                    (SI.app 100
                      (SA.l (SL.v 0)
                        (SA.i (SI.c (Int.ofNat 1)) (SA.i (SI.c (Int.ofNat 0)) (SA.i (SI.c (Int.ofNat 0)) SA.nil)))))
                    SA.nil))))
            (SI.v 3),
          SB.lt
            (SI.app 100
              (SA.l (SL.v 0)
                (SA.i (SI.c (Int.ofNat 1)) (SA.i (SI.c (Int.ofNat 0)) (SA.i (SI.c (Int.ofNat 0)) SA.nil)))))
            (SI.len (SL.v 0)),
          SB.le (SI.c (Int.ofNat 0))
            (SI.app 100
              (SA.l (SL.v 0)
                (SA.i (SI.c (Int.ofNat 1)) (SA.i (SI.c (Int.ofNat 0)) (SA.i (SI.c (Int.ofNat 0)) SA.nil))))),
          SB.le (SI.c (Int.ofNat 1)) (SI.len (SL.v 0)), SB.le (SI.len (SL.v 0)) (SI.c (Int.ofNat 8)),
          SB.le (SI.c (Int.ofNat 1)) (SI.v 3), SB.le (SI.v 3) (SI.c (Int.ofNat 64)),
          SB.le (SI.c (Int.ofNat 0)) (SI.v 0), SB.le (SI.v 0) (SI.c (Int.ofNat 100000)), SB.c true,
          SB.app 130 (SA.l (SL.v 0) (SA.l (SL.v 1) (SA.i (SI.v 3) SA.nil))),
          SB.le (SI.add (SI.v 0) (SI.app 114 (SA.l (SL.v 0) SA.nil))) (SI.c (Int.ofNat 100000))],
      eqs :=
        [Eqn.T (SB.eq (SI.len (SL.app 113 (SA.l (SL.v 0) SA.nil))) (SI.len (SL.v 0))),
          Eqn.T (SB.app 130 (SA.l (SL.app 113 (SA.l (SL.v 0) SA.nil)) (SA.l (SL.v 1) (SA.i (SI.v 3) SA.nil)))),
          Eqn.I (SI.add (SI.v 0) (SI.app 113 (SA.l (SL.v 0) SA.nil))) (SI.v 0),
          Eqn.I (SI.len (SL.app 113 (SA.l (SL.v 0) SA.nil))) (SI.len (SL.v 0)),
          Eqn.L (SL.app 113 (SA.l (SL.v 0) SA.nil)) (SL.v 0)] },
    {
      pc :=
        [SB.eq
            (SI.len
              (SL.app 115
                (SA.l
                  (SL.app 116
                    (SA.l (SL.v 0)
                      (SA.i
                        (SI.app 100
                          (SA.l (SL.v 0)
                            (SA.i (SI.c (Int.ofNat 1)) (SA.i (SI.c (Int.ofNat 0)) (SA.i (SI.c (Int.ofNat 0)) SA.nil)))))
                        (SA.i
                          (SI.sub
                            (SI.len
                              (SL.app 14
                                (SA.l (SL.v 0)
                                  (SA.i
                                    (SI.app 100
                                      (SA.l (SL.v 0)
                                        (SA.i (SI.c (Int.ofNat 1))
                                          (SA.i (SI.c (Int.ofNat 0)) (SA.i (SI.c (Int.ofNat 0)) SA.nil)))))
                                    SA.nil))))
                            (SI.c (Int.ofNat 1)))
                          SA.nil))))
                  (SA.i
                    (SI.app 100
                      (SA.l (SL.v 0)
                        (SA.i (SI.c (Int.ofNat 0)) (SA.i (SI.c (Int.ofNat 0)) (SA.i (SI.c (Int.ofNat 0)) SA.nil)))))
                    (SA.i
                      (SI.sel
                        (SL.app 14
                          (SA.l (SL.v 0)
                            (SA.i
                              (SI.app 100
                                (SA.l (SL.v 0)
                                  (SA.i (SI.c (Int.ofNat 1))
                                    (SA.i (SI.c (Int.ofNat 0)) (SA.i (SI.c (Int.ofNat 0)) SA.nil)))))
                              SA.nil)))
                        (SI.sub
                          (SI.len
                            (SL.app 14
                              (SA.l (SL.v 0)
                                (SA.i
                                  (SI.app 100
                                    (SA.l (SL.v 0)
                                      (SA.i (SI.c (Int.ofNat 1))
                                        (SA.i (SI.c (Int.ofNat 0)) (SA.i (SI.c (Int.ofNat 0)) SA.nil)))))
                                  SA.nil))))
                          (SI.c (Int.ofNat 1)))
                        0)
                      SA.nil)))))
            (SI.len
              (SL.app 116
                (SA.l (SL.v 0)
                  (SA.i
                    (SI.app 100
                      (SA.l (SL.v 0)
                        (SA.i (SI.c (Int.ofNat 1)) (SA.i (SI.c (Int.ofNat 0)) (SA.i (SI.c (Int.ofNat 0)) SA.nil)))))
                    (SA.i
                      (SI.sub
                        (SI.len
                          (SL.app 14
                            (SA.l (SL.v 0)
                              (SA.i
                                (SI.app 100
                                  (SA.l (SL.v 0)
                                    (SA.i (SI.c (Int.ofNat 1))
                                      (SA.i (SI.c (Int.ofNat 0)) (SA.i (SI.c (Int.ofNat 0)) SA.nil)))))
                                SA.nil))))
                        (SI.c (Int.ofNat 1)))
                      SA.nil))))),
          SB.lt
            (SI.len
              (SL.app 14
                (SA.l
                  (SL.app 116
                    (SA.l (SL.v 0)
                      (SA.i
                        (SI.app 100
                          (SA.l (SL.v 0)
                            (SA.i (SI.c (Int.ofNat 1)) (SA.i (SI.c (Int.ofNat 0)) (SA.i (SI.c (Int.ofNat 0)) SA.nil)))))
                        (SA.i
                          (SI.sub
                            (SI.len
                              (SL.app 14
                                (SA.l (SL.v 0)
                                  (SA.i
                                    (SI.app 100
                                      (SA.l (SL.v 0)
                                        (SA.i (SI.c (Int.ofNat 1))
                                          (SA.i (SI.c (Int.ofNat 0)) (SA.i (SI.c (Int.ofNat 0)) SA.nil)))))
                                    SA.nil))))
                            (SI.c (Int.ofNat 1)))
                          SA.nil))))
                  (SA.i
                    (SI.app 100
                      (SA.l (SL.v 0)
                        (SA.i (SI.c (Int.ofNat 0)) (SA.i (SI.c (Int.ofNat 0)) (SA.i (SI.c (Int.ofNat 0)) SA.nil)))))
                    SA.nil))))
            (SI.c (Int.ofNat 64)),
          SB.eq
            (SI.len
              (SL.app 116
                (SA.l (SL.v 0)
                  (SA.i
                    (SI.app 100
                      (SA.l (SL.v 0)
                        (SA.i (SI.c (Int.ofNat 1)) (SA.i (SI.c (Int.ofNat 0)) (SA.i (SI.c (Int.ofNat 0)) SA.nil)))))
                    (SA.i
                      (SI.sub
                        (SI.len
                          (SL.app 14
                            (SA.l (SL.v 0)
                              (SA.i
                                (SI.app 100
                                  (SA.l (SL.v 0)
                                    (SA.i (SI.c (Int.ofNat 1))
                                      (SA.i (SI.c (Int.ofNat 0)) (SA.i (SI.c (Int.ofNat 0)) SA.nil)))))
                                SA.nil))))
                        (SI.c (Int.ofNat 1)))
                      SA.nil)))))
            (SI.len (SL.v 0)),
          SB.not
            (SB.lt
              (SI.len
                (SL.app 14
                  (SA.l (SL.v 0)
                    (SA.i
                      (SI.app 100
                        (SA.l (SL.v 0)
                          (SA.i (SI.c (Int.ofNat 1)) (SA.i (SI.c (Int.ofNat 0)) (SA.i (SI.c (Int.ofNat 0)) SA.nil)))))
                      SA.nil))))
              (SI.add
                (SI.len
                  (SL.app 14
                    (SA.l (SL.v 0)
                      (SA.i
                        (SI.app 100
                          (SA.l (SL.v 0)
                            (SA.i (SI.c (Int.ofNat 0)) (SA.i (SI.c (Int.ofNat 0)) (SA.i (SI.c (Int.ofNat 0)) SA.nil)))))
                        SA.nil))))
                (SI.c (Int.ofNat 2)))),
          SB.le
            (SI.len
              (SL.app 14
                (SA.l (SL.v 0)
                  (SA.i
                    (SI.app 100
                      (SA.l (SL.v 0)
                        (SA.i (SI.c (Int.ofNat 0)) (SA.i (SI.c (Int.ofNat 0)) (SA.i (SI.c (Int.ofNat 0)) SA.nil)))))
                    SA.nil))))
            (SI.v 3),
          SB.lt
            (SI.app 100
              (SA.l (SL.v 0)
                (SA.i (SI.c (Int.ofNat 0)) (SA.i (SI.c (Int.ofNat 0)) (SA.i (SI.c (Int.ofNat 0)) SA.nil)))))
            (SI.len (SL.v 0)),
          SB.le (SI.c (Int.ofNat 0))
            (SI.app 100
              (SA.l (SL.v 0)
                (SA.i (SI.c (Int.ofNat 0)) (SA.i (SI.c (Int.ofNat 0)) (SA.i (SI.c (Int.ofNat 0)) SA.nil))))),
          SB.le
            (SI.len
              (SL.app 14
                (SA.l (SL.v 0)
                  (SA.i
                    (SI.app 100
                      (SA.l (SL.v 0)
                        (SA.i (SI.c (Int.ofNat 1)) (SA.i (SI.c (Int.ofNat 0)) (SA.i (SI.c (Int.ofNat 0)) SA.nil)))))
                    SA.nil))))
            (SI.v 3),
          SB.lt
            (SI.app 100
              (SA.l (SL.v 0)
                (SA.i (SI.c (Int.ofNat 1)) (SA.i (SI.c (Int.ofNat 0)) (SA.i (SI.c (Int.ofNat 0)) SA.nil)))))
            (SI.len (SL.v 0)),
          SB.le (SI.c (Int.ofNat 0))
            (SI.app 100
              (SA.l (SL.v 0)
                (SA.i (SI.c (Int.ofNat 1)) (SA.i (SI.c (Int.ofNat 0)) (SA.i (SI.c (Int.ofNat 0)) SA.nil))))),
          SB.le (SI.c (Int.ofNat 1)) (SI.len (SL.v 0)), SB.le (SI.len (SL.v 0)) (SI.c (Int.ofNat 8)),
          SB.le (SI.c (Int.ofNat 1)) (SI.v 3), SB.le (SI.v 3) (SI.c (Int.ofNat 64)),
          SB.le (SI.c (Int.ofNat 0)) (SI.v 0), SB.le (SI.v 0) (SI.c (Int.ofNat 100000)), SB.c true,
          SB.app 130 (SA.l (SL.v 0) (SA.l (SL.v 1) (SA.i (SI.v 3) SA.nil))),
          SB.le (SI.add (SI.v 0) (SI.app 114 (SA.l (SL.v 0) SA.nil))) (SI.c (Int.ofNat 100000))],
      eqs :=
        [Eqn.T
            (SB.lt
              (SI.app 114
                (SA.l
                  (SL.app 115
                    (SA.l
                      (SL.app 116
                        (SA.l (SL.v 0)
                          (SA.i
                            (SI.app 100
                              (SA.l (SL.v 0)
                                (SA.i (SI.c (Int.ofNat 1))
                                  (SA.i (SI.c (Int.ofNat 0)) (SA.i (SI.c (Int.ofNat 0)) SA.nil)))))
                            (SA.i
                              (SI.sub
                                (SI.len
                                  (SL.app 14
                                    (SA.l (SL.v 0)
                                      (SA.i
                                        (SI.app 100
                                          (SA.l (SL.v 0)
                                            (SA.i (SI.c (Int.ofNat 1))
                                              (SA.i (SI.c (Int.ofNat 0)) (SA.i (SI.c (Int.ofNat 0)) SA.nil)))))
                                        SA.nil))))
                                (SI.c (Int.ofNat 1)))
                              SA.nil))))
                      (SA.i
                        (SI.app 100
                          (SA.l (SL.v 0)
                            (SA.i (SI.c (Int.ofNat 0)) (SA.i (SI.c (Int.ofNat 0)) (SA.i (SI.c (Int.ofNat 0)) SA.nil)))))
                        (SA.i
                          (SI.sel
                            (SL.app 14
                              (SA.l (SL.v 0)
                                (SA.i
                                  (SI.app 100
                                    (SA.l (SL.v 0)
                                      (SA.i (SI.c (Int.ofNat 1))
                                        (SA.i (SI.c (Int.ofNat 0)) (SA.i (SI.c (Int.ofNat 0)) SA.nil)))))
                                  SA.nil)))
                            (SI.sub
                              (SI.len
                                (SL.app 14
                                  (SA.l (SL.v 0)
                                    (SA.i
                                      (SI.app 100
                                        (SA.l (SL.v 0)
                                          (SA.i (SI.c (Int.ofNat 1))
                                            (SA.i (SI.c (Int.ofNat 0)) (SA.i (SI.c (Int.ofNat 0)) SA.nil)))))
                                      SA.nil))))
                              (SI.c (Int.ofNat 1)))
                            0)
                          SA.nil))))
                  SA.nil))
              (SI.app 114 (SA.l (SL.v 0) SA.nil))),
          Eqn.T (SB.lt (SI.c (Int.ofNat 0)) (SI.app 114 (SA.l (SL.v 0) SA.nil))),
          Eqn.T (SB.le (SI.add (SI.v 0) (SI.c (Int.ofNat 1))) (SI.c (Int.ofNat 100000))),
          Eqn.T
            (SB.app 130
              (SA.l
                (SL.app 115
                  (SA.l
                    (SL.app 116
                      (SA.l (SL.v 0)
                        (SA.i
                          (SI.app 100
                            (SA.l (SL.v 0)
                              (SA.i (SI.c (Int.ofNat 1))
                                (SA.i (SI.c (Int.ofNat 0)) (SA.i (SI.c (Int.ofNat 0)) SA.nil)))))
                          (SA.i
                            (SI.sub
                              (SI.len
                                (SL.app 14
                                  (SA.l (SL.v 0)
                                    (SA.i
                                      (SI.app 100
                                        (SA.l (SL.v 0)
                                          (SA.i (SI.c (Int.ofNat 1))
                                            (SA.i (SI.c (Int.ofNat 0)) (SA.i (SI.c (Int.ofNat 0)) SA.nil)))))
                                      SA.nil))))
                              (SI.c (Int.ofNat 1)))
                            SA.nil))))
                    (SA.i
                      (SI.app 100
                        (SA.l (SL.v 0)
                          (SA.i (SI.c (Int.ofNat 0)) (SA.i (SI.c (Int.ofNat 0)) (SA.i (SI.c (Int.ofNat 0)) SA.nil)))))
                      (SA.i
                        (SI.sel
                          (SL.app 14
                            (SA.l (SL.v 0)
                              (SA.i
                                (SI.app 100
                                  (SA.l (SL.v 0)
                                    (SA.i (SI.c (Int.ofNat 1))
                                      (SA.i (SI.c (Int.ofNat 0)) (SA.i (SI.c (Int.ofNat 0)) SA.nil)))))
                                SA.nil)))
                          (SI.sub
                            (SI.len
                              (SL.app 14
                                (SA.l (SL.v 0)
                                  (SA.i
                                    (SI.app 100
                                      (SA.l (SL.v 0)
                                        (SA.i (SI.c (Int.ofNat 1))
                                          (SA.i (SI.c (Int.ofNat 0)) (SA.i (SI.c (Int.ofNat 0)) SA.nil)))))
                                    SA.nil))))
                            (SI.c (Int.ofNat 1)))
                          0)
                        SA.nil))))
                (SA.l
                  (SL.app 7
                    (SA.l
                      (SL.app 8
                        (SA.l (SL.v 1)
                          (SA.i
                            (SI.sel
                              (SL.app 14
                                (SA.l (SL.v 0)
                                  (SA.i
                                    (SI.app 100
                                      (SA.l (SL.v 0)
                                        (SA.i (SI.c (Int.ofNat 1))
                                          (SA.i (SI.c (Int.ofNat 0)) (SA.i (SI.c (Int.ofNat 0)) SA.nil)))))
                                    SA.nil)))
                              (SI.sub
                                (SI.len
                                  (SL.app 14
                                    (SA.l (SL.v 0)
                                      (SA.i
                                        (SI.app 100
                                          (SA.l (SL.v 0)
                                            (SA.i (SI.c (Int.ofNat 1))
                                              (SA.i (SI.c (Int.ofNat 0)) (SA.i (SI.c (Int.ofNat 0)) SA.nil)))))
                                        SA.nil))))
                                (SI.c (Int.ofNat 1)))
                              0)
                            SA.nil)))
                      (SA.i
                        (SI.sel
                          (SL.app 14
                            (SA.l (SL.v 0)
                              (SA.i
                                (SI.app 100
                                  (SA.l (SL.v 0)
                                    (SA.i (SI.c (Int.ofNat 1))
                                      (SA.i (SI.c (Int.ofNat 0)) (SA.i (SI.c (Int.ofNat 0)) SA.nil)))))
                                SA.nil)))
                          (SI.sub
                            (SI.len
                              (SL.app 14
                                (SA.l (SL.v 0)
                                  (SA.i
                                    (SI.app 100
                                      (SA.l (SL.v 0)
                                        (SA.i (SI.c (Int.ofNat 1))
                                          (SA.i (SI.c (Int.ofNat 0)) (SA.i (SI.c (Int.ofNat 0)) SA.nil)))))
                                    SA.nil))))
                            (SI.c (Int.ofNat 1)))
                          0)
                        (SA.i
                          (SI.app 100
                            (SA.l (SL.v 0)
                              (SA.i (SI.c (Int.ofNat 0))
                                (SA.i (SI.c (Int.ofNat 0)) (SA.i (SI.c (Int.ofNat 0)) SA.nil)))))
                          SA.nil))))
                  (SA.i (SI.v 3) SA.nil)))),
          Eqn.T
            (SB.le
              (SI.add (SI.add (SI.v 0) (SI.c (Int.ofNat 1)))
                (SI.app 114
                  (SA.l
                    (SL.app 115
                      (SA.l
                        (SL.app 116
                          (SA.l (SL.v 0)
                            (SA.i
                              (SI.app 100
                                (SA.l (SL.v 0)
                                  (SA.i (SI.c (Int.ofNat 1))
                                    (SA.i (SI.c (Int.ofNat 0)) (SA.i (SI.c (Int.ofNat 0)) SA.nil)))))
                              (SA.i
                                (SI.sub
                                  (SI.len
                                    (SL.app 14
                                      (SA.l (SL.v 0)
                                        (SA.i
                                          (SI.app 100
                                            (SA.l (SL.v 0)
                                              (SA.i (SI.c (Int.ofNat 1))
                                                (SA.i (SI.c (Int.ofNat 0)) (SA.i (SI.c (Int.ofNat 0)) SA.nil)))))
                                          SA.nil))))
                                  (SI.c (Int.ofNat 1)))
                                SA.nil))))
                        (SA.i
                          (SI.app 100
                            (SA.l (SL.v 0)
                              (SA.i (SI.c (Int.ofNat 0))
                                (SA.i (SI.c (Int.ofNat 0)) (SA.i (SI.c (Int.ofNat 0)) SA.nil)))))
                          (SA.i
                            (SI.sel
                              (SL.app 14
                                (SA.l (SL.v 0)
                                  (SA.i
                                    (SI.app 100
                                      (SA.l (SL.v 0)
                                        (SA.i (SI.c (Int.ofNat 1))
                                          (SA.i (SI.c (Int.ofNat 0)) (SA.i (SI.c (Int.ofNat 0)) SA.nil)))))
                                    SA.nil)))
                              (SI.sub
                                (SI.len
                                  (SL.app 14
                                    (SA.l (SL.v 0)
                                      (SA.i
                                        (SI.app 100
                                          (SA.l (SL.v 0)
                                            (SA.i (SI.c (Int.ofNat 1))
                                              (SA.i (SI.c (Int.ofNat 0)) (SA.i (SI.c (Int.ofNat 0)) SA.nil)))))
                                        SA.nil))))
                                (SI.c (Int.ofNat 1)))
                              0)
                            SA.nil))))
                    SA.nil)))
              (SI.c (Int.ofNat 100000)))] },
    {
      pc :=
        [SB.app 130
            (SA.l
              (SL.app 113
                (SA.l
                  (SL.app 115
                    (SA.l
                      (SL.app 116
                        (SA.l (SL.v 0)
                          (SA.i
                            (SI.app 100
                              (SA.l (SL.v 0)
                                (SA.i (SI.c (Int.ofNat 1))
                                  (SA.i (SI.c (Int.ofNat 0)) (SA.i (SI.c (Int.ofNat 0)) SA.nil)))))
                            (SA.i
                              (SI.sub
                                (SI.len
                                  (SL.app 14
                                    (SA.l (SL.v 0)
                                      (SA.i
                                        (SI.app 100
                                          (SA.l (SL.v 0)
                                            (SA.i (SI.c (Int.ofNat 1))
                                              (SA.i (SI.c (Int.ofNat 0)) (SA.i (SI.c (Int.ofNat 0)) SA.nil)))))
                                        SA.nil))))
                                (SI.c (Int.ofNat 1)))
                              SA.nil))))
                      (SA.i
                        (SI.app 100
                          (SA.l (SL.v 0)
                            (SA.i (SI.c (Int.ofNat 0)) (SA.i (SI.c (Int.ofNat 0)) (SA.i (SI.c (Int.ofNat 0)) SA.nil)))))
                        (SA.i
                          (SI.sel
                            (SL.app 14
                              (SA.l (SL.v 0)
                                (SA.i
                                  (SI.app 100
                                    (SA.l (SL.v 0)
                                      (SA.i (SI.c (Int.ofNat 1))
                                        (SA.i (SI.c (Int.ofNat 0)) (SA.i (SI.c (Int.ofNat 0)) SA.nil)))))
                                  SA.nil)))
                            (SI.sub
                              (SI.len
                                (SL.app 14
                                  (SA.l (SL.v 0)
                                    (SA.i
                                      (SI.app 100
                                        (SA.l (SL.v 0)
                                          (SA.i (SI.c (Int.ofNat 1))
                                            (SA.i (SI.c (Int.ofNat 0)) (SA.i (SI.c (Int.ofNat 0)) SA.nil)))))
                                      SA.nil))))
                              (SI.c (Int.ofNat 1)))
                            0)
                          SA.nil))))
                  SA.nil))
              (SA.l (SL.v 1000) (SA.i (SI.v 3) SA.nil))),
          SB.eq
            (SI.len
              (SL.app 113
                (SA.l
                  (SL.app 115
                    (SA.l
                      (SL.app 116
                        (SA.l (SL.v 0)
                          (SA.i
                            (SI.app 100
                              (SA.l (SL.v 0)
                                (SA.i (SI.c (Int.ofNat 1))
                                  (SA.i (SI.c (Int.ofNat 0)) (SA.i (SI.c (Int.ofNat 0)) SA.nil)))))
                            (SA.i
                              (SI.sub
                                (SI.len
                                  (SL.app 14
                                    (SA.l (SL.v 0)
                                      (SA.i
                                        (SI.app 100
                                          (SA.l (SL.v 0)
                                            (SA.i (SI.c (Int.ofNat 1))
                                              (SA.i (SI.c (Int.ofNat 0)) (SA.i (SI.c (Int.ofNat 0)) SA.nil)))))
                                        SA.nil))))
                                (SI.c (Int.ofNat 1)))
                              SA.nil))))
                      (SA.i
                        (SI.app 100
                          (SA.l (SL.v 0)
                            (SA.i (SI.c (Int.ofNat 0)) (SA.i (SI.c (Int.ofNat 0)) (SA.i (SI.c (Int.ofNat 0)) SA.nil)))))
                        (SA.i
                          (SI.sel
                            (SL.app 14
                              (SA.l (SL.v 0)
                                (SA.i
                                  (SI.app 100
                                    (SA.l (SL.v 0)
                                      (SA.i (SI.c (Int.ofNat 1))
                                        (SA.i (SI.c (Int.ofNat 0)) (SA.i (SI.c (Int.ofNat 0)) SA.nil)))))
                                  SA.nil)))
                            (SI.sub
                              (SI.len
                                (SL.app 14
                                  (SA.l (SL.v 0)
                                    (SA.i
                                      (SI.app 100
                                        (SA.l (SL.v 0)
                                          (SA.i (SI.c (Int.ofNat 1))
                                            (SA.i (SI.c (Int.ofNat 0)) (SA.i (SI.c (Int.ofNat 0)) SA.nil)))))
                                      SA.nil))))
                              (SI.c (Int.ofNat 1)))
                            0)
                          SA.nil))))
                  SA.nil)))
            (SI.len
              (SL.app 115
                (SA.l
                  (SL.app 116
                    (SA.l (SL.v 0)
                      (SA.i
                        (SI.app 100
                          (SA.l (SL.v 0)
                            (SA.i (SI.c (Int.ofNat 1)) (SA.i (SI.c (Int.ofNat 0)) (SA.i (SI.c (Int.ofNat 0)) SA.nil)))))
                        (SA.i
                          (SI.sub
                            (SI.len
                              (SL.app 14
                                (SA.l (SL.v 0)
                                  (SA.i
                                    (SI.app 100
                                      (SA.l (SL.v 0)
                                        (SA.i (SI.c (Int.ofNat 1))
                                          (SA.i (SI.c (Int.ofNat 0)) (SA.i (SI.c (Int.ofNat 0)) SA.nil)))))
                                    SA.nil))))
                            (SI.c (Int.ofNat 1)))
                          SA.nil))))
                  (SA.i
                    (SI.app 100
                      (SA.l (SL.v 0)
                        (SA.i (SI.c (Int.ofNat 0)) (SA.i (SI.c (Int.ofNat 0)) (SA.i (SI.c (Int.ofNat 0)) SA.nil)))))
                    (SA.i
                      (SI.sel
                        (SL.app 14
                          (SA.l (SL.v 0)
                            (SA.i
                              (SI.app 100
                                (SA.l (SL.v 0)
                                  (SA.i (SI.c (Int.ofNat 1))
                                    (SA.i (SI.c (Int.ofNat 0)) (SA.i (SI.c (Int.ofNat 0)) SA.nil)))))
                              SA.nil)))
                        (SI.sub
                          (SI.len
                            (SL.app 14
                              (SA.l (SL.v 0)
                                (SA.i
                                  (SI.app 100
                                    (SA.l (SL.v 0)
                                      (SA.i (SI.c (Int.ofNat 1))
                                        (SA.i (SI.c (Int.ofNat 0)) (SA.i (SI.c (Int.ofNat 0)) SA.nil)))))
                                  SA.nil))))
                          (SI.c (Int.ofNat 1)))
                        0)
                      SA.nil))))),
          SB.eq
            (SI.len
              (SL.app 115
                (SA.l
                  (SL.app 116
                    (SA.l (SL.v 0)
                      (SA.i
                        (SI.app 100
                          (SA.l (SL.v 0)
                            (SA.i (SI.c (Int.ofNat 1)) (SA.i (SI.c (Int.ofNat 0)) (SA.i (SI.c (Int.ofNat 0)) SA.nil)))))
                        (SA.i
                          (SI.sub
                            (SI.len
                              (SL.app 14
                                (SA.l (SL.v 0)
                                  (SA.i
                                    (SI.app 100
                                      (SA.l (SL.v 0)
                                        (SA.i (SI.c (Int.ofNat 1))
                                          (SA.i (SI.c (Int.ofNat 0)) (SA.i (SI.c (Int.ofNat 0)) SA.nil)))))
                                    SA.nil))))
                            (SI.c (Int.ofNat 1)))
                          SA.nil))))
                  (SA.i
                    (SI.app 100
                      (SA.l (SL.v 0)
                        (SA.i (SI.c (Int.ofNat 0)) (SA.i (SI.c (Int.ofNat 0)) (SA.i (SI.c (Int.ofNat 0)) SA.nil)))))
                    (SA.i
                      (SI.sel
                        (SL.app 14
                          (SA.l (SL.v 0)
                            (SA.i
                              (SI.app 100
                                (SA.l (SL.v 0)
                                  (SA.i (SI.c (Int.ofNat 1))
                                    (SA.i (SI.c (Int.ofNat 0)) (SA.i (SI.c (Int.ofNat 0)) SA.nil)))))
                              SA.nil)))
                        (SI.sub
                          (SI.len
                            (SL.app 14
                              (SA.l (SL.v 0)
                                (SA.i
                                  (SI.app 100
                                    (SA.l (SL.v 0)
                                      (SA.i (SI.c (Int.ofNat 1))
                                        (SA.i (SI.c (Int.ofNat 0)) (SA.i (SI.c (Int.ofNat 0)) SA.nil)))))
                                  SA.nil))))
                          (SI.c (Int.ofNat 1)))
                        0)
                      SA.nil)))))
            (SI.len
              (SL.app 116
                (SA.l (SL.v 0)
                  (SA.i
                    (SI.app 100
                      (SA.l (SL.v 0)
                        (SA.i (SI.c (Int.ofNat 1)) (SA.i (SI.c (Int.ofNat 0)) (SA.i (SI.c (Int.ofNat 0)) SA.nil)))))
                    (SA.i
                      (SI.sub
                        (SI.len
                          (SL.app 14
                            (SA.l (SL.v 0)
                              (SA.i
                                (SI.app 100
                                  (SA.l (SL.v 0)
                                    (SA.i (SI.c (Int.ofNat 1))
                                      (SA.i (SI.c (Int.ofNat 0)) (SA.i (SI.c (Int.ofNat 0)) SA.nil)))))
                                SA.nil))))
                        (SI.c (Int.ofNat 1)))
                      SA.nil))))),
          SB.lt
            (SI.len
              (SL.app 14
                (SA.l
                  (SL.app 116
                    (SA.l (SL.v 0)
                      (SA.i
                        (SI.app 100
                          (SA.l (SL.v 0)
                            (SA.i (SI.c (Int.ofNat 1)) (SA.i (SI.c (Int.ofNat 0)) (SA.i (SI.c (Int.ofNat 0)) SA.nil)))))
                        (SA.i
                          (SI.sub
                            (SI.len
                              (SL.app 14
                                (SA.l (SL.v 0)
                                  (SA.i
                                    (SI.app 100
                                      (SA.l (SL.v 0)
                                        (SA.i (SI.c (Int.ofNat 1))
                                          (SA.i (SI.c (Int.ofNat 0)) (SA.i (SI.c (Int.ofNat 0)) SA.nil)))))
                                    SA.nil))))
                            (SI.c (Int.ofNat 1)))
                          SA.nil))))
                  (SA.i
                    (SI.app 100
                      (SA.l (SL.v 0)
                        (SA.i (SI.c (Int.ofNat 0)) (SA.i (SI.c (Int.ofNat 0)) (SA.i (SI.c (Int.ofNat 0)) SA.nil)))))
                    SA.nil))))
            (SI.c (Int.ofNat 64)),
          SB.eq
            (SI.len
              (SL.app 116
                (SA.l (SL.v 0)
                  (SA.i
                    (SI.app 100
                      (SA.l (SL.v 0)
                        (SA.i (SI.c (Int.ofNat 1)) (SA.i (SI.c (Int.ofNat 0)) (SA.i (SI.c (Int.ofNat 0)) SA.nil)))))
                    (SA.i
                      (SI.sub
                        (SI.len
                          (SL.app 14
                            (SA.l (SL.v 0)
                              (SA.i
                                (SI.app 100
                                  (SA.l (SL.v 0)
                                    (SA.i (SI.c (Int.ofNat 1))
                                      (SA.i (SI.c (Int.ofNat 0)) (SA.i (SI.c (Int.ofNat 0)) SA.nil)))))
                                SA.nil))))
                        (SI.c (Int.ofNat 1)))
                      SA.nil)))))
            (SI.len (SL.v 0)),
          SB.not
            (SB.lt
              (SI.len
                (SL.app 14
                  (SA.l (SL.v 0)
                    (SA.i
                      (SI.app 100
                        (SA.l (SL.v 0)
                          (SA.i (SI.c (Int.ofNat 1)) (SA.i (SI.c (Int.ofNat 0)) (SA.i (SI.c (Int.ofNat 0)) SA.nil)))))
                      SA.nil))))
              (SI.add
                (SI.len
                  (SL.app 14
                    (SA.l (SL.v 0)
                      (SA.i
                        (SI.app 100
                          (SA.l (SL.v 0)
                            (SA.i (SI.c (Int.ofNat 0)) (SA.i (SI.c (Int.ofNat 0)) (SA.i (SI.c (Int.ofNat 0)) SA.nil)))))
                        SA.nil))))
                (SI.c (Int.ofNat 2)))),
          SB.le
            (SI.len
              (SL.app 14
                (SA.l (SL.v 0)
                  (SA.i
                    (SI.app 100
                      (SA.l (SL.v 0)
                        (SA.i (SI.c (Int.ofNat 0)) (SA.i (SI.c (Int.ofNat 0)) (SA.i (SI.c (Int.ofNat 0)) SA.nil)))))
                    SA.nil))))
            (SI.v 3),
          SB.lt
            (SI.app 100
              (SA.l (SL.v 0)
                (SA.i (SI.c (Int.ofNat 0)) (SA.i (SI.c (Int.ofNat 0)) (SA.i (SI.c (Int.ofNat 0)) SA.nil)))))
            (SI.len (SL.v 0)),
          SB.le (SI.c (Int.ofNat 0))
            (SI.app 100
              (SA.l (SL.v 0)
                (SA.i (SI.c (Int.ofNat 0)) (SA.i (SI.c (Int.ofNat 0)) (SA.i (SI.c (Int.ofNat 0)) SA.nil))))),
          SB.le
            (SI.len
              (SL.app 14
                (SA.l (SL.v 0)
                  (SA.i
                    (SI.app 100
                      (SA.l (SL.v 0)
                        (SA.i (SI.c (Int.ofNat 1)) (SA.i (SI.c (Int.ofNat 0)) (SA.i (SI.c (Int.ofNat 0)) SA.nil)))))
                    SA.nil))))
            (SI.v 3),
          SB.lt
            (SI.app 100
              (SA.l (SL.v 0)
                (SA.i (SI.c (Int.ofNat 1)) (SA.i (SI.c (Int.ofNat 0)) (SA.i (SI.c (Int.ofNat 0)) SA.nil)))))
            (SI.len (SL.v 0)),
          SB.le (SI.c (Int.ofNat 0))
            (SI.app 100
              (SA.l (SL.v 0)
                (SA.i (SI.c (Int.ofNat 1)) (SA.i (SI.c (Int.ofNat 0)) (SA.i (SI.c (Int.ofNat 0)) SA.nil))))),
          SB.le (SI.c (Int.ofNat 1)) (SI.len (SL.v 0)), SB.le (SI.len (SL.v 0)) (SI.c (Int.ofNat 8)),
          SB.le (SI.c (Int.ofNat 1)) (SI.v 3), SB.le (SI.v 3) (SI.c (Int.ofNat 64)),
          SB.le (SI.c (Int.ofNat 0)) (SI.v 0), SB.le (SI.v 0) (SI.c (Int.ofNat 100000)), SB.c true,
          SB.app 130 (SA.l (SL.v 0) (SA.l (SL.v 1) (SA.i (SI.v 3) SA.nil))),
          SB.le (SI.add (SI.v 0) (SI.app 114 (SA.l (SL.v 0) SA.nil))) (SI.c (Int.ofNat 100000))],
      eqs :=
        [Eqn.T (SB.eq (SI.len (SL.app 113 (SA.l (SL.v 0) SA.nil))) (SI.len (SL.v 0))),
          Eqn.T (SB.app 130 (SA.l (SL.app 113 (SA.l (SL.v 0) SA.nil)) (SA.l (SL.v 1000) (SA.i (SI.v 3) SA.nil)))),
          Eqn.I (SI.add (SI.v 0) (SI.app 113 (SA.l (SL.v 0) SA.nil)))
            (SI.add (SI.add (SI.v 0) (SI.c (Int.ofNat 1)))
              (SI.app 113
                (SA.l
                  (SL.app 115
                    (SA.l
                      (SL.app 116
                        (SA.l (SL.v 0)
                          (SA.i
                            (SI.app 100
                              (SA.l (SL.v 0)
                                (SA.i (SI.c (Int.ofNat 1))
                                  (SA.i (SI.c (Int.ofNat 0)) (SA.i (SI.c (Int.ofNat 0)) SA.nil)))))
                            (SA.i
                              (SI.sub
                                (SI.len
                                  (SL.app 14
                                    (SA.l (SL.v 0)
                                      (SA.i
                                        (SI.app 100
                                          (SA.l (SL.v 0)
                                            (SA.i (SI.c (Int.ofNat 1))
                                              (SA.i (SI.c (Int.ofNat 0)) (SA.i (SI.c (Int.ofNat 0)) SA.nil)))))
                                        SA.nil))))
                                (SI.c (Int.ofNat 1)))
                              SA.nil))))
                      (SA.i
                        (SI.app 100
                          (SA.l (SL.v 0)
                            (SA.i (SI.c (Int.ofNat 0)) (SA.i (SI.c (Int.ofNat 0)) (SA.i (SI.c (Int.ofNat 0)) SA.nil)))))
                        (SA.i
                          (SI.sel
                            (SL.app 14
                              (SA.l (SL.v 0)
                                (SA.i
                                  (SI.app 100
                                    (SA.l (SL.v 0)
                                      (SA.i (SI.c (Int.ofNat 1))
                                        (SA.i (SI.c (Int.ofNat 0)) (SA.i (SI.c (Int.ofNat 0)) SA.nil)))))
                                  SA.nil)))
                            (SI.sub
                              (SI.len
                                (SL.app 14
                                  (SA.l (SL.v 0)
                                    (SA.i
                                      (SI.app 100
                                        (SA.l (SL.v 0)
                                          (SA.i (SI.c (Int.ofNat 1))
                                            (SA.i (SI.c (Int.ofNat 0)) (SA.i (SI.c (Int.ofNat 0)) SA.nil)))))
                                      SA.nil))))
                              (SI.c (Int.ofNat 1)))
                            0)
                          SA.nil))))
                  SA.nil))),
          Eqn.I (SI.len (SL.app 113 (SA.l (SL.v 0) SA.nil)))
            (SI.len
              (SL.app 113
                (SA.l
                  (SL.app 115
                    (SA.l
                      (SL.app 116
                        (SA.l (SL.v 0)
                          (SA.i
                            (SI.app 100
                              (SA.l (SL.v 0)
                                (SA.i (SI.c (Int.ofNat 1))
                                  (SA.i (SI.c (Int.ofNat 0)) (SA.i (SI.c (Int.ofNat 0)) SA.nil)))))
                            (SA.i
                              (SI.sub
                                (SI.len
                                  (SL.app 14
                                    (SA.l (SL.v 0)
                                      (SA.i
                                        (SI.app 100
                                          (SA.l (SL.v 0)
                                            (SA.i (SI.c (Int.ofNat 1))
                                              (SA.i (SI.c (Int.ofNat 0)) (SA.i (SI.c (Int.ofNat 0)) SA.nil)))))
                                        SA.nil))))
                                (SI.c (Int.ofNat 1)))
                              SA.nil))))
                      (SA.i
                        (SI.app 100
                          (SA.l (SL.v 0)
                            (SA.i (SI.c (Int.ofNat 0)) (SA.i (SI.c (Int.ofNat 0)) (SA.i (SI.c (Int.ofNat 0)) SA.nil)))))
                        (SA.i
                          (SI.sel
                            (SL.app 14
                              (SA.l (SL.v 0)
                                (SA.i
                                  (SI.app 100
                                    (SA.l (SL.v 0)
                                      (SA.i (SI.c (Int.ofNat 1))
                                        (SA.i (SI.c (Int.ofNat 0)) (SA.i (SI.c (Int.ofNat 0)) SA.nil)))))
                                  SA.nil)))
                            (SI.sub
                              (SI.len
                                (SL.app 14
                                  (SA.l (SL.v 0)
                                    (SA.i
                                      (SI.app 100
                                        (SA.l (SL.v 0)
                                          (SA.i (SI.c (Int.ofNat 1))
                                            (SA.i (SI.c (Int.ofNat 0)) (SA.i (SI.c (Int.ofNat 0)) SA.nil)))))
                                      SA.nil))))
                              (SI.c (Int.ofNat 1)))
                            0)
                          SA.nil))))
                  SA.nil))),
          Eqn.L (SL.app 113 (SA.l (SL.v 0) SA.nil))
            (SL.app 113
              (SA.l
                (SL.app 115
                  (SA.l
                    (SL.app 116
                      (SA.l (SL.v 0)
                        (SA.i
                          (SI.app 100
                            (SA.l (SL.v 0)
                              (SA.i (SI.c (Int.ofNat 1))
                                (SA.i (SI.c (Int.ofNat 0)) (SA.i (SI.c (Int.ofNat 0)) SA.nil)))))
                          (SA.i
                            (SI.sub
                              (SI.len
                                (SL.app 14
                                  (SA.l (SL.v 0)
                                    (SA.i
                                      (SI.app 100
                                        (SA.l (SL.v 0)
                                          (SA.i (SI.c (Int.ofNat 1))
                                            (SA.i (SI.c (Int.ofNat 0)) (SA.i (SI.c (Int.ofNat 0)) SA.nil)))))
                                      SA.nil))))
                              (SI.c (Int.ofNat 1)))
                            SA.nil))))
                    (SA.i
                      (SI.app 100
                        (SA.l (SL.v 0)
                          (SA.i (SI.c (Int.ofNat 0)) (SA.i (SI.c (Int.ofNat 0)) (SA.i (SI.c (Int.ofNat 0)) SA.nil)))))
                      (SA.i
                        (SI.sel
                          (SL.app 14
                            (SA.l (SL.v 0)
                              (SA.i
                                (SI.app 100
                                  (SA.l (SL.v 0)
                                    (SA.i (SI.c (Int.ofNat 1))
                                      (SA.i (SI.c (Int.ofNat 0)) (SA.i (SI.c (Int.ofNat 0)) SA.nil)))))
                                SA.nil)))
                          (SI.sub
                            (SI.len
                              (SL.app 14
                                (SA.l (SL.v 0)
                                  (SA.i
                                    (SI.app 100
                                      (SA.l (SL.v 0)
                                        (SA.i (SI.c (Int.ofNat 1))
                                          (SA.i (SI.c (Int.ofNat 0)) (SA.i (SI.c (Int.ofNat 0)) SA.nil)))))
                                    SA.nil))))
                            (SI.c (Int.ofNat 1)))
                          0)
                        SA.nil))))
                SA.nil))] },
    {
      pc :=
        [SB.not
            (SB.lt
              (SI.len
                (SL.app 14
                  (SA.l
                    (SL.app 116
                      (SA.l (SL.v 0)
                        (SA.i
                          (SI.app 100
                            (SA.l (SL.v 0)
                              (SA.i (SI.c (Int.ofNat 1))
                                (SA.i (SI.c (Int.ofNat 0)) (SA.i (SI.c (Int.ofNat 0)) SA.nil)))))
                          (SA.i
                            (SI.sub
                              (SI.len
                                (SL.app 14
                                  (SA.l (SL.v 0)
                                    (SA.i
                                      (SI.app 100
                                        (SA.l (SL.v 0)
                                          (SA.i (SI.c (Int.ofNat 1))
                                            (SA.i (SI.c (Int.ofNat 0)) (SA.i (SI.c (Int.ofNat 0)) SA.nil)))))
                                      SA.nil))))
                              (SI.c (Int.ofNat 1)))
                            SA.nil))))
                    (SA.i
                      (SI.app 100
                        (SA.l (SL.v 0)
                          (SA.i (SI.c (Int.ofNat 0)) (SA.i (SI.c (Int.ofNat 0)) (SA.i (SI.c (Int.ofNat 0)) SA.nil)))))
                      SA.nil))))
              (SI.c (Int.ofNat 64))),
          SB.eq
            (SI.len
              (SL.app 116
                (SA.l (SL.v 0)
                  (SA.i
                    (SI.app 100
                      (SA.l (SL.v 0)
                        (SA.i (SI.c (Int.ofNat 1)) (SA.i (SI.c (Int.ofNat 0)) (SA.i (SI.c (Int.ofNat 0)) SA.nil)))))
                    (SA.i
                      (SI.sub
                        (SI.len
                          (SL.app 14
                            (SA.l (SL.v 0)
                              (SA.i
                                (SI.app 100
                                  (SA.l (SL.v 0)
                                    (SA.i (SI.c (Int.ofNat 1))
                                      (SA.i (SI.c (Int.ofNat 0)) (SA.i (SI.c (Int.ofNat 0)) SA.nil)))))
                                SA.nil))))
                        (SI.c (Int.ofNat 1)))
                      SA.nil)))))
            (SI.len (SL.v 0)),
          SB.not
            (SB.lt
              (SI.len
                (SL.app 14
                  (SA.l (SL.v 0)
                    (SA.i
                      (SI.app 100
                        (SA.l (SL.v 0)
                          (SA.i (SI.c (Int.ofNat 1)) (SA.i (SI.c (Int.ofNat 0)) (SA.i (SI.c (Int.ofNat 0)) SA.nil)))))
                      SA.nil))))
              (SI.add
                (SI.len
                  (SL.app 14
                    (SA.l (SL.v 0)
                      (SA.i
                        (SI.app 100
                          (SA.l (SL.v 0)
                            (SA.i (SI.c (Int.ofNat 0)) (SA.i (SI.c (Int.ofNat 0)) (SA.i (SI.c (Int.ofNat 0)) SA.nil)))))
                        SA.nil))))
                (SI.c (Int.ofNat 2)))),
          SB.le
            (SI.len
              (SL.app 14
                (SA.l (SL.v 0)
                  (SA.i
                    (SI.app 100
                      (SA.l (SL.v 0)
                        (SA.i (SI.c (Int.ofNat 0)) (SA.i (SI.c (Int.ofNat 0)) (SA.i (SI.c (Int.ofNat 0)) SA.nil)))))
                    SA.nil))))
            (SI.v 3),
          SB.lt
            (SI.app 100
              (SA.l (SL.v 0)
                (SA.i (SI.c (Int.ofNat 0)) (SA.i (SI.c (Int.ofNat 0)) (SA.i (SI.c (Int.ofNat 0)) SA.nil)))))
            (SI.len (SL.v 0)),
          SB.le (SI.c (Int.ofNat 0))
            (SI.app 100
              (SA.l (SL.v 0)
                (SA.i (SI.c (Int.ofNat 0)) (SA.i (SI.c (Int.ofNat 0)) (SA.i (SI.c (Int.ofNat 0)) SA.nil))))),
          SB.le
            (SI.len
              (SL.app 14
                (SA.l (SL.v 0)
                  (SA.i
                    (SI.app 100
                      (SA.l (SL.v 0)
                        (SA.i (SI.c (Int.ofNat 1)) (SA.i (SI.c (Int.ofNat 0)) (SA.i (SI.c (Int.ofNat 0)) SA.nil)))))
                    SA.nil))))
            (SI.v 3),
          SB.lt
            (SI.app 100
              (SA.l (SL.v 0)
                (SA.i (SI.c (Int.ofNat 1)) (SA.i (SI.c (Int.ofNat 0)) (SA.i (SI.c (Int.ofNat 0)) SA.nil)))))
            (SI.len (SL.v 0)),
          SB.le (SI.c (Int.ofNat 0))
            (SI.app 100
              (SA.l (SL.v 0)
                (SA.i (SI.c (Int.ofNat 1)) (SA.i (SI.c (Int.ofNat 0)) (SA.i (SI.c (Int.ofNat 0)) SA.nil))))),
          SB.le (SI.c (Int.ofNat 1)) (SI.len (SL.v 0)), SB.le (SI.len (SL.v 0)) (SI.c (Int.ofNat 8)),
          SB.le (SI.c (Int.ofNat 1)) (SI.v 3), SB.le (SI.v 3) (SI.c (Int.ofNat 64)),
          SB.le (SI.c (Int.ofNat 0)) (SI.v 0), SB.le (SI.v 0) (SI.c (Int.ofNat 100000)), SB.c true,
          SB.app 130 (SA.l (SL.v 0) (SA.l (SL.v 1) (SA.i (SI.v 3) SA.nil))),
          SB.le (SI.add (SI.v 0) (SI.app 114 (SA.l (SL.v 0) SA.nil))) (SI.c (Int.ofNat 100000))],
      eqs := [Eqn.T (SB.c false)] }] := by kernel_rfl
theorem ev0_ok : ev0.ok Φ Try.prog := by
  refine ⟨by kernel_rfl, loop_rule (fun ρ => t4_ok ρ) (loopAt_sub (by kernel_rfl)) ev0_obs ?_⟩
  simp only [and_imp, List.forall_mem_cons, List.not_mem_nil, false_implies, implies_true, and_true, Ob.ok, holds, Eqn.ok, evB_eq, evB_lt, evB_le, evB_not, evB_and, evB_or, evB_eqL, evB_app, evB_v, evB_c, ev_sel, ev_len, ev_v, ev_c, ev_add, ev_sub, ev_mul, ev_quo, ev_rem, ev_bits, ev_wrap, evL_v, evL_lit, evL_app, ev_app, evA_l, evA_i, evA_nil, std_min, std_max, std_cat, std_take, std_drop, std_row, std_set, std_rep, std_find, std_put, std_del, std_flag, std_unflag, std_clr, std_left, std_copy, ints_cons, ints_nil, ofNat_lit, negSucc_lit, decide_eq_true_eq, Bool.and_eq_true, Bool.or_eq_true, Bool.not_eq_true', Bool.and_eq_false_iff, Bool.or_eq_false_iff, decide_eq_false_iff_not, std_rowT, std_setT, lenR_rowT, rowT_get, aI100, aI101, aI102, aI103, aI104, aI105, aI106, aI107, aI110, aI111, aI112, aI113, aI114, aL110, aL111, aL112, aL113, aL115, aL116, aL120, aL121, aB130, aB131, aB132, aB133, aB134, aB135, aB136, aB199]
  repeat' apply And.intro
  all_goals intro ρ hR
  all_goals intros
  all_goals first
    | (have hi : invB (ρ.l 0) (ρ.l 1) (ρ.i 3) = true := by with_reducible assumption
       obtain ⟨e1, e2⟩ := even_end (T := ρ.l 0) (by with_reducible assumption)
       rw [e1, e2]
       exact ⟨rfl, hi, by omega, rfl, rfl⟩)
    | (have hi : invB (ρ.l 0) (ρ.l 1) (ρ.i 3) = true := by with_reducible assumption
       have hg := ‹¬ lenR (ρ.l 0) (bestF 1 (ρ.l 0) 0 0) < lenR (ρ.l 0) (bestF 0 (ρ.l 0) 0 0) + 2›
       have h1 : 1 ≤ ((ρ.l 0).length : Int) := by omega
       have hs := sq_step h1 hg
       have hp := sq_pos (evStep (ρ.l 0))
       unfold evStep at hs hp
       exact ⟨by omega, by omega, by omega, inv_step hi h1 hg, by omega⟩)
    | (have hg := ‹¬ lenR (ρ.l 0) (bestF 1 (ρ.l 0) 0 0) < lenR (ρ.l 0) (bestF 0 (ρ.l 0) 0 0) + 2›
       have h1 : 1 ≤ ((ρ.l 0).length : Int) := by omega
       obtain ⟨e1, e2⟩ := even_step h1 hg
       have hl := evenT_len (evStep (ρ.l 0))
       have hl2 := evStep_len (ρ.l 0)
       unfold evStep at e1 e2 hl hl2
       rw [e1, e2]
       exact ⟨by omega, by with_reducible assumption, by omega, rfl, rfl⟩)
    | (have hi : invB (ρ.l 0) (ρ.l 1) (ρ.i 3) = true := by with_reducible assumption
       have hg := ‹¬ lenR (ρ.l 0) (bestF 1 (ρ.l 0) 0 0) < lenR (ρ.l 0) (bestF 0 (ρ.l 0) 0 0) + 2›
       have hp := lenR_pos (ρ.l 0) (bestF 0 (ρ.l 0) 0 0)
       have h2 := len_cut (T := ρ.l 0) (c := (bestF 1 (ρ.l 0) 0 0)) (i := lenR (ρ.l 0) (bestF 1 (ρ.l 0) 0 0) - 1) (k := (bestF 0 (ρ.l 0) 0 0)) (by omega) (by omega) (by omega) (by omega) (by omega)
       rw [if_neg (ne_of_gap hg)] at h2
       exfalso
       omega)
    | (have hp := lenR_pos (ρ.l 0) (bestF 0 (ρ.l 0) 0 0)
       exfalso
       omega)
theorem t5_ok (ρ : Env) : TblOK Φ ρ Try.prog t5 := addLp_ok (t4_ok ρ) ev0_ok
set_option maxRecDepth 100000 in
theorem cEven_obs : callObs Φ Try.prog t5 1000 cEven.f cEven.vs cEven.o cEven.pc cEven.outs = some
  [{
      pc :=
        [SB.not (SB.le (SI.app 114 (SA.l (SL.v 0) SA.nil)) (SI.c (Int.ofNat 100000))),
          SB.le (SI.c (Int.ofNat 1)) (SI.len (SL.v 0)), SB.le (SI.len (SL.v 0)) (SI.c (Int.ofNat 8)),
          SB.le (SI.c (Int.ofNat 1)) (SI.v 3), SB.le (SI.v 3) (SI.c (Int.ofNat 64)), SB.c true,
          SB.app 130 (SA.l (SL.v 0) (SA.l (SL.v 1) (SA.i (SI.v 3) SA.nil)))],
      eqs := [Eqn.T (SB.c false)] }] := by kernel_rfl
theorem cEven_ok : cEven.ok Φ Try.prog := by
  refine call_rule (fun ρ => t5_ok ρ) cEven_obs ?_
  simp only [and_imp, List.forall_mem_cons, List.not_mem_nil, false_implies, implies_true, and_true, Ob.ok, holds, Eqn.ok, evB_eq, evB_lt, evB_le, evB_not, evB_and, evB_or, evB_eqL, evB_app, evB_v, evB_c, ev_sel, ev_len, ev_v, ev_c, ev_add, ev_sub, ev_mul, ev_quo, ev_rem, ev_bits, ev_wrap, evL_v, evL_lit, evL_app, ev_app, evA_l, evA_i, evA_nil, std_min, std_max, std_cat, std_take, std_drop, std_row, std_set, std_rep, std_find, std_put, std_del, std_flag, std_unflag, std_clr, std_left, std_copy, ints_cons, ints_nil, ofNat_lit, negSucc_lit, decide_eq_true_eq, Bool.and_eq_true, Bool.or_eq_true, Bool.not_eq_true', Bool.and_eq_false_iff, Bool.or_eq_false_iff, decide_eq_false_iff_not, std_rowT, std_setT, lenR_rowT, rowT_get, aI100, aI101, aI102, aI103, aI104, aI105, aI106, aI107, aI110, aI111, aI112, aI113, aI114, aL110, aL111, aL112, aL113, aL115, aL116, aL120, aL121, aB130, aB131, aB132, aB133, aB134, aB135, aB136, aB199]
  repeat' apply And.intro
  all_goals intro ρ hR
  all_goals intros
  all_goals first
    | (have hi : invB (ρ.l 0) (ρ.l 1) (ρ.i 3) = true := by with_reducible assumption
       have h := inv_sq hi (by omega) (by omega)
       exfalso
       omega)
theorem t6_ok (ρ : Env) : TblOK Φ ρ Try.prog t6 := addFn_ok (addFn_ok (addFn_ok (addFn_ok (addFn_ok (addFn_ok (addFn_ok (t5_ok ρ) cNew_ok) cPush_ok) cPop_ok) cDrop_ok) cList_ok) cLen_ok) cEven_ok
set_option maxRecDepth 100000 in
theorem cKnown_obs : callObs Φ Try.prog t6 1000 cKnown.f cKnown.vs cKnown.o cKnown.pc cKnown.outs = some
  [] := by kernel_rfl
theorem cKnown_ok : cKnown.ok Φ Try.prog := by
  refine call_rule (fun ρ => t6_ok ρ) cKnown_obs ?_
  intro ob h; cases h
end Go.SF.C17
