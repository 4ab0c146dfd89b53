/- Contracts of chapter 16, shown. -/
import Derived.Test.YtondflokjmdaiaaD
import Derived.KernelRfl
namespace Go.SF.D16
open Go Go.SF Go.Proofs
set_option linter.unusedVariables false
set_option linter.unusedSimpArgs false

set_option maxRecDepth 100000 in
theorem kKnown_obs : callObs Φ Try.prog noTbl 1000 kKnown.f kKnown.vs kKnown.o kKnown.pc kKnown.outs = some
  [] := by kernel_rfl
theorem kKnown_ok : kKnown.ok Φ Try.prog := by
  refine call_rule (fun ρ => noTbl_ok) kKnown_obs ?_
  intro ob h; cases h
set_option maxRecDepth 100000 in
theorem nR_obs : callObs Φ Try.prog noTbl 1000 nR.f nR.vs nR.o nR.pc nR.outs = some
  [{
      pc :=
        [SB.not (SB.v 1), SB.not (SB.v 0), SB.eq (SI.v 2) (SI.c (Int.negSucc 0)), SB.eq (SI.v 1) (SI.c (Int.ofNat 0)),
          SB.le (SI.c (Int.negSucc 1073741823)) (SI.v 3), SB.le (SI.v 3) (SI.c (Int.ofNat 1073741824)), SB.c true,
          SB.and (SB.c true)
            (SB.or
              (SB.and (SB.eq (SI.v 1) (SI.c (Int.ofNat 0)))
                (SB.and (SB.eq (SI.v 2) (SI.c (Int.negSucc 0))) (SB.and (SB.not (SB.v 0)) (SB.not (SB.v 1)))))
              (SB.or
                (SB.and (SB.eq (SI.v 1) (SI.c (Int.ofNat 1)))
                  (SB.and (SB.eq (SI.v 2) (SI.c (Int.negSucc 0))) (SB.and (SB.not (SB.v 0)) (SB.not (SB.v 1)))))
                (SB.or
                  (SB.and (SB.eq (SI.v 1) (SI.c (Int.ofNat 2)))
                    (SB.and (SB.le (SI.c (Int.ofNat 0)) (SI.v 2)) (SB.le (SI.v 2) (SI.c (Int.ofNat 7)))))
                  (SB.or
                    (SB.and (SB.eq (SI.v 1) (SI.c (Int.ofNat 3)))
                      (SB.and (SB.eq (SI.v 2) (SI.c (Int.negSucc 0))) (SB.not (SB.v 0))))
                    (SB.or
                      (SB.and (SB.eq (SI.v 1) (SI.c (Int.ofNat 4)))
                        (SB.and (SB.eq (SI.v 2) (SI.c (Int.negSucc 0))) (SB.and (SB.not (SB.v 0)) (SB.not (SB.v 1)))))
                      (SB.and (SB.eq (SI.v 1) (SI.c (Int.ofNat 5)))
                        (SB.and (SB.eq (SI.v 2) (SI.c (Int.negSucc 0)))
                          (SB.and (SB.not (SB.v 0)) (SB.not (SB.v 1))))))))))],
      eqs := [Eqn.B (SB.c true) (SB.not (SB.v 0))] },
    {
      pc :=
        [SB.not (SB.v 1), SB.not (SB.v 0), SB.eq (SI.v 2) (SI.c (Int.negSucc 0)), SB.eq (SI.v 1) (SI.c (Int.ofNat 1)),
          SB.not (SB.eq (SI.v 1) (SI.c (Int.ofNat 0))), SB.le (SI.c (Int.negSucc 1073741823)) (SI.v 3),
          SB.le (SI.v 3) (SI.c (Int.ofNat 1073741824)), SB.c true,
          SB.and (SB.c true)
            (SB.or
              (SB.and (SB.eq (SI.v 1) (SI.c (Int.ofNat 0)))
                (SB.and (SB.eq (SI.v 2) (SI.c (Int.negSucc 0))) (SB.and (SB.not (SB.v 0)) (SB.not (SB.v 1)))))
              (SB.or
                (SB.and (SB.eq (SI.v 1) (SI.c (Int.ofNat 1)))
                  (SB.and (SB.eq (SI.v 2) (SI.c (Int.negSucc 0))) (SB.and (SB.not (SB.v 0)) (SB.not (SB.v 1)))))
                (SB.or
                  (SB.and (SB.eq (SI.v 1) (SI.c (Int.ofNat 2)))
                    (SB.and (SB.le (SI.c (Int.ofNat 0)) (SI.v 2)) (SB.le (SI.v 2) (SI.c (Int.ofNat 7)))))
                  (SB.or
                    (SB.and (SB.eq (SI.v 1) (SI.c (Int.ofNat 3)))
                      (SB.and (SB.eq (SI.v 2) (SI.c (Int.negSucc 0))) (SB.not (SB.v 0))))
                    (SB.or
                      (SB.and (SB.eq (SI.v 1) (SI.c (Int.ofNat 4)))
                        (SB.and (SB.eq (SI.v 2) (SI.c (Int.negSucc 0))) (SB.and (SB.not (SB.v 0)) (SB.not (SB.v 1)))))
                      (SB.and (SB.eq (SI.v 1) (SI.c (Int.ofNat 5)))
                        (SB.and (SB.eq (SI.v 2) (SI.c (Int.negSucc 0)))
                          (SB.and (SB.not (SB.v 0)) (SB.not (SB.v 1))))))))))],
      eqs := [Eqn.B (SB.c true) (SB.not (SB.v 0))] },
    {
      pc :=
        [SB.le (SI.v 2) (SI.c (Int.ofNat 7)), SB.le (SI.c (Int.ofNat 0)) (SI.v 2), SB.eq (SI.v 1) (SI.c (Int.ofNat 2)),
          SB.not (SB.eq (SI.v 1) (SI.c (Int.ofNat 1))), SB.not (SB.eq (SI.v 1) (SI.c (Int.ofNat 0))),
          SB.le (SI.c (Int.negSucc 1073741823)) (SI.v 3), SB.le (SI.v 3) (SI.c (Int.ofNat 1073741824)), SB.c true,
          SB.and (SB.c true)
            (SB.or
              (SB.and (SB.eq (SI.v 1) (SI.c (Int.ofNat 0)))
                (SB.and (SB.eq (SI.v 2) (SI.c (Int.negSucc 0))) (SB.and (SB.not (SB.v 0)) (SB.not (SB.v 1)))))
              (SB.or
                (SB.and (SB.eq (SI.v 1) (SI.c (Int.ofNat 1)))
                  (SB.and (SB.eq (SI.v 2) (SI.c (Int.negSucc 0))) (SB.and (SB.not (SB.v 0)) (SB.not (SB.v 1)))))
                (SB.or
                  (SB.and (SB.eq (SI.v 1) (SI.c (Int.ofNat 2)))
                    (SB.and (SB.le (SI.c (Int.ofNat 0)) (SI.v 2)) (SB.le (SI.v 2) (SI.c (Int.ofNat 7)))))
                  (SB.or
                    (SB.and (SB.eq (SI.v 1) (SI.c (Int.ofNat 3)))
                      (SB.and (SB.eq (SI.v 2) (SI.c (Int.negSucc 0))) (SB.not (SB.v 0))))
                    (SB.or
                      (SB.and (SB.eq (SI.v 1) (SI.c (Int.ofNat 4)))
                        (SB.and (SB.eq (SI.v 2) (SI.c (Int.negSucc 0))) (SB.and (SB.not (SB.v 0)) (SB.not (SB.v 1)))))
                      (SB.and (SB.eq (SI.v 1) (SI.c (Int.ofNat 5)))
                        (SB.and (SB.eq (SI.v 2) (SI.c (Int.negSucc 0)))
                          (SB.and (SB.not (SB.v 0)) (SB.not (SB.v 1))))))))))],
      eqs := [Eqn.B (SB.c true) (SB.lt (SI.v 2) (SI.c (Int.ofNat 8)))] },
    {
      pc :=
        [SB.not (SB.v 0), SB.eq (SI.v 2) (SI.c (Int.negSucc 0)), SB.eq (SI.v 1) (SI.c (Int.ofNat 3)),
          SB.not (SB.eq (SI.v 1) (SI.c (Int.ofNat 2))), SB.not (SB.eq (SI.v 1) (SI.c (Int.ofNat 1))),
          SB.not (SB.eq (SI.v 1) (SI.c (Int.ofNat 0))), SB.le (SI.c (Int.negSucc 1073741823)) (SI.v 3),
          SB.le (SI.v 3) (SI.c (Int.ofNat 1073741824)), SB.c true,
          SB.and (SB.c true)
            (SB.or
              (SB.and (SB.eq (SI.v 1) (SI.c (Int.ofNat 0)))
                (SB.and (SB.eq (SI.v 2) (SI.c (Int.negSucc 0))) (SB.and (SB.not (SB.v 0)) (SB.not (SB.v 1)))))
              (SB.or
                (SB.and (SB.eq (SI.v 1) (SI.c (Int.ofNat 1)))
                  (SB.and (SB.eq (SI.v 2) (SI.c (Int.negSucc 0))) (SB.and (SB.not (SB.v 0)) (SB.not (SB.v 1)))))
                (SB.or
                  (SB.and (SB.eq (SI.v 1) (SI.c (Int.ofNat 2)))
                    (SB.and (SB.le (SI.c (Int.ofNat 0)) (SI.v 2)) (SB.le (SI.v 2) (SI.c (Int.ofNat 7)))))
                  (SB.or
                    (SB.and (SB.eq (SI.v 1) (SI.c (Int.ofNat 3)))
                      (SB.and (SB.eq (SI.v 2) (SI.c (Int.negSucc 0))) (SB.not (SB.v 0))))
                    (SB.or
                      (SB.and (SB.eq (SI.v 1) (SI.c (Int.ofNat 4)))
                        (SB.and (SB.eq (SI.v 2) (SI.c (Int.negSucc 0))) (SB.and (SB.not (SB.v 0)) (SB.not (SB.v 1)))))
                      (SB.and (SB.eq (SI.v 1) (SI.c (Int.ofNat 5)))
                        (SB.and (SB.eq (SI.v 2) (SI.c (Int.negSucc 0)))
                          (SB.and (SB.not (SB.v 0)) (SB.not (SB.v 1))))))))))],
      eqs := [Eqn.B (SB.c true) (SB.not (SB.v 0))] },
    {
      pc :=
        [SB.not (SB.v 1), SB.not (SB.v 0), SB.eq (SI.v 2) (SI.c (Int.negSucc 0)), SB.eq (SI.v 1) (SI.c (Int.ofNat 4)),
          SB.not (SB.eq (SI.v 1) (SI.c (Int.ofNat 3))), SB.not (SB.eq (SI.v 1) (SI.c (Int.ofNat 2))),
          SB.not (SB.eq (SI.v 1) (SI.c (Int.ofNat 1))), SB.not (SB.eq (SI.v 1) (SI.c (Int.ofNat 0))),
          SB.le (SI.c (Int.negSucc 1073741823)) (SI.v 3), SB.le (SI.v 3) (SI.c (Int.ofNat 1073741824)), SB.c true,
          SB.and (SB.c true)
            (SB.or
              (SB.and (SB.eq (SI.v 1) (SI.c (Int.ofNat 0)))
                (SB.and (SB.eq (SI.v 2) (SI.c (Int.negSucc 0))) (SB.and (SB.not (SB.v 0)) (SB.not (SB.v 1)))))
              (SB.or
                (SB.and (SB.eq (SI.v 1) (SI.c (Int.ofNat 1)))
                  (SB.and (SB.eq (SI.v 2) (SI.c (Int.negSucc 0))) (SB.and (SB.not (SB.v 0)) (SB.not (SB.v 1)))))
                (SB.or
                  (SB.and (SB.eq (SI.v 1) (SI.c (Int.ofNat 2)))
                    (SB.and (SB.le (SI.c (Int.ofNat 0)) (SI.v 2)) (SB.le (SI.v 2) (SI.c (Int.ofNat 7)))))
                  (SB.or
                    (SB.and (SB.eq (SI.v 1) (SI.c (Int.ofNat 3)))
                      (SB.and (SB.eq (SI.v 2) (SI.c (Int.negSucc 0))) (SB.not (SB.v 0))))
                    (SB.or
                      (SB.and (SB.eq (SI.v 1) (SI.c (Int.ofNat 4)))
                        (SB.and (SB.eq (SI.v 2) (SI.c (Int.negSucc 0))) (SB.and (SB.not (SB.v 0)) (SB.not (SB.v 1)))))
                      (SB.and (SB.eq (SI.v 1) (SI.c (Int.ofNat 5)))
                        (SB.and (SB.eq (SI.v 2) (SI.c (Int.negSucc 0)))
                          (SB.and (SB.not (SB.v 0)) (SB.not (SB.v 1))))))))))],
      eqs := [Eqn.B (SB.c true) (SB.not (SB.v 0))] },
    {
      pc :=
        [SB.not (SB.v 1), SB.not (SB.v 0), SB.eq (SI.v 2) (SI.c (Int.negSucc 0)), SB.eq (SI.v 1) (SI.c (Int.ofNat 5)),
          SB.not (SB.eq (SI.v 1) (SI.c (Int.ofNat 4))), SB.not (SB.eq (SI.v 1) (SI.c (Int.ofNat 3))),
          SB.not (SB.eq (SI.v 1) (SI.c (Int.ofNat 2))), SB.not (SB.eq (SI.v 1) (SI.c (Int.ofNat 1))),
          SB.not (SB.eq (SI.v 1) (SI.c (Int.ofNat 0))), SB.le (SI.c (Int.negSucc 1073741823)) (SI.v 3),
          SB.le (SI.v 3) (SI.c (Int.ofNat 1073741824)), SB.c true,
          SB.and (SB.c true)
            (SB.or
              (SB.and (SB.eq (SI.v 1) (SI.c (Int.ofNat 0)))
                (SB.and (SB.eq (SI.v 2) (SI.c (Int.negSucc 0))) (SB.and (SB.not (SB.v 0)) (SB.not (SB.v 1)))))
              (SB.or
                (SB.and (SB.eq (SI.v 1) (SI.c (Int.ofNat 1)))
                  (SB.and (SB.eq (SI.v 2) (SI.c (Int.negSucc 0))) (SB.and (SB.not (SB.v 0)) (SB.not (SB.v 1)))))
                (SB.or
                  (SB.and (SB.eq (SI.v 1) (SI.c (Int.ofNat 2)))
                    (SB.and (SB.le (SI.c (Int.ofNat 0)) (SI.v 2)) (SB.le (SI.v 2) (SI.c (Int.ofNat 7)))))
                  (SB.or
                    (SB.and (SB.eq (SI.v 1) (SI.c (Int.ofNat 3)))
                      (SB.and (SB.eq (SI.v 2) (SI.c (Int.negSucc 0))) (SB.not (SB.v 0))))
                    (SB.or
                      (SB.and (SB.eq (SI.v 1) (SI.c (Int.ofNat 4)))
                        (SB.and (SB.eq (SI.v 2) (SI.c (Int.negSucc 0))) (SB.and (SB.not (SB.v 0)) (SB.not (SB.v 1)))))
                      (SB.and (SB.eq (SI.v 1) (SI.c (Int.ofNat 5)))
                        (SB.and (SB.eq (SI.v 2) (SI.c (Int.negSucc 0)))
                          (SB.and (SB.not (SB.v 0)) (SB.not (SB.v 1))))))))))],
      eqs := [Eqn.B (SB.c true) (SB.not (SB.v 0))] }] := by kernel_rfl
theorem nR_ok : nR.ok Φ Try.prog := by
  refine call_rule (fun ρ => noTbl_ok) nR_obs ?_
  simp only [and_imp, List.forall_mem_cons, List.not_mem_nil, false_implies, implies_true, and_true, Ob.ok, holds, Eqn.ok, evB_eq, evB_lt, evB_le, evB_not, evB_and, evB_or, evB_eqL, evB_app, evB_v, evB_c, ev_sel, ev_len, ev_v, ev_c, ev_add, ev_sub, ev_mul, ev_quo, ev_rem, ev_bits, ev_wrap, evL_v, evL_lit, evL_app, ev_app, evA_l, evA_i, evA_nil, std_min, std_max, std_cat, std_take, std_drop, std_row, std_set, std_rep, ints_cons, ints_nil, ofNat_lit, negSucc_lit, decide_eq_true_eq, Bool.and_eq_true, Bool.or_eq_true, Bool.not_eq_true', Bool.and_eq_false_iff, Bool.or_eq_false_iff, decide_eq_false_iff_not, aB199]
  repeat' apply And.intro
  all_goals intro ρ hR
  all_goals intros
  all_goals first
    | (omega)
    | (simp_all; done)
    | (simp_all; omega)
    | (refine ⟨?_, ?_⟩ <;> simp_all; done)
    | (exfalso
       simp_all; done)
    | (exfalso
       simp_all; omega)
set_option maxRecDepth 100000 in
theorem nK_obs : callObs Φ Try.prog noTbl 1000 nK.f nK.vs nK.o nK.pc nK.outs = some
  [] := by kernel_rfl
theorem nK_ok : nK.ok Φ Try.prog := by
  refine call_rule (fun ρ => noTbl_ok) nK_obs ?_
  intro ob h; cases h
set_option maxRecDepth 100000 in
theorem nW_obs : callObs Φ Try.prog noTbl 1000 nW.f nW.vs nW.o nW.pc nW.outs = some
  [] := by kernel_rfl
theorem nW_ok : nW.ok Φ Try.prog := by
  refine call_rule (fun ρ => noTbl_ok) nW_obs ?_
  intro ob h; cases h
set_option maxRecDepth 100000 in
theorem nB_obs : callObs Φ Try.prog noTbl 1000 nB.f nB.vs nB.o nB.pc nB.outs = some
  [] := by kernel_rfl
theorem nB_ok : nB.ok Φ Try.prog := by
  refine call_rule (fun ρ => noTbl_ok) nB_obs ?_
  intro ob h; cases h
set_option maxRecDepth 100000 in
theorem nP_obs : callObs Φ Try.prog noTbl 1000 nP.f nP.vs nP.o nP.pc nP.outs = some
  [] := by kernel_rfl
theorem nP_ok : nP.ok Φ Try.prog := by
  refine call_rule (fun ρ => noTbl_ok) nP_obs ?_
  simp only [and_imp, List.forall_mem_cons, List.not_mem_nil, false_implies, implies_true, and_true, Ob.ok, holds, Eqn.ok, evB_eq, evB_lt, evB_le, evB_not, evB_and, evB_or, evB_eqL, evB_app, evB_v, evB_c, ev_sel, ev_len, ev_v, ev_c, ev_add, ev_sub, ev_mul, ev_quo, ev_rem, ev_bits, ev_wrap, evL_v, evL_lit, evL_app, ev_app, evA_l, evA_i, evA_nil, std_min, std_max, std_cat, std_take, std_drop, std_row, std_set, std_rep, ints_cons, ints_nil, ofNat_lit, negSucc_lit, decide_eq_true_eq, Bool.and_eq_true, Bool.or_eq_true, Bool.not_eq_true', Bool.and_eq_false_iff, Bool.or_eq_false_iff, decide_eq_false_iff_not, aB199]
  repeat' apply And.intro
  all_goals intro ρ hR
  all_goals intros
  all_goals first
    | (omega)
    | (simp_all; done)
    | (simp_all; omega)
    | (refine ⟨?_, ?_⟩ <;> simp_all; done)
    | (exfalso
       simp_all; done)
    | (exfalso
       simp_all; omega)
theorem t0_ok (ρ : Env) : TblOK Φ ρ Try.prog t0 := addFn_ok (addFn_ok (addFn_ok noTbl_ok kKnown_ok) nK_ok) nR_ok
set_option maxRecDepth 100000 in
theorem kp1_obs : loopObs Φ Try.prog t0 1000 kp1.f (loopAt Try.prog kp1.f kp1.id) kp1.n kp1.T (.sub (.c 201) (.v 0)) kp1.outs = some
  [{
      pc :=
        [SB.eq (SI.v 1) (SI.c (Int.ofNat 5)), SB.le (SI.c (Int.ofNat 0)) (SI.sel (SL.v 9) (SI.v 0) 0),
          SB.le (SI.sel (SL.v 9) (SI.v 0) 0) (SI.c (Int.ofNat 255)), SB.lt (SI.v 0) (SI.c (Int.ofNat 200)),
          SB.lt (SI.v 0) (SI.len (SL.v 9)), SB.le (SI.c (Int.ofNat 0)) (SI.v 0), SB.le (SI.v 0) (SI.c (Int.ofNat 200)),
          SB.c true,
          SB.or
            (SB.and (SB.eq (SI.v 1) (SI.c (Int.ofNat 0)))
              (SB.and (SB.eq (SI.v 2) (SI.c (Int.negSucc 0))) (SB.and (SB.not (SB.v 0)) (SB.not (SB.v 1)))))
            (SB.or
              (SB.and (SB.eq (SI.v 1) (SI.c (Int.ofNat 1)))
                (SB.and (SB.eq (SI.v 2) (SI.c (Int.negSucc 0))) (SB.and (SB.not (SB.v 0)) (SB.not (SB.v 1)))))
              (SB.or
                (SB.and (SB.eq (SI.v 1) (SI.c (Int.ofNat 2)))
                  (SB.and (SB.le (SI.c (Int.ofNat 0)) (SI.v 2)) (SB.le (SI.v 2) (SI.c (Int.ofNat 7)))))
                (SB.or
                  (SB.and (SB.eq (SI.v 1) (SI.c (Int.ofNat 3)))
                    (SB.and (SB.eq (SI.v 2) (SI.c (Int.negSucc 0))) (SB.not (SB.v 0))))
                  (SB.or
                    (SB.and (SB.eq (SI.v 1) (SI.c (Int.ofNat 4)))
                      (SB.and (SB.eq (SI.v 2) (SI.c (Int.negSucc 0))) (SB.and (SB.not (SB.v 0)) (SB.not (SB.v 1)))))
                    (SB.and (SB.eq (SI.v 1) (SI.c (Int.ofNat 5)))
                      (SB.and (SB.eq (SI.v 2) (SI.c (Int.negSucc 0)))
                        (SB.and (SB.not (SB.v 0)) (SB.not (SB.v 1)))))))))],
      eqs :=
        [Eqn.T
            (SB.lt (SI.sub (SI.c (Int.ofNat 201)) (SI.add (SI.v 0) (SI.c (Int.ofNat 1))))
              (SI.sub (SI.c (Int.ofNat 201)) (SI.v 0)))] },
    {
      pc :=
        [SB.not (SB.eq (SI.v 1) (SI.c (Int.ofNat 5))), SB.le (SI.c (Int.ofNat 0)) (SI.sel (SL.v 9) (SI.v 0) 0),
          SB.le (SI.sel (SL.v 9) (SI.v 0) 0) (SI.c (Int.ofNat 255)), SB.lt (SI.v 0) (SI.c (Int.ofNat 200)),
          SB.lt (SI.v 0) (SI.len (SL.v 9)), SB.le (SI.c (Int.ofNat 0)) (SI.v 0), SB.le (SI.v 0) (SI.c (Int.ofNat 200)),
          SB.c true,
          SB.or
            (SB.and (SB.eq (SI.v 1) (SI.c (Int.ofNat 0)))
              (SB.and (SB.eq (SI.v 2) (SI.c (Int.negSucc 0))) (SB.and (SB.not (SB.v 0)) (SB.not (SB.v 1)))))
            (SB.or
              (SB.and (SB.eq (SI.v 1) (SI.c (Int.ofNat 1)))
                (SB.and (SB.eq (SI.v 2) (SI.c (Int.negSucc 0))) (SB.and (SB.not (SB.v 0)) (SB.not (SB.v 1)))))
              (SB.or
                (SB.and (SB.eq (SI.v 1) (SI.c (Int.ofNat 2)))
                  (SB.and (SB.le (SI.c (Int.ofNat 0)) (SI.v 2)) (SB.le (SI.v 2) (SI.c (Int.ofNat 7)))))
                (SB.or
                  (SB.and (SB.eq (SI.v 1) (SI.c (Int.ofNat 3)))
                    (SB.and (SB.eq (SI.v 2) (SI.c (Int.negSucc 0))) (SB.not (SB.v 0))))
                  (SB.or
                    (SB.and (SB.eq (SI.v 1) (SI.c (Int.ofNat 4)))
                      (SB.and (SB.eq (SI.v 2) (SI.c (Int.negSucc 0))) (SB.and (SB.not (SB.v 0)) (SB.not (SB.v 1)))))
                    (SB.and (SB.eq (SI.v 1) (SI.c (Int.ofNat 5)))
                      (SB.and (SB.eq (SI.v 2) (SI.c (Int.negSucc 0)))
                        (SB.and (SB.not (SB.v 0)) (SB.not (SB.v 1)))))))))],
      eqs :=
        [Eqn.T
            (SB.lt (SI.sub (SI.c (Int.ofNat 201)) (SI.add (SI.v 0) (SI.c (Int.ofNat 1))))
              (SI.sub (SI.c (Int.ofNat 201)) (SI.v 0)))] }] := by kernel_rfl
theorem kp1_ok : kp1.ok Φ Try.prog := by
  refine ⟨by kernel_rfl, loop_rule (fun ρ => t0_ok ρ) (loopAt_sub (by kernel_rfl)) kp1_obs ?_⟩
  simp only [and_imp, List.forall_mem_cons, List.not_mem_nil, false_implies, implies_true, and_true, Ob.ok, holds, Eqn.ok, evB_eq, evB_lt, evB_le, evB_not, evB_and, evB_or, evB_eqL, evB_app, evB_v, evB_c, ev_sel, ev_len, ev_v, ev_c, ev_add, ev_sub, ev_mul, ev_quo, ev_rem, ev_bits, ev_wrap, evL_v, evL_lit, evL_app, ev_app, evA_l, evA_i, evA_nil, std_min, std_max, std_cat, std_take, std_drop, std_row, std_set, std_rep, ints_cons, ints_nil, ofNat_lit, negSucc_lit, decide_eq_true_eq, Bool.and_eq_true, Bool.or_eq_true, Bool.not_eq_true', Bool.and_eq_false_iff, Bool.or_eq_false_iff, decide_eq_false_iff_not, aB199]
  repeat' apply And.intro
  all_goals intro ρ hR
  all_goals intros
  all_goals first
    | (omega)
    | (simp_all; done)
    | (simp_all; omega)
    | (refine ⟨?_, ?_⟩ <;> simp_all; done)
    | (exfalso
       simp_all; done)
    | (exfalso
       simp_all; omega)
theorem t1_ok (ρ : Env) : TblOK Φ ρ Try.prog t1 := addLp_ok (t0_ok ρ) kp1_ok
set_option maxRecDepth 100000 in
theorem lKeeps_obs : callObs Φ Try.prog t1 1000 lKeeps.f lKeeps.vs lKeeps.o lKeeps.pc lKeeps.outs = some
  [] := by kernel_rfl
theorem lKeeps_ok : lKeeps.ok Φ Try.prog := by
  refine call_rule (fun ρ => t1_ok ρ) lKeeps_obs ?_
  intro ob h; cases h
theorem t2_ok (ρ : Env) : TblOK Φ ρ Try.prog t2 := addFn_ok (addFn_ok (addFn_ok (addFn_ok noTbl_ok kKnown_ok) nK_ok) nW_ok) nB_ok
set_option maxRecDepth 100000 in
theorem wk1_obs : loopObs Φ Try.prog t2 1000 wk1.f (loopAt Try.prog wk1.f wk1.id) wk1.n wk1.T (.sub (.c 201) (.v 0)) wk1.outs = some
  [{
      pc :=
        [SB.eq (SI.v 3000) (SI.c (Int.ofNat 3)),
          SB.or (SB.not (SB.v 2000)) (SB.not (SB.eq (SI.v 3000) (SI.c (Int.ofNat 3)))),
          SB.eq (SI.v 2000) (SI.c (Int.ofNat 2)),
          SB.or
            (SB.and (SB.eq (SI.v 3000) (SI.c (Int.ofNat 0)))
              (SB.and (SB.eq (SI.v 3001) (SI.c (Int.negSucc 0))) (SB.and (SB.not (SB.v 3000)) (SB.not (SB.v 3001)))))
            (SB.or
              (SB.and (SB.eq (SI.v 3000) (SI.c (Int.ofNat 1)))
                (SB.and (SB.eq (SI.v 3001) (SI.c (Int.negSucc 0))) (SB.and (SB.not (SB.v 3000)) (SB.not (SB.v 3001)))))
              (SB.or
                (SB.and (SB.eq (SI.v 3000) (SI.c (Int.ofNat 2)))
                  (SB.and (SB.le (SI.c (Int.ofNat 0)) (SI.v 3001)) (SB.le (SI.v 3001) (SI.c (Int.ofNat 7)))))
                (SB.or
                  (SB.and (SB.eq (SI.v 3000) (SI.c (Int.ofNat 3)))
                    (SB.and (SB.eq (SI.v 3001) (SI.c (Int.negSucc 0))) (SB.not (SB.v 3000))))
                  (SB.or
                    (SB.and (SB.eq (SI.v 3000) (SI.c (Int.ofNat 4)))
                      (SB.and (SB.eq (SI.v 3001) (SI.c (Int.negSucc 0)))
                        (SB.and (SB.not (SB.v 3000)) (SB.not (SB.v 3001)))))
                    (SB.and (SB.eq (SI.v 3000) (SI.c (Int.ofNat 5)))
                      (SB.and (SB.eq (SI.v 3001) (SI.c (Int.negSucc 0)))
                        (SB.and (SB.not (SB.v 3000)) (SB.not (SB.v 3001))))))))),
          SB.or (SB.not (SB.eq (SI.v 2000) (SI.c (Int.ofNat 2)))) (SB.v 2000),
          SB.not (SB.eq (SI.v 2000) (SI.c (Int.ofNat 0))), SB.not (SB.eq (SI.v 2000) (SI.c (Int.ofNat 3))),
          SB.or
            (SB.and (SB.eq (SI.v 2000) (SI.c (Int.ofNat 0)))
              (SB.and (SB.eq (SI.v 2001) (SI.c (Int.negSucc 0))) (SB.and (SB.not (SB.v 2000)) (SB.not (SB.v 2001)))))
            (SB.or
              (SB.and (SB.eq (SI.v 2000) (SI.c (Int.ofNat 1)))
                (SB.and (SB.eq (SI.v 2001) (SI.c (Int.negSucc 0))) (SB.and (SB.not (SB.v 2000)) (SB.not (SB.v 2001)))))
              (SB.or
                (SB.and (SB.eq (SI.v 2000) (SI.c (Int.ofNat 2)))
                  (SB.and (SB.le (SI.c (Int.ofNat 0)) (SI.v 2001)) (SB.le (SI.v 2001) (SI.c (Int.ofNat 7)))))
                (SB.or
                  (SB.and (SB.eq (SI.v 2000) (SI.c (Int.ofNat 3)))
                    (SB.and (SB.eq (SI.v 2001) (SI.c (Int.negSucc 0))) (SB.not (SB.v 2000))))
                  (SB.or
                    (SB.and (SB.eq (SI.v 2000) (SI.c (Int.ofNat 4)))
                      (SB.and (SB.eq (SI.v 2001) (SI.c (Int.negSucc 0)))
                        (SB.and (SB.not (SB.v 2000)) (SB.not (SB.v 2001)))))
                    (SB.and (SB.eq (SI.v 2000) (SI.c (Int.ofNat 5)))
                      (SB.and (SB.eq (SI.v 2001) (SI.c (Int.negSucc 0)))
                        (SB.and (SB.not (SB.v 2000)) (SB.not (SB.v 2001))))))))),
          SB.or
            (SB.and (SB.eq (SI.v 1000) (SI.c (Int.ofNat 0)))
              (SB.and (SB.eq (SI.v 1001) (SI.c (Int.negSucc 0))) (SB.and (SB.not (SB.v 1000)) (SB.not (SB.v 1001)))))
            (SB.or
              (SB.and (SB.eq (SI.v 1000) (SI.c (Int.ofNat 1)))
                (SB.and (SB.eq (SI.v 1001) (SI.c (Int.negSucc 0))) (SB.and (SB.not (SB.v 1000)) (SB.not (SB.v 1001)))))
              (SB.or
                (SB.and (SB.eq (SI.v 1000) (SI.c (Int.ofNat 2)))
                  (SB.and (SB.le (SI.c (Int.ofNat 0)) (SI.v 1001)) (SB.le (SI.v 1001) (SI.c (Int.ofNat 7)))))
                (SB.or
                  (SB.and (SB.eq (SI.v 1000) (SI.c (Int.ofNat 3)))
                    (SB.and (SB.eq (SI.v 1001) (SI.c (Int.negSucc 0))) (SB.not (SB.v 1000))))
                  (SB.or
                    (SB.and (SB.eq (SI.v 1000) (SI.c (Int.ofNat 4)))
                      (SB.and (SB.eq (SI.v 1001) (SI.c (Int.negSucc 0)))
                        (SB.and (SB.not (SB.v 1000)) (SB.not (SB.v 1001)))))
                    (SB.and (SB.eq (SI.v 1000) (SI.c (Int.ofNat 5)))
                      (SB.and (SB.eq (SI.v 1001) (SI.c (Int.negSucc 0)))
                        (SB.and (SB.not (SB.v 1000)) (SB.not (SB.v 1001))))))))),
          SB.not (SB.eq (SI.v 1) (SI.c (Int.ofNat 5))), SB.le (SI.c (Int.ofNat 0)) (SI.sel (SL.v 9) (SI.v 0) 0),
          SB.le (SI.sel (SL.v 9) (SI.v 0) 0) (SI.c (Int.ofNat 255)), SB.lt (SI.v 0) (SI.c (Int.ofNat 200)),
          SB.lt (SI.v 0) (SI.len (SL.v 9)), SB.le (SI.c (Int.ofNat 0)) (SI.v 0), SB.le (SI.v 0) (SI.c (Int.ofNat 200)),
          SB.le (SI.c (Int.negSucc 1073741823)) (SI.v 3), SB.le (SI.v 3) (SI.c (Int.ofNat 1073741824)), SB.c true,
          SB.or
            (SB.and (SB.eq (SI.v 1) (SI.c (Int.ofNat 0)))
              (SB.and (SB.eq (SI.v 2) (SI.c (Int.negSucc 0))) (SB.and (SB.not (SB.v 0)) (SB.not (SB.v 1)))))
            (SB.or
              (SB.and (SB.eq (SI.v 1) (SI.c (Int.ofNat 1)))
                (SB.and (SB.eq (SI.v 2) (SI.c (Int.negSucc 0))) (SB.and (SB.not (SB.v 0)) (SB.not (SB.v 1)))))
              (SB.or
                (SB.and (SB.eq (SI.v 1) (SI.c (Int.ofNat 2)))
                  (SB.and (SB.le (SI.c (Int.ofNat 0)) (SI.v 2)) (SB.le (SI.v 2) (SI.c (Int.ofNat 7)))))
                (SB.or
                  (SB.and (SB.eq (SI.v 1) (SI.c (Int.ofNat 3)))
                    (SB.and (SB.eq (SI.v 2) (SI.c (Int.negSucc 0))) (SB.not (SB.v 0))))
                  (SB.or
                    (SB.and (SB.eq (SI.v 1) (SI.c (Int.ofNat 4)))
                      (SB.and (SB.eq (SI.v 2) (SI.c (Int.negSucc 0))) (SB.and (SB.not (SB.v 0)) (SB.not (SB.v 1)))))
                    (SB.and (SB.eq (SI.v 1) (SI.c (Int.ofNat 5)))
                      (SB.and (SB.eq (SI.v 2) (SI.c (Int.negSucc 0)))
                        (SB.and (SB.not (SB.v 0)) (SB.not (SB.v 1)))))))))],
      eqs := [Eqn.T (SB.app 199 SA.nil)] },
    {
      pc :=
        [SB.or (SB.not (SB.eq (SI.v 2000) (SI.c (Int.ofNat 2)))) (SB.v 2000),
          SB.not (SB.eq (SI.v 2000) (SI.c (Int.ofNat 0))), SB.not (SB.eq (SI.v 2000) (SI.c (Int.ofNat 3))),
          SB.or
            (SB.and (SB.eq (SI.v 2000) (SI.c (Int.ofNat 0)))
              (SB.and (SB.eq (SI.v 2001) (SI.c (Int.negSucc 0))) (SB.and (SB.not (SB.v 2000)) (SB.not (SB.v 2001)))))
            (SB.or
              (SB.and (SB.eq (SI.v 2000) (SI.c (Int.ofNat 1)))
                (SB.and (SB.eq (SI.v 2001) (SI.c (Int.negSucc 0))) (SB.and (SB.not (SB.v 2000)) (SB.not (SB.v 2001)))))
              (SB.or
                (SB.and (SB.eq (SI.v 2000) (SI.c (Int.ofNat 2)))
                  (SB.and (SB.le (SI.c (Int.ofNat 0)) (SI.v 2001)) (SB.le (SI.v 2001) (SI.c (Int.ofNat 7)))))
                (SB.or
                  (SB.and (SB.eq (SI.v 2000) (SI.c (Int.ofNat 3)))
                    (SB.and (SB.eq (SI.v 2001) (SI.c (Int.negSucc 0))) (SB.not (SB.v 2000))))
                  (SB.or
                    (SB.and (SB.eq (SI.v 2000) (SI.c (Int.ofNat 4)))
                      (SB.and (SB.eq (SI.v 2001) (SI.c (Int.negSucc 0)))
                        (SB.and (SB.not (SB.v 2000)) (SB.not (SB.v 2001)))))
                    (SB.and (SB.eq (SI.v 2000) (SI.c (Int.ofNat 5)))
                      (SB.and (SB.eq (SI.v 2001) (SI.c (Int.negSucc 0)))
                        (SB.and (SB.not (SB.v 2000)) (SB.not (SB.v 2001))))))))),
          SB.or
            (SB.and (SB.eq (SI.v 1000) (SI.c (Int.ofNat 0)))
              (SB.and (SB.eq (SI.v 1001) (SI.c (Int.negSucc 0))) (SB.and (SB.not (SB.v 1000)) (SB.not (SB.v 1001)))))
            (SB.or
              (SB.and (SB.eq (SI.v 1000) (SI.c (Int.ofNat 1)))
                (SB.and (SB.eq (SI.v 1001) (SI.c (Int.negSucc 0))) (SB.and (SB.not (SB.v 1000)) (SB.not (SB.v 1001)))))
              (SB.or
                (SB.and (SB.eq (SI.v 1000) (SI.c (Int.ofNat 2)))
                  (SB.and (SB.le (SI.c (Int.ofNat 0)) (SI.v 1001)) (SB.le (SI.v 1001) (SI.c (Int.ofNat 7)))))
                (SB.or
                  (SB.and (SB.eq (SI.v 1000) (SI.c (Int.ofNat 3)))
                    (SB.and (SB.eq (SI.v 1001) (SI.c (Int.negSucc 0))) (SB.not (SB.v 1000))))
                  (SB.or
                    (SB.and (SB.eq (SI.v 1000) (SI.c (Int.ofNat 4)))
                      (SB.and (SB.eq (SI.v 1001) (SI.c (Int.negSucc 0)))
                        (SB.and (SB.not (SB.v 1000)) (SB.not (SB.v 1001)))))
                    (SB.and (SB.eq (SI.v 1000) (SI.c (Int.ofNat 5)))
                      (SB.and (SB.eq (SI.v 1001) (SI.c (Int.negSucc 0)))
                        (SB.and (SB.not (SB.v 1000)) (SB.not (SB.v 1001))))))))),
          SB.not (SB.eq (SI.v 1) (SI.c (Int.ofNat 5))), SB.le (SI.c (Int.ofNat 0)) (SI.sel (SL.v 9) (SI.v 0) 0),
          SB.le (SI.sel (SL.v 9) (SI.v 0) 0) (SI.c (Int.ofNat 255)), SB.lt (SI.v 0) (SI.c (Int.ofNat 200)),
          SB.lt (SI.v 0) (SI.len (SL.v 9)), SB.le (SI.c (Int.ofNat 0)) (SI.v 0), SB.le (SI.v 0) (SI.c (Int.ofNat 200)),
          SB.le (SI.c (Int.negSucc 1073741823)) (SI.v 3), SB.le (SI.v 3) (SI.c (Int.ofNat 1073741824)), SB.c true,
          SB.or
            (SB.and (SB.eq (SI.v 1) (SI.c (Int.ofNat 0)))
              (SB.and (SB.eq (SI.v 2) (SI.c (Int.negSucc 0))) (SB.and (SB.not (SB.v 0)) (SB.not (SB.v 1)))))
            (SB.or
              (SB.and (SB.eq (SI.v 1) (SI.c (Int.ofNat 1)))
                (SB.and (SB.eq (SI.v 2) (SI.c (Int.negSucc 0))) (SB.and (SB.not (SB.v 0)) (SB.not (SB.v 1)))))
              (SB.or
                (SB.and (SB.eq (SI.v 1) (SI.c (Int.ofNat 2)))
                  (SB.and (SB.le (SI.c (Int.ofNat 0)) (SI.v 2)) (SB.le (SI.v 2) (SI.c (Int.ofNat 7)))))
                (SB.or
                  (SB.and (SB.eq (SI.v 1) (SI.c (Int.ofNat 3)))
                    (SB.and (SB.eq (SI.v 2) (SI.c (Int.negSucc 0))) (SB.not (SB.v 0))))
                  (SB.or
                    (SB.and (SB.eq (SI.v 1) (SI.c (Int.ofNat 4)))
                      (SB.and (SB.eq (SI.v 2) (SI.c (Int.negSucc 0))) (SB.and (SB.not (SB.v 0)) (SB.not (SB.v 1)))))
                    (SB.and (SB.eq (SI.v 1) (SI.c (Int.ofNat 5)))
                      (SB.and (SB.eq (SI.v 2) (SI.c (Int.negSucc 0)))
                        (SB.and (SB.not (SB.v 0)) (SB.not (SB.v 1)))))))))],
      eqs :=
        [Eqn.T
            (SB.lt (SI.sub (SI.c (Int.ofNat 201)) (SI.add (SI.v 0) (SI.c (Int.ofNat 1))))
              (SI.sub (SI.c (Int.ofNat 201)) (SI.v 0)))] },
    {
      pc :=
        [SB.eq (SI.v 1000) (SI.c (Int.ofNat 5)),
          SB.or (SB.eq (SI.v 1000) (SI.c (Int.ofNat 0))) (SB.eq (SI.v 1000) (SI.c (Int.ofNat 5))),
          SB.or
            (SB.and (SB.eq (SI.v 1000) (SI.c (Int.ofNat 0)))
              (SB.and (SB.eq (SI.v 1001) (SI.c (Int.negSucc 0))) (SB.and (SB.not (SB.v 1000)) (SB.not (SB.v 1001)))))
            (SB.or
              (SB.and (SB.eq (SI.v 1000) (SI.c (Int.ofNat 1)))
                (SB.and (SB.eq (SI.v 1001) (SI.c (Int.negSucc 0))) (SB.and (SB.not (SB.v 1000)) (SB.not (SB.v 1001)))))
              (SB.or
                (SB.and (SB.eq (SI.v 1000) (SI.c (Int.ofNat 2)))
                  (SB.and (SB.le (SI.c (Int.ofNat 0)) (SI.v 1001)) (SB.le (SI.v 1001) (SI.c (Int.ofNat 7)))))
                (SB.or
                  (SB.and (SB.eq (SI.v 1000) (SI.c (Int.ofNat 3)))
                    (SB.and (SB.eq (SI.v 1001) (SI.c (Int.negSucc 0))) (SB.not (SB.v 1000))))
                  (SB.or
                    (SB.and (SB.eq (SI.v 1000) (SI.c (Int.ofNat 4)))
                      (SB.and (SB.eq (SI.v 1001) (SI.c (Int.negSucc 0)))
                        (SB.and (SB.not (SB.v 1000)) (SB.not (SB.v 1001)))))
                    (SB.and (SB.eq (SI.v 1000) (SI.c (Int.ofNat 5)))
                      (SB.and (SB.eq (SI.v 1001) (SI.c (Int.negSucc 0)))
                        (SB.and (SB.not (SB.v 1000)) (SB.not (SB.v 1001))))))))),
          SB.not (SB.eq (SI.v 1) (SI.c (Int.ofNat 5))), SB.le (SI.c (Int.ofNat 0)) (SI.sel (SL.v 9) (SI.v 0) 0),
          SB.le (SI.sel (SL.v 9) (SI.v 0) 0) (SI.c (Int.ofNat 255)), SB.lt (SI.v 0) (SI.c (Int.ofNat 200)),
          SB.lt (SI.v 0) (SI.len (SL.v 9)), SB.le (SI.c (Int.ofNat 0)) (SI.v 0), SB.le (SI.v 0) (SI.c (Int.ofNat 200)),
          SB.le (SI.c (Int.negSucc 1073741823)) (SI.v 3), SB.le (SI.v 3) (SI.c (Int.ofNat 1073741824)), SB.c true,
          SB.or
            (SB.and (SB.eq (SI.v 1) (SI.c (Int.ofNat 0)))
              (SB.and (SB.eq (SI.v 2) (SI.c (Int.negSucc 0))) (SB.and (SB.not (SB.v 0)) (SB.not (SB.v 1)))))
            (SB.or
              (SB.and (SB.eq (SI.v 1) (SI.c (Int.ofNat 1)))
                (SB.and (SB.eq (SI.v 2) (SI.c (Int.negSucc 0))) (SB.and (SB.not (SB.v 0)) (SB.not (SB.v 1)))))
              (SB.or
                (SB.and (SB.eq (SI.v 1) (SI.c (Int.ofNat 2)))
                  (SB.and (SB.le (SI.c (Int.ofNat 0)) (SI.v 2)) (SB.le (SI.v 2) (SI.c (Int.ofNat 7)))))
                (SB.or
                  (SB.and (SB.eq (SI.v 1) (SI.c (Int.ofNat 3)))
                    (SB.and (SB.eq (SI.v 2) (SI.c (Int.negSucc 0))) (SB.not (SB.v 0))))
                  (SB.or
                    (SB.and (SB.eq (SI.v 1) (SI.c (Int.ofNat 4)))
                      (SB.and (SB.eq (SI.v 2) (SI.c (Int.negSucc 0))) (SB.and (SB.not (SB.v 0)) (SB.not (SB.v 1)))))
                    (SB.and (SB.eq (SI.v 1) (SI.c (Int.ofNat 5)))
                      (SB.and (SB.eq (SI.v 2) (SI.c (Int.negSucc 0)))
                        (SB.and (SB.not (SB.v 0)) (SB.not (SB.v 1)))))))))],
      eqs :=
        [Eqn.T
            (SB.lt (SI.sub (SI.c (Int.ofNat 201)) (SI.add (SI.v 0) (SI.c (Int.ofNat 1))))
              (SI.sub (SI.c (Int.ofNat 201)) (SI.v 0)))] },
    {
      pc :=
        [SB.eq (SI.v 1000) (SI.c (Int.ofNat 0)), SB.not (SB.eq (SI.v 1000) (SI.c (Int.ofNat 5))),
          SB.or (SB.eq (SI.v 1000) (SI.c (Int.ofNat 0))) (SB.eq (SI.v 1000) (SI.c (Int.ofNat 5))),
          SB.or
            (SB.and (SB.eq (SI.v 1000) (SI.c (Int.ofNat 0)))
              (SB.and (SB.eq (SI.v 1001) (SI.c (Int.negSucc 0))) (SB.and (SB.not (SB.v 1000)) (SB.not (SB.v 1001)))))
            (SB.or
              (SB.and (SB.eq (SI.v 1000) (SI.c (Int.ofNat 1)))
                (SB.and (SB.eq (SI.v 1001) (SI.c (Int.negSucc 0))) (SB.and (SB.not (SB.v 1000)) (SB.not (SB.v 1001)))))
              (SB.or
                (SB.and (SB.eq (SI.v 1000) (SI.c (Int.ofNat 2)))
                  (SB.and (SB.le (SI.c (Int.ofNat 0)) (SI.v 1001)) (SB.le (SI.v 1001) (SI.c (Int.ofNat 7)))))
                (SB.or
                  (SB.and (SB.eq (SI.v 1000) (SI.c (Int.ofNat 3)))
                    (SB.and (SB.eq (SI.v 1001) (SI.c (Int.negSucc 0))) (SB.not (SB.v 1000))))
                  (SB.or
                    (SB.and (SB.eq (SI.v 1000) (SI.c (Int.ofNat 4)))
                      (SB.and (SB.eq (SI.v 1001) (SI.c (Int.negSucc 0)))
                        (SB.and (SB.not (SB.v 1000)) (SB.not (SB.v 1001)))))
                    (SB.and (SB.eq (SI.v 1000) (SI.c (Int.ofNat 5)))
                      (SB.and (SB.eq (SI.v 1001) (SI.c (Int.negSucc 0)))
                        (SB.and (SB.not (SB.v 1000)) (SB.not (SB.v 1001))))))))),
          SB.not (SB.eq (SI.v 1) (SI.c (Int.ofNat 5))), SB.le (SI.c (Int.ofNat 0)) (SI.sel (SL.v 9) (SI.v 0) 0),
          SB.le (SI.sel (SL.v 9) (SI.v 0) 0) (SI.c (Int.ofNat 255)), SB.lt (SI.v 0) (SI.c (Int.ofNat 200)),
          SB.lt (SI.v 0) (SI.len (SL.v 9)), SB.le (SI.c (Int.ofNat 0)) (SI.v 0), SB.le (SI.v 0) (SI.c (Int.ofNat 200)),
          SB.le (SI.c (Int.negSucc 1073741823)) (SI.v 3), SB.le (SI.v 3) (SI.c (Int.ofNat 1073741824)), SB.c true,
          SB.or
            (SB.and (SB.eq (SI.v 1) (SI.c (Int.ofNat 0)))
              (SB.and (SB.eq (SI.v 2) (SI.c (Int.negSucc 0))) (SB.and (SB.not (SB.v 0)) (SB.not (SB.v 1)))))
            (SB.or
              (SB.and (SB.eq (SI.v 1) (SI.c (Int.ofNat 1)))
                (SB.and (SB.eq (SI.v 2) (SI.c (Int.negSucc 0))) (SB.and (SB.not (SB.v 0)) (SB.not (SB.v 1)))))
              (SB.or
                (SB.and (SB.eq (SI.v 1) (SI.c (Int.ofNat 2)))
                  (SB.and (SB.le (SI.c (Int.ofNat 0)) (SI.v 2)) (SB.le (SI.v 2) (SI.c (Int.ofNat 7)))))
                (SB.or
                  (SB.and (SB.eq (SI.v 1) (SI.c (Int.ofNat 3)))
                    (SB.and (SB.eq (SI.v 2) (SI.c (Int.negSucc 0))) (SB.not (SB.v 0))))
                  (SB.or
                    (SB.and (SB.eq (SI.v 1) (SI.c (Int.ofNat 4)))
                      (SB.and (SB.eq (SI.v 2) (SI.c (Int.negSucc 0))) (SB.and (SB.not (SB.v 0)) (SB.not (SB.v 1)))))
                    (SB.and (SB.eq (SI.v 1) (SI.c (Int.ofNat 5)))
                      (SB.and (SB.eq (SI.v 2) (SI.c (Int.negSucc 0)))
                        (SB.and (SB.not (SB.v 0)) (SB.not (SB.v 1)))))))))],
      eqs :=
        [Eqn.T
            (SB.lt (SI.sub (SI.c (Int.ofNat 201)) (SI.add (SI.v 0) (SI.c (Int.ofNat 1))))
              (SI.sub (SI.c (Int.ofNat 201)) (SI.v 0)))] },
    {
      pc :=
        [SB.not (SB.eq (SI.v 1000) (SI.c (Int.ofNat 0))), SB.not (SB.eq (SI.v 1000) (SI.c (Int.ofNat 5))),
          SB.or (SB.eq (SI.v 1000) (SI.c (Int.ofNat 0))) (SB.eq (SI.v 1000) (SI.c (Int.ofNat 5))),
          SB.or
            (SB.and (SB.eq (SI.v 1000) (SI.c (Int.ofNat 0)))
              (SB.and (SB.eq (SI.v 1001) (SI.c (Int.negSucc 0))) (SB.and (SB.not (SB.v 1000)) (SB.not (SB.v 1001)))))
            (SB.or
              (SB.and (SB.eq (SI.v 1000) (SI.c (Int.ofNat 1)))
                (SB.and (SB.eq (SI.v 1001) (SI.c (Int.negSucc 0))) (SB.and (SB.not (SB.v 1000)) (SB.not (SB.v 1001)))))
              (SB.or
                (SB.and (SB.eq (SI.v 1000) (SI.c (Int.ofNat 2)))
                  (SB.and (SB.le (SI.c (Int.ofNat 0)) (SI.v 1001)) (SB.le (SI.v 1001) (SI.c (Int.ofNat 7)))))
                (SB.or
                  (SB.and (SB.eq (SI.v 1000) (SI.c (Int.ofNat 3)))
                    (SB.and (SB.eq (SI.v 1001) (SI.c (Int.negSucc 0))) (SB.not (SB.v 1000))))
                  (SB.or
                    (SB.and (SB.eq (SI.v 1000) (SI.c (Int.ofNat 4)))
                      (SB.and (SB.eq (SI.v 1001) (SI.c (Int.negSucc 0)))
                        (SB.and (SB.not (SB.v 1000)) (SB.not (SB.v 1001)))))
                    (SB.and (SB.eq (SI.v 1000) (SI.c (Int.ofNat 5)))
                      (SB.and (SB.eq (SI.v 1001) (SI.c (Int.negSucc 0)))
                        (SB.and (SB.not (SB.v 1000)) (SB.not (SB.v 1001))))))))),
          SB.not (SB.eq (SI.v 1) (SI.c (Int.ofNat 5))), SB.le (SI.c (Int.ofNat 0)) (SI.sel (SL.v 9) (SI.v 0) 0),
          SB.le (SI.sel (SL.v 9) (SI.v 0) 0) (SI.c (Int.ofNat 255)), SB.lt (SI.v 0) (SI.c (Int.ofNat 200)),
          SB.lt (SI.v 0) (SI.len (SL.v 9)), SB.le (SI.c (Int.ofNat 0)) (SI.v 0), SB.le (SI.v 0) (SI.c (Int.ofNat 200)),
          SB.le (SI.c (Int.negSucc 1073741823)) (SI.v 3), SB.le (SI.v 3) (SI.c (Int.ofNat 1073741824)), SB.c true,
          SB.or
            (SB.and (SB.eq (SI.v 1) (SI.c (Int.ofNat 0)))
              (SB.and (SB.eq (SI.v 2) (SI.c (Int.negSucc 0))) (SB.and (SB.not (SB.v 0)) (SB.not (SB.v 1)))))
            (SB.or
              (SB.and (SB.eq (SI.v 1) (SI.c (Int.ofNat 1)))
                (SB.and (SB.eq (SI.v 2) (SI.c (Int.negSucc 0))) (SB.and (SB.not (SB.v 0)) (SB.not (SB.v 1)))))
              (SB.or
                (SB.and (SB.eq (SI.v 1) (SI.c (Int.ofNat 2)))
                  (SB.and (SB.le (SI.c (Int.ofNat 0)) (SI.v 2)) (SB.le (SI.v 2) (SI.c (Int.ofNat 7)))))
                (SB.or
                  (SB.and (SB.eq (SI.v 1) (SI.c (Int.ofNat 3)))
                    (SB.and (SB.eq (SI.v 2) (SI.c (Int.negSucc 0))) (SB.not (SB.v 0))))
                  (SB.or
                    (SB.and (SB.eq (SI.v 1) (SI.c (Int.ofNat 4)))
                      (SB.and (SB.eq (SI.v 2) (SI.c (Int.negSucc 0))) (SB.and (SB.not (SB.v 0)) (SB.not (SB.v 1)))))
                    (SB.and (SB.eq (SI.v 1) (SI.c (Int.ofNat 5)))
                      (SB.and (SB.eq (SI.v 2) (SI.c (Int.negSucc 0)))
                        (SB.and (SB.not (SB.v 0)) (SB.not (SB.v 1)))))))))],
      eqs := [Eqn.T (SB.app 199 SA.nil)] },
    {
      pc :=
        [SB.eq (SI.v 2000) (SI.c (Int.ofNat 3)),
          SB.or (SB.not (SB.v 1000)) (SB.not (SB.eq (SI.v 2000) (SI.c (Int.ofNat 3)))),
          SB.eq (SI.v 1000) (SI.c (Int.ofNat 2)),
          SB.or
            (SB.and (SB.eq (SI.v 2000) (SI.c (Int.ofNat 0)))
              (SB.and (SB.eq (SI.v 2001) (SI.c (Int.negSucc 0))) (SB.and (SB.not (SB.v 2000)) (SB.not (SB.v 2001)))))
            (SB.or
              (SB.and (SB.eq (SI.v 2000) (SI.c (Int.ofNat 1)))
                (SB.and (SB.eq (SI.v 2001) (SI.c (Int.negSucc 0))) (SB.and (SB.not (SB.v 2000)) (SB.not (SB.v 2001)))))
              (SB.or
                (SB.and (SB.eq (SI.v 2000) (SI.c (Int.ofNat 2)))
                  (SB.and (SB.le (SI.c (Int.ofNat 0)) (SI.v 2001)) (SB.le (SI.v 2001) (SI.c (Int.ofNat 7)))))
                (SB.or
                  (SB.and (SB.eq (SI.v 2000) (SI.c (Int.ofNat 3)))
                    (SB.and (SB.eq (SI.v 2001) (SI.c (Int.negSucc 0))) (SB.not (SB.v 2000))))
                  (SB.or
                    (SB.and (SB.eq (SI.v 2000) (SI.c (Int.ofNat 4)))
                      (SB.and (SB.eq (SI.v 2001) (SI.c (Int.negSucc 0)))
                        (SB.and (SB.not (SB.v 2000)) (SB.not (SB.v 2001)))))
                    (SB.and (SB.eq (SI.v 2000) (SI.c (Int.ofNat 5)))
                      (SB.and (SB.eq (SI.v 2001) (SI.c (Int.negSucc 0)))
                        (SB.and (SB.not (SB.v 2000)) (SB.not (SB.v 2001))))))))),
          SB.or (SB.not (SB.eq (SI.v 1000) (SI.c (Int.ofNat 2)))) (SB.v 1000),
          SB.not (SB.eq (SI.v 1000) (SI.c (Int.ofNat 0))), SB.not (SB.eq (SI.v 1000) (SI.c (Int.ofNat 3))),
          SB.or
            (SB.and (SB.eq (SI.v 1000) (SI.c (Int.ofNat 0)))
              (SB.and (SB.eq (SI.v 1001) (SI.c (Int.negSucc 0))) (SB.and (SB.not (SB.v 1000)) (SB.not (SB.v 1001)))))
            (SB.or
              (SB.and (SB.eq (SI.v 1000) (SI.c (Int.ofNat 1)))
                (SB.and (SB.eq (SI.v 1001) (SI.c (Int.negSucc 0))) (SB.and (SB.not (SB.v 1000)) (SB.not (SB.v 1001)))))
              (SB.or
                (SB.and (SB.eq (SI.v 1000) (SI.c (Int.ofNat 2)))
                  (SB.and (SB.le (SI.c (Int.ofNat 0)) (SI.v 1001)) (SB.le (SI.v 1001) (SI.c (Int.ofNat 7)))))
                (SB.or
                  (SB.and (SB.eq (SI.v 1000) (SI.c (Int.ofNat 3)))
                    (SB.and (SB.eq (SI.v 1001) (SI.c (Int.negSucc 0))) (SB.not (SB.v 1000))))
                  (SB.or
                    (SB.and (SB.eq (SI.v 1000) (SI.c (Int.ofNat 4)))
                      (SB.and (SB.eq (SI.v 1001) (SI.c (Int.negSucc 0)))
                        (SB.and (SB.not (SB.v 1000)) (SB.not (SB.v 1001)))))
                    (SB.and (SB.eq (SI.v 1000) (SI.c (Int.ofNat 5)))
                      (SB.and (SB.eq (SI.v 1001) (SI.c (Int.negSucc 0)))
                        (SB.and (SB.not (SB.v 1000)) (SB.not (SB.v 1001))))))))),
          SB.le (SI.c (Int.ofNat 0)) (SI.sel (SL.v 9) (SI.v 0) 0),
          SB.le (SI.sel (SL.v 9) (SI.v 0) 0) (SI.c (Int.ofNat 255)), SB.lt (SI.v 0) (SI.c (Int.ofNat 200)),
          SB.lt (SI.v 0) (SI.len (SL.v 9)), SB.le (SI.c (Int.ofNat 0)) (SI.v 0), SB.le (SI.v 0) (SI.c (Int.ofNat 200)),
          SB.le (SI.c (Int.negSucc 1073741823)) (SI.v 3), SB.le (SI.v 3) (SI.c (Int.ofNat 1073741824)), SB.c true,
          SB.or
            (SB.and (SB.eq (SI.v 1) (SI.c (Int.ofNat 0)))
              (SB.and (SB.eq (SI.v 2) (SI.c (Int.negSucc 0))) (SB.and (SB.not (SB.v 0)) (SB.not (SB.v 1)))))
            (SB.or
              (SB.and (SB.eq (SI.v 1) (SI.c (Int.ofNat 1)))
                (SB.and (SB.eq (SI.v 2) (SI.c (Int.negSucc 0))) (SB.and (SB.not (SB.v 0)) (SB.not (SB.v 1)))))
              (SB.or
                (SB.and (SB.eq (SI.v 1) (SI.c (Int.ofNat 2)))
                  (SB.and (SB.le (SI.c (Int.ofNat 0)) (SI.v 2)) (SB.le (SI.v 2) (SI.c (Int.ofNat 7)))))
                (SB.or
                  (SB.and (SB.eq (SI.v 1) (SI.c (Int.ofNat 3)))
                    (SB.and (SB.eq (SI.v 2) (SI.c (Int.negSucc 0))) (SB.not (SB.v 0))))
                  (SB.or
                    (SB.and (SB.eq (SI.v 1) (SI.c (Int.ofNat 4)))
                      (SB.and (SB.eq (SI.v 2) (SI.c (Int.negSucc 0))) (SB.and (SB.not (SB.v 0)) (SB.not (SB.v 1)))))
                    (SB.and (SB.eq (SI.v 1) (SI.c (Int.ofNat 5)))
                      (SB.and (SB.eq (SI.v 2) (SI.c (Int.negSucc 0)))
                        (SB.and (SB.not (SB.v 0)) (SB.not (SB.v 1)))))))))],
      eqs := [Eqn.T (SB.app 199 SA.nil)] },
    {
      pc :=
        [SB.or (SB.not (SB.eq (SI.v 1000) (SI.c (Int.ofNat 2)))) (SB.v 1000),
          SB.not (SB.eq (SI.v 1000) (SI.c (Int.ofNat 0))), SB.not (SB.eq (SI.v 1000) (SI.c (Int.ofNat 3))),
          SB.or
            (SB.and (SB.eq (SI.v 1000) (SI.c (Int.ofNat 0)))
              (SB.and (SB.eq (SI.v 1001) (SI.c (Int.negSucc 0))) (SB.and (SB.not (SB.v 1000)) (SB.not (SB.v 1001)))))
            (SB.or
              (SB.and (SB.eq (SI.v 1000) (SI.c (Int.ofNat 1)))
                (SB.and (SB.eq (SI.v 1001) (SI.c (Int.negSucc 0))) (SB.and (SB.not (SB.v 1000)) (SB.not (SB.v 1001)))))
              (SB.or
                (SB.and (SB.eq (SI.v 1000) (SI.c (Int.ofNat 2)))
                  (SB.and (SB.le (SI.c (Int.ofNat 0)) (SI.v 1001)) (SB.le (SI.v 1001) (SI.c (Int.ofNat 7)))))
                (SB.or
                  (SB.and (SB.eq (SI.v 1000) (SI.c (Int.ofNat 3)))
                    (SB.and (SB.eq (SI.v 1001) (SI.c (Int.negSucc 0))) (SB.not (SB.v 1000))))
                  (SB.or
                    (SB.and (SB.eq (SI.v 1000) (SI.c (Int.ofNat 4)))
                      (SB.and (SB.eq (SI.v 1001) (SI.c (Int.negSucc 0)))
                        (SB.and (SB.not (SB.v 1000)) (SB.not (SB.v 1001)))))
                    (SB.and (SB.eq (SI.v 1000) (SI.c (Int.ofNat 5)))
                      (SB.and (SB.eq (SI.v 1001) (SI.c (Int.negSucc 0)))
                        (SB.and (SB.not (SB.v 1000)) (SB.not (SB.v 1001))))))))),
          SB.le (SI.c (Int.ofNat 0)) (SI.sel (SL.v 9) (SI.v 0) 0),
          SB.le (SI.sel (SL.v 9) (SI.v 0) 0) (SI.c (Int.ofNat 255)), SB.lt (SI.v 0) (SI.c (Int.ofNat 200)),
          SB.lt (SI.v 0) (SI.len (SL.v 9)), SB.le (SI.c (Int.ofNat 0)) (SI.v 0), SB.le (SI.v 0) (SI.c (Int.ofNat 200)),
          SB.le (SI.c (Int.negSucc 1073741823)) (SI.v 3), SB.le (SI.v 3) (SI.c (Int.ofNat 1073741824)), SB.c true,
          SB.or
            (SB.and (SB.eq (SI.v 1) (SI.c (Int.ofNat 0)))
              (SB.and (SB.eq (SI.v 2) (SI.c (Int.negSucc 0))) (SB.and (SB.not (SB.v 0)) (SB.not (SB.v 1)))))
            (SB.or
              (SB.and (SB.eq (SI.v 1) (SI.c (Int.ofNat 1)))
                (SB.and (SB.eq (SI.v 2) (SI.c (Int.negSucc 0))) (SB.and (SB.not (SB.v 0)) (SB.not (SB.v 1)))))
              (SB.or
                (SB.and (SB.eq (SI.v 1) (SI.c (Int.ofNat 2)))
                  (SB.and (SB.le (SI.c (Int.ofNat 0)) (SI.v 2)) (SB.le (SI.v 2) (SI.c (Int.ofNat 7)))))
                (SB.or
                  (SB.and (SB.eq (SI.v 1) (SI.c (Int.ofNat 3)))
                    (SB.and (SB.eq (SI.v 2) (SI.c (Int.negSucc 0))) (SB.not (SB.v 0))))
                  (SB.or
                    (SB.and (SB.eq (SI.v 1) (SI.c (Int.ofNat 4)))
                      (SB.and (SB.eq (SI.v 2) (SI.c (Int.negSucc 0))) (SB.and (SB.not (SB.v 0)) (SB.not (SB.v 1)))))
                    (SB.and (SB.eq (SI.v 1) (SI.c (Int.ofNat 5)))
                      (SB.and (SB.eq (SI.v 2) (SI.c (Int.negSucc 0)))
                        (SB.and (SB.not (SB.v 0)) (SB.not (SB.v 1)))))))))],
      eqs :=
        [Eqn.T
            (SB.lt (SI.sub (SI.c (Int.ofNat 201)) (SI.add (SI.v 0) (SI.c (Int.ofNat 1))))
              (SI.sub (SI.c (Int.ofNat 201)) (SI.v 0)))] },
    {
      pc :=
        [SB.eq (SI.v 1) (SI.c (Int.ofNat 5)),
          SB.or (SB.eq (SI.v 1) (SI.c (Int.ofNat 0))) (SB.eq (SI.v 1) (SI.c (Int.ofNat 5))),
          SB.le (SI.c (Int.ofNat 0)) (SI.sel (SL.v 9) (SI.v 0) 0),
          SB.le (SI.sel (SL.v 9) (SI.v 0) 0) (SI.c (Int.ofNat 255)), SB.lt (SI.v 0) (SI.c (Int.ofNat 200)),
          SB.lt (SI.v 0) (SI.len (SL.v 9)), SB.le (SI.c (Int.ofNat 0)) (SI.v 0), SB.le (SI.v 0) (SI.c (Int.ofNat 200)),
          SB.le (SI.c (Int.negSucc 1073741823)) (SI.v 3), SB.le (SI.v 3) (SI.c (Int.ofNat 1073741824)), SB.c true,
          SB.or
            (SB.and (SB.eq (SI.v 1) (SI.c (Int.ofNat 0)))
              (SB.and (SB.eq (SI.v 2) (SI.c (Int.negSucc 0))) (SB.and (SB.not (SB.v 0)) (SB.not (SB.v 1)))))
            (SB.or
              (SB.and (SB.eq (SI.v 1) (SI.c (Int.ofNat 1)))
                (SB.and (SB.eq (SI.v 2) (SI.c (Int.negSucc 0))) (SB.and (SB.not (SB.v 0)) (SB.not (SB.v 1)))))
              (SB.or
                (SB.and (SB.eq (SI.v 1) (SI.c (Int.ofNat 2)))
                  (SB.and (SB.le (SI.c (Int.ofNat 0)) (SI.v 2)) (SB.le (SI.v 2) (SI.c (Int.ofNat 7)))))
                (SB.or
                  (SB.and (SB.eq (SI.v 1) (SI.c (Int.ofNat 3)))
                    (SB.and (SB.eq (SI.v 2) (SI.c (Int.negSucc 0))) (SB.not (SB.v 0))))
                  (SB.or
                    (SB.and (SB.eq (SI.v 1) (SI.c (Int.ofNat 4)))
                      (SB.and (SB.eq (SI.v 2) (SI.c (Int.negSucc 0))) (SB.and (SB.not (SB.v 0)) (SB.not (SB.v 1)))))
                    (SB.and (SB.eq (SI.v 1) (SI.c (Int.ofNat 5)))
                      (SB.and (SB.eq (SI.v 2) (SI.c (Int.negSucc 0)))
                        (SB.and (SB.not (SB.v 0)) (SB.not (SB.v 1)))))))))],
      eqs :=
        [Eqn.T
            (SB.lt (SI.sub (SI.c (Int.ofNat 201)) (SI.add (SI.v 0) (SI.c (Int.ofNat 1))))
              (SI.sub (SI.c (Int.ofNat 201)) (SI.v 0)))] },
    {
      pc :=
        [SB.eq (SI.v 1) (SI.c (Int.ofNat 0)), SB.not (SB.eq (SI.v 1) (SI.c (Int.ofNat 5))),
          SB.or (SB.eq (SI.v 1) (SI.c (Int.ofNat 0))) (SB.eq (SI.v 1) (SI.c (Int.ofNat 5))),
          SB.le (SI.c (Int.ofNat 0)) (SI.sel (SL.v 9) (SI.v 0) 0),
          SB.le (SI.sel (SL.v 9) (SI.v 0) 0) (SI.c (Int.ofNat 255)), SB.lt (SI.v 0) (SI.c (Int.ofNat 200)),
          SB.lt (SI.v 0) (SI.len (SL.v 9)), SB.le (SI.c (Int.ofNat 0)) (SI.v 0), SB.le (SI.v 0) (SI.c (Int.ofNat 200)),
          SB.le (SI.c (Int.negSucc 1073741823)) (SI.v 3), SB.le (SI.v 3) (SI.c (Int.ofNat 1073741824)), SB.c true,
          SB.or
            (SB.and (SB.eq (SI.v 1) (SI.c (Int.ofNat 0)))
              (SB.and (SB.eq (SI.v 2) (SI.c (Int.negSucc 0))) (SB.and (SB.not (SB.v 0)) (SB.not (SB.v 1)))))
            (SB.or
              (SB.and (SB.eq (SI.v 1) (SI.c (Int.ofNat 1)))
                (SB.and (SB.eq (SI.v 2) (SI.c (Int.negSucc 0))) (SB.and (SB.not (SB.v 0)) (SB.not (SB.v 1)))))
              (SB.or
                (SB.and (SB.eq (SI.v 1) (SI.c (Int.ofNat 2)))
                  (SB.and (SB.le (SI.c (Int.ofNat 0)) (SI.v 2)) (SB.le (SI.v 2) (SI.c (Int.ofNat 7)))))
                (SB.or
                  (SB.and (SB.eq (SI.v 1) (SI.c (Int.ofNat 3)))
                    (SB.and (SB.eq (SI.v 2) (SI.c (Int.negSucc 0))) (SB.not (SB.v 0))))
                  (SB.or
                    (SB.and (SB.eq (SI.v 1) (SI.c (Int.ofNat 4)))
                      (SB.and (SB.eq (SI.v 2) (SI.c (Int.negSucc 0))) (SB.and (SB.not (SB.v 0)) (SB.not (SB.v 1)))))
                    (SB.and (SB.eq (SI.v 1) (SI.c (Int.ofNat 5)))
                      (SB.and (SB.eq (SI.v 2) (SI.c (Int.negSucc 0)))
                        (SB.and (SB.not (SB.v 0)) (SB.not (SB.v 1)))))))))],
      eqs :=
        [Eqn.T
            (SB.lt (SI.sub (SI.c (Int.ofNat 201)) (SI.add (SI.v 0) (SI.c (Int.ofNat 1))))
              (SI.sub (SI.c (Int.ofNat 201)) (SI.v 0)))] },
    {
      pc :=
        [SB.not (SB.eq (SI.v 1) (SI.c (Int.ofNat 0))), SB.not (SB.eq (SI.v 1) (SI.c (Int.ofNat 5))),
          SB.or (SB.eq (SI.v 1) (SI.c (Int.ofNat 0))) (SB.eq (SI.v 1) (SI.c (Int.ofNat 5))),
          SB.le (SI.c (Int.ofNat 0)) (SI.sel (SL.v 9) (SI.v 0) 0),
          SB.le (SI.sel (SL.v 9) (SI.v 0) 0) (SI.c (Int.ofNat 255)), SB.lt (SI.v 0) (SI.c (Int.ofNat 200)),
          SB.lt (SI.v 0) (SI.len (SL.v 9)), SB.le (SI.c (Int.ofNat 0)) (SI.v 0), SB.le (SI.v 0) (SI.c (Int.ofNat 200)),
          SB.le (SI.c (Int.negSucc 1073741823)) (SI.v 3), SB.le (SI.v 3) (SI.c (Int.ofNat 1073741824)), SB.c true,
          SB.or
            (SB.and (SB.eq (SI.v 1) (SI.c (Int.ofNat 0)))
              (SB.and (SB.eq (SI.v 2) (SI.c (Int.negSucc 0))) (SB.and (SB.not (SB.v 0)) (SB.not (SB.v 1)))))
            (SB.or
              (SB.and (SB.eq (SI.v 1) (SI.c (Int.ofNat 1)))
                (SB.and (SB.eq (SI.v 2) (SI.c (Int.negSucc 0))) (SB.and (SB.not (SB.v 0)) (SB.not (SB.v 1)))))
              (SB.or
                (SB.and (SB.eq (SI.v 1) (SI.c (Int.ofNat 2)))
                  (SB.and (SB.le (SI.c (Int.ofNat 0)) (SI.v 2)) (SB.le (SI.v 2) (SI.c (Int.ofNat 7)))))
                (SB.or
                  (SB.and (SB.eq (SI.v 1) (SI.c (Int.ofNat 3)))
                    (SB.and (SB.eq (SI.v 2) (SI.c (Int.negSucc 0))) (SB.not (SB.v 0))))
                  (SB.or
                    (SB.and (SB.eq (SI.v 1) (SI.c (Int.ofNat 4)))
                      (SB.and (SB.eq (SI.v 2) (SI.c (Int.negSucc 0))) (SB.and (SB.not (SB.v 0)) (SB.not (SB.v 1)))))
                    (SB.and (SB.eq (SI.v 1) (SI.c (Int.ofNat 5)))
                      (SB.and (SB.eq (SI.v 2) (SI.c (Int.negSucc 0)))
                        (SB.and (SB.not (SB.v 0)) (SB.not (SB.v 1)))))))))],
      eqs := [Eqn.T (SB.app 199 SA.nil)] }] := by kernel_rfl
theorem wk1_ok : wk1.ok Φ Try.prog := by
  refine ⟨by kernel_rfl, loop_rule (fun ρ => t2_ok ρ) (loopAt_sub (by kernel_rfl)) wk1_obs ?_⟩
  simp only [and_imp, List.forall_mem_cons, List.not_mem_nil, false_implies, implies_true, and_true, Ob.ok, holds, Eqn.ok, evB_eq, evB_lt, evB_le, evB_not, evB_and, evB_or, evB_eqL, evB_app, evB_v, evB_c, ev_sel, ev_len, ev_v, ev_c, ev_add, ev_sub, ev_mul, ev_quo, ev_rem, ev_bits, ev_wrap, evL_v, evL_lit, evL_app, ev_app, evA_l, evA_i, evA_nil, std_min, std_max, std_cat, std_take, std_drop, std_row, std_set, std_rep, ints_cons, ints_nil, ofNat_lit, negSucc_lit, decide_eq_true_eq, Bool.and_eq_true, Bool.or_eq_true, Bool.not_eq_true', Bool.and_eq_false_iff, Bool.or_eq_false_iff, decide_eq_false_iff_not, aB199]
  repeat' apply And.intro
  all_goals intro ρ hR
  all_goals intros
  all_goals first
    | (omega)
    | (simp_all; done)
    | (simp_all; omega)
    | (refine ⟨?_, ?_⟩ <;> simp_all; done)
    | (exfalso
       simp_all; done)
    | (exfalso
       simp_all; omega)
theorem t3_ok (ρ : Env) : TblOK Φ ρ Try.prog t3 := addLp_ok (t2_ok ρ) wk1_ok
set_option maxRecDepth 100000 in
theorem lWoken_obs : callObs Φ Try.prog t3 1000 lWoken.f lWoken.vs lWoken.o lWoken.pc lWoken.outs = some
  [] := by kernel_rfl
theorem lWoken_ok : lWoken.ok Φ Try.prog := by
  refine call_rule (fun ρ => t3_ok ρ) lWoken_obs ?_
  intro ob h; cases h
theorem t4_ok (ρ : Env) : TblOK Φ ρ Try.prog t4 := addFn_ok (addFn_ok noTbl_ok kKnown_ok) nP_ok
set_option maxRecDepth 100000 in
theorem ps1_obs : loopObs Φ Try.prog t4 1000 ps1.f (loopAt Try.prog ps1.f ps1.id) ps1.n ps1.T (.sub (.c 201) (.v 0)) ps1.outs = some
  [{
      pc :=
        [SB.not (SB.eq (SI.v 1000) (SI.c (Int.ofNat 4))), SB.not (SB.v 1001), SB.eq (SI.v 1) (SI.c (Int.ofNat 2)),
          SB.or (SB.eq (SI.v 1) (SI.c (Int.ofNat 2))) (SB.not (SB.eq (SI.v 1000) (SI.c (Int.ofNat 2)))),
          SB.not (SB.eq (SI.v 1000) (SI.c (Int.ofNat 1))), SB.not (SB.eq (SI.v 1000) (SI.c (Int.ofNat 5))),
          SB.or (SB.v 1001) (SB.eq (SI.v 1000) (SI.c (Int.ofNat 4))),
          SB.or
            (SB.and (SB.eq (SI.v 1000) (SI.c (Int.ofNat 0)))
              (SB.and (SB.eq (SI.v 1001) (SI.c (Int.negSucc 0))) (SB.and (SB.not (SB.v 1000)) (SB.not (SB.v 1001)))))
            (SB.or
              (SB.and (SB.eq (SI.v 1000) (SI.c (Int.ofNat 1)))
                (SB.and (SB.eq (SI.v 1001) (SI.c (Int.negSucc 0))) (SB.and (SB.not (SB.v 1000)) (SB.not (SB.v 1001)))))
              (SB.or
                (SB.and (SB.eq (SI.v 1000) (SI.c (Int.ofNat 2)))
                  (SB.and (SB.le (SI.c (Int.ofNat 0)) (SI.v 1001)) (SB.le (SI.v 1001) (SI.c (Int.ofNat 7)))))
                (SB.or
                  (SB.and (SB.eq (SI.v 1000) (SI.c (Int.ofNat 3)))
                    (SB.and (SB.eq (SI.v 1001) (SI.c (Int.negSucc 0))) (SB.not (SB.v 1000))))
                  (SB.or
                    (SB.and (SB.eq (SI.v 1000) (SI.c (Int.ofNat 4)))
                      (SB.and (SB.eq (SI.v 1001) (SI.c (Int.negSucc 0)))
                        (SB.and (SB.not (SB.v 1000)) (SB.not (SB.v 1001)))))
                    (SB.and (SB.eq (SI.v 1000) (SI.c (Int.ofNat 5)))
                      (SB.and (SB.eq (SI.v 1001) (SI.c (Int.negSucc 0)))
                        (SB.and (SB.not (SB.v 1000)) (SB.not (SB.v 1001))))))))),
          SB.eq (SI.add (SI.rem (SI.sel (SL.v 9) (SI.v 0) 0) (SI.c (Int.ofNat 8))) (SI.c (Int.ofNat 1)))
            (SI.c (Int.ofNat 6)),
          SB.or (SB.v 1) (SB.not (SB.v 1)), SB.le (SI.c (Int.ofNat 0)) (SI.sel (SL.v 9) (SI.v 0) 0),
          SB.le (SI.sel (SL.v 9) (SI.v 0) 0) (SI.c (Int.ofNat 255)), SB.lt (SI.v 0) (SI.c (Int.ofNat 200)),
          SB.lt (SI.v 0) (SI.len (SL.v 9)), SB.le (SI.c (Int.ofNat 0)) (SI.v 0), SB.le (SI.v 0) (SI.c (Int.ofNat 200)),
          SB.le (SI.c (Int.negSucc 1073741823)) (SI.v 3), SB.le (SI.v 3) (SI.c (Int.ofNat 1073741824)), SB.c true,
          SB.or
            (SB.and (SB.eq (SI.v 1) (SI.c (Int.ofNat 0)))
              (SB.and (SB.eq (SI.v 2) (SI.c (Int.negSucc 0))) (SB.and (SB.not (SB.v 0)) (SB.not (SB.v 1)))))
            (SB.or
              (SB.and (SB.eq (SI.v 1) (SI.c (Int.ofNat 1)))
                (SB.and (SB.eq (SI.v 2) (SI.c (Int.negSucc 0))) (SB.and (SB.not (SB.v 0)) (SB.not (SB.v 1)))))
              (SB.or
                (SB.and (SB.eq (SI.v 1) (SI.c (Int.ofNat 2)))
                  (SB.and (SB.le (SI.c (Int.ofNat 0)) (SI.v 2)) (SB.le (SI.v 2) (SI.c (Int.ofNat 7)))))
                (SB.or
                  (SB.and (SB.eq (SI.v 1) (SI.c (Int.ofNat 3)))
                    (SB.and (SB.eq (SI.v 2) (SI.c (Int.negSucc 0))) (SB.not (SB.v 0))))
                  (SB.or
                    (SB.and (SB.eq (SI.v 1) (SI.c (Int.ofNat 4)))
                      (SB.and (SB.eq (SI.v 2) (SI.c (Int.negSucc 0))) (SB.and (SB.not (SB.v 0)) (SB.not (SB.v 1)))))
                    (SB.and (SB.eq (SI.v 1) (SI.c (Int.ofNat 5)))
                      (SB.and (SB.eq (SI.v 2) (SI.c (Int.negSucc 0)))
                        (SB.and (SB.not (SB.v 0)) (SB.not (SB.v 1))))))))),
          SB.or (SB.and (SB.v 2) (SB.or (SB.v 1) (SB.eq (SI.v 1) (SI.c (Int.ofNat 4)))))
            (SB.and (SB.not (SB.v 2)) (SB.not (SB.or (SB.v 1) (SB.eq (SI.v 1) (SI.c (Int.ofNat 4))))))],
      eqs := [Eqn.T (SB.app 199 SA.nil)] },
    {
      pc :=
        [SB.eq (SI.v 1000) (SI.c (Int.ofNat 2)), SB.not (SB.eq (SI.v 1) (SI.c (Int.ofNat 2))),
          SB.or (SB.eq (SI.v 1) (SI.c (Int.ofNat 2))) (SB.not (SB.eq (SI.v 1000) (SI.c (Int.ofNat 2)))),
          SB.not (SB.eq (SI.v 1000) (SI.c (Int.ofNat 1))), SB.not (SB.eq (SI.v 1000) (SI.c (Int.ofNat 5))),
          SB.or (SB.v 1001) (SB.eq (SI.v 1000) (SI.c (Int.ofNat 4))),
          SB.or
            (SB.and (SB.eq (SI.v 1000) (SI.c (Int.ofNat 0)))
              (SB.and (SB.eq (SI.v 1001) (SI.c (Int.negSucc 0))) (SB.and (SB.not (SB.v 1000)) (SB.not (SB.v 1001)))))
            (SB.or
              (SB.and (SB.eq (SI.v 1000) (SI.c (Int.ofNat 1)))
                (SB.and (SB.eq (SI.v 1001) (SI.c (Int.negSucc 0))) (SB.and (SB.not (SB.v 1000)) (SB.not (SB.v 1001)))))
              (SB.or
                (SB.and (SB.eq (SI.v 1000) (SI.c (Int.ofNat 2)))
                  (SB.and (SB.le (SI.c (Int.ofNat 0)) (SI.v 1001)) (SB.le (SI.v 1001) (SI.c (Int.ofNat 7)))))
                (SB.or
                  (SB.and (SB.eq (SI.v 1000) (SI.c (Int.ofNat 3)))
                    (SB.and (SB.eq (SI.v 1001) (SI.c (Int.negSucc 0))) (SB.not (SB.v 1000))))
                  (SB.or
                    (SB.and (SB.eq (SI.v 1000) (SI.c (Int.ofNat 4)))
                      (SB.and (SB.eq (SI.v 1001) (SI.c (Int.negSucc 0)))
                        (SB.and (SB.not (SB.v 1000)) (SB.not (SB.v 1001)))))
                    (SB.and (SB.eq (SI.v 1000) (SI.c (Int.ofNat 5)))
                      (SB.and (SB.eq (SI.v 1001) (SI.c (Int.negSucc 0)))
                        (SB.and (SB.not (SB.v 1000)) (SB.not (SB.v 1001))))))))),
          SB.eq (SI.add (SI.rem (SI.sel (SL.v 9) (SI.v 0) 0) (SI.c (Int.ofNat 8))) (SI.c (Int.ofNat 1)))
            (SI.c (Int.ofNat 6)),
          SB.or (SB.v 1) (SB.not (SB.v 1)), SB.le (SI.c (Int.ofNat 0)) (SI.sel (SL.v 9) (SI.v 0) 0),
          SB.le (SI.sel (SL.v 9) (SI.v 0) 0) (SI.c (Int.ofNat 255)), SB.lt (SI.v 0) (SI.c (Int.ofNat 200)),
          SB.lt (SI.v 0) (SI.len (SL.v 9)), SB.le (SI.c (Int.ofNat 0)) (SI.v 0), SB.le (SI.v 0) (SI.c (Int.ofNat 200)),
          SB.le (SI.c (Int.negSucc 1073741823)) (SI.v 3), SB.le (SI.v 3) (SI.c (Int.ofNat 1073741824)), SB.c true,
          SB.or
            (SB.and (SB.eq (SI.v 1) (SI.c (Int.ofNat 0)))
              (SB.and (SB.eq (SI.v 2) (SI.c (Int.negSucc 0))) (SB.and (SB.not (SB.v 0)) (SB.not (SB.v 1)))))
            (SB.or
              (SB.and (SB.eq (SI.v 1) (SI.c (Int.ofNat 1)))
                (SB.and (SB.eq (SI.v 2) (SI.c (Int.negSucc 0))) (SB.and (SB.not (SB.v 0)) (SB.not (SB.v 1)))))
              (SB.or
                (SB.and (SB.eq (SI.v 1) (SI.c (Int.ofNat 2)))
                  (SB.and (SB.le (SI.c (Int.ofNat 0)) (SI.v 2)) (SB.le (SI.v 2) (SI.c (Int.ofNat 7)))))
                (SB.or
                  (SB.and (SB.eq (SI.v 1) (SI.c (Int.ofNat 3)))
                    (SB.and (SB.eq (SI.v 2) (SI.c (Int.negSucc 0))) (SB.not (SB.v 0))))
                  (SB.or
                    (SB.and (SB.eq (SI.v 1) (SI.c (Int.ofNat 4)))
                      (SB.and (SB.eq (SI.v 2) (SI.c (Int.negSucc 0))) (SB.and (SB.not (SB.v 0)) (SB.not (SB.v 1)))))
                    (SB.and (SB.eq (SI.v 1) (SI.c (Int.ofNat 5)))
                      (SB.and (SB.eq (SI.v 2) (SI.c (Int.negSucc 0)))
                        (SB.and (SB.not (SB.v 0)) (SB.not (SB.v 1))))))))),
          SB.or (SB.and (SB.v 2) (SB.or (SB.v 1) (SB.eq (SI.v 1) (SI.c (Int.ofNat 4)))))
            (SB.and (SB.not (SB.v 2)) (SB.not (SB.or (SB.v 1) (SB.eq (SI.v 1) (SI.c (Int.ofNat 4))))))],
      eqs := [Eqn.T (SB.app 199 SA.nil)] },
    {
      pc :=
        [SB.not (SB.eq (SI.v 1000) (SI.c (Int.ofNat 4))), SB.not (SB.v 1001),
          SB.not (SB.eq (SI.v 1000) (SI.c (Int.ofNat 2))), SB.not (SB.eq (SI.v 1) (SI.c (Int.ofNat 2))),
          SB.or (SB.eq (SI.v 1) (SI.c (Int.ofNat 2))) (SB.not (SB.eq (SI.v 1000) (SI.c (Int.ofNat 2)))),
          SB.not (SB.eq (SI.v 1000) (SI.c (Int.ofNat 1))), SB.not (SB.eq (SI.v 1000) (SI.c (Int.ofNat 5))),
          SB.or (SB.v 1001) (SB.eq (SI.v 1000) (SI.c (Int.ofNat 4))),
          SB.or
            (SB.and (SB.eq (SI.v 1000) (SI.c (Int.ofNat 0)))
              (SB.and (SB.eq (SI.v 1001) (SI.c (Int.negSucc 0))) (SB.and (SB.not (SB.v 1000)) (SB.not (SB.v 1001)))))
            (SB.or
              (SB.and (SB.eq (SI.v 1000) (SI.c (Int.ofNat 1)))
                (SB.and (SB.eq (SI.v 1001) (SI.c (Int.negSucc 0))) (SB.and (SB.not (SB.v 1000)) (SB.not (SB.v 1001)))))
              (SB.or
                (SB.and (SB.eq (SI.v 1000) (SI.c (Int.ofNat 2)))
                  (SB.and (SB.le (SI.c (Int.ofNat 0)) (SI.v 1001)) (SB.le (SI.v 1001) (SI.c (Int.ofNat 7)))))
                (SB.or
                  (SB.and (SB.eq (SI.v 1000) (SI.c (Int.ofNat 3)))
                    (SB.and (SB.eq (SI.v 1001) (SI.c (Int.negSucc 0))) (SB.not (SB.v 1000))))
                  (SB.or
                    (SB.and (SB.eq (SI.v 1000) (SI.c (Int.ofNat 4)))
                      (SB.and (SB.eq (SI.v 1001) (SI.c (Int.negSucc 0)))
                        (SB.and (SB.not (SB.v 1000)) (SB.not (SB.v 1001)))))
                    (SB.and (SB.eq (SI.v 1000) (SI.c (Int.ofNat 5)))
                      (SB.and (SB.eq (SI.v 1001) (SI.c (Int.negSucc 0)))
                        (SB.and (SB.not (SB.v 1000)) (SB.not (SB.v 1001))))))))),
          SB.eq (SI.add (SI.rem (SI.sel (SL.v 9) (SI.v 0) 0) (SI.c (Int.ofNat 8))) (SI.c (Int.ofNat 1)))
            (SI.c (Int.ofNat 6)),
          SB.or (SB.v 1) (SB.not (SB.v 1)), SB.le (SI.c (Int.ofNat 0)) (SI.sel (SL.v 9) (SI.v 0) 0),
          SB.le (SI.sel (SL.v 9) (SI.v 0) 0) (SI.c (Int.ofNat 255)), SB.lt (SI.v 0) (SI.c (Int.ofNat 200)),
          SB.lt (SI.v 0) (SI.len (SL.v 9)), SB.le (SI.c (Int.ofNat 0)) (SI.v 0), SB.le (SI.v 0) (SI.c (Int.ofNat 200)),
          SB.le (SI.c (Int.negSucc 1073741823)) (SI.v 3), SB.le (SI.v 3) (SI.c (Int.ofNat 1073741824)), SB.c true,
          SB.or
            (SB.and (SB.eq (SI.v 1) (SI.c (Int.ofNat 0)))
              (SB.and (SB.eq (SI.v 2) (SI.c (Int.negSucc 0))) (SB.and (SB.not (SB.v 0)) (SB.not (SB.v 1)))))
            (SB.or
              (SB.and (SB.eq (SI.v 1) (SI.c (Int.ofNat 1)))
                (SB.and (SB.eq (SI.v 2) (SI.c (Int.negSucc 0))) (SB.and (SB.not (SB.v 0)) (SB.not (SB.v 1)))))
              (SB.or
                (SB.and (SB.eq (SI.v 1) (SI.c (Int.ofNat 2)))
                  (SB.and (SB.le (SI.c (Int.ofNat 0)) (SI.v 2)) (SB.le (SI.v 2) (SI.c (Int.ofNat 7)))))
                (SB.or
                  (SB.and (SB.eq (SI.v 1) (SI.c (Int.ofNat 3)))
                    (SB.and (SB.eq (SI.v 2) (SI.c (Int.negSucc 0))) (SB.not (SB.v 0))))
                  (SB.or
                    (SB.and (SB.eq (SI.v 1) (SI.c (Int.ofNat 4)))
                      (SB.and (SB.eq (SI.v 2) (SI.c (Int.negSucc 0))) (SB.and (SB.not (SB.v 0)) (SB.not (SB.v 1)))))
                    (SB.and (SB.eq (SI.v 1) (SI.c (Int.ofNat 5)))
                      (SB.and (SB.eq (SI.v 2) (SI.c (Int.negSucc 0)))
                        (SB.and (SB.not (SB.v 0)) (SB.not (SB.v 1))))))))),
          SB.or (SB.and (SB.v 2) (SB.or (SB.v 1) (SB.eq (SI.v 1) (SI.c (Int.ofNat 4)))))
            (SB.and (SB.not (SB.v 2)) (SB.not (SB.or (SB.v 1) (SB.eq (SI.v 1) (SI.c (Int.ofNat 4))))))],
      eqs := [Eqn.T (SB.app 199 SA.nil)] },
    {
      pc :=
        [SB.not (SB.eq (SI.v 1000) (SI.c (Int.ofNat 4))), SB.not (SB.v 1001), SB.eq (SI.v 1) (SI.c (Int.ofNat 2)),
          SB.v 2, SB.or (SB.eq (SI.v 1) (SI.c (Int.ofNat 2))) (SB.not (SB.eq (SI.v 1000) (SI.c (Int.ofNat 2)))),
          SB.not (SB.eq (SI.v 1000) (SI.c (Int.ofNat 1))), SB.or (SB.v 1001) (SB.eq (SI.v 1000) (SI.c (Int.ofNat 4))),
          SB.or (SB.v 1) (SB.eq (SI.v 1) (SI.c (Int.ofNat 4))),
          SB.or
            (SB.and (SB.eq (SI.v 1000) (SI.c (Int.ofNat 0)))
              (SB.and (SB.eq (SI.v 1001) (SI.c (Int.negSucc 0))) (SB.and (SB.not (SB.v 1000)) (SB.not (SB.v 1001)))))
            (SB.or
              (SB.and (SB.eq (SI.v 1000) (SI.c (Int.ofNat 1)))
                (SB.and (SB.eq (SI.v 1001) (SI.c (Int.negSucc 0))) (SB.and (SB.not (SB.v 1000)) (SB.not (SB.v 1001)))))
              (SB.or
                (SB.and (SB.eq (SI.v 1000) (SI.c (Int.ofNat 2)))
                  (SB.and (SB.le (SI.c (Int.ofNat 0)) (SI.v 1001)) (SB.le (SI.v 1001) (SI.c (Int.ofNat 7)))))
                (SB.or
                  (SB.and (SB.eq (SI.v 1000) (SI.c (Int.ofNat 3)))
                    (SB.and (SB.eq (SI.v 1001) (SI.c (Int.negSucc 0))) (SB.not (SB.v 1000))))
                  (SB.or
                    (SB.and (SB.eq (SI.v 1000) (SI.c (Int.ofNat 4)))
                      (SB.and (SB.eq (SI.v 1001) (SI.c (Int.negSucc 0)))
                        (SB.and (SB.not (SB.v 1000)) (SB.not (SB.v 1001)))))
                    (SB.and (SB.eq (SI.v 1000) (SI.c (Int.ofNat 5)))
                      (SB.and (SB.eq (SI.v 1001) (SI.c (Int.negSucc 0)))
                        (SB.and (SB.not (SB.v 1000)) (SB.not (SB.v 1001))))))))),
          SB.not (SB.eq (SI.v 1000) (SI.c (Int.ofNat 5))),
          SB.not
            (SB.eq (SI.add (SI.rem (SI.sel (SL.v 9) (SI.v 0) 0) (SI.c (Int.ofNat 8))) (SI.c (Int.ofNat 1)))
              (SI.c (Int.ofNat 7))),
          SB.not
            (SB.eq (SI.add (SI.rem (SI.sel (SL.v 9) (SI.v 0) 0) (SI.c (Int.ofNat 8))) (SI.c (Int.ofNat 1)))
              (SI.c (Int.ofNat 6))),
          SB.or (SB.v 1) (SB.not (SB.v 1)), SB.le (SI.c (Int.ofNat 0)) (SI.sel (SL.v 9) (SI.v 0) 0),
          SB.le (SI.sel (SL.v 9) (SI.v 0) 0) (SI.c (Int.ofNat 255)), SB.lt (SI.v 0) (SI.c (Int.ofNat 200)),
          SB.lt (SI.v 0) (SI.len (SL.v 9)), SB.le (SI.c (Int.ofNat 0)) (SI.v 0), SB.le (SI.v 0) (SI.c (Int.ofNat 200)),
          SB.le (SI.c (Int.negSucc 1073741823)) (SI.v 3), SB.le (SI.v 3) (SI.c (Int.ofNat 1073741824)), SB.c true,
          SB.or
            (SB.and (SB.eq (SI.v 1) (SI.c (Int.ofNat 0)))
              (SB.and (SB.eq (SI.v 2) (SI.c (Int.negSucc 0))) (SB.and (SB.not (SB.v 0)) (SB.not (SB.v 1)))))
            (SB.or
              (SB.and (SB.eq (SI.v 1) (SI.c (Int.ofNat 1)))
                (SB.and (SB.eq (SI.v 2) (SI.c (Int.negSucc 0))) (SB.and (SB.not (SB.v 0)) (SB.not (SB.v 1)))))
              (SB.or
                (SB.and (SB.eq (SI.v 1) (SI.c (Int.ofNat 2)))
                  (SB.and (SB.le (SI.c (Int.ofNat 0)) (SI.v 2)) (SB.le (SI.v 2) (SI.c (Int.ofNat 7)))))
                (SB.or
                  (SB.and (SB.eq (SI.v 1) (SI.c (Int.ofNat 3)))
                    (SB.and (SB.eq (SI.v 2) (SI.c (Int.negSucc 0))) (SB.not (SB.v 0))))
                  (SB.or
                    (SB.and (SB.eq (SI.v 1) (SI.c (Int.ofNat 4)))
                      (SB.and (SB.eq (SI.v 2) (SI.c (Int.negSucc 0))) (SB.and (SB.not (SB.v 0)) (SB.not (SB.v 1)))))
                    (SB.and (SB.eq (SI.v 1) (SI.c (Int.ofNat 5)))
                      (SB.and (SB.eq (SI.v 2) (SI.c (Int.negSucc 0)))
                        (SB.and (SB.not (SB.v 0)) (SB.not (SB.v 1))))))))),
          SB.or (SB.and (SB.v 2) (SB.or (SB.v 1) (SB.eq (SI.v 1) (SI.c (Int.ofNat 4)))))
            (SB.and (SB.not (SB.v 2)) (SB.not (SB.or (SB.v 1) (SB.eq (SI.v 1) (SI.c (Int.ofNat 4))))))],
      eqs := [Eqn.T (SB.app 199 SA.nil)] },
    {
      pc :=
        [SB.eq (SI.v 1000) (SI.c (Int.ofNat 2)), SB.not (SB.eq (SI.v 1) (SI.c (Int.ofNat 2))), SB.v 2,
          SB.or (SB.eq (SI.v 1) (SI.c (Int.ofNat 2))) (SB.not (SB.eq (SI.v 1000) (SI.c (Int.ofNat 2)))),
          SB.not (SB.eq (SI.v 1000) (SI.c (Int.ofNat 1))), SB.or (SB.v 1001) (SB.eq (SI.v 1000) (SI.c (Int.ofNat 4))),
          SB.or (SB.v 1) (SB.eq (SI.v 1) (SI.c (Int.ofNat 4))),
          SB.or
            (SB.and (SB.eq (SI.v 1000) (SI.c (Int.ofNat 0)))
              (SB.and (SB.eq (SI.v 1001) (SI.c (Int.negSucc 0))) (SB.and (SB.not (SB.v 1000)) (SB.not (SB.v 1001)))))
            (SB.or
              (SB.and (SB.eq (SI.v 1000) (SI.c (Int.ofNat 1)))
                (SB.and (SB.eq (SI.v 1001) (SI.c (Int.negSucc 0))) (SB.and (SB.not (SB.v 1000)) (SB.not (SB.v 1001)))))
              (SB.or
                (SB.and (SB.eq (SI.v 1000) (SI.c (Int.ofNat 2)))
                  (SB.and (SB.le (SI.c (Int.ofNat 0)) (SI.v 1001)) (SB.le (SI.v 1001) (SI.c (Int.ofNat 7)))))
                (SB.or
                  (SB.and (SB.eq (SI.v 1000) (SI.c (Int.ofNat 3)))
                    (SB.and (SB.eq (SI.v 1001) (SI.c (Int.negSucc 0))) (SB.not (SB.v 1000))))
                  (SB.or
                    (SB.and (SB.eq (SI.v 1000) (SI.c (Int.ofNat 4)))
                      (SB.and (SB.eq (SI.v 1001) (SI.c (Int.negSucc 0)))
                        (SB.and (SB.not (SB.v 1000)) (SB.not (SB.v 1001)))))
                    (SB.and (SB.eq (SI.v 1000) (SI.c (Int.ofNat 5)))
                      (SB.and (SB.eq (SI.v 1001) (SI.c (Int.negSucc 0)))
                        (SB.and (SB.not (SB.v 1000)) (SB.not (SB.v 1001))))))))),
          SB.not (SB.eq (SI.v 1000) (SI.c (Int.ofNat 5))),
          SB.not
            (SB.eq (SI.add (SI.rem (SI.sel (SL.v 9) (SI.v 0) 0) (SI.c (Int.ofNat 8))) (SI.c (Int.ofNat 1)))
              (SI.c (Int.ofNat 7))),
          SB.not
            (SB.eq (SI.add (SI.rem (SI.sel (SL.v 9) (SI.v 0) 0) (SI.c (Int.ofNat 8))) (SI.c (Int.ofNat 1)))
              (SI.c (Int.ofNat 6))),
          SB.or (SB.v 1) (SB.not (SB.v 1)), SB.le (SI.c (Int.ofNat 0)) (SI.sel (SL.v 9) (SI.v 0) 0),
          SB.le (SI.sel (SL.v 9) (SI.v 0) 0) (SI.c (Int.ofNat 255)), SB.lt (SI.v 0) (SI.c (Int.ofNat 200)),
          SB.lt (SI.v 0) (SI.len (SL.v 9)), SB.le (SI.c (Int.ofNat 0)) (SI.v 0), SB.le (SI.v 0) (SI.c (Int.ofNat 200)),
          SB.le (SI.c (Int.negSucc 1073741823)) (SI.v 3), SB.le (SI.v 3) (SI.c (Int.ofNat 1073741824)), SB.c true,
          SB.or
            (SB.and (SB.eq (SI.v 1) (SI.c (Int.ofNat 0)))
              (SB.and (SB.eq (SI.v 2) (SI.c (Int.negSucc 0))) (SB.and (SB.not (SB.v 0)) (SB.not (SB.v 1)))))
            (SB.or
              (SB.and (SB.eq (SI.v 1) (SI.c (Int.ofNat 1)))
                (SB.and (SB.eq (SI.v 2) (SI.c (Int.negSucc 0))) (SB.and (SB.not (SB.v 0)) (SB.not (SB.v 1)))))
              (SB.or
                (SB.and (SB.eq (SI.v 1) (SI.c (Int.ofNat 2)))
                  (SB.and (SB.le (SI.c (Int.ofNat 0)) (SI.v 2)) (SB.le (SI.v 2) (SI.c (Int.ofNat 7)))))
                (SB.or
                  (SB.and (SB.eq (SI.v 1) (SI.c (Int.ofNat 3)))
                    (SB.and (SB.eq (SI.v 2) (SI.c (Int.negSucc 0))) (SB.not (SB.v 0))))
                  (SB.or
                    (SB.and (SB.eq (SI.v 1) (SI.c (Int.ofNat 4)))
                      (SB.and (SB.eq (SI.v 2) (SI.c (Int.negSucc 0))) (SB.and (SB.not (SB.v 0)) (SB.not (SB.v 1)))))
                    (SB.and (SB.eq (SI.v 1) (SI.c (Int.ofNat 5)))
                      (SB.and (SB.eq (SI.v 2) (SI.c (Int.negSucc 0)))
                        (SB.and (SB.not (SB.v 0)) (SB.not (SB.v 1))))))))),
          SB.or (SB.and (SB.v 2) (SB.or (SB.v 1) (SB.eq (SI.v 1) (SI.c (Int.ofNat 4)))))
            (SB.and (SB.not (SB.v 2)) (SB.not (SB.or (SB.v 1) (SB.eq (SI.v 1) (SI.c (Int.ofNat 4))))))],
      eqs := [Eqn.T (SB.app 199 SA.nil)] },
    {
      pc :=
        [SB.not (SB.eq (SI.v 1000) (SI.c (Int.ofNat 4))), SB.not (SB.v 1001),
          SB.not (SB.eq (SI.v 1000) (SI.c (Int.ofNat 2))), SB.not (SB.eq (SI.v 1) (SI.c (Int.ofNat 2))), SB.v 2,
          SB.or (SB.eq (SI.v 1) (SI.c (Int.ofNat 2))) (SB.not (SB.eq (SI.v 1000) (SI.c (Int.ofNat 2)))),
          SB.not (SB.eq (SI.v 1000) (SI.c (Int.ofNat 1))), SB.or (SB.v 1001) (SB.eq (SI.v 1000) (SI.c (Int.ofNat 4))),
          SB.or (SB.v 1) (SB.eq (SI.v 1) (SI.c (Int.ofNat 4))),
          SB.or
            (SB.and (SB.eq (SI.v 1000) (SI.c (Int.ofNat 0)))
              (SB.and (SB.eq (SI.v 1001) (SI.c (Int.negSucc 0))) (SB.and (SB.not (SB.v 1000)) (SB.not (SB.v 1001)))))
            (SB.or
              (SB.and (SB.eq (SI.v 1000) (SI.c (Int.ofNat 1)))
                (SB.and (SB.eq (SI.v 1001) (SI.c (Int.negSucc 0))) (SB.and (SB.not (SB.v 1000)) (SB.not (SB.v 1001)))))
              (SB.or
                (SB.and (SB.eq (SI.v 1000) (SI.c (Int.ofNat 2)))
                  (SB.and (SB.le (SI.c (Int.ofNat 0)) (SI.v 1001)) (SB.le (SI.v 1001) (SI.c (Int.ofNat 7)))))
                (SB.or
                  (SB.and (SB.eq (SI.v 1000) (SI.c (Int.ofNat 3)))
                    (SB.and (SB.eq (SI.v 1001) (SI.c (Int.negSucc 0))) (SB.not (SB.v 1000))))
                  (SB.or
                    (SB.and (SB.eq (SI.v 1000) (SI.c (Int.ofNat 4)))
                      (SB.and (SB.eq (SI.v 1001) (SI.c (Int.negSucc 0)))
                        (SB.and (SB.not (SB.v 1000)) (SB.not (SB.v 1001)))))
                    (SB.and (SB.eq (SI.v 1000) (SI.c (Int.ofNat 5)))
                      (SB.and (SB.eq (SI.v 1001) (SI.c (Int.negSucc 0)))
                        (SB.and (SB.not (SB.v 1000)) (SB.not (SB.v 1001))))))))),
          SB.not (SB.eq (SI.v 1000) (SI.c (Int.ofNat 5))),
          SB.not
            (SB.eq (SI.add (SI.rem (SI.sel (SL.v 9) (SI.v 0) 0) (SI.c (Int.ofNat 8))) (SI.c (Int.ofNat 1)))
              (SI.c (Int.ofNat 7))),
          SB.not
            (SB.eq (SI.add (SI.rem (SI.sel (SL.v 9) (SI.v 0) 0) (SI.c (Int.ofNat 8))) (SI.c (Int.ofNat 1)))
              (SI.c (Int.ofNat 6))),
          SB.or (SB.v 1) (SB.not (SB.v 1)), SB.le (SI.c (Int.ofNat 0)) (SI.sel (SL.v 9) (SI.v 0) 0),
          SB.le (SI.sel (SL.v 9) (SI.v 0) 0) (SI.c (Int.ofNat 255)), SB.lt (SI.v 0) (SI.c (Int.ofNat 200)),
          SB.lt (SI.v 0) (SI.len (SL.v 9)), SB.le (SI.c (Int.ofNat 0)) (SI.v 0), SB.le (SI.v 0) (SI.c (Int.ofNat 200)),
          SB.le (SI.c (Int.negSucc 1073741823)) (SI.v 3), SB.le (SI.v 3) (SI.c (Int.ofNat 1073741824)), SB.c true,
          SB.or
            (SB.and (SB.eq (SI.v 1) (SI.c (Int.ofNat 0)))
              (SB.and (SB.eq (SI.v 2) (SI.c (Int.negSucc 0))) (SB.and (SB.not (SB.v 0)) (SB.not (SB.v 1)))))
            (SB.or
              (SB.and (SB.eq (SI.v 1) (SI.c (Int.ofNat 1)))
                (SB.and (SB.eq (SI.v 2) (SI.c (Int.negSucc 0))) (SB.and (SB.not (SB.v 0)) (SB.not (SB.v 1)))))
              (SB.or
                (SB.and (SB.eq (SI.v 1) (SI.c (Int.ofNat 2)))
                  (SB.and (SB.le (SI.c (Int.ofNat 0)) (SI.v 2)) (SB.le (SI.v 2) (SI.c (Int.ofNat 7)))))
                (SB.or
                  (SB.and (SB.eq (SI.v 1) (SI.c (Int.ofNat 3)))
                    (SB.and (SB.eq (SI.v 2) (SI.c (Int.negSucc 0))) (SB.not (SB.v 0))))
                  (SB.or
                    (SB.and (SB.eq (SI.v 1) (SI.c (Int.ofNat 4)))
                      (SB.and (SB.eq (SI.v 2) (SI.c (Int.negSucc 0))) (SB.and (SB.not (SB.v 0)) (SB.not (SB.v 1)))))
                    (SB.and (SB.eq (SI.v 1) (SI.c (Int.ofNat 5)))
                      (SB.and (SB.eq (SI.v 2) (SI.c (Int.negSucc 0)))
                        (SB.and (SB.not (SB.v 0)) (SB.not (SB.v 1))))))))),
          SB.or (SB.and (SB.v 2) (SB.or (SB.v 1) (SB.eq (SI.v 1) (SI.c (Int.ofNat 4)))))
            (SB.and (SB.not (SB.v 2)) (SB.not (SB.or (SB.v 1) (SB.eq (SI.v 1) (SI.c (Int.ofNat 4))))))],
      eqs := [Eqn.T (SB.app 199 SA.nil)] },
    {
      pc :=
        [SB.v 1001, SB.not (SB.v 2),
          SB.or (SB.eq (SI.v 1) (SI.c (Int.ofNat 2))) (SB.not (SB.eq (SI.v 1000) (SI.c (Int.ofNat 2)))),
          SB.not (SB.eq (SI.v 1000) (SI.c (Int.ofNat 1))), SB.or (SB.v 1001) (SB.eq (SI.v 1000) (SI.c (Int.ofNat 4))),
          SB.or (SB.v 1) (SB.eq (SI.v 1) (SI.c (Int.ofNat 4))),
          SB.or
            (SB.and (SB.eq (SI.v 1000) (SI.c (Int.ofNat 0)))
              (SB.and (SB.eq (SI.v 1001) (SI.c (Int.negSucc 0))) (SB.and (SB.not (SB.v 1000)) (SB.not (SB.v 1001)))))
            (SB.or
              (SB.and (SB.eq (SI.v 1000) (SI.c (Int.ofNat 1)))
                (SB.and (SB.eq (SI.v 1001) (SI.c (Int.negSucc 0))) (SB.and (SB.not (SB.v 1000)) (SB.not (SB.v 1001)))))
              (SB.or
                (SB.and (SB.eq (SI.v 1000) (SI.c (Int.ofNat 2)))
                  (SB.and (SB.le (SI.c (Int.ofNat 0)) (SI.v 1001)) (SB.le (SI.v 1001) (SI.c (Int.ofNat 7)))))
                (SB.or
                  (SB.and (SB.eq (SI.v 1000) (SI.c (Int.ofNat 3)))
                    (SB.and (SB.eq (SI.v 1001) (SI.c (Int.negSucc 0))) (SB.not (SB.v 1000))))
                  (SB.or
                    (SB.and (SB.eq (SI.v 1000) (SI.c (Int.ofNat 4)))
                      (SB.and (SB.eq (SI.v 1001) (SI.c (Int.negSucc 0)))
                        (SB.and (SB.not (SB.v 1000)) (SB.not (SB.v 1001)))))
                    (SB.and (SB.eq (SI.v 1000) (SI.c (Int.ofNat 5)))
                      (SB.and (SB.eq (SI.v 1001) (SI.c (Int.negSucc 0)))
                        (SB.and (SB.not (SB.v 1000)) (SB.not (SB.v 1001))))))))),
          SB.not (SB.eq (SI.v 1000) (SI.c (Int.ofNat 5))),
          SB.not
            (SB.eq (SI.add (SI.rem (SI.sel (SL.v 9) (SI.v 0) 0) (SI.c (Int.ofNat 8))) (SI.c (Int.ofNat 1)))
              (SI.c (Int.ofNat 7))),
          SB.not
            (SB.eq (SI.add (SI.rem (SI.sel (SL.v 9) (SI.v 0) 0) (SI.c (Int.ofNat 8))) (SI.c (Int.ofNat 1)))
              (SI.c (Int.ofNat 6))),
          SB.or (SB.v 1) (SB.not (SB.v 1)), SB.le (SI.c (Int.ofNat 0)) (SI.sel (SL.v 9) (SI.v 0) 0),
          SB.le (SI.sel (SL.v 9) (SI.v 0) 0) (SI.c (Int.ofNat 255)), SB.lt (SI.v 0) (SI.c (Int.ofNat 200)),
          SB.lt (SI.v 0) (SI.len (SL.v 9)), SB.le (SI.c (Int.ofNat 0)) (SI.v 0), SB.le (SI.v 0) (SI.c (Int.ofNat 200)),
          SB.le (SI.c (Int.negSucc 1073741823)) (SI.v 3), SB.le (SI.v 3) (SI.c (Int.ofNat 1073741824)), SB.c true,
          SB.or
            (SB.and (SB.eq (SI.v 1) (SI.c (Int.ofNat 0)))
              (SB.and (SB.eq (SI.v 2) (SI.c (Int.negSucc 0))) (SB.and (SB.not (SB.v 0)) (SB.not (SB.v 1)))))
            (SB.or
              (SB.and (SB.eq (SI.v 1) (SI.c (Int.ofNat 1)))
                (SB.and (SB.eq (SI.v 2) (SI.c (Int.negSucc 0))) (SB.and (SB.not (SB.v 0)) (SB.not (SB.v 1)))))
              (SB.or
                (SB.and (SB.eq (SI.v 1) (SI.c (Int.ofNat 2)))
                  (SB.and (SB.le (SI.c (Int.ofNat 0)) (SI.v 2)) (SB.le (SI.v 2) (SI.c (Int.ofNat 7)))))
                (SB.or
                  (SB.and (SB.eq (SI.v 1) (SI.c (Int.ofNat 3)))
                    (SB.and (SB.eq (SI.v 2) (SI.c (Int.negSucc 0))) (SB.not (SB.v 0))))
                  (SB.or
                    (SB.and (SB.eq (SI.v 1) (SI.c (Int.ofNat 4)))
                      (SB.and (SB.eq (SI.v 2) (SI.c (Int.negSucc 0))) (SB.and (SB.not (SB.v 0)) (SB.not (SB.v 1)))))
                    (SB.and (SB.eq (SI.v 1) (SI.c (Int.ofNat 5)))
                      (SB.and (SB.eq (SI.v 2) (SI.c (Int.negSucc 0)))
                        (SB.and (SB.not (SB.v 0)) (SB.not (SB.v 1))))))))),
          SB.or (SB.and (SB.v 2) (SB.or (SB.v 1) (SB.eq (SI.v 1) (SI.c (Int.ofNat 4)))))
            (SB.and (SB.not (SB.v 2)) (SB.not (SB.or (SB.v 1) (SB.eq (SI.v 1) (SI.c (Int.ofNat 4))))))],
      eqs := [Eqn.T (SB.app 199 SA.nil)] },
    {
      pc :=
        [SB.eq (SI.v 1000) (SI.c (Int.ofNat 4)), SB.not (SB.v 1001), SB.not (SB.v 2),
          SB.or (SB.eq (SI.v 1) (SI.c (Int.ofNat 2))) (SB.not (SB.eq (SI.v 1000) (SI.c (Int.ofNat 2)))),
          SB.not (SB.eq (SI.v 1000) (SI.c (Int.ofNat 1))), SB.or (SB.v 1001) (SB.eq (SI.v 1000) (SI.c (Int.ofNat 4))),
          SB.or (SB.v 1) (SB.eq (SI.v 1) (SI.c (Int.ofNat 4))),
          SB.or
            (SB.and (SB.eq (SI.v 1000) (SI.c (Int.ofNat 0)))
              (SB.and (SB.eq (SI.v 1001) (SI.c (Int.negSucc 0))) (SB.and (SB.not (SB.v 1000)) (SB.not (SB.v 1001)))))
            (SB.or
              (SB.and (SB.eq (SI.v 1000) (SI.c (Int.ofNat 1)))
                (SB.and (SB.eq (SI.v 1001) (SI.c (Int.negSucc 0))) (SB.and (SB.not (SB.v 1000)) (SB.not (SB.v 1001)))))
              (SB.or
                (SB.and (SB.eq (SI.v 1000) (SI.c (Int.ofNat 2)))
                  (SB.and (SB.le (SI.c (Int.ofNat 0)) (SI.v 1001)) (SB.le (SI.v 1001) (SI.c (Int.ofNat 7)))))
                (SB.or
                  (SB.and (SB.eq (SI.v 1000) (SI.c (Int.ofNat 3)))
                    (SB.and (SB.eq (SI.v 1001) (SI.c (Int.negSucc 0))) (SB.not (SB.v 1000))))
                  (SB.or
                    (SB.and (SB.eq (SI.v 1000) (SI.c (Int.ofNat 4)))
                      (SB.and (SB.eq (SI.v 1001) (SI.c (Int.negSucc 0)))
                        (SB.and (SB.not (SB.v 1000)) (SB.not (SB.v 1001)))))
                    (SB.and (SB.eq (SI.v 1000) (SI.c (Int.ofNat 5)))
                      (SB.and (SB.eq (SI.v 1001) (SI.c (Int.negSucc 0)))
                        (SB.and (SB.not (SB.v 1000)) (SB.not (SB.v 1001))))))))),
          SB.not (SB.eq (SI.v 1000) (SI.c (Int.ofNat 5))),
          SB.not
            (SB.eq (SI.add (SI.rem (SI.sel (SL.v 9) (SI.v 0) 0) (SI.c (Int.ofNat 8))) (SI.c (Int.ofNat 1)))
              (SI.c (Int.ofNat 7))),
          SB.not
            (SB.eq (SI.add (SI.rem (SI.sel (SL.v 9) (SI.v 0) 0) (SI.c (Int.ofNat 8))) (SI.c (Int.ofNat 1)))
              (SI.c (Int.ofNat 6))),
          SB.or (SB.v 1) (SB.not (SB.v 1)), SB.le (SI.c (Int.ofNat 0)) (SI.sel (SL.v 9) (SI.v 0) 0),
          SB.le (SI.sel (SL.v 9) (SI.v 0) 0) (SI.c (Int.ofNat 255)), SB.lt (SI.v 0) (SI.c (Int.ofNat 200)),
          SB.lt (SI.v 0) (SI.len (SL.v 9)), SB.le (SI.c (Int.ofNat 0)) (SI.v 0), SB.le (SI.v 0) (SI.c (Int.ofNat 200)),
          SB.le (SI.c (Int.negSucc 1073741823)) (SI.v 3), SB.le (SI.v 3) (SI.c (Int.ofNat 1073741824)), SB.c true,
          SB.or
            (SB.and (SB.eq (SI.v 1) (SI.c (Int.ofNat 0)))
              (SB.and (SB.eq (SI.v 2) (SI.c (Int.negSucc 0))) (SB.and (SB.not (SB.v 0)) (SB.not (SB.v 1)))))
            (SB.or
              (SB.and (SB.eq (SI.v 1) (SI.c (Int.ofNat 1)))
                (SB.and (SB.eq (SI.v 2) (SI.c (Int.negSucc 0))) (SB.and (SB.not (SB.v 0)) (SB.not (SB.v 1)))))
              (SB.or
                (SB.and (SB.eq (SI.v 1) (SI.c (Int.ofNat 2)))
                  (SB.and (SB.le (SI.c (Int.ofNat 0)) (SI.v 2)) (SB.le (SI.v 2) (SI.c (Int.ofNat 7)))))
                (SB.or
                  (SB.and (SB.eq (SI.v 1) (SI.c (Int.ofNat 3)))
                    (SB.and (SB.eq (SI.v 2) (SI.c (Int.negSucc 0))) (SB.not (SB.v 0))))
                  (SB.or
                    (SB.and (SB.eq (SI.v 1) (SI.c (Int.ofNat 4)))
                      (SB.and (SB.eq (SI.v 2) (SI.c (Int.negSucc 0))) (SB.and (SB.not (SB.v 0)) (SB.not (SB.v 1)))))
                    (SB.and (SB.eq (SI.v 1) (SI.c (Int.ofNat 5)))
                      (SB.and (SB.eq (SI.v 2) (SI.c (Int.negSucc 0)))
                        (SB.and (SB.not (SB.v 0)) (SB.not (SB.v 1))))))))),
          SB.or (SB.and (SB.v 2) (SB.or (SB.v 1) (SB.eq (SI.v 1) (SI.c (Int.ofNat 4)))))
            (SB.and (SB.not (SB.v 2)) (SB.not (SB.or (SB.v 1) (SB.eq (SI.v 1) (SI.c (Int.ofNat 4))))))],
      eqs := [Eqn.T (SB.app 199 SA.nil)] },
    {
      pc :=
        [SB.eq (SI.v 1000) (SI.c (Int.ofNat 1)), SB.v 2, SB.not (SB.eq (SI.v 1000) (SI.c (Int.ofNat 4))),
          SB.not (SB.v 1001), SB.not (SB.eq (SI.v 1) (SI.c (Int.ofNat 4))), SB.not (SB.v 1),
          SB.or
            (SB.and (SB.eq (SI.v 1000) (SI.c (Int.ofNat 0)))
              (SB.and (SB.eq (SI.v 1001) (SI.c (Int.negSucc 0))) (SB.and (SB.not (SB.v 1000)) (SB.not (SB.v 1001)))))
            (SB.or
              (SB.and (SB.eq (SI.v 1000) (SI.c (Int.ofNat 1)))
                (SB.and (SB.eq (SI.v 1001) (SI.c (Int.negSucc 0))) (SB.and (SB.not (SB.v 1000)) (SB.not (SB.v 1001)))))
              (SB.or
                (SB.and (SB.eq (SI.v 1000) (SI.c (Int.ofNat 2)))
                  (SB.and (SB.le (SI.c (Int.ofNat 0)) (SI.v 1001)) (SB.le (SI.v 1001) (SI.c (Int.ofNat 7)))))
                (SB.or
                  (SB.and (SB.eq (SI.v 1000) (SI.c (Int.ofNat 3)))
                    (SB.and (SB.eq (SI.v 1001) (SI.c (Int.negSucc 0))) (SB.not (SB.v 1000))))
                  (SB.or
                    (SB.and (SB.eq (SI.v 1000) (SI.c (Int.ofNat 4)))
                      (SB.and (SB.eq (SI.v 1001) (SI.c (Int.negSucc 0)))
                        (SB.and (SB.not (SB.v 1000)) (SB.not (SB.v 1001)))))
                    (SB.and (SB.eq (SI.v 1000) (SI.c (Int.ofNat 5)))
                      (SB.and (SB.eq (SI.v 1001) (SI.c (Int.negSucc 0)))
                        (SB.and (SB.not (SB.v 1000)) (SB.not (SB.v 1001))))))))),
          SB.not (SB.eq (SI.v 1000) (SI.c (Int.ofNat 5))),
          SB.not
            (SB.eq (SI.add (SI.rem (SI.sel (SL.v 9) (SI.v 0) 0) (SI.c (Int.ofNat 8))) (SI.c (Int.ofNat 1)))
              (SI.c (Int.ofNat 7))),
          SB.not
            (SB.eq (SI.add (SI.rem (SI.sel (SL.v 9) (SI.v 0) 0) (SI.c (Int.ofNat 8))) (SI.c (Int.ofNat 1)))
              (SI.c (Int.ofNat 6))),
          SB.or (SB.v 1) (SB.not (SB.v 1)), SB.le (SI.c (Int.ofNat 0)) (SI.sel (SL.v 9) (SI.v 0) 0),
          SB.le (SI.sel (SL.v 9) (SI.v 0) 0) (SI.c (Int.ofNat 255)), SB.lt (SI.v 0) (SI.c (Int.ofNat 200)),
          SB.lt (SI.v 0) (SI.len (SL.v 9)), SB.le (SI.c (Int.ofNat 0)) (SI.v 0), SB.le (SI.v 0) (SI.c (Int.ofNat 200)),
          SB.le (SI.c (Int.negSucc 1073741823)) (SI.v 3), SB.le (SI.v 3) (SI.c (Int.ofNat 1073741824)), SB.c true,
          SB.or
            (SB.and (SB.eq (SI.v 1) (SI.c (Int.ofNat 0)))
              (SB.and (SB.eq (SI.v 2) (SI.c (Int.negSucc 0))) (SB.and (SB.not (SB.v 0)) (SB.not (SB.v 1)))))
            (SB.or
              (SB.and (SB.eq (SI.v 1) (SI.c (Int.ofNat 1)))
                (SB.and (SB.eq (SI.v 2) (SI.c (Int.negSucc 0))) (SB.and (SB.not (SB.v 0)) (SB.not (SB.v 1)))))
              (SB.or
                (SB.and (SB.eq (SI.v 1) (SI.c (Int.ofNat 2)))
                  (SB.and (SB.le (SI.c (Int.ofNat 0)) (SI.v 2)) (SB.le (SI.v 2) (SI.c (Int.ofNat 7)))))
                (SB.or
                  (SB.and (SB.eq (SI.v 1) (SI.c (Int.ofNat 3)))
                    (SB.and (SB.eq (SI.v 2) (SI.c (Int.negSucc 0))) (SB.not (SB.v 0))))
                  (SB.or
                    (SB.and (SB.eq (SI.v 1) (SI.c (Int.ofNat 4)))
                      (SB.and (SB.eq (SI.v 2) (SI.c (Int.negSucc 0))) (SB.and (SB.not (SB.v 0)) (SB.not (SB.v 1)))))
                    (SB.and (SB.eq (SI.v 1) (SI.c (Int.ofNat 5)))
                      (SB.and (SB.eq (SI.v 2) (SI.c (Int.negSucc 0)))
                        (SB.and (SB.not (SB.v 0)) (SB.not (SB.v 1))))))))),
          SB.or (SB.and (SB.v 2) (SB.or (SB.v 1) (SB.eq (SI.v 1) (SI.c (Int.ofNat 4)))))
            (SB.and (SB.not (SB.v 2)) (SB.not (SB.or (SB.v 1) (SB.eq (SI.v 1) (SI.c (Int.ofNat 4))))))],
      eqs := [Eqn.T (SB.app 199 SA.nil)] },
    {
      pc :=
        [SB.eq (SI.v 1) (SI.c (Int.ofNat 2)), SB.not (SB.eq (SI.v 1000) (SI.c (Int.ofNat 1))), SB.v 2,
          SB.not (SB.eq (SI.v 1000) (SI.c (Int.ofNat 4))), SB.not (SB.v 1001),
          SB.not (SB.eq (SI.v 1) (SI.c (Int.ofNat 4))), SB.not (SB.v 1),
          SB.or
            (SB.and (SB.eq (SI.v 1000) (SI.c (Int.ofNat 0)))
              (SB.and (SB.eq (SI.v 1001) (SI.c (Int.negSucc 0))) (SB.and (SB.not (SB.v 1000)) (SB.not (SB.v 1001)))))
            (SB.or
              (SB.and (SB.eq (SI.v 1000) (SI.c (Int.ofNat 1)))
                (SB.and (SB.eq (SI.v 1001) (SI.c (Int.negSucc 0))) (SB.and (SB.not (SB.v 1000)) (SB.not (SB.v 1001)))))
              (SB.or
                (SB.and (SB.eq (SI.v 1000) (SI.c (Int.ofNat 2)))
                  (SB.and (SB.le (SI.c (Int.ofNat 0)) (SI.v 1001)) (SB.le (SI.v 1001) (SI.c (Int.ofNat 7)))))
                (SB.or
                  (SB.and (SB.eq (SI.v 1000) (SI.c (Int.ofNat 3)))
                    (SB.and (SB.eq (SI.v 1001) (SI.c (Int.negSucc 0))) (SB.not (SB.v 1000))))
                  (SB.or
                    (SB.and (SB.eq (SI.v 1000) (SI.c (Int.ofNat 4)))
                      (SB.and (SB.eq (SI.v 1001) (SI.c (Int.negSucc 0)))
                        (SB.and (SB.not (SB.v 1000)) (SB.not (SB.v 1001)))))
                    (SB.and (SB.eq (SI.v 1000) (SI.c (Int.ofNat 5)))
                      (SB.and (SB.eq (SI.v 1001) (SI.c (Int.negSucc 0)))
                        (SB.and (SB.not (SB.v 1000)) (SB.not (SB.v 1001))))))))),
          SB.not (SB.eq (SI.v 1000) (SI.c (Int.ofNat 5))),
          SB.not
            (SB.eq (SI.add (SI.rem (SI.sel (SL.v 9) (SI.v 0) 0) (SI.c (Int.ofNat 8))) (SI.c (Int.ofNat 1)))
              (SI.c (Int.ofNat 7))),
          SB.not
            (SB.eq (SI.add (SI.rem (SI.sel (SL.v 9) (SI.v 0) 0) (SI.c (Int.ofNat 8))) (SI.c (Int.ofNat 1)))
              (SI.c (Int.ofNat 6))),
          SB.or (SB.v 1) (SB.not (SB.v 1)), SB.le (SI.c (Int.ofNat 0)) (SI.sel (SL.v 9) (SI.v 0) 0),
          SB.le (SI.sel (SL.v 9) (SI.v 0) 0) (SI.c (Int.ofNat 255)), SB.lt (SI.v 0) (SI.c (Int.ofNat 200)),
          SB.lt (SI.v 0) (SI.len (SL.v 9)), SB.le (SI.c (Int.ofNat 0)) (SI.v 0), SB.le (SI.v 0) (SI.c (Int.ofNat 200)),
          SB.le (SI.c (Int.negSucc 1073741823)) (SI.v 3), SB.le (SI.v 3) (SI.c (Int.ofNat 1073741824)), SB.c true,
          SB.or
            (SB.and (SB.eq (SI.v 1) (SI.c (Int.ofNat 0)))
              (SB.and (SB.eq (SI.v 2) (SI.c (Int.negSucc 0))) (SB.and (SB.not (SB.v 0)) (SB.not (SB.v 1)))))
            (SB.or
              (SB.and (SB.eq (SI.v 1) (SI.c (Int.ofNat 1)))
                (SB.and (SB.eq (SI.v 2) (SI.c (Int.negSucc 0))) (SB.and (SB.not (SB.v 0)) (SB.not (SB.v 1)))))
              (SB.or
                (SB.and (SB.eq (SI.v 1) (SI.c (Int.ofNat 2)))
                  (SB.and (SB.le (SI.c (Int.ofNat 0)) (SI.v 2)) (SB.le (SI.v 2) (SI.c (Int.ofNat 7)))))
                (SB.or
                  (SB.and (SB.eq (SI.v 1) (SI.c (Int.ofNat 3)))
                    (SB.and (SB.eq (SI.v 2) (SI.c (Int.negSucc 0))) (SB.not (SB.v 0))))
                  (SB.or
                    (SB.and (SB.eq (SI.v 1) (SI.c (Int.ofNat 4)))
                      (SB.and (SB.eq (SI.v 2) (SI.c (Int.negSucc 0))) (SB.and (SB.not (SB.v 0)) (SB.not (SB.v 1)))))
                    (SB.and (SB.eq (SI.v 1) (SI.c (Int.ofNat 5)))
                      (SB.and (SB.eq (SI.v 2) (SI.c (Int.negSucc 0)))
                        (SB.and (SB.not (SB.v 0)) (SB.not (SB.v 1))))))))),
          SB.or (SB.and (SB.v 2) (SB.or (SB.v 1) (SB.eq (SI.v 1) (SI.c (Int.ofNat 4)))))
            (SB.and (SB.not (SB.v 2)) (SB.not (SB.or (SB.v 1) (SB.eq (SI.v 1) (SI.c (Int.ofNat 4))))))],
      eqs := [Eqn.T (SB.app 199 SA.nil)] },
    {
      pc :=
        [SB.eq (SI.v 1000) (SI.c (Int.ofNat 2)), SB.not (SB.eq (SI.v 1) (SI.c (Int.ofNat 2))),
          SB.not (SB.eq (SI.v 1000) (SI.c (Int.ofNat 1))), SB.v 2, SB.not (SB.eq (SI.v 1000) (SI.c (Int.ofNat 4))),
          SB.not (SB.v 1001), SB.not (SB.eq (SI.v 1) (SI.c (Int.ofNat 4))), SB.not (SB.v 1),
          SB.or
            (SB.and (SB.eq (SI.v 1000) (SI.c (Int.ofNat 0)))
              (SB.and (SB.eq (SI.v 1001) (SI.c (Int.negSucc 0))) (SB.and (SB.not (SB.v 1000)) (SB.not (SB.v 1001)))))
            (SB.or
              (SB.and (SB.eq (SI.v 1000) (SI.c (Int.ofNat 1)))
                (SB.and (SB.eq (SI.v 1001) (SI.c (Int.negSucc 0))) (SB.and (SB.not (SB.v 1000)) (SB.not (SB.v 1001)))))
              (SB.or
                (SB.and (SB.eq (SI.v 1000) (SI.c (Int.ofNat 2)))
                  (SB.and (SB.le (SI.c (Int.ofNat 0)) (SI.v 1001)) (SB.le (SI.v 1001) (SI.c (Int.ofNat 7)))))
                (SB.or
                  (SB.and (SB.eq (SI.v 1000) (SI.c (Int.ofNat 3)))
                    (SB.and (SB.eq (SI.v 1001) (SI.c (Int.negSucc 0))) (SB.not (SB.v 1000))))
                  (SB.or
                    (SB.and (SB.eq (SI.v 1000) (SI.c (Int.ofNat 4)))
                      (SB.and (SB.eq (SI.v 1001) (SI.c (Int.negSucc 0)))
                        (SB.and (SB.not (SB.v 1000)) (SB.not (SB.v 1001)))))
                    (SB.and (SB.eq (SI.v 1000) (SI.c (Int.ofNat 5)))
                      (SB.and (SB.eq (SI.v 1001) (SI.c (Int.negSucc 0)))
                        (SB.and (SB.not (SB.v 1000)) (SB.not (SB.v 1001))))))))),
          SB.not (SB.eq (SI.v 1000) (SI.c (Int.ofNat 5))),
          SB.not
            (SB.eq (SI.add (SI.rem (SI.sel (SL.v 9) (SI.v 0) 0) (SI.c (Int.ofNat 8))) (SI.c (Int.ofNat 1)))
              (SI.c (Int.ofNat 7))),
          SB.not
            (SB.eq (SI.add (SI.rem (SI.sel (SL.v 9) (SI.v 0) 0) (SI.c (Int.ofNat 8))) (SI.c (Int.ofNat 1)))
              (SI.c (Int.ofNat 6))),
          SB.or (SB.v 1) (SB.not (SB.v 1)), SB.le (SI.c (Int.ofNat 0)) (SI.sel (SL.v 9) (SI.v 0) 0),
          SB.le (SI.sel (SL.v 9) (SI.v 0) 0) (SI.c (Int.ofNat 255)), SB.lt (SI.v 0) (SI.c (Int.ofNat 200)),
          SB.lt (SI.v 0) (SI.len (SL.v 9)), SB.le (SI.c (Int.ofNat 0)) (SI.v 0), SB.le (SI.v 0) (SI.c (Int.ofNat 200)),
          SB.le (SI.c (Int.negSucc 1073741823)) (SI.v 3), SB.le (SI.v 3) (SI.c (Int.ofNat 1073741824)), SB.c true,
          SB.or
            (SB.and (SB.eq (SI.v 1) (SI.c (Int.ofNat 0)))
              (SB.and (SB.eq (SI.v 2) (SI.c (Int.negSucc 0))) (SB.and (SB.not (SB.v 0)) (SB.not (SB.v 1)))))
            (SB.or
              (SB.and (SB.eq (SI.v 1) (SI.c (Int.ofNat 1)))
                (SB.and (SB.eq (SI.v 2) (SI.c (Int.negSucc 0))) (SB.and (SB.not (SB.v 0)) (SB.not (SB.v 1)))))
              (SB.or
                (SB.and (SB.eq (SI.v 1) (SI.c (Int.ofNat 2)))
                  (SB.and (SB.le (SI.c (Int.ofNat 0)) (SI.v 2)) (SB.le (SI.v 2) (SI.c (Int.ofNat 7)))))
                (SB.or
                  (SB.and (SB.eq (SI.v 1) (SI.c (Int.ofNat 3)))
                    (SB.and (SB.eq (SI.v 2) (SI.c (Int.negSucc 0))) (SB.not (SB.v 0))))
                  (SB.or
                    (SB.and (SB.eq (SI.v 1) (SI.c (Int.ofNat 4)))
                      (SB.and (SB.eq (SI.v 2) (SI.c (Int.negSucc 0))) (SB.and (SB.not (SB.v 0)) (SB.not (SB.v 1)))))
                    (SB.and (SB.eq (SI.v 1) (SI.c (Int.ofNat 5)))
                      (SB.and (SB.eq (SI.v 2) (SI.c (Int.negSucc 0)))
                        (SB.and (SB.not (SB.v 0)) (SB.not (SB.v 1))))))))),
          SB.or (SB.and (SB.v 2) (SB.or (SB.v 1) (SB.eq (SI.v 1) (SI.c (Int.ofNat 4)))))
            (SB.and (SB.not (SB.v 2)) (SB.not (SB.or (SB.v 1) (SB.eq (SI.v 1) (SI.c (Int.ofNat 4))))))],
      eqs := [Eqn.T (SB.app 199 SA.nil)] },
    {
      pc :=
        [SB.not (SB.eq (SI.v 1000) (SI.c (Int.ofNat 2))), SB.not (SB.eq (SI.v 1) (SI.c (Int.ofNat 2))),
          SB.not (SB.eq (SI.v 1000) (SI.c (Int.ofNat 1))), SB.v 2, SB.not (SB.eq (SI.v 1000) (SI.c (Int.ofNat 4))),
          SB.not (SB.v 1001), SB.not (SB.eq (SI.v 1) (SI.c (Int.ofNat 4))), SB.not (SB.v 1),
          SB.or
            (SB.and (SB.eq (SI.v 1000) (SI.c (Int.ofNat 0)))
              (SB.and (SB.eq (SI.v 1001) (SI.c (Int.negSucc 0))) (SB.and (SB.not (SB.v 1000)) (SB.not (SB.v 1001)))))
            (SB.or
              (SB.and (SB.eq (SI.v 1000) (SI.c (Int.ofNat 1)))
                (SB.and (SB.eq (SI.v 1001) (SI.c (Int.negSucc 0))) (SB.and (SB.not (SB.v 1000)) (SB.not (SB.v 1001)))))
              (SB.or
                (SB.and (SB.eq (SI.v 1000) (SI.c (Int.ofNat 2)))
                  (SB.and (SB.le (SI.c (Int.ofNat 0)) (SI.v 1001)) (SB.le (SI.v 1001) (SI.c (Int.ofNat 7)))))
                (SB.or
                  (SB.and (SB.eq (SI.v 1000) (SI.c (Int.ofNat 3)))
                    (SB.and (SB.eq (SI.v 1001) (SI.c (Int.negSucc 0))) (SB.not (SB.v 1000))))
                  (SB.or
                    (SB.and (SB.eq (SI.v 1000) (SI.c (Int.ofNat 4)))
                      (SB.and (SB.eq (SI.v 1001) (SI.c (Int.negSucc 0)))
                        (SB.and (SB.not (SB.v 1000)) (SB.not (SB.v 1001)))))
                    (SB.and (SB.eq (SI.v 1000) (SI.c (Int.ofNat 5)))
                      (SB.and (SB.eq (SI.v 1001) (SI.c (Int.negSucc 0)))
                        (SB.and (SB.not (SB.v 1000)) (SB.not (SB.v 1001))))))))),
          SB.not (SB.eq (SI.v 1000) (SI.c (Int.ofNat 5))),
          SB.not
            (SB.eq (SI.add (SI.rem (SI.sel (SL.v 9) (SI.v 0) 0) (SI.c (Int.ofNat 8))) (SI.c (Int.ofNat 1)))
              (SI.c (Int.ofNat 7))),
          SB.not
            (SB.eq (SI.add (SI.rem (SI.sel (SL.v 9) (SI.v 0) 0) (SI.c (Int.ofNat 8))) (SI.c (Int.ofNat 1)))
              (SI.c (Int.ofNat 6))),
          SB.or (SB.v 1) (SB.not (SB.v 1)), SB.le (SI.c (Int.ofNat 0)) (SI.sel (SL.v 9) (SI.v 0) 0),
          SB.le (SI.sel (SL.v 9) (SI.v 0) 0) (SI.c (Int.ofNat 255)), SB.lt (SI.v 0) (SI.c (Int.ofNat 200)),
          SB.lt (SI.v 0) (SI.len (SL.v 9)), SB.le (SI.c (Int.ofNat 0)) (SI.v 0), SB.le (SI.v 0) (SI.c (Int.ofNat 200)),
          SB.le (SI.c (Int.negSucc 1073741823)) (SI.v 3), SB.le (SI.v 3) (SI.c (Int.ofNat 1073741824)), SB.c true,
          SB.or
            (SB.and (SB.eq (SI.v 1) (SI.c (Int.ofNat 0)))
              (SB.and (SB.eq (SI.v 2) (SI.c (Int.negSucc 0))) (SB.and (SB.not (SB.v 0)) (SB.not (SB.v 1)))))
            (SB.or
              (SB.and (SB.eq (SI.v 1) (SI.c (Int.ofNat 1)))
                (SB.and (SB.eq (SI.v 2) (SI.c (Int.negSucc 0))) (SB.and (SB.not (SB.v 0)) (SB.not (SB.v 1)))))
              (SB.or
                (SB.and (SB.eq (SI.v 1) (SI.c (Int.ofNat 2)))
                  (SB.and (SB.le (SI.c (Int.ofNat 0)) (SI.v 2)) (SB.le (SI.v 2) (SI.c (Int.ofNat 7)))))
                (SB.or
                  (SB.and (SB.eq (SI.v 1) (SI.c (Int.ofNat 3)))
                    (SB.and (SB.eq (SI.v 2) (SI.c (Int.negSucc 0))) (SB.not (SB.v 0))))
                  (SB.or
                    (SB.and (SB.eq (SI.v 1) (SI.c (Int.ofNat 4)))
                      (SB.and (SB.eq (SI.v 2) (SI.c (Int.negSucc 0))) (SB.and (SB.not (SB.v 0)) (SB.not (SB.v 1)))))
                    (SB.and (SB.eq (SI.v 1) (SI.c (Int.ofNat 5)))
                      (SB.and (SB.eq (SI.v 2) (SI.c (Int.negSucc 0)))
                        (SB.and (SB.not (SB.v 0)) (SB.not (SB.v 1))))))))),
          SB.or (SB.and (SB.v 2) (SB.or (SB.v 1) (SB.eq (SI.v 1) (SI.c (Int.ofNat 4)))))
            (SB.and (SB.not (SB.v 2)) (SB.not (SB.or (SB.v 1) (SB.eq (SI.v 1) (SI.c (Int.ofNat 4))))))],
      eqs := [Eqn.T (SB.app 199 SA.nil)] },
    {
      pc :=
        [SB.or (SB.v 1) (SB.not (SB.v 1)), SB.le (SI.c (Int.ofNat 0)) (SI.sel (SL.v 9) (SI.v 0) 0),
          SB.le (SI.sel (SL.v 9) (SI.v 0) 0) (SI.c (Int.ofNat 255)), SB.lt (SI.v 0) (SI.c (Int.ofNat 200)),
          SB.lt (SI.v 0) (SI.len (SL.v 9)), SB.le (SI.c (Int.ofNat 0)) (SI.v 0), SB.le (SI.v 0) (SI.c (Int.ofNat 200)),
          SB.le (SI.c (Int.negSucc 1073741823)) (SI.v 3), SB.le (SI.v 3) (SI.c (Int.ofNat 1073741824)), SB.c true,
          SB.or
            (SB.and (SB.eq (SI.v 1) (SI.c (Int.ofNat 0)))
              (SB.and (SB.eq (SI.v 2) (SI.c (Int.negSucc 0))) (SB.and (SB.not (SB.v 0)) (SB.not (SB.v 1)))))
            (SB.or
              (SB.and (SB.eq (SI.v 1) (SI.c (Int.ofNat 1)))
                (SB.and (SB.eq (SI.v 2) (SI.c (Int.negSucc 0))) (SB.and (SB.not (SB.v 0)) (SB.not (SB.v 1)))))
              (SB.or
                (SB.and (SB.eq (SI.v 1) (SI.c (Int.ofNat 2)))
                  (SB.and (SB.le (SI.c (Int.ofNat 0)) (SI.v 2)) (SB.le (SI.v 2) (SI.c (Int.ofNat 7)))))
                (SB.or
                  (SB.and (SB.eq (SI.v 1) (SI.c (Int.ofNat 3)))
                    (SB.and (SB.eq (SI.v 2) (SI.c (Int.negSucc 0))) (SB.not (SB.v 0))))
                  (SB.or
                    (SB.and (SB.eq (SI.v 1) (SI.c (Int.ofNat 4)))
                      (SB.and (SB.eq (SI.v 2) (SI.c (Int.negSucc 0))) (SB.and (SB.not (SB.v 0)) (SB.not (SB.v 1)))))
                    (SB.and (SB.eq (SI.v 1) (SI.c (Int.ofNat 5)))
                      (SB.and (SB.eq (SI.v 2) (SI.c (Int.negSucc 0)))
                        (SB.and (SB.not (SB.v 0)) (SB.not (SB.v 1))))))))),
          SB.or (SB.and (SB.v 2) (SB.or (SB.v 1) (SB.eq (SI.v 1) (SI.c (Int.ofNat 4)))))
            (SB.and (SB.not (SB.v 2)) (SB.not (SB.or (SB.v 1) (SB.eq (SI.v 1) (SI.c (Int.ofNat 4))))))],
      eqs :=
        [Eqn.T
            (SB.lt (SI.sub (SI.c (Int.ofNat 201)) (SI.add (SI.v 0) (SI.c (Int.ofNat 1))))
              (SI.sub (SI.c (Int.ofNat 201)) (SI.v 0)))] },
    {
      pc :=
        [SB.not (SB.or (SB.v 1) (SB.not (SB.v 1))), SB.le (SI.c (Int.ofNat 0)) (SI.sel (SL.v 9) (SI.v 0) 0),
          SB.le (SI.sel (SL.v 9) (SI.v 0) 0) (SI.c (Int.ofNat 255)), SB.lt (SI.v 0) (SI.c (Int.ofNat 200)),
          SB.lt (SI.v 0) (SI.len (SL.v 9)), SB.le (SI.c (Int.ofNat 0)) (SI.v 0), SB.le (SI.v 0) (SI.c (Int.ofNat 200)),
          SB.le (SI.c (Int.negSucc 1073741823)) (SI.v 3), SB.le (SI.v 3) (SI.c (Int.ofNat 1073741824)), SB.c true,
          SB.or
            (SB.and (SB.eq (SI.v 1) (SI.c (Int.ofNat 0)))
              (SB.and (SB.eq (SI.v 2) (SI.c (Int.negSucc 0))) (SB.and (SB.not (SB.v 0)) (SB.not (SB.v 1)))))
            (SB.or
              (SB.and (SB.eq (SI.v 1) (SI.c (Int.ofNat 1)))
                (SB.and (SB.eq (SI.v 2) (SI.c (Int.negSucc 0))) (SB.and (SB.not (SB.v 0)) (SB.not (SB.v 1)))))
              (SB.or
                (SB.and (SB.eq (SI.v 1) (SI.c (Int.ofNat 2)))
                  (SB.and (SB.le (SI.c (Int.ofNat 0)) (SI.v 2)) (SB.le (SI.v 2) (SI.c (Int.ofNat 7)))))
                (SB.or
                  (SB.and (SB.eq (SI.v 1) (SI.c (Int.ofNat 3)))
                    (SB.and (SB.eq (SI.v 2) (SI.c (Int.negSucc 0))) (SB.not (SB.v 0))))
                  (SB.or
                    (SB.and (SB.eq (SI.v 1) (SI.c (Int.ofNat 4)))
                      (SB.and (SB.eq (SI.v 2) (SI.c (Int.negSucc 0))) (SB.and (SB.not (SB.v 0)) (SB.not (SB.v 1)))))
                    (SB.and (SB.eq (SI.v 1) (SI.c (Int.ofNat 5)))
                      (SB.and (SB.eq (SI.v 2) (SI.c (Int.negSucc 0)))
                        (SB.and (SB.not (SB.v 0)) (SB.not (SB.v 1))))))))),
          SB.or (SB.and (SB.v 2) (SB.or (SB.v 1) (SB.eq (SI.v 1) (SI.c (Int.ofNat 4)))))
            (SB.and (SB.not (SB.v 2)) (SB.not (SB.or (SB.v 1) (SB.eq (SI.v 1) (SI.c (Int.ofNat 4))))))],
      eqs := [Eqn.T (SB.c false)] }] := by kernel_rfl
theorem ps1_ok : ps1.ok Φ Try.prog := by
  refine ⟨by kernel_rfl, loop_rule (fun ρ => t4_ok ρ) (loopAt_sub (by kernel_rfl)) ps1_obs ?_⟩
  simp only [and_imp, List.forall_mem_cons, List.not_mem_nil, false_implies, implies_true, and_true, Ob.ok, holds, Eqn.ok, evB_eq, evB_lt, evB_le, evB_not, evB_and, evB_or, evB_eqL, evB_app, evB_v, evB_c, ev_sel, ev_len, ev_v, ev_c, ev_add, ev_sub, ev_mul, ev_quo, ev_rem, ev_bits, ev_wrap, evL_v, evL_lit, evL_app, ev_app, evA_l, evA_i, evA_nil, std_min, std_max, std_cat, std_take, std_drop, std_row, std_set, std_rep, ints_cons, ints_nil, ofNat_lit, negSucc_lit, decide_eq_true_eq, Bool.and_eq_true, Bool.or_eq_true, Bool.not_eq_true', Bool.and_eq_false_iff, Bool.or_eq_false_iff, decide_eq_false_iff_not, aB199]
  repeat' apply And.intro
  all_goals intro ρ hR
  all_goals intros
  all_goals first
    | (omega)
    | (simp_all; done)
    | (simp_all; omega)
    | (refine ⟨?_, ?_⟩ <;> simp_all; done)
    | (exfalso
       simp_all; done)
    | (exfalso
       simp_all; omega)
theorem t5_ok (ρ : Env) : TblOK Φ ρ Try.prog t5 := addLp_ok (t4_ok ρ) ps1_ok
set_option maxRecDepth 100000 in
theorem lPauses_obs : callObs Φ Try.prog t5 1000 lPauses.f lPauses.vs lPauses.o lPauses.pc lPauses.outs = some
  [] := by kernel_rfl
theorem lPauses_ok : lPauses.ok Φ Try.prog := by
  refine call_rule (fun ρ => t5_ok ρ) lPauses_obs ?_
  intro ob h; cases h
end Go.SF.D16
