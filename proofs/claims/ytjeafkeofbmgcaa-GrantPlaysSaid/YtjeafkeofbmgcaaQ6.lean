/- The document's answer, and the law that plays against it, shown. -/
import Derived.Test.YtjeafkeofbmgcaaQ5
import Derived.Test.YtjeafkeofbmgcaaC6
import Derived.Test.YtjeafkeofbmgcaaP8
import Derived.KernelRfl
namespace Go.SF.C19
open Go Go.SF Go.Proofs
set_option linter.unusedVariables false
set_option linter.unusedSimpArgs false

set_option maxRecDepth 100000 in
theorem cRNew_obs : callObs Φ Try.prog noTbl 1000 cRNew.f cRNew.vs cRNew.o cRNew.pc cRNew.outs = some
  [{ pc := [SB.not (SB.lt (SI.c (Int.ofNat 64)) (SI.v 0)), SB.not (SB.lt (SI.v 0) (SI.c (Int.ofNat 1)))],
      eqs :=
        [Eqn.T
            (SB.eq
              (SI.len
                (SL.app 5
                  (SA.i (SI.v 0)
                    (SA.i (SI.c (Int.ofNat 0))
                      (SA.i (SI.c (Int.ofNat 0))
                        (SA.i (SI.c (Int.ofNat 0)) (SA.i (SI.c (Int.ofNat 0)) (SA.i (SI.c (Int.ofNat 0)) SA.nil))))))))
              (SI.v 0))] }] := by kernel_rfl
theorem cRNew_ok : cRNew.ok Φ Try.prog := by
  refine call_rule (fun ρ => noTbl_ok) cRNew_obs ?_
  simp only [and_imp, List.forall_mem_cons, List.not_mem_nil, false_implies, implies_true, and_true, Ob.ok, holds, Eqn.ok, evB_eq, evB_lt, evB_le, evB_not, evB_and, evB_or, evB_eqL, evB_app, evB_v, evB_c, ev_sel, ev_len, ev_v, ev_c, ev_add, ev_sub, ev_mul, ev_quo, ev_rem, ev_bits, ev_wrap, evL_v, evL_lit, evL_app, ev_app, evA_l, evA_i, evA_nil, std_min, std_max, std_cat, std_take, std_drop, std_row, std_set, std_rep, std_find, std_put, std_del, std_flag, std_unflag, std_clr, std_left, std_copy, ints_cons, ints_nil, ofNat_lit, negSucc_lit, decide_eq_true_eq, Bool.and_eq_true, Bool.or_eq_true, Bool.not_eq_true', Bool.and_eq_false_iff, Bool.or_eq_false_iff, decide_eq_false_iff_not, aI110, aI111, aI112, aI113, aI114, aL100, aL101, aL102, aL103, aL110, aL112, aL113, aL114, aL115, aL116, aB130, aB131, aB132, aB199, aI142, aL140, aL141, aL143, aL144, aB140, aB141, aI150, aL150, aB150]
  repeat' apply And.intro
  all_goals intro ρ hR
  all_goals intros
  all_goals first
    | (simp only [List.length_replicate]
       omega)
set_option maxRecDepth 100000 in
theorem cROf_obs : callObs Φ Try.prog noTbl 1000 cROf.f cROf.vs cROf.o cROf.pc cROf.outs = some
  [{
      pc :=
        [SB.lt (SI.v 0) (SI.c (Int.ofNat 0)), SB.le (SI.c (Int.ofNat 1)) (SI.len (SL.v 0)),
          SB.le (SI.len (SL.v 0)) (SI.c (Int.ofNat 64)), SB.c true, SB.app 140 (SA.l (SL.v 0) SA.nil)],
      eqs := [Eqn.T (SB.app 130 (SA.l (SL.v 0) (SA.i (SI.v 0) SA.nil)))] },
    {
      pc :=
        [SB.le (SI.len (SL.v 0)) (SI.v 0), SB.not (SB.lt (SI.v 0) (SI.c (Int.ofNat 0))),
          SB.le (SI.c (Int.ofNat 1)) (SI.len (SL.v 0)), SB.le (SI.len (SL.v 0)) (SI.c (Int.ofNat 64)), SB.c true,
          SB.app 140 (SA.l (SL.v 0) SA.nil)],
      eqs := [Eqn.T (SB.app 130 (SA.l (SL.v 0) (SA.i (SI.v 0) SA.nil)))] },
    {
      pc :=
        [SB.eq (SI.sel (SL.v 0) (SI.v 0) 0) (SI.c (Int.ofNat 0)), SB.not (SB.le (SI.len (SL.v 0)) (SI.v 0)),
          SB.not (SB.lt (SI.v 0) (SI.c (Int.ofNat 0))), SB.le (SI.c (Int.ofNat 1)) (SI.len (SL.v 0)),
          SB.le (SI.len (SL.v 0)) (SI.c (Int.ofNat 64)), SB.c true, SB.app 140 (SA.l (SL.v 0) SA.nil)],
      eqs := [Eqn.T (SB.app 130 (SA.l (SL.v 0) (SA.i (SI.v 0) SA.nil)))] },
    {
      pc :=
        [SB.not (SB.eq (SI.sel (SL.v 0) (SI.v 0) 0) (SI.c (Int.ofNat 0))), SB.not (SB.le (SI.len (SL.v 0)) (SI.v 0)),
          SB.not (SB.lt (SI.v 0) (SI.c (Int.ofNat 0))), SB.le (SI.c (Int.ofNat 1)) (SI.len (SL.v 0)),
          SB.le (SI.len (SL.v 0)) (SI.c (Int.ofNat 64)), SB.c true, SB.app 140 (SA.l (SL.v 0) SA.nil)],
      eqs := [Eqn.T (SB.not (SB.app 130 (SA.l (SL.v 0) (SA.i (SI.v 0) SA.nil))))] }] := by kernel_rfl
theorem cROf_ok : cROf.ok Φ Try.prog := by
  refine call_rule (fun ρ => noTbl_ok) cROf_obs ?_
  simp only [and_imp, List.forall_mem_cons, List.not_mem_nil, false_implies, implies_true, and_true, Ob.ok, holds, Eqn.ok, evB_eq, evB_lt, evB_le, evB_not, evB_and, evB_or, evB_eqL, evB_app, evB_v, evB_c, ev_sel, ev_len, ev_v, ev_c, ev_add, ev_sub, ev_mul, ev_quo, ev_rem, ev_bits, ev_wrap, evL_v, evL_lit, evL_app, ev_app, evA_l, evA_i, evA_nil, std_min, std_max, std_cat, std_take, std_drop, std_row, std_set, std_rep, std_find, std_put, std_del, std_flag, std_unflag, std_clr, std_left, std_copy, ints_cons, ints_nil, ofNat_lit, negSucc_lit, decide_eq_true_eq, Bool.and_eq_true, Bool.or_eq_true, Bool.not_eq_true', Bool.and_eq_false_iff, Bool.or_eq_false_iff, decide_eq_false_iff_not, aI110, aI111, aI112, aI113, aI114, aL100, aL101, aL102, aL103, aL110, aL112, aL113, aL114, aL115, aL116, aB130, aB131, aB132, aB199, aI142, aL140, aL141, aL143, aL144, aB140, aB141, aI150, aL150, aB150]
  repeat' apply And.intro
  all_goals intro ρ hR
  all_goals intros
  all_goals first
    | (have hT : ∀ r ∈ ρ.l 0, okRow K5 r := hR.row 1 rfl rfl
       have hG : okGB (ρ.l 0) = true := by with_reducible assumption
       exact (none_out (T := ρ.l 0) (id := ρ.i 0) (by omega)))
    | (have hT : ∀ r ∈ ρ.l 0, okRow K5 r := hR.row 1 rfl rfl
       have hG : okGB (ρ.l 0) = true := by with_reducible assumption
       exact none_0 hG hT (by omega) (by omega) (by omega))
    | (have hT : ∀ r ∈ ρ.l 0, okRow K5 r := hR.row 1 rfl rfl
       have hG : okGB (ρ.l 0) = true := by with_reducible assumption
       exact (none_not (T := ρ.l 0) (id := ρ.i 0) hT (by omega) (by omega) (by unfold allZ; omega)))
theorem s0_ok (ρ : Env) : TblOK Φ ρ Try.prog s0 := addFn_ok (addFn_ok noTbl_ok cRNew_ok) cROf_ok
set_option maxRecDepth 100000 in
theorem ro_obs : loopObs Φ Try.prog s0 1000 ro.f (loopAt Try.prog ro.f ro.id) ro.n ro.T k5 ro.outs = some
  [{
      pc :=
        [SB.eq (SI.sel (SL.v 0) (SI.v 0) 2) (SI.v 8), SB.eq (SI.sel (SL.v 0) (SI.v 0) 1) (SI.v 7),
          SB.eq (SI.sel (SL.v 0) (SI.v 0) 0) (SI.v 6), SB.le (SI.c (Int.ofNat 0)) (SI.v 0),
          SB.le (SI.c (Int.negSucc 0)) (SI.v 0), SB.lt (SI.v 0) (SI.len (SL.v 0)),
          SB.le (SI.len (SL.v 0)) (SI.c (Int.ofNat 64)), SB.le (SI.c (Int.negSucc 0)) (SI.v 1),
          SB.lt (SI.v 1) (SI.len (SL.v 0)), SB.c true, SB.app 140 (SA.l (SL.v 0) SA.nil)],
      eqs :=
        [Eqn.T (SB.app 150 (SA.l (SL.v 0) (SA.i (SI.v 0) (SA.i (SI.v 6) (SA.i (SI.v 7) (SA.i (SI.v 8) SA.nil))))))] },
    {
      pc :=
        [SB.app 150
            (SA.l (SL.v 0)
              (SA.i (SI.sub (SI.v 0) (SI.c (Int.ofNat 1))) (SA.i (SI.v 6) (SA.i (SI.v 7) (SA.i (SI.v 8) SA.nil))))),
          SB.eq (SI.sel (SL.v 0) (SI.v 0) 0) (SI.c (Int.ofNat 0)), SB.not (SB.eq (SI.sel (SL.v 0) (SI.v 0) 2) (SI.v 8)),
          SB.eq (SI.sel (SL.v 0) (SI.v 0) 1) (SI.v 7), SB.eq (SI.sel (SL.v 0) (SI.v 0) 0) (SI.v 6),
          SB.le (SI.c (Int.ofNat 0)) (SI.v 0), SB.le (SI.c (Int.negSucc 0)) (SI.v 0), SB.lt (SI.v 0) (SI.len (SL.v 0)),
          SB.le (SI.len (SL.v 0)) (SI.c (Int.ofNat 64)), SB.le (SI.c (Int.negSucc 0)) (SI.v 1),
          SB.lt (SI.v 1) (SI.len (SL.v 0)), SB.c true, SB.app 140 (SA.l (SL.v 0) SA.nil)],
      eqs :=
        [Eqn.T (SB.app 150 (SA.l (SL.v 0) (SA.i (SI.v 0) (SA.i (SI.v 6) (SA.i (SI.v 7) (SA.i (SI.v 8) SA.nil))))))] },
    {
      pc :=
        [SB.lt (SI.app 150 (SA.l (SL.v 0) (SA.i (SI.sub (SI.v 0) (SI.c (Int.ofNat 1))) (SA.i (SI.v 0) SA.nil))))
            (SI.len (SL.v 0)),
          SB.le (SI.c (Int.negSucc 0))
            (SI.app 150 (SA.l (SL.v 0) (SA.i (SI.sub (SI.v 0) (SI.c (Int.ofNat 1))) (SA.i (SI.v 0) SA.nil)))),
          SB.not
            (SB.app 150
              (SA.l (SL.v 0)
                (SA.i (SI.sub (SI.v 0) (SI.c (Int.ofNat 1))) (SA.i (SI.v 6) (SA.i (SI.v 7) (SA.i (SI.v 8) SA.nil)))))),
          SB.eq (SI.sel (SL.v 0) (SI.v 0) 0) (SI.c (Int.ofNat 0)), SB.not (SB.eq (SI.sel (SL.v 0) (SI.v 0) 2) (SI.v 8)),
          SB.eq (SI.sel (SL.v 0) (SI.v 0) 1) (SI.v 7), SB.eq (SI.sel (SL.v 0) (SI.v 0) 0) (SI.v 6),
          SB.le (SI.c (Int.ofNat 0)) (SI.v 0), SB.le (SI.c (Int.negSucc 0)) (SI.v 0), SB.lt (SI.v 0) (SI.len (SL.v 0)),
          SB.le (SI.len (SL.v 0)) (SI.c (Int.ofNat 64)), SB.le (SI.c (Int.negSucc 0)) (SI.v 1),
          SB.lt (SI.v 1) (SI.len (SL.v 0)), SB.c true, SB.app 140 (SA.l (SL.v 0) SA.nil)],
      eqs :=
        [Eqn.T
            (SB.not
              (SB.app 150 (SA.l (SL.v 0) (SA.i (SI.v 0) (SA.i (SI.v 6) (SA.i (SI.v 7) (SA.i (SI.v 8) SA.nil))))))),
          Eqn.T (SB.le (SI.c (Int.negSucc 0)) (SI.app 150 (SA.l (SL.v 0) (SA.i (SI.v 0) (SA.i (SI.v 1) SA.nil))))),
          Eqn.T (SB.lt (SI.app 150 (SA.l (SL.v 0) (SA.i (SI.v 0) (SA.i (SI.v 1) SA.nil)))) (SI.len (SL.v 0))),
          Eqn.I (SI.app 150 (SA.l (SL.v 0) (SA.i (SI.v 0) (SA.i (SI.v 1) SA.nil))))
            (SI.app 150 (SA.l (SL.v 0) (SA.i (SI.sub (SI.v 0) (SI.c (Int.ofNat 1))) (SA.i (SI.v 0) SA.nil))))] },
    {
      pc :=
        [SB.app 150
            (SA.l (SL.v 0)
              (SA.i (SI.sub (SI.v 0) (SI.c (Int.ofNat 1))) (SA.i (SI.v 6) (SA.i (SI.v 7) (SA.i (SI.v 8) SA.nil))))),
          SB.not (SB.eq (SI.sel (SL.v 0) (SI.v 0) 0) (SI.c (Int.ofNat 0))),
          SB.not (SB.eq (SI.sel (SL.v 0) (SI.v 0) 2) (SI.v 8)), SB.eq (SI.sel (SL.v 0) (SI.v 0) 1) (SI.v 7),
          SB.eq (SI.sel (SL.v 0) (SI.v 0) 0) (SI.v 6), SB.le (SI.c (Int.ofNat 0)) (SI.v 0),
          SB.le (SI.c (Int.negSucc 0)) (SI.v 0), SB.lt (SI.v 0) (SI.len (SL.v 0)),
          SB.le (SI.len (SL.v 0)) (SI.c (Int.ofNat 64)), SB.le (SI.c (Int.negSucc 0)) (SI.v 1),
          SB.lt (SI.v 1) (SI.len (SL.v 0)), SB.c true, SB.app 140 (SA.l (SL.v 0) SA.nil)],
      eqs :=
        [Eqn.T (SB.app 150 (SA.l (SL.v 0) (SA.i (SI.v 0) (SA.i (SI.v 6) (SA.i (SI.v 7) (SA.i (SI.v 8) SA.nil))))))] },
    {
      pc :=
        [SB.lt (SI.app 150 (SA.l (SL.v 0) (SA.i (SI.sub (SI.v 0) (SI.c (Int.ofNat 1))) (SA.i (SI.v 1) SA.nil))))
            (SI.len (SL.v 0)),
          SB.le (SI.c (Int.negSucc 0))
            (SI.app 150 (SA.l (SL.v 0) (SA.i (SI.sub (SI.v 0) (SI.c (Int.ofNat 1))) (SA.i (SI.v 1) SA.nil)))),
          SB.not
            (SB.app 150
              (SA.l (SL.v 0)
                (SA.i (SI.sub (SI.v 0) (SI.c (Int.ofNat 1))) (SA.i (SI.v 6) (SA.i (SI.v 7) (SA.i (SI.v 8) SA.nil)))))),
          SB.not (SB.eq (SI.sel (SL.v 0) (SI.v 0) 0) (SI.c (Int.ofNat 0))),
          SB.not (SB.eq (SI.sel (SL.v 0) (SI.v 0) 2) (SI.v 8)), SB.eq (SI.sel (SL.v 0) (SI.v 0) 1) (SI.v 7),
          SB.eq (SI.sel (SL.v 0) (SI.v 0) 0) (SI.v 6), SB.le (SI.c (Int.ofNat 0)) (SI.v 0),
          SB.le (SI.c (Int.negSucc 0)) (SI.v 0), SB.lt (SI.v 0) (SI.len (SL.v 0)),
          SB.le (SI.len (SL.v 0)) (SI.c (Int.ofNat 64)), SB.le (SI.c (Int.negSucc 0)) (SI.v 1),
          SB.lt (SI.v 1) (SI.len (SL.v 0)), SB.c true, SB.app 140 (SA.l (SL.v 0) SA.nil)],
      eqs :=
        [Eqn.T
            (SB.not
              (SB.app 150 (SA.l (SL.v 0) (SA.i (SI.v 0) (SA.i (SI.v 6) (SA.i (SI.v 7) (SA.i (SI.v 8) SA.nil))))))),
          Eqn.T (SB.le (SI.c (Int.negSucc 0)) (SI.app 150 (SA.l (SL.v 0) (SA.i (SI.v 0) (SA.i (SI.v 1) SA.nil))))),
          Eqn.T (SB.lt (SI.app 150 (SA.l (SL.v 0) (SA.i (SI.v 0) (SA.i (SI.v 1) SA.nil)))) (SI.len (SL.v 0))),
          Eqn.I (SI.app 150 (SA.l (SL.v 0) (SA.i (SI.v 0) (SA.i (SI.v 1) SA.nil))))
            (SI.app 150 (SA.l (SL.v 0) (SA.i (SI.sub (SI.v 0) (SI.c (Int.ofNat 1))) (SA.i (SI.v 1) SA.nil))))] },
    {
      pc :=
        [SB.app 150
            (SA.l (SL.v 0)
              (SA.i (SI.sub (SI.v 0) (SI.c (Int.ofNat 1))) (SA.i (SI.v 6) (SA.i (SI.v 7) (SA.i (SI.v 8) SA.nil))))),
          SB.eq (SI.sel (SL.v 0) (SI.v 0) 0) (SI.c (Int.ofNat 0)), SB.not (SB.eq (SI.sel (SL.v 0) (SI.v 0) 1) (SI.v 7)),
          SB.eq (SI.sel (SL.v 0) (SI.v 0) 0) (SI.v 6), SB.le (SI.c (Int.ofNat 0)) (SI.v 0),
          SB.le (SI.c (Int.negSucc 0)) (SI.v 0), SB.lt (SI.v 0) (SI.len (SL.v 0)),
          SB.le (SI.len (SL.v 0)) (SI.c (Int.ofNat 64)), SB.le (SI.c (Int.negSucc 0)) (SI.v 1),
          SB.lt (SI.v 1) (SI.len (SL.v 0)), SB.c true, SB.app 140 (SA.l (SL.v 0) SA.nil)],
      eqs :=
        [Eqn.T (SB.app 150 (SA.l (SL.v 0) (SA.i (SI.v 0) (SA.i (SI.v 6) (SA.i (SI.v 7) (SA.i (SI.v 8) SA.nil))))))] },
    {
      pc :=
        [SB.lt (SI.app 150 (SA.l (SL.v 0) (SA.i (SI.sub (SI.v 0) (SI.c (Int.ofNat 1))) (SA.i (SI.v 0) SA.nil))))
            (SI.len (SL.v 0)),
          SB.le (SI.c (Int.negSucc 0))
            (SI.app 150 (SA.l (SL.v 0) (SA.i (SI.sub (SI.v 0) (SI.c (Int.ofNat 1))) (SA.i (SI.v 0) SA.nil)))),
          SB.not
            (SB.app 150
              (SA.l (SL.v 0)
                (SA.i (SI.sub (SI.v 0) (SI.c (Int.ofNat 1))) (SA.i (SI.v 6) (SA.i (SI.v 7) (SA.i (SI.v 8) SA.nil)))))),
          SB.eq (SI.sel (SL.v 0) (SI.v 0) 0) (SI.c (Int.ofNat 0)), SB.not (SB.eq (SI.sel (SL.v 0) (SI.v 0) 1) (SI.v 7)),
          SB.eq (SI.sel (SL.v 0) (SI.v 0) 0) (SI.v 6), SB.le (SI.c (Int.ofNat 0)) (SI.v 0),
          SB.le (SI.c (Int.negSucc 0)) (SI.v 0), SB.lt (SI.v 0) (SI.len (SL.v 0)),
          SB.le (SI.len (SL.v 0)) (SI.c (Int.ofNat 64)), SB.le (SI.c (Int.negSucc 0)) (SI.v 1),
          SB.lt (SI.v 1) (SI.len (SL.v 0)), SB.c true, SB.app 140 (SA.l (SL.v 0) SA.nil)],
      eqs :=
        [Eqn.T
            (SB.not
              (SB.app 150 (SA.l (SL.v 0) (SA.i (SI.v 0) (SA.i (SI.v 6) (SA.i (SI.v 7) (SA.i (SI.v 8) SA.nil))))))),
          Eqn.T (SB.le (SI.c (Int.negSucc 0)) (SI.app 150 (SA.l (SL.v 0) (SA.i (SI.v 0) (SA.i (SI.v 1) SA.nil))))),
          Eqn.T (SB.lt (SI.app 150 (SA.l (SL.v 0) (SA.i (SI.v 0) (SA.i (SI.v 1) SA.nil)))) (SI.len (SL.v 0))),
          Eqn.I (SI.app 150 (SA.l (SL.v 0) (SA.i (SI.v 0) (SA.i (SI.v 1) SA.nil))))
            (SI.app 150 (SA.l (SL.v 0) (SA.i (SI.sub (SI.v 0) (SI.c (Int.ofNat 1))) (SA.i (SI.v 0) SA.nil))))] },
    {
      pc :=
        [SB.app 150
            (SA.l (SL.v 0)
              (SA.i (SI.sub (SI.v 0) (SI.c (Int.ofNat 1))) (SA.i (SI.v 6) (SA.i (SI.v 7) (SA.i (SI.v 8) SA.nil))))),
          SB.not (SB.eq (SI.sel (SL.v 0) (SI.v 0) 0) (SI.c (Int.ofNat 0))),
          SB.not (SB.eq (SI.sel (SL.v 0) (SI.v 0) 1) (SI.v 7)), SB.eq (SI.sel (SL.v 0) (SI.v 0) 0) (SI.v 6),
          SB.le (SI.c (Int.ofNat 0)) (SI.v 0), SB.le (SI.c (Int.negSucc 0)) (SI.v 0), SB.lt (SI.v 0) (SI.len (SL.v 0)),
          SB.le (SI.len (SL.v 0)) (SI.c (Int.ofNat 64)), SB.le (SI.c (Int.negSucc 0)) (SI.v 1),
          SB.lt (SI.v 1) (SI.len (SL.v 0)), SB.c true, SB.app 140 (SA.l (SL.v 0) SA.nil)],
      eqs :=
        [Eqn.T (SB.app 150 (SA.l (SL.v 0) (SA.i (SI.v 0) (SA.i (SI.v 6) (SA.i (SI.v 7) (SA.i (SI.v 8) SA.nil))))))] },
    {
      pc :=
        [SB.lt (SI.app 150 (SA.l (SL.v 0) (SA.i (SI.sub (SI.v 0) (SI.c (Int.ofNat 1))) (SA.i (SI.v 1) SA.nil))))
            (SI.len (SL.v 0)),
          SB.le (SI.c (Int.negSucc 0))
            (SI.app 150 (SA.l (SL.v 0) (SA.i (SI.sub (SI.v 0) (SI.c (Int.ofNat 1))) (SA.i (SI.v 1) SA.nil)))),
          SB.not
            (SB.app 150
              (SA.l (SL.v 0)
                (SA.i (SI.sub (SI.v 0) (SI.c (Int.ofNat 1))) (SA.i (SI.v 6) (SA.i (SI.v 7) (SA.i (SI.v 8) SA.nil)))))),
          SB.not (SB.eq (SI.sel (SL.v 0) (SI.v 0) 0) (SI.c (Int.ofNat 0))),
          SB.not (SB.eq (SI.sel (SL.v 0) (SI.v 0) 1) (SI.v 7)), SB.eq (SI.sel (SL.v 0) (SI.v 0) 0) (SI.v 6),
          SB.le (SI.c (Int.ofNat 0)) (SI.v 0), SB.le (SI.c (Int.negSucc 0)) (SI.v 0), SB.lt (SI.v 0) (SI.len (SL.v 0)),
          SB.le (SI.len (SL.v 0)) (SI.c (Int.ofNat 64)), SB.le (SI.c (Int.negSucc 0)) (SI.v 1),
          SB.lt (SI.v 1) (SI.len (SL.v 0)), SB.c true, SB.app 140 (SA.l (SL.v 0) SA.nil)],
      eqs :=
        [Eqn.T
            (SB.not
              (SB.app 150 (SA.l (SL.v 0) (SA.i (SI.v 0) (SA.i (SI.v 6) (SA.i (SI.v 7) (SA.i (SI.v 8) SA.nil))))))),
          Eqn.T (SB.le (SI.c (Int.negSucc 0)) (SI.app 150 (SA.l (SL.v 0) (SA.i (SI.v 0) (SA.i (SI.v 1) SA.nil))))),
          Eqn.T (SB.lt (SI.app 150 (SA.l (SL.v 0) (SA.i (SI.v 0) (SA.i (SI.v 1) SA.nil)))) (SI.len (SL.v 0))),
          Eqn.I (SI.app 150 (SA.l (SL.v 0) (SA.i (SI.v 0) (SA.i (SI.v 1) SA.nil))))
            (SI.app 150 (SA.l (SL.v 0) (SA.i (SI.sub (SI.v 0) (SI.c (Int.ofNat 1))) (SA.i (SI.v 1) SA.nil))))] },
    {
      pc :=
        [SB.app 150
            (SA.l (SL.v 0)
              (SA.i (SI.sub (SI.v 0) (SI.c (Int.ofNat 1))) (SA.i (SI.v 6) (SA.i (SI.v 7) (SA.i (SI.v 8) SA.nil))))),
          SB.eq (SI.sel (SL.v 0) (SI.v 0) 0) (SI.c (Int.ofNat 0)), SB.not (SB.eq (SI.sel (SL.v 0) (SI.v 0) 0) (SI.v 6)),
          SB.le (SI.c (Int.ofNat 0)) (SI.v 0), SB.le (SI.c (Int.negSucc 0)) (SI.v 0), SB.lt (SI.v 0) (SI.len (SL.v 0)),
          SB.le (SI.len (SL.v 0)) (SI.c (Int.ofNat 64)), SB.le (SI.c (Int.negSucc 0)) (SI.v 1),
          SB.lt (SI.v 1) (SI.len (SL.v 0)), SB.c true, SB.app 140 (SA.l (SL.v 0) SA.nil)],
      eqs :=
        [Eqn.T (SB.app 150 (SA.l (SL.v 0) (SA.i (SI.v 0) (SA.i (SI.v 6) (SA.i (SI.v 7) (SA.i (SI.v 8) SA.nil))))))] },
    {
      pc :=
        [SB.lt (SI.app 150 (SA.l (SL.v 0) (SA.i (SI.sub (SI.v 0) (SI.c (Int.ofNat 1))) (SA.i (SI.v 0) SA.nil))))
            (SI.len (SL.v 0)),
          SB.le (SI.c (Int.negSucc 0))
            (SI.app 150 (SA.l (SL.v 0) (SA.i (SI.sub (SI.v 0) (SI.c (Int.ofNat 1))) (SA.i (SI.v 0) SA.nil)))),
          SB.not
            (SB.app 150
              (SA.l (SL.v 0)
                (SA.i (SI.sub (SI.v 0) (SI.c (Int.ofNat 1))) (SA.i (SI.v 6) (SA.i (SI.v 7) (SA.i (SI.v 8) SA.nil)))))),
          SB.eq (SI.sel (SL.v 0) (SI.v 0) 0) (SI.c (Int.ofNat 0)), SB.not (SB.eq (SI.sel (SL.v 0) (SI.v 0) 0) (SI.v 6)),
          SB.le (SI.c (Int.ofNat 0)) (SI.v 0), SB.le (SI.c (Int.negSucc 0)) (SI.v 0), SB.lt (SI.v 0) (SI.len (SL.v 0)),
          SB.le (SI.len (SL.v 0)) (SI.c (Int.ofNat 64)), SB.le (SI.c (Int.negSucc 0)) (SI.v 1),
          SB.lt (SI.v 1) (SI.len (SL.v 0)), SB.c true, SB.app 140 (SA.l (SL.v 0) SA.nil)],
      eqs :=
        [Eqn.T
            (SB.not
              (SB.app 150 (SA.l (SL.v 0) (SA.i (SI.v 0) (SA.i (SI.v 6) (SA.i (SI.v 7) (SA.i (SI.v 8) SA.nil))))))),
          Eqn.T (SB.le (SI.c (Int.negSucc 0)) (SI.app 150 (SA.l (SL.v 0) (SA.i (SI.v 0) (SA.i (SI.v 1) SA.nil))))),
          Eqn.T (SB.lt (SI.app 150 (SA.l (SL.v 0) (SA.i (SI.v 0) (SA.i (SI.v 1) SA.nil)))) (SI.len (SL.v 0))),
          Eqn.I (SI.app 150 (SA.l (SL.v 0) (SA.i (SI.v 0) (SA.i (SI.v 1) SA.nil))))
            (SI.app 150 (SA.l (SL.v 0) (SA.i (SI.sub (SI.v 0) (SI.c (Int.ofNat 1))) (SA.i (SI.v 0) SA.nil))))] },
    {
      pc :=
        [SB.app 150
            (SA.l (SL.v 0)
              (SA.i (SI.sub (SI.v 0) (SI.c (Int.ofNat 1))) (SA.i (SI.v 6) (SA.i (SI.v 7) (SA.i (SI.v 8) SA.nil))))),
          SB.not (SB.eq (SI.sel (SL.v 0) (SI.v 0) 0) (SI.c (Int.ofNat 0))),
          SB.not (SB.eq (SI.sel (SL.v 0) (SI.v 0) 0) (SI.v 6)), SB.le (SI.c (Int.ofNat 0)) (SI.v 0),
          SB.le (SI.c (Int.negSucc 0)) (SI.v 0), SB.lt (SI.v 0) (SI.len (SL.v 0)),
          SB.le (SI.len (SL.v 0)) (SI.c (Int.ofNat 64)), SB.le (SI.c (Int.negSucc 0)) (SI.v 1),
          SB.lt (SI.v 1) (SI.len (SL.v 0)), SB.c true, SB.app 140 (SA.l (SL.v 0) SA.nil)],
      eqs :=
        [Eqn.T (SB.app 150 (SA.l (SL.v 0) (SA.i (SI.v 0) (SA.i (SI.v 6) (SA.i (SI.v 7) (SA.i (SI.v 8) SA.nil))))))] },
    {
      pc :=
        [SB.lt (SI.app 150 (SA.l (SL.v 0) (SA.i (SI.sub (SI.v 0) (SI.c (Int.ofNat 1))) (SA.i (SI.v 1) SA.nil))))
            (SI.len (SL.v 0)),
          SB.le (SI.c (Int.negSucc 0))
            (SI.app 150 (SA.l (SL.v 0) (SA.i (SI.sub (SI.v 0) (SI.c (Int.ofNat 1))) (SA.i (SI.v 1) SA.nil)))),
          SB.not
            (SB.app 150
              (SA.l (SL.v 0)
                (SA.i (SI.sub (SI.v 0) (SI.c (Int.ofNat 1))) (SA.i (SI.v 6) (SA.i (SI.v 7) (SA.i (SI.v 8) SA.nil)))))),
          SB.not (SB.eq (SI.sel (SL.v 0) (SI.v 0) 0) (SI.c (Int.ofNat 0))),
          SB.not (SB.eq (SI.sel (SL.v 0) (SI.v 0) 0) (SI.v 6)), SB.le (SI.c (Int.ofNat 0)) (SI.v 0),
          SB.le (SI.c (Int.negSucc 0)) (SI.v 0), SB.lt (SI.v 0) (SI.len (SL.v 0)),
          SB.le (SI.len (SL.v 0)) (SI.c (Int.ofNat 64)), SB.le (SI.c (Int.negSucc 0)) (SI.v 1),
          SB.lt (SI.v 1) (SI.len (SL.v 0)), SB.c true, SB.app 140 (SA.l (SL.v 0) SA.nil)],
      eqs :=
        [Eqn.T
            (SB.not
              (SB.app 150 (SA.l (SL.v 0) (SA.i (SI.v 0) (SA.i (SI.v 6) (SA.i (SI.v 7) (SA.i (SI.v 8) SA.nil))))))),
          Eqn.T (SB.le (SI.c (Int.negSucc 0)) (SI.app 150 (SA.l (SL.v 0) (SA.i (SI.v 0) (SA.i (SI.v 1) SA.nil))))),
          Eqn.T (SB.lt (SI.app 150 (SA.l (SL.v 0) (SA.i (SI.v 0) (SA.i (SI.v 1) SA.nil)))) (SI.len (SL.v 0))),
          Eqn.I (SI.app 150 (SA.l (SL.v 0) (SA.i (SI.v 0) (SA.i (SI.v 1) SA.nil))))
            (SI.app 150 (SA.l (SL.v 0) (SA.i (SI.sub (SI.v 0) (SI.c (Int.ofNat 1))) (SA.i (SI.v 1) SA.nil))))] },
    {
      pc :=
        [SB.not (SB.le (SI.c (Int.ofNat 0)) (SI.v 0)), SB.le (SI.c (Int.negSucc 0)) (SI.v 0),
          SB.lt (SI.v 0) (SI.len (SL.v 0)), SB.le (SI.len (SL.v 0)) (SI.c (Int.ofNat 64)),
          SB.le (SI.c (Int.negSucc 0)) (SI.v 1), SB.lt (SI.v 1) (SI.len (SL.v 0)), SB.c true,
          SB.app 140 (SA.l (SL.v 0) SA.nil)],
      eqs :=
        [Eqn.T
            (SB.not
              (SB.app 150 (SA.l (SL.v 0) (SA.i (SI.v 0) (SA.i (SI.v 6) (SA.i (SI.v 7) (SA.i (SI.v 8) SA.nil))))))),
          Eqn.T (SB.le (SI.c (Int.negSucc 0)) (SI.app 150 (SA.l (SL.v 0) (SA.i (SI.v 0) (SA.i (SI.v 1) SA.nil))))),
          Eqn.T (SB.lt (SI.app 150 (SA.l (SL.v 0) (SA.i (SI.v 0) (SA.i (SI.v 1) SA.nil)))) (SI.len (SL.v 0))),
          Eqn.I (SI.app 150 (SA.l (SL.v 0) (SA.i (SI.v 0) (SA.i (SI.v 1) SA.nil)))) (SI.v 1)] }] := by kernel_rfl
theorem ro_ok : ro.ok Φ Try.prog := by
  refine ⟨by kernel_rfl, loop_rule (fun ρ => s0_ok ρ) (loopAt_sub (by kernel_rfl)) ro_obs ?_⟩
  simp only [and_imp, List.forall_mem_cons, List.not_mem_nil, false_implies, implies_true, and_true, Ob.ok, holds, Eqn.ok, evB_eq, evB_lt, evB_le, evB_not, evB_and, evB_or, evB_eqL, evB_app, evB_v, evB_c, ev_sel, ev_len, ev_v, ev_c, ev_add, ev_sub, ev_mul, ev_quo, ev_rem, ev_bits, ev_wrap, evL_v, evL_lit, evL_app, ev_app, evA_l, evA_i, evA_nil, std_min, std_max, std_cat, std_take, std_drop, std_row, std_set, std_rep, std_find, std_put, std_del, std_flag, std_unflag, std_clr, std_left, std_copy, ints_cons, ints_nil, ofNat_lit, negSucc_lit, decide_eq_true_eq, Bool.and_eq_true, Bool.or_eq_true, Bool.not_eq_true', Bool.and_eq_false_iff, Bool.or_eq_false_iff, decide_eq_false_iff_not, aI110, aI111, aI112, aI113, aI114, aL100, aL101, aL102, aL103, aL110, aL112, aL113, aL114, aL115, aL116, aB130, aB131, aB132, aB199, aI142, aL140, aL141, aL143, aL144, aB140, aB141, aI150, aL150, aB150]
  repeat' apply And.intro
  all_goals intro ρ hR
  all_goals intros
  all_goals first
    | (omega)
    | (have hT : ∀ r ∈ ρ.l 0, okRow K5 r := hR.row 1 rfl rfl
       have hG : okGB (ρ.l 0) = true := by with_reducible assumption
       have ea := any_step (T := ρ.l 0) (i := ρ.i 0) (o := ρ.i 6) (p := ρ.i 7) (t := ρ.i 8) (by omega) (by omega)
       rw [same_t (by omega), Bool.or_true] at ea
       exact ea)
    | (have hT : ∀ r ∈ ρ.l 0, okRow K5 r := hR.row 1 rfl rfl
       have hG : okGB (ρ.l 0) = true := by with_reducible assumption
       have ea := any_step (T := ρ.l 0) (i := ρ.i 0) (o := ρ.i 6) (p := ρ.i 7) (t := ρ.i 8) (by omega) (by omega)
       rw [same_f (r := (ρ.l 0).getD (ρ.i 0).toNat []) (o := ρ.i 6) (p := ρ.i 7) (t := ρ.i 8) (by omega), Bool.or_false] at ea
       rw [ea]
       assumption)
    | (have hT : ∀ r ∈ ρ.l 0, okRow K5 r := hR.row 1 rfl rfl
       have hG : okGB (ρ.l 0) = true := by with_reducible assumption
       have ea := any_step (T := ρ.l 0) (i := ρ.i 0) (o := ρ.i 6) (p := ρ.i 7) (t := ρ.i 8) (by omega) (by omega)
       rw [same_f (r := (ρ.l 0).getD (ρ.i 0).toNat []) (o := ρ.i 6) (p := ρ.i 7) (t := ρ.i 8) (by omega), Bool.or_false] at ea
       have ep := plc_free (T := ρ.l 0) (i := ρ.i 0) (k := ρ.i 1) hG hT (by omega) (by omega) (by omega)
       rw [ea, ep]
       exact ⟨by assumption, by omega, by omega, rfl⟩)
    | (have hT : ∀ r ∈ ρ.l 0, okRow K5 r := hR.row 1 rfl rfl
       have hG : okGB (ρ.l 0) = true := by with_reducible assumption
       have ea := any_step (T := ρ.l 0) (i := ρ.i 0) (o := ρ.i 6) (p := ρ.i 7) (t := ρ.i 8) (by omega) (by omega)
       rw [same_f (r := (ρ.l 0).getD (ρ.i 0).toNat []) (o := ρ.i 6) (p := ρ.i 7) (t := ρ.i 8) (by omega), Bool.or_false] at ea
       have ep := plc_not (T := ρ.l 0) (i := ρ.i 0) (k := ρ.i 1) hT (by omega) (by omega) (by omega)
       rw [ea, ep]
       exact ⟨by assumption, by omega, by omega, rfl⟩)
    | (have ea := any_end (T := ρ.l 0) (i := ρ.i 0) (o := ρ.i 6) (p := ρ.i 7) (t := ρ.i 8) (by omega)
       have ep := plc_end (T := ρ.l 0) (i := ρ.i 0) (k := ρ.i 1) (by omega)
       rw [ea, ep]
       exact ⟨rfl, by omega, by omega, rfl⟩)
theorem s1_ok (ρ : Env) : TblOK Φ ρ Try.prog s1 := addLp_ok (s0_ok ρ) ro_ok
set_option maxRecDepth 100000 in
theorem cROffer_obs : callObs Φ Try.prog s1 1000 cROffer.f cROffer.vs cROffer.o cROffer.pc cROffer.outs = some
  [{
      pc :=
        [SB.eq (SI.v 6) (SI.v 8), SB.le (SI.v 8) (SI.c (Int.ofNat 16)), SB.le (SI.c (Int.ofNat 1)) (SI.v 8),
          SB.le (SI.v 6) (SI.c (Int.ofNat 16)), SB.le (SI.c (Int.ofNat 1)) (SI.v 6), SB.v 0,
          SB.le (SI.c (Int.ofNat 1)) (SI.len (SL.v 0)), SB.le (SI.len (SL.v 0)) (SI.c (Int.ofNat 64)), SB.c true,
          SB.and (SB.c true) (SB.or (SB.v 0) (SB.not (SB.v 0))), SB.app 140 (SA.l (SL.v 0) SA.nil)],
      eqs :=
        [Eqn.T
            (SB.eq
              (SI.len
                (SL.app 110
                  (SA.l (SL.v 0) (SA.i (SI.v 6) (SA.i (SI.v 7) (SA.i (SI.v 8) (SA.i (SI.c (Int.ofNat 1)) SA.nil)))))))
              (SI.len (SL.v 0))),
          Eqn.I (SI.app 111 (SA.l (SL.v 0) (SA.i (SI.v 6) (SA.i (SI.v 7) (SA.i (SI.v 8) SA.nil)))))
            (SI.c (Int.ofNat 0)),
          Eqn.I (SI.app 110 (SA.l (SL.v 0) (SA.i (SI.v 6) (SA.i (SI.v 7) (SA.i (SI.v 8) SA.nil)))))
            (SI.c (Int.ofNat 1)),
          Eqn.I
            (SI.len
              (SL.app 110
                (SA.l (SL.v 0) (SA.i (SI.v 6) (SA.i (SI.v 7) (SA.i (SI.v 8) (SA.i (SI.c (Int.ofNat 1)) SA.nil)))))))
            (SI.len (SL.v 0)),
          Eqn.L
            (SL.app 110
              (SA.l (SL.v 0) (SA.i (SI.v 6) (SA.i (SI.v 7) (SA.i (SI.v 8) (SA.i (SI.c (Int.ofNat 1)) SA.nil))))))
            (SL.v 0)] },
    {
      pc :=
        [SB.lt (SI.v 7) (SI.c (Int.ofNat 0)), SB.not (SB.eq (SI.v 6) (SI.v 8)), SB.le (SI.v 8) (SI.c (Int.ofNat 16)),
          SB.le (SI.c (Int.ofNat 1)) (SI.v 8), SB.le (SI.v 6) (SI.c (Int.ofNat 16)),
          SB.le (SI.c (Int.ofNat 1)) (SI.v 6), SB.v 0, SB.le (SI.c (Int.ofNat 1)) (SI.len (SL.v 0)),
          SB.le (SI.len (SL.v 0)) (SI.c (Int.ofNat 64)), SB.c true,
          SB.and (SB.c true) (SB.or (SB.v 0) (SB.not (SB.v 0))), SB.app 140 (SA.l (SL.v 0) SA.nil)],
      eqs :=
        [Eqn.T
            (SB.eq
              (SI.len
                (SL.app 110
                  (SA.l (SL.v 0) (SA.i (SI.v 6) (SA.i (SI.v 7) (SA.i (SI.v 8) (SA.i (SI.c (Int.ofNat 1)) SA.nil)))))))
              (SI.len (SL.v 0))),
          Eqn.I (SI.app 111 (SA.l (SL.v 0) (SA.i (SI.v 6) (SA.i (SI.v 7) (SA.i (SI.v 8) SA.nil)))))
            (SI.c (Int.ofNat 0)),
          Eqn.I (SI.app 110 (SA.l (SL.v 0) (SA.i (SI.v 6) (SA.i (SI.v 7) (SA.i (SI.v 8) SA.nil)))))
            (SI.c (Int.ofNat 1)),
          Eqn.I
            (SI.len
              (SL.app 110
                (SA.l (SL.v 0) (SA.i (SI.v 6) (SA.i (SI.v 7) (SA.i (SI.v 8) (SA.i (SI.c (Int.ofNat 1)) SA.nil)))))))
            (SI.len (SL.v 0)),
          Eqn.L
            (SL.app 110
              (SA.l (SL.v 0) (SA.i (SI.v 6) (SA.i (SI.v 7) (SA.i (SI.v 8) (SA.i (SI.c (Int.ofNat 1)) SA.nil))))))
            (SL.v 0)] },
    {
      pc :=
        [SB.lt (SI.c (Int.ofNat 65535)) (SI.v 7), SB.not (SB.lt (SI.v 7) (SI.c (Int.ofNat 0))),
          SB.not (SB.eq (SI.v 6) (SI.v 8)), SB.le (SI.v 8) (SI.c (Int.ofNat 16)), SB.le (SI.c (Int.ofNat 1)) (SI.v 8),
          SB.le (SI.v 6) (SI.c (Int.ofNat 16)), SB.le (SI.c (Int.ofNat 1)) (SI.v 6), SB.v 0,
          SB.le (SI.c (Int.ofNat 1)) (SI.len (SL.v 0)), SB.le (SI.len (SL.v 0)) (SI.c (Int.ofNat 64)), SB.c true,
          SB.and (SB.c true) (SB.or (SB.v 0) (SB.not (SB.v 0))), SB.app 140 (SA.l (SL.v 0) SA.nil)],
      eqs :=
        [Eqn.T
            (SB.eq
              (SI.len
                (SL.app 110
                  (SA.l (SL.v 0) (SA.i (SI.v 6) (SA.i (SI.v 7) (SA.i (SI.v 8) (SA.i (SI.c (Int.ofNat 1)) SA.nil)))))))
              (SI.len (SL.v 0))),
          Eqn.I (SI.app 111 (SA.l (SL.v 0) (SA.i (SI.v 6) (SA.i (SI.v 7) (SA.i (SI.v 8) SA.nil)))))
            (SI.c (Int.ofNat 0)),
          Eqn.I (SI.app 110 (SA.l (SL.v 0) (SA.i (SI.v 6) (SA.i (SI.v 7) (SA.i (SI.v 8) SA.nil)))))
            (SI.c (Int.ofNat 1)),
          Eqn.I
            (SI.len
              (SL.app 110
                (SA.l (SL.v 0) (SA.i (SI.v 6) (SA.i (SI.v 7) (SA.i (SI.v 8) (SA.i (SI.c (Int.ofNat 1)) SA.nil)))))))
            (SI.len (SL.v 0)),
          Eqn.L
            (SL.app 110
              (SA.l (SL.v 0) (SA.i (SI.v 6) (SA.i (SI.v 7) (SA.i (SI.v 8) (SA.i (SI.c (Int.ofNat 1)) SA.nil))))))
            (SL.v 0)] },
    {
      pc :=
        [SB.app 150
            (SA.l (SL.v 0)
              (SA.i (SI.sub (SI.len (SL.v 0)) (SI.c (Int.ofNat 1)))
                (SA.i (SI.v 6) (SA.i (SI.v 7) (SA.i (SI.v 8) SA.nil))))),
          SB.not (SB.lt (SI.c (Int.ofNat 65535)) (SI.v 7)), SB.not (SB.lt (SI.v 7) (SI.c (Int.ofNat 0))),
          SB.not (SB.eq (SI.v 6) (SI.v 8)), SB.le (SI.v 8) (SI.c (Int.ofNat 16)), SB.le (SI.c (Int.ofNat 1)) (SI.v 8),
          SB.le (SI.v 6) (SI.c (Int.ofNat 16)), SB.le (SI.c (Int.ofNat 1)) (SI.v 6), SB.v 0,
          SB.le (SI.c (Int.ofNat 1)) (SI.len (SL.v 0)), SB.le (SI.len (SL.v 0)) (SI.c (Int.ofNat 64)), SB.c true,
          SB.and (SB.c true) (SB.or (SB.v 0) (SB.not (SB.v 0))), SB.app 140 (SA.l (SL.v 0) SA.nil)],
      eqs :=
        [Eqn.T
            (SB.eq
              (SI.len
                (SL.app 110
                  (SA.l (SL.v 0) (SA.i (SI.v 6) (SA.i (SI.v 7) (SA.i (SI.v 8) (SA.i (SI.c (Int.ofNat 1)) SA.nil)))))))
              (SI.len (SL.v 0))),
          Eqn.I (SI.app 111 (SA.l (SL.v 0) (SA.i (SI.v 6) (SA.i (SI.v 7) (SA.i (SI.v 8) SA.nil)))))
            (SI.c (Int.ofNat 0)),
          Eqn.I (SI.app 110 (SA.l (SL.v 0) (SA.i (SI.v 6) (SA.i (SI.v 7) (SA.i (SI.v 8) SA.nil)))))
            (SI.c (Int.ofNat 5)),
          Eqn.I
            (SI.len
              (SL.app 110
                (SA.l (SL.v 0) (SA.i (SI.v 6) (SA.i (SI.v 7) (SA.i (SI.v 8) (SA.i (SI.c (Int.ofNat 1)) SA.nil)))))))
            (SI.len (SL.v 0)),
          Eqn.L
            (SL.app 110
              (SA.l (SL.v 0) (SA.i (SI.v 6) (SA.i (SI.v 7) (SA.i (SI.v 8) (SA.i (SI.c (Int.ofNat 1)) SA.nil))))))
            (SL.v 0)] },
    {
      pc :=
        [SB.lt
            (SI.app 150
              (SA.l (SL.v 0)
                (SA.i (SI.sub (SI.len (SL.v 0)) (SI.c (Int.ofNat 1))) (SA.i (SI.c (Int.negSucc 0)) SA.nil))))
            (SI.c (Int.ofNat 0)),
          SB.lt
            (SI.app 150
              (SA.l (SL.v 0)
                (SA.i (SI.sub (SI.len (SL.v 0)) (SI.c (Int.ofNat 1))) (SA.i (SI.c (Int.negSucc 0)) SA.nil))))
            (SI.len (SL.v 0)),
          SB.le (SI.c (Int.negSucc 0))
            (SI.app 150
              (SA.l (SL.v 0)
                (SA.i (SI.sub (SI.len (SL.v 0)) (SI.c (Int.ofNat 1))) (SA.i (SI.c (Int.negSucc 0)) SA.nil)))),
          SB.not
            (SB.app 150
              (SA.l (SL.v 0)
                (SA.i (SI.sub (SI.len (SL.v 0)) (SI.c (Int.ofNat 1)))
                  (SA.i (SI.v 6) (SA.i (SI.v 7) (SA.i (SI.v 8) SA.nil)))))),
          SB.not (SB.lt (SI.c (Int.ofNat 65535)) (SI.v 7)), SB.not (SB.lt (SI.v 7) (SI.c (Int.ofNat 0))),
          SB.not (SB.eq (SI.v 6) (SI.v 8)), SB.le (SI.v 8) (SI.c (Int.ofNat 16)), SB.le (SI.c (Int.ofNat 1)) (SI.v 8),
          SB.le (SI.v 6) (SI.c (Int.ofNat 16)), SB.le (SI.c (Int.ofNat 1)) (SI.v 6), SB.v 0,
          SB.le (SI.c (Int.ofNat 1)) (SI.len (SL.v 0)), SB.le (SI.len (SL.v 0)) (SI.c (Int.ofNat 64)), SB.c true,
          SB.and (SB.c true) (SB.or (SB.v 0) (SB.not (SB.v 0))), SB.app 140 (SA.l (SL.v 0) SA.nil)],
      eqs :=
        [Eqn.T
            (SB.eq
              (SI.len
                (SL.app 110
                  (SA.l (SL.v 0) (SA.i (SI.v 6) (SA.i (SI.v 7) (SA.i (SI.v 8) (SA.i (SI.c (Int.ofNat 1)) SA.nil)))))))
              (SI.len (SL.v 0))),
          Eqn.I (SI.app 111 (SA.l (SL.v 0) (SA.i (SI.v 6) (SA.i (SI.v 7) (SA.i (SI.v 8) SA.nil)))))
            (SI.c (Int.ofNat 0)),
          Eqn.I (SI.app 110 (SA.l (SL.v 0) (SA.i (SI.v 6) (SA.i (SI.v 7) (SA.i (SI.v 8) SA.nil)))))
            (SI.c (Int.ofNat 3)),
          Eqn.I
            (SI.len
              (SL.app 110
                (SA.l (SL.v 0) (SA.i (SI.v 6) (SA.i (SI.v 7) (SA.i (SI.v 8) (SA.i (SI.c (Int.ofNat 1)) SA.nil)))))))
            (SI.len (SL.v 0)),
          Eqn.L
            (SL.app 110
              (SA.l (SL.v 0) (SA.i (SI.v 6) (SA.i (SI.v 7) (SA.i (SI.v 8) (SA.i (SI.c (Int.ofNat 1)) SA.nil))))))
            (SL.v 0)] },
    {
      pc :=
        [SB.not
            (SB.lt
              (SI.app 150
                (SA.l (SL.v 0)
                  (SA.i (SI.sub (SI.len (SL.v 0)) (SI.c (Int.ofNat 1))) (SA.i (SI.c (Int.negSucc 0)) SA.nil))))
              (SI.c (Int.ofNat 0))),
          SB.lt
            (SI.app 150
              (SA.l (SL.v 0)
                (SA.i (SI.sub (SI.len (SL.v 0)) (SI.c (Int.ofNat 1))) (SA.i (SI.c (Int.negSucc 0)) SA.nil))))
            (SI.len (SL.v 0)),
          SB.le (SI.c (Int.negSucc 0))
            (SI.app 150
              (SA.l (SL.v 0)
                (SA.i (SI.sub (SI.len (SL.v 0)) (SI.c (Int.ofNat 1))) (SA.i (SI.c (Int.negSucc 0)) SA.nil)))),
          SB.not
            (SB.app 150
              (SA.l (SL.v 0)
                (SA.i (SI.sub (SI.len (SL.v 0)) (SI.c (Int.ofNat 1)))
                  (SA.i (SI.v 6) (SA.i (SI.v 7) (SA.i (SI.v 8) SA.nil)))))),
          SB.not (SB.lt (SI.c (Int.ofNat 65535)) (SI.v 7)), SB.not (SB.lt (SI.v 7) (SI.c (Int.ofNat 0))),
          SB.not (SB.eq (SI.v 6) (SI.v 8)), SB.le (SI.v 8) (SI.c (Int.ofNat 16)), SB.le (SI.c (Int.ofNat 1)) (SI.v 8),
          SB.le (SI.v 6) (SI.c (Int.ofNat 16)), SB.le (SI.c (Int.ofNat 1)) (SI.v 6), SB.v 0,
          SB.le (SI.c (Int.ofNat 1)) (SI.len (SL.v 0)), SB.le (SI.len (SL.v 0)) (SI.c (Int.ofNat 64)), SB.c true,
          SB.and (SB.c true) (SB.or (SB.v 0) (SB.not (SB.v 0))), SB.app 140 (SA.l (SL.v 0) SA.nil)],
      eqs :=
        [Eqn.T
            (SB.eq
              (SI.len
                (SL.app 110
                  (SA.l (SL.v 0) (SA.i (SI.v 6) (SA.i (SI.v 7) (SA.i (SI.v 8) (SA.i (SI.c (Int.ofNat 1)) SA.nil)))))))
              (SI.len (SL.v 0))),
          Eqn.I (SI.app 111 (SA.l (SL.v 0) (SA.i (SI.v 6) (SA.i (SI.v 7) (SA.i (SI.v 8) SA.nil)))))
            (SI.app 150
              (SA.l (SL.v 0)
                (SA.i (SI.sub (SI.len (SL.v 0)) (SI.c (Int.ofNat 1))) (SA.i (SI.c (Int.negSucc 0)) SA.nil)))),
          Eqn.I (SI.app 110 (SA.l (SL.v 0) (SA.i (SI.v 6) (SA.i (SI.v 7) (SA.i (SI.v 8) SA.nil)))))
            (SI.c (Int.ofNat 0)),
          Eqn.I
            (SI.len
              (SL.app 110
                (SA.l (SL.v 0) (SA.i (SI.v 6) (SA.i (SI.v 7) (SA.i (SI.v 8) (SA.i (SI.c (Int.ofNat 1)) SA.nil)))))))
            (SI.len (SL.v 0)),
          Eqn.L
            (SL.app 110
              (SA.l (SL.v 0) (SA.i (SI.v 6) (SA.i (SI.v 7) (SA.i (SI.v 8) (SA.i (SI.c (Int.ofNat 1)) SA.nil))))))
            (SL.app 4
              (SA.l
                (SL.app 4
                  (SA.l
                    (SL.app 4
                      (SA.l
                        (SL.app 4
                          (SA.l
                            (SL.app 4
                              (SA.l (SL.v 0)
                                (SA.i
                                  (SI.app 150
                                    (SA.l (SL.v 0)
                                      (SA.i (SI.sub (SI.len (SL.v 0)) (SI.c (Int.ofNat 1)))
                                        (SA.i (SI.c (Int.negSucc 0)) SA.nil))))
                                  (SA.i (SI.c (Int.ofNat 0)) (SA.i (SI.v 6) SA.nil)))))
                            (SA.i
                              (SI.app 150
                                (SA.l (SL.v 0)
                                  (SA.i (SI.sub (SI.len (SL.v 0)) (SI.c (Int.ofNat 1)))
                                    (SA.i (SI.c (Int.negSucc 0)) SA.nil))))
                              (SA.i (SI.c (Int.ofNat 1)) (SA.i (SI.v 7) SA.nil)))))
                        (SA.i
                          (SI.app 150
                            (SA.l (SL.v 0)
                              (SA.i (SI.sub (SI.len (SL.v 0)) (SI.c (Int.ofNat 1)))
                                (SA.i (SI.c (Int.negSucc 0)) SA.nil))))
                          (SA.i (SI.c (Int.ofNat 2)) (SA.i (SI.v 8) SA.nil)))))
                    (SA.i
                      (SI.app 150
                        (SA.l (SL.v 0)
                          (SA.i (SI.sub (SI.len (SL.v 0)) (SI.c (Int.ofNat 1))) (SA.i (SI.c (Int.negSucc 0)) SA.nil))))
                      (SA.i (SI.c (Int.ofNat 3)) (SA.i (SI.c (Int.ofNat 1)) SA.nil)))))
                (SA.i
                  (SI.app 150
                    (SA.l (SL.v 0)
                      (SA.i (SI.sub (SI.len (SL.v 0)) (SI.c (Int.ofNat 1))) (SA.i (SI.c (Int.negSucc 0)) SA.nil))))
                  (SA.i (SI.c (Int.ofNat 4)) (SA.i (SI.c (Int.ofNat 0)) SA.nil)))))] },
    {
      pc :=
        [SB.not (SB.le (SI.v 8) (SI.c (Int.ofNat 16))), SB.le (SI.c (Int.ofNat 1)) (SI.v 8),
          SB.le (SI.v 6) (SI.c (Int.ofNat 16)), SB.le (SI.c (Int.ofNat 1)) (SI.v 6), SB.v 0,
          SB.le (SI.c (Int.ofNat 1)) (SI.len (SL.v 0)), SB.le (SI.len (SL.v 0)) (SI.c (Int.ofNat 64)), SB.c true,
          SB.and (SB.c true) (SB.or (SB.v 0) (SB.not (SB.v 0))), SB.app 140 (SA.l (SL.v 0) SA.nil)],
      eqs :=
        [Eqn.T
            (SB.eq
              (SI.len
                (SL.app 110
                  (SA.l (SL.v 0) (SA.i (SI.v 6) (SA.i (SI.v 7) (SA.i (SI.v 8) (SA.i (SI.c (Int.ofNat 1)) SA.nil)))))))
              (SI.len (SL.v 0))),
          Eqn.I (SI.app 111 (SA.l (SL.v 0) (SA.i (SI.v 6) (SA.i (SI.v 7) (SA.i (SI.v 8) SA.nil)))))
            (SI.c (Int.ofNat 0)),
          Eqn.I (SI.app 110 (SA.l (SL.v 0) (SA.i (SI.v 6) (SA.i (SI.v 7) (SA.i (SI.v 8) SA.nil)))))
            (SI.c (Int.ofNat 1)),
          Eqn.I
            (SI.len
              (SL.app 110
                (SA.l (SL.v 0) (SA.i (SI.v 6) (SA.i (SI.v 7) (SA.i (SI.v 8) (SA.i (SI.c (Int.ofNat 1)) SA.nil)))))))
            (SI.len (SL.v 0)),
          Eqn.L
            (SL.app 110
              (SA.l (SL.v 0) (SA.i (SI.v 6) (SA.i (SI.v 7) (SA.i (SI.v 8) (SA.i (SI.c (Int.ofNat 1)) SA.nil))))))
            (SL.v 0)] },
    {
      pc :=
        [SB.not (SB.le (SI.c (Int.ofNat 1)) (SI.v 8)), SB.le (SI.v 6) (SI.c (Int.ofNat 16)),
          SB.le (SI.c (Int.ofNat 1)) (SI.v 6), SB.v 0, SB.le (SI.c (Int.ofNat 1)) (SI.len (SL.v 0)),
          SB.le (SI.len (SL.v 0)) (SI.c (Int.ofNat 64)), SB.c true,
          SB.and (SB.c true) (SB.or (SB.v 0) (SB.not (SB.v 0))), SB.app 140 (SA.l (SL.v 0) SA.nil)],
      eqs :=
        [Eqn.T
            (SB.eq
              (SI.len
                (SL.app 110
                  (SA.l (SL.v 0) (SA.i (SI.v 6) (SA.i (SI.v 7) (SA.i (SI.v 8) (SA.i (SI.c (Int.ofNat 1)) SA.nil)))))))
              (SI.len (SL.v 0))),
          Eqn.I (SI.app 111 (SA.l (SL.v 0) (SA.i (SI.v 6) (SA.i (SI.v 7) (SA.i (SI.v 8) SA.nil)))))
            (SI.c (Int.ofNat 0)),
          Eqn.I (SI.app 110 (SA.l (SL.v 0) (SA.i (SI.v 6) (SA.i (SI.v 7) (SA.i (SI.v 8) SA.nil)))))
            (SI.c (Int.ofNat 1)),
          Eqn.I
            (SI.len
              (SL.app 110
                (SA.l (SL.v 0) (SA.i (SI.v 6) (SA.i (SI.v 7) (SA.i (SI.v 8) (SA.i (SI.c (Int.ofNat 1)) SA.nil)))))))
            (SI.len (SL.v 0)),
          Eqn.L
            (SL.app 110
              (SA.l (SL.v 0) (SA.i (SI.v 6) (SA.i (SI.v 7) (SA.i (SI.v 8) (SA.i (SI.c (Int.ofNat 1)) SA.nil))))))
            (SL.v 0)] },
    {
      pc :=
        [SB.not (SB.le (SI.v 6) (SI.c (Int.ofNat 16))), SB.le (SI.c (Int.ofNat 1)) (SI.v 6), SB.v 0,
          SB.le (SI.c (Int.ofNat 1)) (SI.len (SL.v 0)), SB.le (SI.len (SL.v 0)) (SI.c (Int.ofNat 64)), SB.c true,
          SB.and (SB.c true) (SB.or (SB.v 0) (SB.not (SB.v 0))), SB.app 140 (SA.l (SL.v 0) SA.nil)],
      eqs :=
        [Eqn.T
            (SB.eq
              (SI.len
                (SL.app 110
                  (SA.l (SL.v 0) (SA.i (SI.v 6) (SA.i (SI.v 7) (SA.i (SI.v 8) (SA.i (SI.c (Int.ofNat 1)) SA.nil)))))))
              (SI.len (SL.v 0))),
          Eqn.I (SI.app 111 (SA.l (SL.v 0) (SA.i (SI.v 6) (SA.i (SI.v 7) (SA.i (SI.v 8) SA.nil)))))
            (SI.c (Int.ofNat 0)),
          Eqn.I (SI.app 110 (SA.l (SL.v 0) (SA.i (SI.v 6) (SA.i (SI.v 7) (SA.i (SI.v 8) SA.nil)))))
            (SI.c (Int.ofNat 1)),
          Eqn.I
            (SI.len
              (SL.app 110
                (SA.l (SL.v 0) (SA.i (SI.v 6) (SA.i (SI.v 7) (SA.i (SI.v 8) (SA.i (SI.c (Int.ofNat 1)) SA.nil)))))))
            (SI.len (SL.v 0)),
          Eqn.L
            (SL.app 110
              (SA.l (SL.v 0) (SA.i (SI.v 6) (SA.i (SI.v 7) (SA.i (SI.v 8) (SA.i (SI.c (Int.ofNat 1)) SA.nil))))))
            (SL.v 0)] },
    {
      pc :=
        [SB.not (SB.le (SI.c (Int.ofNat 1)) (SI.v 6)), SB.v 0, SB.le (SI.c (Int.ofNat 1)) (SI.len (SL.v 0)),
          SB.le (SI.len (SL.v 0)) (SI.c (Int.ofNat 64)), SB.c true,
          SB.and (SB.c true) (SB.or (SB.v 0) (SB.not (SB.v 0))), SB.app 140 (SA.l (SL.v 0) SA.nil)],
      eqs :=
        [Eqn.T
            (SB.eq
              (SI.len
                (SL.app 110
                  (SA.l (SL.v 0) (SA.i (SI.v 6) (SA.i (SI.v 7) (SA.i (SI.v 8) (SA.i (SI.c (Int.ofNat 1)) SA.nil)))))))
              (SI.len (SL.v 0))),
          Eqn.I (SI.app 111 (SA.l (SL.v 0) (SA.i (SI.v 6) (SA.i (SI.v 7) (SA.i (SI.v 8) SA.nil)))))
            (SI.c (Int.ofNat 0)),
          Eqn.I (SI.app 110 (SA.l (SL.v 0) (SA.i (SI.v 6) (SA.i (SI.v 7) (SA.i (SI.v 8) SA.nil)))))
            (SI.c (Int.ofNat 1)),
          Eqn.I
            (SI.len
              (SL.app 110
                (SA.l (SL.v 0) (SA.i (SI.v 6) (SA.i (SI.v 7) (SA.i (SI.v 8) (SA.i (SI.c (Int.ofNat 1)) SA.nil)))))))
            (SI.len (SL.v 0)),
          Eqn.L
            (SL.app 110
              (SA.l (SL.v 0) (SA.i (SI.v 6) (SA.i (SI.v 7) (SA.i (SI.v 8) (SA.i (SI.c (Int.ofNat 1)) SA.nil))))))
            (SL.v 0)] },
    {
      pc :=
        [SB.eq (SI.v 6) (SI.v 8), SB.le (SI.v 8) (SI.c (Int.ofNat 16)), SB.le (SI.c (Int.ofNat 1)) (SI.v 8),
          SB.le (SI.v 6) (SI.c (Int.ofNat 16)), SB.le (SI.c (Int.ofNat 1)) (SI.v 6), SB.not (SB.v 0),
          SB.le (SI.c (Int.ofNat 1)) (SI.len (SL.v 0)), SB.le (SI.len (SL.v 0)) (SI.c (Int.ofNat 64)), SB.c true,
          SB.and (SB.c true) (SB.or (SB.v 0) (SB.not (SB.v 0))), SB.app 140 (SA.l (SL.v 0) SA.nil)],
      eqs :=
        [Eqn.T
            (SB.eq
              (SI.len
                (SL.app 110
                  (SA.l (SL.v 0) (SA.i (SI.v 6) (SA.i (SI.v 7) (SA.i (SI.v 8) (SA.i (SI.c (Int.ofNat 0)) SA.nil)))))))
              (SI.len (SL.v 0))),
          Eqn.I (SI.app 111 (SA.l (SL.v 0) (SA.i (SI.v 6) (SA.i (SI.v 7) (SA.i (SI.v 8) SA.nil)))))
            (SI.c (Int.ofNat 0)),
          Eqn.I (SI.app 110 (SA.l (SL.v 0) (SA.i (SI.v 6) (SA.i (SI.v 7) (SA.i (SI.v 8) SA.nil)))))
            (SI.c (Int.ofNat 1)),
          Eqn.I
            (SI.len
              (SL.app 110
                (SA.l (SL.v 0) (SA.i (SI.v 6) (SA.i (SI.v 7) (SA.i (SI.v 8) (SA.i (SI.c (Int.ofNat 0)) SA.nil)))))))
            (SI.len (SL.v 0)),
          Eqn.L
            (SL.app 110
              (SA.l (SL.v 0) (SA.i (SI.v 6) (SA.i (SI.v 7) (SA.i (SI.v 8) (SA.i (SI.c (Int.ofNat 0)) SA.nil))))))
            (SL.v 0)] },
    {
      pc :=
        [SB.lt (SI.v 7) (SI.c (Int.ofNat 0)), SB.not (SB.eq (SI.v 6) (SI.v 8)), SB.le (SI.v 8) (SI.c (Int.ofNat 16)),
          SB.le (SI.c (Int.ofNat 1)) (SI.v 8), SB.le (SI.v 6) (SI.c (Int.ofNat 16)),
          SB.le (SI.c (Int.ofNat 1)) (SI.v 6), SB.not (SB.v 0), SB.le (SI.c (Int.ofNat 1)) (SI.len (SL.v 0)),
          SB.le (SI.len (SL.v 0)) (SI.c (Int.ofNat 64)), SB.c true,
          SB.and (SB.c true) (SB.or (SB.v 0) (SB.not (SB.v 0))), SB.app 140 (SA.l (SL.v 0) SA.nil)],
      eqs :=
        [Eqn.T
            (SB.eq
              (SI.len
                (SL.app 110
                  (SA.l (SL.v 0) (SA.i (SI.v 6) (SA.i (SI.v 7) (SA.i (SI.v 8) (SA.i (SI.c (Int.ofNat 0)) SA.nil)))))))
              (SI.len (SL.v 0))),
          Eqn.I (SI.app 111 (SA.l (SL.v 0) (SA.i (SI.v 6) (SA.i (SI.v 7) (SA.i (SI.v 8) SA.nil)))))
            (SI.c (Int.ofNat 0)),
          Eqn.I (SI.app 110 (SA.l (SL.v 0) (SA.i (SI.v 6) (SA.i (SI.v 7) (SA.i (SI.v 8) SA.nil)))))
            (SI.c (Int.ofNat 1)),
          Eqn.I
            (SI.len
              (SL.app 110
                (SA.l (SL.v 0) (SA.i (SI.v 6) (SA.i (SI.v 7) (SA.i (SI.v 8) (SA.i (SI.c (Int.ofNat 0)) SA.nil)))))))
            (SI.len (SL.v 0)),
          Eqn.L
            (SL.app 110
              (SA.l (SL.v 0) (SA.i (SI.v 6) (SA.i (SI.v 7) (SA.i (SI.v 8) (SA.i (SI.c (Int.ofNat 0)) SA.nil))))))
            (SL.v 0)] },
    {
      pc :=
        [SB.lt (SI.c (Int.ofNat 65535)) (SI.v 7), SB.not (SB.lt (SI.v 7) (SI.c (Int.ofNat 0))),
          SB.not (SB.eq (SI.v 6) (SI.v 8)), SB.le (SI.v 8) (SI.c (Int.ofNat 16)), SB.le (SI.c (Int.ofNat 1)) (SI.v 8),
          SB.le (SI.v 6) (SI.c (Int.ofNat 16)), SB.le (SI.c (Int.ofNat 1)) (SI.v 6), SB.not (SB.v 0),
          SB.le (SI.c (Int.ofNat 1)) (SI.len (SL.v 0)), SB.le (SI.len (SL.v 0)) (SI.c (Int.ofNat 64)), SB.c true,
          SB.and (SB.c true) (SB.or (SB.v 0) (SB.not (SB.v 0))), SB.app 140 (SA.l (SL.v 0) SA.nil)],
      eqs :=
        [Eqn.T
            (SB.eq
              (SI.len
                (SL.app 110
                  (SA.l (SL.v 0) (SA.i (SI.v 6) (SA.i (SI.v 7) (SA.i (SI.v 8) (SA.i (SI.c (Int.ofNat 0)) SA.nil)))))))
              (SI.len (SL.v 0))),
          Eqn.I (SI.app 111 (SA.l (SL.v 0) (SA.i (SI.v 6) (SA.i (SI.v 7) (SA.i (SI.v 8) SA.nil)))))
            (SI.c (Int.ofNat 0)),
          Eqn.I (SI.app 110 (SA.l (SL.v 0) (SA.i (SI.v 6) (SA.i (SI.v 7) (SA.i (SI.v 8) SA.nil)))))
            (SI.c (Int.ofNat 1)),
          Eqn.I
            (SI.len
              (SL.app 110
                (SA.l (SL.v 0) (SA.i (SI.v 6) (SA.i (SI.v 7) (SA.i (SI.v 8) (SA.i (SI.c (Int.ofNat 0)) SA.nil)))))))
            (SI.len (SL.v 0)),
          Eqn.L
            (SL.app 110
              (SA.l (SL.v 0) (SA.i (SI.v 6) (SA.i (SI.v 7) (SA.i (SI.v 8) (SA.i (SI.c (Int.ofNat 0)) SA.nil))))))
            (SL.v 0)] },
    {
      pc :=
        [SB.app 150
            (SA.l (SL.v 0)
              (SA.i (SI.sub (SI.len (SL.v 0)) (SI.c (Int.ofNat 1)))
                (SA.i (SI.v 6) (SA.i (SI.v 7) (SA.i (SI.v 8) SA.nil))))),
          SB.not (SB.lt (SI.c (Int.ofNat 65535)) (SI.v 7)), SB.not (SB.lt (SI.v 7) (SI.c (Int.ofNat 0))),
          SB.not (SB.eq (SI.v 6) (SI.v 8)), SB.le (SI.v 8) (SI.c (Int.ofNat 16)), SB.le (SI.c (Int.ofNat 1)) (SI.v 8),
          SB.le (SI.v 6) (SI.c (Int.ofNat 16)), SB.le (SI.c (Int.ofNat 1)) (SI.v 6), SB.not (SB.v 0),
          SB.le (SI.c (Int.ofNat 1)) (SI.len (SL.v 0)), SB.le (SI.len (SL.v 0)) (SI.c (Int.ofNat 64)), SB.c true,
          SB.and (SB.c true) (SB.or (SB.v 0) (SB.not (SB.v 0))), SB.app 140 (SA.l (SL.v 0) SA.nil)],
      eqs :=
        [Eqn.T
            (SB.eq
              (SI.len
                (SL.app 110
                  (SA.l (SL.v 0) (SA.i (SI.v 6) (SA.i (SI.v 7) (SA.i (SI.v 8) (SA.i (SI.c (Int.ofNat 0)) SA.nil)))))))
              (SI.len (SL.v 0))),
          Eqn.I (SI.app 111 (SA.l (SL.v 0) (SA.i (SI.v 6) (SA.i (SI.v 7) (SA.i (SI.v 8) SA.nil)))))
            (SI.c (Int.ofNat 0)),
          Eqn.I (SI.app 110 (SA.l (SL.v 0) (SA.i (SI.v 6) (SA.i (SI.v 7) (SA.i (SI.v 8) SA.nil)))))
            (SI.c (Int.ofNat 5)),
          Eqn.I
            (SI.len
              (SL.app 110
                (SA.l (SL.v 0) (SA.i (SI.v 6) (SA.i (SI.v 7) (SA.i (SI.v 8) (SA.i (SI.c (Int.ofNat 0)) SA.nil)))))))
            (SI.len (SL.v 0)),
          Eqn.L
            (SL.app 110
              (SA.l (SL.v 0) (SA.i (SI.v 6) (SA.i (SI.v 7) (SA.i (SI.v 8) (SA.i (SI.c (Int.ofNat 0)) SA.nil))))))
            (SL.v 0)] },
    {
      pc :=
        [SB.lt
            (SI.app 150
              (SA.l (SL.v 0)
                (SA.i (SI.sub (SI.len (SL.v 0)) (SI.c (Int.ofNat 1))) (SA.i (SI.c (Int.negSucc 0)) SA.nil))))
            (SI.c (Int.ofNat 0)),
          SB.lt
            (SI.app 150
              (SA.l (SL.v 0)
                (SA.i (SI.sub (SI.len (SL.v 0)) (SI.c (Int.ofNat 1))) (SA.i (SI.c (Int.negSucc 0)) SA.nil))))
            (SI.len (SL.v 0)),
          SB.le (SI.c (Int.negSucc 0))
            (SI.app 150
              (SA.l (SL.v 0)
                (SA.i (SI.sub (SI.len (SL.v 0)) (SI.c (Int.ofNat 1))) (SA.i (SI.c (Int.negSucc 0)) SA.nil)))),
          SB.not
            (SB.app 150
              (SA.l (SL.v 0)
                (SA.i (SI.sub (SI.len (SL.v 0)) (SI.c (Int.ofNat 1)))
                  (SA.i (SI.v 6) (SA.i (SI.v 7) (SA.i (SI.v 8) SA.nil)))))),
          SB.not (SB.lt (SI.c (Int.ofNat 65535)) (SI.v 7)), SB.not (SB.lt (SI.v 7) (SI.c (Int.ofNat 0))),
          SB.not (SB.eq (SI.v 6) (SI.v 8)), SB.le (SI.v 8) (SI.c (Int.ofNat 16)), SB.le (SI.c (Int.ofNat 1)) (SI.v 8),
          SB.le (SI.v 6) (SI.c (Int.ofNat 16)), SB.le (SI.c (Int.ofNat 1)) (SI.v 6), SB.not (SB.v 0),
          SB.le (SI.c (Int.ofNat 1)) (SI.len (SL.v 0)), SB.le (SI.len (SL.v 0)) (SI.c (Int.ofNat 64)), SB.c true,
          SB.and (SB.c true) (SB.or (SB.v 0) (SB.not (SB.v 0))), SB.app 140 (SA.l (SL.v 0) SA.nil)],
      eqs :=
        [Eqn.T
            (SB.eq
              (SI.len
                (SL.app 110
                  (SA.l (SL.v 0) (SA.i (SI.v 6) (SA.i (SI.v 7) (SA.i (SI.v 8) (SA.i (SI.c (Int.ofNat 0)) SA.nil)))))))
              (SI.len (SL.v 0))),
          Eqn.I (SI.app 111 (SA.l (SL.v 0) (SA.i (SI.v 6) (SA.i (SI.v 7) (SA.i (SI.v 8) SA.nil)))))
            (SI.c (Int.ofNat 0)),
          Eqn.I (SI.app 110 (SA.l (SL.v 0) (SA.i (SI.v 6) (SA.i (SI.v 7) (SA.i (SI.v 8) SA.nil)))))
            (SI.c (Int.ofNat 3)),
          Eqn.I
            (SI.len
              (SL.app 110
                (SA.l (SL.v 0) (SA.i (SI.v 6) (SA.i (SI.v 7) (SA.i (SI.v 8) (SA.i (SI.c (Int.ofNat 0)) SA.nil)))))))
            (SI.len (SL.v 0)),
          Eqn.L
            (SL.app 110
              (SA.l (SL.v 0) (SA.i (SI.v 6) (SA.i (SI.v 7) (SA.i (SI.v 8) (SA.i (SI.c (Int.ofNat 0)) SA.nil))))))
            (SL.v 0)] },
    {
      pc :=
        [SB.not
            (SB.lt
              (SI.app 150
                (SA.l (SL.v 0)
                  (SA.i (SI.sub (SI.len (SL.v 0)) (SI.c (Int.ofNat 1))) (SA.i (SI.c (Int.negSucc 0)) SA.nil))))
              (SI.c (Int.ofNat 0))),
          SB.lt
            (SI.app 150
              (SA.l (SL.v 0)
                (SA.i (SI.sub (SI.len (SL.v 0)) (SI.c (Int.ofNat 1))) (SA.i (SI.c (Int.negSucc 0)) SA.nil))))
            (SI.len (SL.v 0)),
          SB.le (SI.c (Int.negSucc 0))
            (SI.app 150
              (SA.l (SL.v 0)
                (SA.i (SI.sub (SI.len (SL.v 0)) (SI.c (Int.ofNat 1))) (SA.i (SI.c (Int.negSucc 0)) SA.nil)))),
          SB.not
            (SB.app 150
              (SA.l (SL.v 0)
                (SA.i (SI.sub (SI.len (SL.v 0)) (SI.c (Int.ofNat 1)))
                  (SA.i (SI.v 6) (SA.i (SI.v 7) (SA.i (SI.v 8) SA.nil)))))),
          SB.not (SB.lt (SI.c (Int.ofNat 65535)) (SI.v 7)), SB.not (SB.lt (SI.v 7) (SI.c (Int.ofNat 0))),
          SB.not (SB.eq (SI.v 6) (SI.v 8)), SB.le (SI.v 8) (SI.c (Int.ofNat 16)), SB.le (SI.c (Int.ofNat 1)) (SI.v 8),
          SB.le (SI.v 6) (SI.c (Int.ofNat 16)), SB.le (SI.c (Int.ofNat 1)) (SI.v 6), SB.not (SB.v 0),
          SB.le (SI.c (Int.ofNat 1)) (SI.len (SL.v 0)), SB.le (SI.len (SL.v 0)) (SI.c (Int.ofNat 64)), SB.c true,
          SB.and (SB.c true) (SB.or (SB.v 0) (SB.not (SB.v 0))), SB.app 140 (SA.l (SL.v 0) SA.nil)],
      eqs :=
        [Eqn.T
            (SB.eq
              (SI.len
                (SL.app 110
                  (SA.l (SL.v 0) (SA.i (SI.v 6) (SA.i (SI.v 7) (SA.i (SI.v 8) (SA.i (SI.c (Int.ofNat 0)) SA.nil)))))))
              (SI.len (SL.v 0))),
          Eqn.I (SI.app 111 (SA.l (SL.v 0) (SA.i (SI.v 6) (SA.i (SI.v 7) (SA.i (SI.v 8) SA.nil)))))
            (SI.app 150
              (SA.l (SL.v 0)
                (SA.i (SI.sub (SI.len (SL.v 0)) (SI.c (Int.ofNat 1))) (SA.i (SI.c (Int.negSucc 0)) SA.nil)))),
          Eqn.I (SI.app 110 (SA.l (SL.v 0) (SA.i (SI.v 6) (SA.i (SI.v 7) (SA.i (SI.v 8) SA.nil)))))
            (SI.c (Int.ofNat 0)),
          Eqn.I
            (SI.len
              (SL.app 110
                (SA.l (SL.v 0) (SA.i (SI.v 6) (SA.i (SI.v 7) (SA.i (SI.v 8) (SA.i (SI.c (Int.ofNat 0)) SA.nil)))))))
            (SI.len (SL.v 0)),
          Eqn.L
            (SL.app 110
              (SA.l (SL.v 0) (SA.i (SI.v 6) (SA.i (SI.v 7) (SA.i (SI.v 8) (SA.i (SI.c (Int.ofNat 0)) SA.nil))))))
            (SL.app 4
              (SA.l
                (SL.app 4
                  (SA.l
                    (SL.app 4
                      (SA.l
                        (SL.app 4
                          (SA.l
                            (SL.app 4
                              (SA.l (SL.v 0)
                                (SA.i
                                  (SI.app 150
                                    (SA.l (SL.v 0)
                                      (SA.i (SI.sub (SI.len (SL.v 0)) (SI.c (Int.ofNat 1)))
                                        (SA.i (SI.c (Int.negSucc 0)) SA.nil))))
                                  (SA.i (SI.c (Int.ofNat 0)) (SA.i (SI.v 6) SA.nil)))))
                            (SA.i
                              (SI.app 150
                                (SA.l (SL.v 0)
                                  (SA.i (SI.sub (SI.len (SL.v 0)) (SI.c (Int.ofNat 1)))
                                    (SA.i (SI.c (Int.negSucc 0)) SA.nil))))
                              (SA.i (SI.c (Int.ofNat 1)) (SA.i (SI.v 7) SA.nil)))))
                        (SA.i
                          (SI.app 150
                            (SA.l (SL.v 0)
                              (SA.i (SI.sub (SI.len (SL.v 0)) (SI.c (Int.ofNat 1)))
                                (SA.i (SI.c (Int.negSucc 0)) SA.nil))))
                          (SA.i (SI.c (Int.ofNat 2)) (SA.i (SI.v 8) SA.nil)))))
                    (SA.i
                      (SI.app 150
                        (SA.l (SL.v 0)
                          (SA.i (SI.sub (SI.len (SL.v 0)) (SI.c (Int.ofNat 1))) (SA.i (SI.c (Int.negSucc 0)) SA.nil))))
                      (SA.i (SI.c (Int.ofNat 3)) (SA.i (SI.c (Int.ofNat 0)) SA.nil)))))
                (SA.i
                  (SI.app 150
                    (SA.l (SL.v 0)
                      (SA.i (SI.sub (SI.len (SL.v 0)) (SI.c (Int.ofNat 1))) (SA.i (SI.c (Int.negSucc 0)) SA.nil))))
                  (SA.i (SI.c (Int.ofNat 4)) (SA.i (SI.c (Int.ofNat 0)) SA.nil)))))] },
    {
      pc :=
        [SB.not (SB.le (SI.v 8) (SI.c (Int.ofNat 16))), SB.le (SI.c (Int.ofNat 1)) (SI.v 8),
          SB.le (SI.v 6) (SI.c (Int.ofNat 16)), SB.le (SI.c (Int.ofNat 1)) (SI.v 6), SB.not (SB.v 0),
          SB.le (SI.c (Int.ofNat 1)) (SI.len (SL.v 0)), SB.le (SI.len (SL.v 0)) (SI.c (Int.ofNat 64)), SB.c true,
          SB.and (SB.c true) (SB.or (SB.v 0) (SB.not (SB.v 0))), SB.app 140 (SA.l (SL.v 0) SA.nil)],
      eqs :=
        [Eqn.T
            (SB.eq
              (SI.len
                (SL.app 110
                  (SA.l (SL.v 0) (SA.i (SI.v 6) (SA.i (SI.v 7) (SA.i (SI.v 8) (SA.i (SI.c (Int.ofNat 0)) SA.nil)))))))
              (SI.len (SL.v 0))),
          Eqn.I (SI.app 111 (SA.l (SL.v 0) (SA.i (SI.v 6) (SA.i (SI.v 7) (SA.i (SI.v 8) SA.nil)))))
            (SI.c (Int.ofNat 0)),
          Eqn.I (SI.app 110 (SA.l (SL.v 0) (SA.i (SI.v 6) (SA.i (SI.v 7) (SA.i (SI.v 8) SA.nil)))))
            (SI.c (Int.ofNat 1)),
          Eqn.I
            (SI.len
              (SL.app 110
                (SA.l (SL.v 0) (SA.i (SI.v 6) (SA.i (SI.v 7) (SA.i (SI.v 8) (SA.i (SI.c (Int.ofNat 0)) SA.nil)))))))
            (SI.len (SL.v 0)),
          Eqn.L
            (SL.app 110
              (SA.l (SL.v 0) (SA.i (SI.v 6) (SA.i (SI.v 7) (SA.i (SI.v 8) (SA.i (SI.c (Int.ofNat 0)) SA.nil))))))
            (SL.v 0)] },
    {
      pc :=
        [SB.not (SB.le (SI.c (Int.ofNat 1)) (SI.v 8)), SB.le (SI.v 6) (SI.c (Int.ofNat 16)),
          SB.le (SI.c (Int.ofNat 1)) (SI.v 6), SB.not (SB.v 0), SB.le (SI.c (Int.ofNat 1)) (SI.len (SL.v 0)),
          SB.le (SI.len (SL.v 0)) (SI.c (Int.ofNat 64)), SB.c true,
          SB.and (SB.c true) (SB.or (SB.v 0) (SB.not (SB.v 0))), SB.app 140 (SA.l (SL.v 0) SA.nil)],
      eqs :=
        [Eqn.T
            (SB.eq
              (SI.len
                (SL.app 110
                  (SA.l (SL.v 0) (SA.i (SI.v 6) (SA.i (SI.v 7) (SA.i (SI.v 8) (SA.i (SI.c (Int.ofNat 0)) SA.nil)))))))
              (SI.len (SL.v 0))),
          Eqn.I (SI.app 111 (SA.l (SL.v 0) (SA.i (SI.v 6) (SA.i (SI.v 7) (SA.i (SI.v 8) SA.nil)))))
            (SI.c (Int.ofNat 0)),
          Eqn.I (SI.app 110 (SA.l (SL.v 0) (SA.i (SI.v 6) (SA.i (SI.v 7) (SA.i (SI.v 8) SA.nil)))))
            (SI.c (Int.ofNat 1)),
          Eqn.I
            (SI.len
              (SL.app 110
                (SA.l (SL.v 0) (SA.i (SI.v 6) (SA.i (SI.v 7) (SA.i (SI.v 8) (SA.i (SI.c (Int.ofNat 0)) SA.nil)))))))
            (SI.len (SL.v 0)),
          Eqn.L
            (SL.app 110
              (SA.l (SL.v 0) (SA.i (SI.v 6) (SA.i (SI.v 7) (SA.i (SI.v 8) (SA.i (SI.c (Int.ofNat 0)) SA.nil))))))
            (SL.v 0)] },
    {
      pc :=
        [SB.not (SB.le (SI.v 6) (SI.c (Int.ofNat 16))), SB.le (SI.c (Int.ofNat 1)) (SI.v 6), SB.not (SB.v 0),
          SB.le (SI.c (Int.ofNat 1)) (SI.len (SL.v 0)), SB.le (SI.len (SL.v 0)) (SI.c (Int.ofNat 64)), SB.c true,
          SB.and (SB.c true) (SB.or (SB.v 0) (SB.not (SB.v 0))), SB.app 140 (SA.l (SL.v 0) SA.nil)],
      eqs :=
        [Eqn.T
            (SB.eq
              (SI.len
                (SL.app 110
                  (SA.l (SL.v 0) (SA.i (SI.v 6) (SA.i (SI.v 7) (SA.i (SI.v 8) (SA.i (SI.c (Int.ofNat 0)) SA.nil)))))))
              (SI.len (SL.v 0))),
          Eqn.I (SI.app 111 (SA.l (SL.v 0) (SA.i (SI.v 6) (SA.i (SI.v 7) (SA.i (SI.v 8) SA.nil)))))
            (SI.c (Int.ofNat 0)),
          Eqn.I (SI.app 110 (SA.l (SL.v 0) (SA.i (SI.v 6) (SA.i (SI.v 7) (SA.i (SI.v 8) SA.nil)))))
            (SI.c (Int.ofNat 1)),
          Eqn.I
            (SI.len
              (SL.app 110
                (SA.l (SL.v 0) (SA.i (SI.v 6) (SA.i (SI.v 7) (SA.i (SI.v 8) (SA.i (SI.c (Int.ofNat 0)) SA.nil)))))))
            (SI.len (SL.v 0)),
          Eqn.L
            (SL.app 110
              (SA.l (SL.v 0) (SA.i (SI.v 6) (SA.i (SI.v 7) (SA.i (SI.v 8) (SA.i (SI.c (Int.ofNat 0)) SA.nil))))))
            (SL.v 0)] },
    {
      pc :=
        [SB.not (SB.le (SI.c (Int.ofNat 1)) (SI.v 6)), SB.not (SB.v 0), SB.le (SI.c (Int.ofNat 1)) (SI.len (SL.v 0)),
          SB.le (SI.len (SL.v 0)) (SI.c (Int.ofNat 64)), SB.c true,
          SB.and (SB.c true) (SB.or (SB.v 0) (SB.not (SB.v 0))), SB.app 140 (SA.l (SL.v 0) SA.nil)],
      eqs :=
        [Eqn.T
            (SB.eq
              (SI.len
                (SL.app 110
                  (SA.l (SL.v 0) (SA.i (SI.v 6) (SA.i (SI.v 7) (SA.i (SI.v 8) (SA.i (SI.c (Int.ofNat 0)) SA.nil)))))))
              (SI.len (SL.v 0))),
          Eqn.I (SI.app 111 (SA.l (SL.v 0) (SA.i (SI.v 6) (SA.i (SI.v 7) (SA.i (SI.v 8) SA.nil)))))
            (SI.c (Int.ofNat 0)),
          Eqn.I (SI.app 110 (SA.l (SL.v 0) (SA.i (SI.v 6) (SA.i (SI.v 7) (SA.i (SI.v 8) SA.nil)))))
            (SI.c (Int.ofNat 1)),
          Eqn.I
            (SI.len
              (SL.app 110
                (SA.l (SL.v 0) (SA.i (SI.v 6) (SA.i (SI.v 7) (SA.i (SI.v 8) (SA.i (SI.c (Int.ofNat 0)) SA.nil)))))))
            (SI.len (SL.v 0)),
          Eqn.L
            (SL.app 110
              (SA.l (SL.v 0) (SA.i (SI.v 6) (SA.i (SI.v 7) (SA.i (SI.v 8) (SA.i (SI.c (Int.ofNat 0)) SA.nil))))))
            (SL.v 0)] }] := by kernel_rfl
theorem cROffer_ok : cROffer.ok Φ Try.prog := by
  refine call_rule (fun ρ => s1_ok ρ) cROffer_obs ?_
  simp only [and_imp, List.forall_mem_cons, List.not_mem_nil, false_implies, implies_true, and_true, Ob.ok, holds, Eqn.ok, evB_eq, evB_lt, evB_le, evB_not, evB_and, evB_or, evB_eqL, evB_app, evB_v, evB_c, ev_sel, ev_len, ev_v, ev_c, ev_add, ev_sub, ev_mul, ev_quo, ev_rem, ev_bits, ev_wrap, evL_v, evL_lit, evL_app, ev_app, evA_l, evA_i, evA_nil, std_min, std_max, std_cat, std_take, std_drop, std_row, std_set, std_rep, std_find, std_put, std_del, std_flag, std_unflag, std_clr, std_left, std_copy, ints_cons, ints_nil, ofNat_lit, negSucc_lit, decide_eq_true_eq, Bool.and_eq_true, Bool.or_eq_true, Bool.not_eq_true', Bool.and_eq_false_iff, Bool.or_eq_false_iff, decide_eq_false_iff_not, aI110, aI111, aI112, aI113, aI114, aL100, aL101, aL102, aL103, aL110, aL112, aL113, aL114, aL115, aL116, aB130, aB131, aB132, aB199, aI142, aL140, aL141, aL143, aL144, aB140, aB141, aI150, aL150, aB150]
  repeat' apply And.intro
  all_goals intro ρ hR
  all_goals intros
  all_goals first
    | (exfalso
       omega)
    | (have hT : ∀ r ∈ ρ.l 0, okRow K5 r := hR.row 1 rfl rfl
       have hG : okGB (ρ.l 0) = true := by with_reducible assumption
       try simp only [show (-(0 + 1) : Int) = -1 from rfl] at *
       have ol1 := offT_len (ρ.l 0) (ρ.i 6) (ρ.i 7) (ρ.i 8) 1
       have ol0 := offT_len (ρ.l 0) (ρ.i 6) (ρ.i 7) (ρ.i 8) 0
       have e := off_arg (T := ρ.l 0) (o := ρ.i 6) (p := ρ.i 7) (t := ρ.i 8) (by unfold argB; omega)
       have n := off_no e (by decide)
       exact ⟨by omega, n.1, e, by omega, n.2 _⟩)
    | (have hT : ∀ r ∈ ρ.l 0, okRow K5 r := hR.row 1 rfl rfl
       have hG : okGB (ρ.l 0) = true := by with_reducible assumption
       try simp only [show (-(0 + 1) : Int) = -1 from rfl] at *
       have ha := any_all (T := ρ.l 0) (by with_reducible assumption)
       have ol1 := offT_len (ρ.l 0) (ρ.i 6) (ρ.i 7) (ρ.i 8) 1
       have ol0 := offT_len (ρ.l 0) (ρ.i 6) (ρ.i 7) (ρ.i 8) 0
       have e := off_twice (T := ρ.l 0) (o := ρ.i 6) (p := ρ.i 7) (t := ρ.i 8) (by unfold argB; omega) ha
       have n := off_no e (by decide)
       exact ⟨by omega, n.1, e, by omega, n.2 _⟩)
    | (have hT : ∀ r ∈ ρ.l 0, okRow K5 r := hR.row 1 rfl rfl
       have hG : okGB (ρ.l 0) = true := by with_reducible assumption
       try simp only [show (-(0 + 1) : Int) = -1 from rfl] at *
       have ha := any_none (T := ρ.l 0) (by with_reducible assumption)
       have ol1 := offT_len (ρ.l 0) (ρ.i 6) (ρ.i 7) (ρ.i 8) 1
       have ol0 := offT_len (ρ.l 0) (ρ.i 6) (ρ.i 7) (ρ.i 8) 0
       have e := off_full (T := ρ.l 0) (o := ρ.i 6) (p := ρ.i 7) (t := ρ.i 8) (by unfold argB; omega) ha (plc_full (by omega))
       have n := off_no e (by decide)
       exact ⟨by omega, n.1, e, by omega, n.2 _⟩)
    | (have hT : ∀ r ∈ ρ.l 0, okRow K5 r := hR.row 1 rfl rfl
       have hG : okGB (ρ.l 0) = true := by with_reducible assumption
       try simp only [show (-(0 + 1) : Int) = -1 from rfl] at *
       have ha := any_none (T := ρ.l 0) (by with_reducible assumption)
       have hp := plc_ok (T := ρ.l 0) (by omega)
       have ol1 := offT_len (ρ.l 0) (ρ.i 6) (ρ.i 7) (ρ.i 8) 1
       have ol0 := offT_len (ρ.l 0) (ρ.i 6) (ρ.i 7) (ρ.i 8) 0
       have e := off_ok (T := ρ.l 0) (o := ρ.i 6) (p := ρ.i 7) (t := ρ.i 8) (by unfold argB; omega) ha hp.1
       rw [hp.2]
       exact ⟨by omega, e.2.1, e.1, by omega, (e.2.2 _).trans (set5 hT _ _ _ _ _ _).symm⟩)
set_option maxRecDepth 100000 in
theorem cRTake_obs : callObs Φ Try.prog s0 1000 cRTake.f cRTake.vs cRTake.o cRTake.pc cRTake.outs = some
  [{
      pc :=
        [SB.app 130 (SA.l (SL.v 0) (SA.i (SI.v 0) SA.nil)), SB.v 0, SB.le (SI.c (Int.ofNat 1)) (SI.len (SL.v 0)),
          SB.le (SI.len (SL.v 0)) (SI.c (Int.ofNat 64)), SB.c true,
          SB.and (SB.c true) (SB.or (SB.v 0) (SB.not (SB.v 0))), SB.app 140 (SA.l (SL.v 0) SA.nil),
          SB.app 131 (SA.l (SL.v 0) SA.nil)],
      eqs :=
        [Eqn.T
            (SB.eq
              (SI.len (SL.app 112 (SA.l (SL.v 0) (SA.i (SI.v 0) (SA.i (SI.v 5) (SA.i (SI.c (Int.ofNat 1)) SA.nil))))))
              (SI.len (SL.v 0))),
          Eqn.I (SI.app 112 (SA.l (SL.v 0) (SA.i (SI.v 0) (SA.i (SI.v 5) (SA.i (SI.c (Int.ofNat 1)) SA.nil)))))
            (SI.c (Int.ofNat 4)),
          Eqn.I (SI.len (SL.app 112 (SA.l (SL.v 0) (SA.i (SI.v 0) (SA.i (SI.v 5) (SA.i (SI.c (Int.ofNat 1)) SA.nil))))))
            (SI.len (SL.v 0)),
          Eqn.L (SL.app 112 (SA.l (SL.v 0) (SA.i (SI.v 0) (SA.i (SI.v 5) (SA.i (SI.c (Int.ofNat 1)) SA.nil)))))
            (SL.v 0)] },
    {
      pc :=
        [SB.eq (SI.sel (SL.v 0) (SI.v 0) 3) (SI.c (Int.ofNat 0)), SB.eq (SI.sel (SL.v 0) (SI.v 0) 2) (SI.v 5),
          SB.lt (SI.v 0) (SI.len (SL.v 0)), SB.le (SI.c (Int.ofNat 0)) (SI.v 0),
          SB.not (SB.app 130 (SA.l (SL.v 0) (SA.i (SI.v 0) SA.nil))), SB.v 0,
          SB.le (SI.c (Int.ofNat 1)) (SI.len (SL.v 0)), SB.le (SI.len (SL.v 0)) (SI.c (Int.ofNat 64)), SB.c true,
          SB.and (SB.c true) (SB.or (SB.v 0) (SB.not (SB.v 0))), SB.app 140 (SA.l (SL.v 0) SA.nil),
          SB.app 131 (SA.l (SL.v 0) SA.nil)],
      eqs :=
        [Eqn.T
            (SB.eq
              (SI.len (SL.app 112 (SA.l (SL.v 0) (SA.i (SI.v 0) (SA.i (SI.v 5) (SA.i (SI.c (Int.ofNat 1)) SA.nil))))))
              (SI.len (SL.v 0))),
          Eqn.I (SI.app 112 (SA.l (SL.v 0) (SA.i (SI.v 0) (SA.i (SI.v 5) (SA.i (SI.c (Int.ofNat 1)) SA.nil)))))
            (SI.c (Int.ofNat 7)),
          Eqn.I (SI.len (SL.app 112 (SA.l (SL.v 0) (SA.i (SI.v 0) (SA.i (SI.v 5) (SA.i (SI.c (Int.ofNat 1)) SA.nil))))))
            (SI.len (SL.v 0)),
          Eqn.L (SL.app 112 (SA.l (SL.v 0) (SA.i (SI.v 0) (SA.i (SI.v 5) (SA.i (SI.c (Int.ofNat 1)) SA.nil)))))
            (SL.v 0)] },
    {
      pc :=
        [SB.le (SI.c (Int.ofNat 1000)) (SI.sel (SL.v 0) (SI.v 0) 4),
          SB.not (SB.eq (SI.sel (SL.v 0) (SI.v 0) 3) (SI.c (Int.ofNat 0))), SB.eq (SI.sel (SL.v 0) (SI.v 0) 2) (SI.v 5),
          SB.lt (SI.v 0) (SI.len (SL.v 0)), SB.le (SI.c (Int.ofNat 0)) (SI.v 0),
          SB.not (SB.app 130 (SA.l (SL.v 0) (SA.i (SI.v 0) SA.nil))), SB.v 0,
          SB.le (SI.c (Int.ofNat 1)) (SI.len (SL.v 0)), SB.le (SI.len (SL.v 0)) (SI.c (Int.ofNat 64)), SB.c true,
          SB.and (SB.c true) (SB.or (SB.v 0) (SB.not (SB.v 0))), SB.app 140 (SA.l (SL.v 0) SA.nil),
          SB.app 131 (SA.l (SL.v 0) SA.nil)],
      eqs :=
        [Eqn.T
            (SB.eq
              (SI.len (SL.app 112 (SA.l (SL.v 0) (SA.i (SI.v 0) (SA.i (SI.v 5) (SA.i (SI.c (Int.ofNat 1)) SA.nil))))))
              (SI.len (SL.v 0))),
          Eqn.I (SI.app 112 (SA.l (SL.v 0) (SA.i (SI.v 0) (SA.i (SI.v 5) (SA.i (SI.c (Int.ofNat 1)) SA.nil)))))
            (SI.c (Int.ofNat 3)),
          Eqn.I (SI.len (SL.app 112 (SA.l (SL.v 0) (SA.i (SI.v 0) (SA.i (SI.v 5) (SA.i (SI.c (Int.ofNat 1)) SA.nil))))))
            (SI.len (SL.v 0)),
          Eqn.L (SL.app 112 (SA.l (SL.v 0) (SA.i (SI.v 0) (SA.i (SI.v 5) (SA.i (SI.c (Int.ofNat 1)) SA.nil)))))
            (SL.v 0)] },
    {
      pc :=
        [SB.not (SB.le (SI.c (Int.ofNat 1000)) (SI.sel (SL.v 0) (SI.v 0) 4)),
          SB.not (SB.eq (SI.sel (SL.v 0) (SI.v 0) 3) (SI.c (Int.ofNat 0))), SB.eq (SI.sel (SL.v 0) (SI.v 0) 2) (SI.v 5),
          SB.lt (SI.v 0) (SI.len (SL.v 0)), SB.le (SI.c (Int.ofNat 0)) (SI.v 0),
          SB.not (SB.app 130 (SA.l (SL.v 0) (SA.i (SI.v 0) SA.nil))), SB.v 0,
          SB.le (SI.c (Int.ofNat 1)) (SI.len (SL.v 0)), SB.le (SI.len (SL.v 0)) (SI.c (Int.ofNat 64)), SB.c true,
          SB.and (SB.c true) (SB.or (SB.v 0) (SB.not (SB.v 0))), SB.app 140 (SA.l (SL.v 0) SA.nil),
          SB.app 131 (SA.l (SL.v 0) SA.nil)],
      eqs :=
        [Eqn.T
            (SB.eq
              (SI.len (SL.app 112 (SA.l (SL.v 0) (SA.i (SI.v 0) (SA.i (SI.v 5) (SA.i (SI.c (Int.ofNat 1)) SA.nil))))))
              (SI.len (SL.v 0))),
          Eqn.I (SI.app 112 (SA.l (SL.v 0) (SA.i (SI.v 0) (SA.i (SI.v 5) (SA.i (SI.c (Int.ofNat 1)) SA.nil)))))
            (SI.c (Int.ofNat 0)),
          Eqn.I (SI.len (SL.app 112 (SA.l (SL.v 0) (SA.i (SI.v 0) (SA.i (SI.v 5) (SA.i (SI.c (Int.ofNat 1)) SA.nil))))))
            (SI.len (SL.v 0)),
          Eqn.L (SL.app 112 (SA.l (SL.v 0) (SA.i (SI.v 0) (SA.i (SI.v 5) (SA.i (SI.c (Int.ofNat 1)) SA.nil)))))
            (SL.app 4
              (SA.l (SL.v 0)
                (SA.i (SI.v 0)
                  (SA.i (SI.c (Int.ofNat 4))
                    (SA.i (SI.wrap IntKind.i64 (SI.add (SI.sel (SL.v 0) (SI.v 0) 4) (SI.c (Int.ofNat 1))))
                      SA.nil)))))] },
    {
      pc :=
        [SB.not (SB.eq (SI.sel (SL.v 0) (SI.v 0) 2) (SI.v 5)), SB.lt (SI.v 0) (SI.len (SL.v 0)),
          SB.le (SI.c (Int.ofNat 0)) (SI.v 0), SB.not (SB.app 130 (SA.l (SL.v 0) (SA.i (SI.v 0) SA.nil))), SB.v 0,
          SB.le (SI.c (Int.ofNat 1)) (SI.len (SL.v 0)), SB.le (SI.len (SL.v 0)) (SI.c (Int.ofNat 64)), SB.c true,
          SB.and (SB.c true) (SB.or (SB.v 0) (SB.not (SB.v 0))), SB.app 140 (SA.l (SL.v 0) SA.nil),
          SB.app 131 (SA.l (SL.v 0) SA.nil)],
      eqs :=
        [Eqn.T
            (SB.eq
              (SI.len (SL.app 112 (SA.l (SL.v 0) (SA.i (SI.v 0) (SA.i (SI.v 5) (SA.i (SI.c (Int.ofNat 1)) SA.nil))))))
              (SI.len (SL.v 0))),
          Eqn.I (SI.app 112 (SA.l (SL.v 0) (SA.i (SI.v 0) (SA.i (SI.v 5) (SA.i (SI.c (Int.ofNat 1)) SA.nil)))))
            (SI.c (Int.ofNat 7)),
          Eqn.I (SI.len (SL.app 112 (SA.l (SL.v 0) (SA.i (SI.v 0) (SA.i (SI.v 5) (SA.i (SI.c (Int.ofNat 1)) SA.nil))))))
            (SI.len (SL.v 0)),
          Eqn.L (SL.app 112 (SA.l (SL.v 0) (SA.i (SI.v 0) (SA.i (SI.v 5) (SA.i (SI.c (Int.ofNat 1)) SA.nil)))))
            (SL.v 0)] },
    {
      pc :=
        [SB.app 130 (SA.l (SL.v 0) (SA.i (SI.v 0) SA.nil)), SB.not (SB.v 0),
          SB.le (SI.c (Int.ofNat 1)) (SI.len (SL.v 0)), SB.le (SI.len (SL.v 0)) (SI.c (Int.ofNat 64)), SB.c true,
          SB.and (SB.c true) (SB.or (SB.v 0) (SB.not (SB.v 0))), SB.app 140 (SA.l (SL.v 0) SA.nil),
          SB.app 131 (SA.l (SL.v 0) SA.nil)],
      eqs :=
        [Eqn.T
            (SB.eq
              (SI.len (SL.app 112 (SA.l (SL.v 0) (SA.i (SI.v 0) (SA.i (SI.v 5) (SA.i (SI.c (Int.ofNat 0)) SA.nil))))))
              (SI.len (SL.v 0))),
          Eqn.I (SI.app 112 (SA.l (SL.v 0) (SA.i (SI.v 0) (SA.i (SI.v 5) (SA.i (SI.c (Int.ofNat 0)) SA.nil)))))
            (SI.c (Int.ofNat 4)),
          Eqn.I (SI.len (SL.app 112 (SA.l (SL.v 0) (SA.i (SI.v 0) (SA.i (SI.v 5) (SA.i (SI.c (Int.ofNat 0)) SA.nil))))))
            (SI.len (SL.v 0)),
          Eqn.L (SL.app 112 (SA.l (SL.v 0) (SA.i (SI.v 0) (SA.i (SI.v 5) (SA.i (SI.c (Int.ofNat 0)) SA.nil)))))
            (SL.v 0)] },
    {
      pc :=
        [SB.le (SI.c (Int.ofNat 1000)) (SI.sel (SL.v 0) (SI.v 0) 4), SB.eq (SI.sel (SL.v 0) (SI.v 0) 2) (SI.v 5),
          SB.lt (SI.v 0) (SI.len (SL.v 0)), SB.le (SI.c (Int.ofNat 0)) (SI.v 0),
          SB.not (SB.app 130 (SA.l (SL.v 0) (SA.i (SI.v 0) SA.nil))), SB.not (SB.v 0),
          SB.le (SI.c (Int.ofNat 1)) (SI.len (SL.v 0)), SB.le (SI.len (SL.v 0)) (SI.c (Int.ofNat 64)), SB.c true,
          SB.and (SB.c true) (SB.or (SB.v 0) (SB.not (SB.v 0))), SB.app 140 (SA.l (SL.v 0) SA.nil),
          SB.app 131 (SA.l (SL.v 0) SA.nil)],
      eqs :=
        [Eqn.T
            (SB.eq
              (SI.len (SL.app 112 (SA.l (SL.v 0) (SA.i (SI.v 0) (SA.i (SI.v 5) (SA.i (SI.c (Int.ofNat 0)) SA.nil))))))
              (SI.len (SL.v 0))),
          Eqn.I (SI.app 112 (SA.l (SL.v 0) (SA.i (SI.v 0) (SA.i (SI.v 5) (SA.i (SI.c (Int.ofNat 0)) SA.nil)))))
            (SI.c (Int.ofNat 3)),
          Eqn.I (SI.len (SL.app 112 (SA.l (SL.v 0) (SA.i (SI.v 0) (SA.i (SI.v 5) (SA.i (SI.c (Int.ofNat 0)) SA.nil))))))
            (SI.len (SL.v 0)),
          Eqn.L (SL.app 112 (SA.l (SL.v 0) (SA.i (SI.v 0) (SA.i (SI.v 5) (SA.i (SI.c (Int.ofNat 0)) SA.nil)))))
            (SL.v 0)] },
    {
      pc :=
        [SB.not (SB.le (SI.c (Int.ofNat 1000)) (SI.sel (SL.v 0) (SI.v 0) 4)),
          SB.eq (SI.sel (SL.v 0) (SI.v 0) 2) (SI.v 5), SB.lt (SI.v 0) (SI.len (SL.v 0)),
          SB.le (SI.c (Int.ofNat 0)) (SI.v 0), SB.not (SB.app 130 (SA.l (SL.v 0) (SA.i (SI.v 0) SA.nil))),
          SB.not (SB.v 0), SB.le (SI.c (Int.ofNat 1)) (SI.len (SL.v 0)), SB.le (SI.len (SL.v 0)) (SI.c (Int.ofNat 64)),
          SB.c true, SB.and (SB.c true) (SB.or (SB.v 0) (SB.not (SB.v 0))), SB.app 140 (SA.l (SL.v 0) SA.nil),
          SB.app 131 (SA.l (SL.v 0) SA.nil)],
      eqs :=
        [Eqn.T
            (SB.eq
              (SI.len (SL.app 112 (SA.l (SL.v 0) (SA.i (SI.v 0) (SA.i (SI.v 5) (SA.i (SI.c (Int.ofNat 0)) SA.nil))))))
              (SI.len (SL.v 0))),
          Eqn.I (SI.app 112 (SA.l (SL.v 0) (SA.i (SI.v 0) (SA.i (SI.v 5) (SA.i (SI.c (Int.ofNat 0)) SA.nil)))))
            (SI.c (Int.ofNat 0)),
          Eqn.I (SI.len (SL.app 112 (SA.l (SL.v 0) (SA.i (SI.v 0) (SA.i (SI.v 5) (SA.i (SI.c (Int.ofNat 0)) SA.nil))))))
            (SI.len (SL.v 0)),
          Eqn.L (SL.app 112 (SA.l (SL.v 0) (SA.i (SI.v 0) (SA.i (SI.v 5) (SA.i (SI.c (Int.ofNat 0)) SA.nil)))))
            (SL.app 4
              (SA.l (SL.v 0)
                (SA.i (SI.v 0)
                  (SA.i (SI.c (Int.ofNat 4))
                    (SA.i (SI.wrap IntKind.i64 (SI.add (SI.sel (SL.v 0) (SI.v 0) 4) (SI.c (Int.ofNat 1))))
                      SA.nil)))))] },
    {
      pc :=
        [SB.not (SB.eq (SI.sel (SL.v 0) (SI.v 0) 2) (SI.v 5)), SB.lt (SI.v 0) (SI.len (SL.v 0)),
          SB.le (SI.c (Int.ofNat 0)) (SI.v 0), SB.not (SB.app 130 (SA.l (SL.v 0) (SA.i (SI.v 0) SA.nil))),
          SB.not (SB.v 0), SB.le (SI.c (Int.ofNat 1)) (SI.len (SL.v 0)), SB.le (SI.len (SL.v 0)) (SI.c (Int.ofNat 64)),
          SB.c true, SB.and (SB.c true) (SB.or (SB.v 0) (SB.not (SB.v 0))), SB.app 140 (SA.l (SL.v 0) SA.nil),
          SB.app 131 (SA.l (SL.v 0) SA.nil)],
      eqs :=
        [Eqn.T
            (SB.eq
              (SI.len (SL.app 112 (SA.l (SL.v 0) (SA.i (SI.v 0) (SA.i (SI.v 5) (SA.i (SI.c (Int.ofNat 0)) SA.nil))))))
              (SI.len (SL.v 0))),
          Eqn.I (SI.app 112 (SA.l (SL.v 0) (SA.i (SI.v 0) (SA.i (SI.v 5) (SA.i (SI.c (Int.ofNat 0)) SA.nil)))))
            (SI.c (Int.ofNat 7)),
          Eqn.I (SI.len (SL.app 112 (SA.l (SL.v 0) (SA.i (SI.v 0) (SA.i (SI.v 5) (SA.i (SI.c (Int.ofNat 0)) SA.nil))))))
            (SI.len (SL.v 0)),
          Eqn.L (SL.app 112 (SA.l (SL.v 0) (SA.i (SI.v 0) (SA.i (SI.v 5) (SA.i (SI.c (Int.ofNat 0)) SA.nil)))))
            (SL.v 0)] }] := by kernel_rfl
theorem cRTake_ok : cRTake.ok Φ Try.prog := by
  refine call_rule (fun ρ => s0_ok ρ) cRTake_obs ?_
  simp only [and_imp, List.forall_mem_cons, List.not_mem_nil, false_implies, implies_true, and_true, Ob.ok, holds, Eqn.ok, evB_eq, evB_lt, evB_le, evB_not, evB_and, evB_or, evB_eqL, evB_app, evB_v, evB_c, ev_sel, ev_len, ev_v, ev_c, ev_add, ev_sub, ev_mul, ev_quo, ev_rem, ev_bits, ev_wrap, evL_v, evL_lit, evL_app, ev_app, evA_l, evA_i, evA_nil, std_min, std_max, std_cat, std_take, std_drop, std_row, std_set, std_rep, std_find, std_put, std_del, std_flag, std_unflag, std_clr, std_left, std_copy, ints_cons, ints_nil, ofNat_lit, negSucc_lit, decide_eq_true_eq, Bool.and_eq_true, Bool.or_eq_true, Bool.not_eq_true', Bool.and_eq_false_iff, Bool.or_eq_false_iff, decide_eq_false_iff_not, aI110, aI111, aI112, aI113, aI114, aL100, aL101, aL102, aL103, aL110, aL112, aL113, aL114, aL115, aL116, aB130, aB131, aB132, aB199, aI142, aL140, aL141, aL143, aL144, aB140, aB141, aI150, aL150, aB150]
  repeat' apply And.intro
  all_goals intro ρ hR
  all_goals intros
  all_goals first
    | (have hT : ∀ r ∈ ρ.l 0, okRow K5 r := hR.row 1 rfl rfl
       have hG : okGB (ρ.l 0) = true := by with_reducible assumption
       have hl := takT_len (ρ.l 0) (ρ.i 0) (ρ.i 5) 1
       have e := tak_none (T := ρ.l 0) (id := ρ.i 0) (g := ρ.i 5) (w := 1) (by with_reducible assumption)
       exact ⟨by omega, e, by omega, tak_no e (by decide)⟩)
    | (have hT : ∀ r ∈ ρ.l 0, okRow K5 r := hR.row 1 rfl rfl
       have hG : okGB (ρ.l 0) = true := by with_reducible assumption
       have hl := takT_len (ρ.l 0) (ρ.i 0) (ρ.i 5) 1
       have e := tak_none (T := ρ.l 0) (id := ρ.i 0) (g := ρ.i 5) (w := 1) (by with_reducible assumption)
       exact ⟨by omega, e, by omega, tak_no e (by decide)⟩)
    | (have hT : ∀ r ∈ ρ.l 0, okRow K5 r := hR.row 1 rfl rfl
       have hG : okGB (ρ.l 0) = true := by with_reducible assumption
       have hl := takT_len (ρ.l 0) (ρ.i 0) (ρ.i 5) 1
       have e := tak_wrong (T := ρ.l 0) (id := ρ.i 0) (g := ρ.i 5) (w := 1) (by with_reducible assumption) (by omega)
       exact ⟨by omega, e, by omega, tak_no e (by decide)⟩)
    | (have hT : ∀ r ∈ ρ.l 0, okRow K5 r := hR.row 1 rfl rfl
       have hG : okGB (ρ.l 0) = true := by with_reducible assumption
       have hl := takT_len (ρ.l 0) (ρ.i 0) (ρ.i 5) 1
       have e := tak_full (T := ρ.l 0) (id := ρ.i 0) (g := ρ.i 5) (w := 1) (by with_reducible assumption) (by omega) (by omega)
       exact ⟨by omega, e, by omega, tak_no e (by decide)⟩)
    | (have hT : ∀ r ∈ ρ.l 0, okRow K5 r := hR.row 1 rfl rfl
       have hG : okGB (ρ.l 0) = true := by with_reducible assumption
       have hl := takT_len (ρ.l 0) (ρ.i 0) (ρ.i 5) 1
       have e := tak_ok (T := ρ.l 0) (id := ρ.i 0) (g := ρ.i 5) (w := 1) (by with_reducible assumption) (by omega) (by omega)
       exact ⟨by omega, e.1, by omega, e.2⟩)
    | (have hT : ∀ r ∈ ρ.l 0, okRow K5 r := hR.row 1 rfl rfl
       have hG : okGB (ρ.l 0) = true := by with_reducible assumption
       have hl := takT_len (ρ.l 0) (ρ.i 0) (ρ.i 5) 0
       have e := tak_none (T := ρ.l 0) (id := ρ.i 0) (g := ρ.i 5) (w := 0) (by with_reducible assumption)
       exact ⟨by omega, e, by omega, tak_no e (by decide)⟩)
    | (have hT : ∀ r ∈ ρ.l 0, okRow K5 r := hR.row 1 rfl rfl
       have hG : okGB (ρ.l 0) = true := by with_reducible assumption
       have hl := takT_len (ρ.l 0) (ρ.i 0) (ρ.i 5) 0
       have e := tak_none (T := ρ.l 0) (id := ρ.i 0) (g := ρ.i 5) (w := 0) (by with_reducible assumption)
       exact ⟨by omega, e, by omega, tak_no e (by decide)⟩)
    | (have hT : ∀ r ∈ ρ.l 0, okRow K5 r := hR.row 1 rfl rfl
       have hG : okGB (ρ.l 0) = true := by with_reducible assumption
       have hl := takT_len (ρ.l 0) (ρ.i 0) (ρ.i 5) 0
       have e := tak_wrong (T := ρ.l 0) (id := ρ.i 0) (g := ρ.i 5) (w := 0) (by with_reducible assumption) (by omega)
       exact ⟨by omega, e, by omega, tak_no e (by decide)⟩)
    | (have hT : ∀ r ∈ ρ.l 0, okRow K5 r := hR.row 1 rfl rfl
       have hG : okGB (ρ.l 0) = true := by with_reducible assumption
       have hl := takT_len (ρ.l 0) (ρ.i 0) (ρ.i 5) 0
       have e := tak_full (T := ρ.l 0) (id := ρ.i 0) (g := ρ.i 5) (w := 0) (by with_reducible assumption) (by omega) (by omega)
       exact ⟨by omega, e, by omega, tak_no e (by decide)⟩)
    | (have hT : ∀ r ∈ ρ.l 0, okRow K5 r := hR.row 1 rfl rfl
       have hG : okGB (ρ.l 0) = true := by with_reducible assumption
       have hl := takT_len (ρ.l 0) (ρ.i 0) (ρ.i 5) 0
       have e := tak_ok (T := ρ.l 0) (id := ρ.i 0) (g := ρ.i 5) (w := 0) (by with_reducible assumption) (by omega) (by omega)
       exact ⟨by omega, e.1, by omega, e.2⟩)
    | (have hT : ∀ r ∈ ρ.l 0, okRow K5 r := hR.row 1 rfl rfl
       have hG : okGB (ρ.l 0) = true := by with_reducible assumption
       have hl := takT_len (ρ.l 0) (ρ.i 0) (ρ.i 5) 1
       have hm := getD_mem (A := ρ.l 0) (i := ρ.i 0) (by omega) (by omega)
       have h5 := hT _ hm
       have hu := uses_at (T := ρ.l 0) (by with_reducible assumption) hm
       have e := tak_full (T := ρ.l 0) (id := ρ.i 0) (g := ρ.i 5) (w := 1) (by with_reducible assumption) (by omega) (by omega)
       exact ⟨by omega, e, by omega, tak_no e (by decide)⟩)
    | (have hT : ∀ r ∈ ρ.l 0, okRow K5 r := hR.row 1 rfl rfl
       have hG : okGB (ρ.l 0) = true := by with_reducible assumption
       have hl := takT_len (ρ.l 0) (ρ.i 0) (ρ.i 5) 0
       have hm := getD_mem (A := ρ.l 0) (i := ρ.i 0) (by omega) (by omega)
       have h5 := hT _ hm
       have hu := uses_at (T := ρ.l 0) (by with_reducible assumption) hm
       have e := tak_full (T := ρ.l 0) (id := ρ.i 0) (g := ρ.i 5) (w := 0) (by with_reducible assumption) (by omega) (by omega)
       exact ⟨by omega, e, by omega, tak_no e (by decide)⟩)
set_option maxRecDepth 100000 in
theorem cRBack_obs : callObs Φ Try.prog s0 1000 cRBack.f cRBack.vs cRBack.o cRBack.pc cRBack.outs = some
  [{
      pc :=
        [SB.app 130 (SA.l (SL.v 0) (SA.i (SI.v 0) SA.nil)), SB.le (SI.c (Int.ofNat 1)) (SI.len (SL.v 0)),
          SB.le (SI.len (SL.v 0)) (SI.c (Int.ofNat 64)), SB.c true, SB.app 140 (SA.l (SL.v 0) SA.nil)],
      eqs :=
        [Eqn.T (SB.eq (SI.len (SL.app 113 (SA.l (SL.v 0) (SA.i (SI.v 0) (SA.i (SI.v 5) SA.nil))))) (SI.len (SL.v 0))),
          Eqn.I (SI.app 113 (SA.l (SL.v 0) (SA.i (SI.v 0) (SA.i (SI.v 5) SA.nil)))) (SI.c (Int.ofNat 4)),
          Eqn.I (SI.len (SL.app 113 (SA.l (SL.v 0) (SA.i (SI.v 0) (SA.i (SI.v 5) SA.nil))))) (SI.len (SL.v 0)),
          Eqn.L (SL.app 113 (SA.l (SL.v 0) (SA.i (SI.v 0) (SA.i (SI.v 5) SA.nil)))) (SL.v 0)] },
    {
      pc :=
        [SB.eq (SI.sel (SL.v 0) (SI.v 0) 4) (SI.c (Int.ofNat 0)), SB.eq (SI.sel (SL.v 0) (SI.v 0) 2) (SI.v 5),
          SB.lt (SI.v 0) (SI.len (SL.v 0)), SB.le (SI.c (Int.ofNat 0)) (SI.v 0),
          SB.not (SB.app 130 (SA.l (SL.v 0) (SA.i (SI.v 0) SA.nil))), SB.le (SI.c (Int.ofNat 1)) (SI.len (SL.v 0)),
          SB.le (SI.len (SL.v 0)) (SI.c (Int.ofNat 64)), SB.c true, SB.app 140 (SA.l (SL.v 0) SA.nil)],
      eqs :=
        [Eqn.T (SB.eq (SI.len (SL.app 113 (SA.l (SL.v 0) (SA.i (SI.v 0) (SA.i (SI.v 5) SA.nil))))) (SI.len (SL.v 0))),
          Eqn.I (SI.app 113 (SA.l (SL.v 0) (SA.i (SI.v 0) (SA.i (SI.v 5) SA.nil)))) (SI.c (Int.ofNat 6)),
          Eqn.I (SI.len (SL.app 113 (SA.l (SL.v 0) (SA.i (SI.v 0) (SA.i (SI.v 5) SA.nil))))) (SI.len (SL.v 0)),
          Eqn.L (SL.app 113 (SA.l (SL.v 0) (SA.i (SI.v 0) (SA.i (SI.v 5) SA.nil)))) (SL.v 0)] },
    {
      pc :=
        [SB.not (SB.eq (SI.sel (SL.v 0) (SI.v 0) 4) (SI.c (Int.ofNat 0))), SB.eq (SI.sel (SL.v 0) (SI.v 0) 2) (SI.v 5),
          SB.lt (SI.v 0) (SI.len (SL.v 0)), SB.le (SI.c (Int.ofNat 0)) (SI.v 0),
          SB.not (SB.app 130 (SA.l (SL.v 0) (SA.i (SI.v 0) SA.nil))), SB.le (SI.c (Int.ofNat 1)) (SI.len (SL.v 0)),
          SB.le (SI.len (SL.v 0)) (SI.c (Int.ofNat 64)), SB.c true, SB.app 140 (SA.l (SL.v 0) SA.nil)],
      eqs :=
        [Eqn.T (SB.eq (SI.len (SL.app 113 (SA.l (SL.v 0) (SA.i (SI.v 0) (SA.i (SI.v 5) SA.nil))))) (SI.len (SL.v 0))),
          Eqn.I (SI.app 113 (SA.l (SL.v 0) (SA.i (SI.v 0) (SA.i (SI.v 5) SA.nil)))) (SI.c (Int.ofNat 0)),
          Eqn.I (SI.len (SL.app 113 (SA.l (SL.v 0) (SA.i (SI.v 0) (SA.i (SI.v 5) SA.nil))))) (SI.len (SL.v 0)),
          Eqn.L (SL.app 113 (SA.l (SL.v 0) (SA.i (SI.v 0) (SA.i (SI.v 5) SA.nil))))
            (SL.app 4
              (SA.l (SL.v 0)
                (SA.i (SI.v 0)
                  (SA.i (SI.c (Int.ofNat 4))
                    (SA.i (SI.wrap IntKind.i64 (SI.sub (SI.sel (SL.v 0) (SI.v 0) 4) (SI.c (Int.ofNat 1))))
                      SA.nil)))))] },
    {
      pc :=
        [SB.not (SB.eq (SI.sel (SL.v 0) (SI.v 0) 2) (SI.v 5)), SB.lt (SI.v 0) (SI.len (SL.v 0)),
          SB.le (SI.c (Int.ofNat 0)) (SI.v 0), SB.not (SB.app 130 (SA.l (SL.v 0) (SA.i (SI.v 0) SA.nil))),
          SB.le (SI.c (Int.ofNat 1)) (SI.len (SL.v 0)), SB.le (SI.len (SL.v 0)) (SI.c (Int.ofNat 64)), SB.c true,
          SB.app 140 (SA.l (SL.v 0) SA.nil)],
      eqs :=
        [Eqn.T (SB.eq (SI.len (SL.app 113 (SA.l (SL.v 0) (SA.i (SI.v 0) (SA.i (SI.v 5) SA.nil))))) (SI.len (SL.v 0))),
          Eqn.I (SI.app 113 (SA.l (SL.v 0) (SA.i (SI.v 0) (SA.i (SI.v 5) SA.nil)))) (SI.c (Int.ofNat 7)),
          Eqn.I (SI.len (SL.app 113 (SA.l (SL.v 0) (SA.i (SI.v 0) (SA.i (SI.v 5) SA.nil))))) (SI.len (SL.v 0)),
          Eqn.L (SL.app 113 (SA.l (SL.v 0) (SA.i (SI.v 0) (SA.i (SI.v 5) SA.nil)))) (SL.v 0)] }] := by kernel_rfl
theorem cRBack_ok : cRBack.ok Φ Try.prog := by
  refine call_rule (fun ρ => s0_ok ρ) cRBack_obs ?_
  simp only [and_imp, List.forall_mem_cons, List.not_mem_nil, false_implies, implies_true, and_true, Ob.ok, holds, Eqn.ok, evB_eq, evB_lt, evB_le, evB_not, evB_and, evB_or, evB_eqL, evB_app, evB_v, evB_c, ev_sel, ev_len, ev_v, ev_c, ev_add, ev_sub, ev_mul, ev_quo, ev_rem, ev_bits, ev_wrap, evL_v, evL_lit, evL_app, ev_app, evA_l, evA_i, evA_nil, std_min, std_max, std_cat, std_take, std_drop, std_row, std_set, std_rep, std_find, std_put, std_del, std_flag, std_unflag, std_clr, std_left, std_copy, ints_cons, ints_nil, ofNat_lit, negSucc_lit, decide_eq_true_eq, Bool.and_eq_true, Bool.or_eq_true, Bool.not_eq_true', Bool.and_eq_false_iff, Bool.or_eq_false_iff, decide_eq_false_iff_not, aI110, aI111, aI112, aI113, aI114, aL100, aL101, aL102, aL103, aL110, aL112, aL113, aL114, aL115, aL116, aB130, aB131, aB132, aB199, aI142, aL140, aL141, aL143, aL144, aB140, aB141, aI150, aL150, aB150]
  repeat' apply And.intro
  all_goals intro ρ hR
  all_goals intros
  all_goals first
    | (have hT : ∀ r ∈ ρ.l 0, okRow K5 r := hR.row 1 rfl rfl
       have hG : okGB (ρ.l 0) = true := by with_reducible assumption
       have hl := bacT_len (ρ.l 0) (ρ.i 0) (ρ.i 5)
       have e := bac_none (T := ρ.l 0) (id := ρ.i 0) (g := ρ.i 5) (by with_reducible assumption)
       exact ⟨by omega, e, by omega, bac_no e (by decide)⟩)
    | (have hT : ∀ r ∈ ρ.l 0, okRow K5 r := hR.row 1 rfl rfl
       have hG : okGB (ρ.l 0) = true := by with_reducible assumption
       have hl := bacT_len (ρ.l 0) (ρ.i 0) (ρ.i 5)
       have e := bac_none (T := ρ.l 0) (id := ρ.i 0) (g := ρ.i 5) (by with_reducible assumption)
       exact ⟨by omega, e, by omega, bac_no e (by decide)⟩)
    | (have hT : ∀ r ∈ ρ.l 0, okRow K5 r := hR.row 1 rfl rfl
       have hG : okGB (ρ.l 0) = true := by with_reducible assumption
       have hl := bacT_len (ρ.l 0) (ρ.i 0) (ρ.i 5)
       have e := bac_wrong (T := ρ.l 0) (id := ρ.i 0) (g := ρ.i 5) (by with_reducible assumption) (by omega)
       exact ⟨by omega, e, by omega, bac_no e (by decide)⟩)
    | (have hT : ∀ r ∈ ρ.l 0, okRow K5 r := hR.row 1 rfl rfl
       have hG : okGB (ρ.l 0) = true := by with_reducible assumption
       have hl := bacT_len (ρ.l 0) (ρ.i 0) (ρ.i 5)
       have e := bac_zero (T := ρ.l 0) (id := ρ.i 0) (g := ρ.i 5) (by with_reducible assumption) (by omega) (by omega)
       exact ⟨by omega, e, by omega, bac_no e (by decide)⟩)
    | (have hT : ∀ r ∈ ρ.l 0, okRow K5 r := hR.row 1 rfl rfl
       have hG : okGB (ρ.l 0) = true := by with_reducible assumption
       have hl := bacT_len (ρ.l 0) (ρ.i 0) (ρ.i 5)
       have e := bac_ok (T := ρ.l 0) (id := ρ.i 0) (g := ρ.i 5) (by with_reducible assumption) (by omega) (by omega)
       exact ⟨by omega, e.1, by omega, e.2⟩)
set_option maxRecDepth 100000 in
theorem cRRevoke_obs : callObs Φ Try.prog s0 1000 cRRevoke.f cRRevoke.vs cRRevoke.o cRRevoke.pc cRRevoke.outs = some
  [{
      pc :=
        [SB.app 130 (SA.l (SL.v 0) (SA.i (SI.v 0) SA.nil)), SB.le (SI.c (Int.ofNat 1)) (SI.len (SL.v 0)),
          SB.le (SI.len (SL.v 0)) (SI.c (Int.ofNat 64)), SB.c true, SB.app 140 (SA.l (SL.v 0) SA.nil)],
      eqs :=
        [Eqn.T (SB.eq (SI.len (SL.app 114 (SA.l (SL.v 0) (SA.i (SI.v 0) (SA.i (SI.v 6) SA.nil))))) (SI.len (SL.v 0))),
          Eqn.I (SI.app 114 (SA.l (SL.v 0) (SA.i (SI.v 0) (SA.i (SI.v 6) SA.nil)))) (SI.c (Int.ofNat 4)),
          Eqn.I (SI.len (SL.app 114 (SA.l (SL.v 0) (SA.i (SI.v 0) (SA.i (SI.v 6) SA.nil))))) (SI.len (SL.v 0)),
          Eqn.L (SL.app 114 (SA.l (SL.v 0) (SA.i (SI.v 0) (SA.i (SI.v 6) SA.nil)))) (SL.v 0)] },
    {
      pc :=
        [SB.lt (SI.c (Int.ofNat 0)) (SI.sel (SL.v 0) (SI.v 0) 4), SB.eq (SI.sel (SL.v 0) (SI.v 0) 0) (SI.v 6),
          SB.lt (SI.v 0) (SI.len (SL.v 0)), SB.le (SI.c (Int.ofNat 0)) (SI.v 0),
          SB.not (SB.app 130 (SA.l (SL.v 0) (SA.i (SI.v 0) SA.nil))), SB.le (SI.c (Int.ofNat 1)) (SI.len (SL.v 0)),
          SB.le (SI.len (SL.v 0)) (SI.c (Int.ofNat 64)), SB.c true, SB.app 140 (SA.l (SL.v 0) SA.nil)],
      eqs :=
        [Eqn.T (SB.eq (SI.len (SL.app 114 (SA.l (SL.v 0) (SA.i (SI.v 0) (SA.i (SI.v 6) SA.nil))))) (SI.len (SL.v 0))),
          Eqn.I (SI.app 114 (SA.l (SL.v 0) (SA.i (SI.v 0) (SA.i (SI.v 6) SA.nil)))) (SI.c (Int.ofNat 9)),
          Eqn.I (SI.len (SL.app 114 (SA.l (SL.v 0) (SA.i (SI.v 0) (SA.i (SI.v 6) SA.nil))))) (SI.len (SL.v 0)),
          Eqn.L (SL.app 114 (SA.l (SL.v 0) (SA.i (SI.v 0) (SA.i (SI.v 6) SA.nil)))) (SL.v 0)] },
    {
      pc :=
        [SB.not (SB.lt (SI.c (Int.ofNat 0)) (SI.sel (SL.v 0) (SI.v 0) 4)), SB.eq (SI.sel (SL.v 0) (SI.v 0) 0) (SI.v 6),
          SB.lt (SI.v 0) (SI.len (SL.v 0)), SB.le (SI.c (Int.ofNat 0)) (SI.v 0),
          SB.not (SB.app 130 (SA.l (SL.v 0) (SA.i (SI.v 0) SA.nil))), SB.le (SI.c (Int.ofNat 1)) (SI.len (SL.v 0)),
          SB.le (SI.len (SL.v 0)) (SI.c (Int.ofNat 64)), SB.c true, SB.app 140 (SA.l (SL.v 0) SA.nil)],
      eqs :=
        [Eqn.T (SB.eq (SI.len (SL.app 114 (SA.l (SL.v 0) (SA.i (SI.v 0) (SA.i (SI.v 6) SA.nil))))) (SI.len (SL.v 0))),
          Eqn.I (SI.app 114 (SA.l (SL.v 0) (SA.i (SI.v 0) (SA.i (SI.v 6) SA.nil)))) (SI.c (Int.ofNat 0)),
          Eqn.I (SI.len (SL.app 114 (SA.l (SL.v 0) (SA.i (SI.v 0) (SA.i (SI.v 6) SA.nil))))) (SI.len (SL.v 0)),
          Eqn.L (SL.app 114 (SA.l (SL.v 0) (SA.i (SI.v 0) (SA.i (SI.v 6) SA.nil))))
            (SL.app 4
              (SA.l
                (SL.app 4
                  (SA.l
                    (SL.app 4
                      (SA.l
                        (SL.app 4
                          (SA.l
                            (SL.app 4
                              (SA.l (SL.v 0)
                                (SA.i (SI.v 0) (SA.i (SI.c (Int.ofNat 0)) (SA.i (SI.c (Int.ofNat 0)) SA.nil)))))
                            (SA.i (SI.v 0) (SA.i (SI.c (Int.ofNat 1)) (SA.i (SI.c (Int.ofNat 0)) SA.nil)))))
                        (SA.i (SI.v 0) (SA.i (SI.c (Int.ofNat 2)) (SA.i (SI.c (Int.ofNat 0)) SA.nil)))))
                    (SA.i (SI.v 0) (SA.i (SI.c (Int.ofNat 3)) (SA.i (SI.c (Int.ofNat 0)) SA.nil)))))
                (SA.i (SI.v 0) (SA.i (SI.c (Int.ofNat 4)) (SA.i (SI.c (Int.ofNat 0)) SA.nil)))))] },
    {
      pc :=
        [SB.not (SB.eq (SI.sel (SL.v 0) (SI.v 0) 0) (SI.v 6)), SB.lt (SI.v 0) (SI.len (SL.v 0)),
          SB.le (SI.c (Int.ofNat 0)) (SI.v 0), SB.not (SB.app 130 (SA.l (SL.v 0) (SA.i (SI.v 0) SA.nil))),
          SB.le (SI.c (Int.ofNat 1)) (SI.len (SL.v 0)), SB.le (SI.len (SL.v 0)) (SI.c (Int.ofNat 64)), SB.c true,
          SB.app 140 (SA.l (SL.v 0) SA.nil)],
      eqs :=
        [Eqn.T (SB.eq (SI.len (SL.app 114 (SA.l (SL.v 0) (SA.i (SI.v 0) (SA.i (SI.v 6) SA.nil))))) (SI.len (SL.v 0))),
          Eqn.I (SI.app 114 (SA.l (SL.v 0) (SA.i (SI.v 0) (SA.i (SI.v 6) SA.nil)))) (SI.c (Int.ofNat 7)),
          Eqn.I (SI.len (SL.app 114 (SA.l (SL.v 0) (SA.i (SI.v 0) (SA.i (SI.v 6) SA.nil))))) (SI.len (SL.v 0)),
          Eqn.L (SL.app 114 (SA.l (SL.v 0) (SA.i (SI.v 0) (SA.i (SI.v 6) SA.nil)))) (SL.v 0)] }] := by kernel_rfl
theorem cRRevoke_ok : cRRevoke.ok Φ Try.prog := by
  refine call_rule (fun ρ => s0_ok ρ) cRRevoke_obs ?_
  simp only [and_imp, List.forall_mem_cons, List.not_mem_nil, false_implies, implies_true, and_true, Ob.ok, holds, Eqn.ok, evB_eq, evB_lt, evB_le, evB_not, evB_and, evB_or, evB_eqL, evB_app, evB_v, evB_c, ev_sel, ev_len, ev_v, ev_c, ev_add, ev_sub, ev_mul, ev_quo, ev_rem, ev_bits, ev_wrap, evL_v, evL_lit, evL_app, ev_app, evA_l, evA_i, evA_nil, std_min, std_max, std_cat, std_take, std_drop, std_row, std_set, std_rep, std_find, std_put, std_del, std_flag, std_unflag, std_clr, std_left, std_copy, ints_cons, ints_nil, ofNat_lit, negSucc_lit, decide_eq_true_eq, Bool.and_eq_true, Bool.or_eq_true, Bool.not_eq_true', Bool.and_eq_false_iff, Bool.or_eq_false_iff, decide_eq_false_iff_not, aI110, aI111, aI112, aI113, aI114, aL100, aL101, aL102, aL103, aL110, aL112, aL113, aL114, aL115, aL116, aB130, aB131, aB132, aB199, aI142, aL140, aL141, aL143, aL144, aB140, aB141, aI150, aL150, aB150]
  repeat' apply And.intro
  all_goals intro ρ hR
  all_goals intros
  all_goals first
    | (have hT : ∀ r ∈ ρ.l 0, okRow K5 r := hR.row 1 rfl rfl
       have hG : okGB (ρ.l 0) = true := by with_reducible assumption
       have hl := revT_len (ρ.l 0) (ρ.i 0) (ρ.i 6)
       have e := rev_none (T := ρ.l 0) (id := ρ.i 0) (o := ρ.i 6) (by with_reducible assumption)
       exact ⟨by omega, e, by omega, rev_no e (by decide)⟩)
    | (have hT : ∀ r ∈ ρ.l 0, okRow K5 r := hR.row 1 rfl rfl
       have hG : okGB (ρ.l 0) = true := by with_reducible assumption
       have hl := revT_len (ρ.l 0) (ρ.i 0) (ρ.i 6)
       have e := rev_none (T := ρ.l 0) (id := ρ.i 0) (o := ρ.i 6) (by with_reducible assumption)
       exact ⟨by omega, e, by omega, rev_no e (by decide)⟩)
    | (have hT : ∀ r ∈ ρ.l 0, okRow K5 r := hR.row 1 rfl rfl
       have hG : okGB (ρ.l 0) = true := by with_reducible assumption
       have hl := revT_len (ρ.l 0) (ρ.i 0) (ρ.i 6)
       have e := rev_wrong (T := ρ.l 0) (id := ρ.i 0) (o := ρ.i 6) (by with_reducible assumption) (by omega)
       exact ⟨by omega, e, by omega, rev_no e (by decide)⟩)
    | (have hT : ∀ r ∈ ρ.l 0, okRow K5 r := hR.row 1 rfl rfl
       have hG : okGB (ρ.l 0) = true := by with_reducible assumption
       have hl := revT_len (ρ.l 0) (ρ.i 0) (ρ.i 6)
       have e := rev_busy (T := ρ.l 0) (id := ρ.i 0) (o := ρ.i 6) (by with_reducible assumption) (by omega) (by omega)
       exact ⟨by omega, e, by omega, rev_no e (by decide)⟩)
    | (have hT : ∀ r ∈ ρ.l 0, okRow K5 r := hR.row 1 rfl rfl
       have hG : okGB (ρ.l 0) = true := by with_reducible assumption
       have hl := revT_len (ρ.l 0) (ρ.i 0) (ρ.i 6)
       have e := rev_ok (T := ρ.l 0) (id := ρ.i 0) (o := ρ.i 6) (by with_reducible assumption) (by omega) (by omega)
       exact ⟨by omega, e.1, by omega, (e.2.trans (set5 hT _ _ _ _ _ _).symm)⟩)
set_option maxRecDepth 100000 in
theorem rd_obs : loopObs Φ Try.prog s0 1000 rd.f (loopAt Try.prog rd.f rd.id) rd.n rd.T k0 rd.outs = some
  [{
      pc :=
        [SB.eq (SI.sel (SL.v 0) (SI.v 0) 0) (SI.v 5), SB.lt (SI.c (Int.ofNat 0)) (SI.sel (SL.v 0) (SI.v 0) 0),
          SB.lt (SI.v 0) (SI.len (SL.v 0)), SB.le (SI.c (Int.ofNat 0)) (SI.v 0), SB.le (SI.v 0) (SI.len (SL.v 0)),
          SB.le (SI.len (SL.v 0)) (SI.c (Int.ofNat 64)), SB.le (SI.c (Int.ofNat 0)) (SI.v 1), SB.le (SI.v 1) (SI.v 0),
          SB.c true, SB.app 140 (SA.l (SL.v 0) SA.nil)],
      eqs :=
        [Eqn.T
            (SB.lt (SI.sub (SI.len (SL.v 0)) (SI.add (SI.v 0) (SI.c (Int.ofNat 1))))
              (SI.sub (SI.len (SL.v 0)) (SI.v 0))),
          Eqn.T (SB.lt (SI.c (Int.ofNat 0)) (SI.sub (SI.len (SL.v 0)) (SI.v 0))),
          Eqn.T
            (SB.app 140
              (SA.l
                (SL.app 4
                  (SA.l
                    (SL.app 4
                      (SA.l
                        (SL.app 4
                          (SA.l
                            (SL.app 4
                              (SA.l
                                (SL.app 4
                                  (SA.l (SL.v 0)
                                    (SA.i (SI.v 0) (SA.i (SI.c (Int.ofNat 0)) (SA.i (SI.c (Int.ofNat 0)) SA.nil)))))
                                (SA.i (SI.v 0) (SA.i (SI.c (Int.ofNat 1)) (SA.i (SI.c (Int.ofNat 0)) SA.nil)))))
                            (SA.i (SI.v 0) (SA.i (SI.c (Int.ofNat 2)) (SA.i (SI.c (Int.ofNat 0)) SA.nil)))))
                        (SA.i (SI.v 0) (SA.i (SI.c (Int.ofNat 3)) (SA.i (SI.c (Int.ofNat 0)) SA.nil)))))
                    (SA.i (SI.v 0) (SA.i (SI.c (Int.ofNat 4)) (SA.i (SI.c (Int.ofNat 0)) SA.nil)))))
                SA.nil))] },
    {
      pc :=
        [SB.le
            (SI.len
              (SL.app 102
                (SA.l
                  (SL.app 4
                    (SA.l
                      (SL.app 4
                        (SA.l
                          (SL.app 4
                            (SA.l
                              (SL.app 4
                                (SA.l
                                  (SL.app 4
                                    (SA.l (SL.v 0)
                                      (SA.i (SI.v 0) (SA.i (SI.c (Int.ofNat 0)) (SA.i (SI.c (Int.ofNat 0)) SA.nil)))))
                                  (SA.i (SI.v 0) (SA.i (SI.c (Int.ofNat 1)) (SA.i (SI.c (Int.ofNat 0)) SA.nil)))))
                              (SA.i (SI.v 0) (SA.i (SI.c (Int.ofNat 2)) (SA.i (SI.c (Int.ofNat 0)) SA.nil)))))
                          (SA.i (SI.v 0) (SA.i (SI.c (Int.ofNat 3)) (SA.i (SI.c (Int.ofNat 0)) SA.nil)))))
                      (SA.i (SI.v 0) (SA.i (SI.c (Int.ofNat 4)) (SA.i (SI.c (Int.ofNat 0)) SA.nil)))))
                  (SA.i (SI.add (SI.v 0) (SI.c (Int.ofNat 1))) (SA.i (SI.v 5) SA.nil)))))
            (SI.sub (SI.len (SL.v 0)) (SI.add (SI.v 0) (SI.c (Int.ofNat 1)))),
          SB.eq
            (SI.len
              (SL.app 150
                (SA.l
                  (SL.app 4
                    (SA.l
                      (SL.app 4
                        (SA.l
                          (SL.app 4
                            (SA.l
                              (SL.app 4
                                (SA.l
                                  (SL.app 4
                                    (SA.l (SL.v 0)
                                      (SA.i (SI.v 0) (SA.i (SI.c (Int.ofNat 0)) (SA.i (SI.c (Int.ofNat 0)) SA.nil)))))
                                  (SA.i (SI.v 0) (SA.i (SI.c (Int.ofNat 1)) (SA.i (SI.c (Int.ofNat 0)) SA.nil)))))
                              (SA.i (SI.v 0) (SA.i (SI.c (Int.ofNat 2)) (SA.i (SI.c (Int.ofNat 0)) SA.nil)))))
                          (SA.i (SI.v 0) (SA.i (SI.c (Int.ofNat 3)) (SA.i (SI.c (Int.ofNat 0)) SA.nil)))))
                      (SA.i (SI.v 0) (SA.i (SI.c (Int.ofNat 4)) (SA.i (SI.c (Int.ofNat 0)) SA.nil)))))
                  (SA.i (SI.v 5) (SA.i (SI.add (SI.v 0) (SI.c (Int.ofNat 1))) SA.nil)))))
            (SI.len (SL.v 0)),
          SB.eq (SI.sel (SL.v 0) (SI.v 0) 0) (SI.v 5), SB.lt (SI.c (Int.ofNat 0)) (SI.sel (SL.v 0) (SI.v 0) 0),
          SB.lt (SI.v 0) (SI.len (SL.v 0)), SB.le (SI.c (Int.ofNat 0)) (SI.v 0), SB.le (SI.v 0) (SI.len (SL.v 0)),
          SB.le (SI.len (SL.v 0)) (SI.c (Int.ofNat 64)), SB.le (SI.c (Int.ofNat 0)) (SI.v 1), SB.le (SI.v 1) (SI.v 0),
          SB.c true, SB.app 140 (SA.l (SL.v 0) SA.nil)],
      eqs :=
        [Eqn.T (SB.eq (SI.len (SL.app 150 (SA.l (SL.v 0) (SA.i (SI.v 5) (SA.i (SI.v 0) SA.nil))))) (SI.len (SL.v 0))),
          Eqn.T
            (SB.le (SI.len (SL.app 102 (SA.l (SL.v 0) (SA.i (SI.v 0) (SA.i (SI.v 5) SA.nil)))))
              (SI.sub (SI.len (SL.v 0)) (SI.v 0))),
          Eqn.I (SI.add (SI.v 1) (SI.len (SL.app 102 (SA.l (SL.v 0) (SA.i (SI.v 0) (SA.i (SI.v 5) SA.nil))))))
            (SI.add (SI.add (SI.v 1) (SI.c (Int.ofNat 1)))
              (SI.len
                (SL.app 102
                  (SA.l
                    (SL.app 4
                      (SA.l
                        (SL.app 4
                          (SA.l
                            (SL.app 4
                              (SA.l
                                (SL.app 4
                                  (SA.l
                                    (SL.app 4
                                      (SA.l (SL.v 0)
                                        (SA.i (SI.v 0) (SA.i (SI.c (Int.ofNat 0)) (SA.i (SI.c (Int.ofNat 0)) SA.nil)))))
                                    (SA.i (SI.v 0) (SA.i (SI.c (Int.ofNat 1)) (SA.i (SI.c (Int.ofNat 0)) SA.nil)))))
                                (SA.i (SI.v 0) (SA.i (SI.c (Int.ofNat 2)) (SA.i (SI.c (Int.ofNat 0)) SA.nil)))))
                            (SA.i (SI.v 0) (SA.i (SI.c (Int.ofNat 3)) (SA.i (SI.c (Int.ofNat 0)) SA.nil)))))
                        (SA.i (SI.v 0) (SA.i (SI.c (Int.ofNat 4)) (SA.i (SI.c (Int.ofNat 0)) SA.nil)))))
                    (SA.i (SI.add (SI.v 0) (SI.c (Int.ofNat 1))) (SA.i (SI.v 5) SA.nil)))))),
          Eqn.I (SI.len (SL.app 150 (SA.l (SL.v 0) (SA.i (SI.v 5) (SA.i (SI.v 0) SA.nil)))))
            (SI.len
              (SL.app 150
                (SA.l
                  (SL.app 4
                    (SA.l
                      (SL.app 4
                        (SA.l
                          (SL.app 4
                            (SA.l
                              (SL.app 4
                                (SA.l
                                  (SL.app 4
                                    (SA.l (SL.v 0)
                                      (SA.i (SI.v 0) (SA.i (SI.c (Int.ofNat 0)) (SA.i (SI.c (Int.ofNat 0)) SA.nil)))))
                                  (SA.i (SI.v 0) (SA.i (SI.c (Int.ofNat 1)) (SA.i (SI.c (Int.ofNat 0)) SA.nil)))))
                              (SA.i (SI.v 0) (SA.i (SI.c (Int.ofNat 2)) (SA.i (SI.c (Int.ofNat 0)) SA.nil)))))
                          (SA.i (SI.v 0) (SA.i (SI.c (Int.ofNat 3)) (SA.i (SI.c (Int.ofNat 0)) SA.nil)))))
                      (SA.i (SI.v 0) (SA.i (SI.c (Int.ofNat 4)) (SA.i (SI.c (Int.ofNat 0)) SA.nil)))))
                  (SA.i (SI.v 5) (SA.i (SI.add (SI.v 0) (SI.c (Int.ofNat 1))) SA.nil))))),
          Eqn.L (SL.app 150 (SA.l (SL.v 0) (SA.i (SI.v 5) (SA.i (SI.v 0) SA.nil))))
            (SL.app 150
              (SA.l
                (SL.app 4
                  (SA.l
                    (SL.app 4
                      (SA.l
                        (SL.app 4
                          (SA.l
                            (SL.app 4
                              (SA.l
                                (SL.app 4
                                  (SA.l (SL.v 0)
                                    (SA.i (SI.v 0) (SA.i (SI.c (Int.ofNat 0)) (SA.i (SI.c (Int.ofNat 0)) SA.nil)))))
                                (SA.i (SI.v 0) (SA.i (SI.c (Int.ofNat 1)) (SA.i (SI.c (Int.ofNat 0)) SA.nil)))))
                            (SA.i (SI.v 0) (SA.i (SI.c (Int.ofNat 2)) (SA.i (SI.c (Int.ofNat 0)) SA.nil)))))
                        (SA.i (SI.v 0) (SA.i (SI.c (Int.ofNat 3)) (SA.i (SI.c (Int.ofNat 0)) SA.nil)))))
                    (SA.i (SI.v 0) (SA.i (SI.c (Int.ofNat 4)) (SA.i (SI.c (Int.ofNat 0)) SA.nil)))))
                (SA.i (SI.v 5) (SA.i (SI.add (SI.v 0) (SI.c (Int.ofNat 1))) SA.nil))))] },
    {
      pc :=
        [SB.eq (SI.sel (SL.v 0) (SI.v 0) 2) (SI.v 5), SB.not (SB.eq (SI.sel (SL.v 0) (SI.v 0) 0) (SI.v 5)),
          SB.lt (SI.c (Int.ofNat 0)) (SI.sel (SL.v 0) (SI.v 0) 0), SB.lt (SI.v 0) (SI.len (SL.v 0)),
          SB.le (SI.c (Int.ofNat 0)) (SI.v 0), SB.le (SI.v 0) (SI.len (SL.v 0)),
          SB.le (SI.len (SL.v 0)) (SI.c (Int.ofNat 64)), SB.le (SI.c (Int.ofNat 0)) (SI.v 1), SB.le (SI.v 1) (SI.v 0),
          SB.c true, SB.app 140 (SA.l (SL.v 0) SA.nil)],
      eqs :=
        [Eqn.T
            (SB.lt (SI.sub (SI.len (SL.v 0)) (SI.add (SI.v 0) (SI.c (Int.ofNat 1))))
              (SI.sub (SI.len (SL.v 0)) (SI.v 0))),
          Eqn.T (SB.lt (SI.c (Int.ofNat 0)) (SI.sub (SI.len (SL.v 0)) (SI.v 0))),
          Eqn.T
            (SB.app 140
              (SA.l
                (SL.app 4
                  (SA.l
                    (SL.app 4
                      (SA.l
                        (SL.app 4
                          (SA.l
                            (SL.app 4
                              (SA.l
                                (SL.app 4
                                  (SA.l (SL.v 0)
                                    (SA.i (SI.v 0) (SA.i (SI.c (Int.ofNat 0)) (SA.i (SI.c (Int.ofNat 0)) SA.nil)))))
                                (SA.i (SI.v 0) (SA.i (SI.c (Int.ofNat 1)) (SA.i (SI.c (Int.ofNat 0)) SA.nil)))))
                            (SA.i (SI.v 0) (SA.i (SI.c (Int.ofNat 2)) (SA.i (SI.c (Int.ofNat 0)) SA.nil)))))
                        (SA.i (SI.v 0) (SA.i (SI.c (Int.ofNat 3)) (SA.i (SI.c (Int.ofNat 0)) SA.nil)))))
                    (SA.i (SI.v 0) (SA.i (SI.c (Int.ofNat 4)) (SA.i (SI.c (Int.ofNat 0)) SA.nil)))))
                SA.nil))] },
    {
      pc :=
        [SB.le
            (SI.len
              (SL.app 102
                (SA.l
                  (SL.app 4
                    (SA.l
                      (SL.app 4
                        (SA.l
                          (SL.app 4
                            (SA.l
                              (SL.app 4
                                (SA.l
                                  (SL.app 4
                                    (SA.l (SL.v 0)
                                      (SA.i (SI.v 0) (SA.i (SI.c (Int.ofNat 0)) (SA.i (SI.c (Int.ofNat 0)) SA.nil)))))
                                  (SA.i (SI.v 0) (SA.i (SI.c (Int.ofNat 1)) (SA.i (SI.c (Int.ofNat 0)) SA.nil)))))
                              (SA.i (SI.v 0) (SA.i (SI.c (Int.ofNat 2)) (SA.i (SI.c (Int.ofNat 0)) SA.nil)))))
                          (SA.i (SI.v 0) (SA.i (SI.c (Int.ofNat 3)) (SA.i (SI.c (Int.ofNat 0)) SA.nil)))))
                      (SA.i (SI.v 0) (SA.i (SI.c (Int.ofNat 4)) (SA.i (SI.c (Int.ofNat 0)) SA.nil)))))
                  (SA.i (SI.add (SI.v 0) (SI.c (Int.ofNat 1))) (SA.i (SI.v 5) SA.nil)))))
            (SI.sub (SI.len (SL.v 0)) (SI.add (SI.v 0) (SI.c (Int.ofNat 1)))),
          SB.eq
            (SI.len
              (SL.app 150
                (SA.l
                  (SL.app 4
                    (SA.l
                      (SL.app 4
                        (SA.l
                          (SL.app 4
                            (SA.l
                              (SL.app 4
                                (SA.l
                                  (SL.app 4
                                    (SA.l (SL.v 0)
                                      (SA.i (SI.v 0) (SA.i (SI.c (Int.ofNat 0)) (SA.i (SI.c (Int.ofNat 0)) SA.nil)))))
                                  (SA.i (SI.v 0) (SA.i (SI.c (Int.ofNat 1)) (SA.i (SI.c (Int.ofNat 0)) SA.nil)))))
                              (SA.i (SI.v 0) (SA.i (SI.c (Int.ofNat 2)) (SA.i (SI.c (Int.ofNat 0)) SA.nil)))))
                          (SA.i (SI.v 0) (SA.i (SI.c (Int.ofNat 3)) (SA.i (SI.c (Int.ofNat 0)) SA.nil)))))
                      (SA.i (SI.v 0) (SA.i (SI.c (Int.ofNat 4)) (SA.i (SI.c (Int.ofNat 0)) SA.nil)))))
                  (SA.i (SI.v 5) (SA.i (SI.add (SI.v 0) (SI.c (Int.ofNat 1))) SA.nil)))))
            (SI.len (SL.v 0)),
          SB.eq (SI.sel (SL.v 0) (SI.v 0) 2) (SI.v 5), SB.not (SB.eq (SI.sel (SL.v 0) (SI.v 0) 0) (SI.v 5)),
          SB.lt (SI.c (Int.ofNat 0)) (SI.sel (SL.v 0) (SI.v 0) 0), SB.lt (SI.v 0) (SI.len (SL.v 0)),
          SB.le (SI.c (Int.ofNat 0)) (SI.v 0), SB.le (SI.v 0) (SI.len (SL.v 0)),
          SB.le (SI.len (SL.v 0)) (SI.c (Int.ofNat 64)), SB.le (SI.c (Int.ofNat 0)) (SI.v 1), SB.le (SI.v 1) (SI.v 0),
          SB.c true, SB.app 140 (SA.l (SL.v 0) SA.nil)],
      eqs :=
        [Eqn.T (SB.eq (SI.len (SL.app 150 (SA.l (SL.v 0) (SA.i (SI.v 5) (SA.i (SI.v 0) SA.nil))))) (SI.len (SL.v 0))),
          Eqn.T
            (SB.le (SI.len (SL.app 102 (SA.l (SL.v 0) (SA.i (SI.v 0) (SA.i (SI.v 5) SA.nil)))))
              (SI.sub (SI.len (SL.v 0)) (SI.v 0))),
          Eqn.I (SI.add (SI.v 1) (SI.len (SL.app 102 (SA.l (SL.v 0) (SA.i (SI.v 0) (SA.i (SI.v 5) SA.nil))))))
            (SI.add (SI.add (SI.v 1) (SI.c (Int.ofNat 1)))
              (SI.len
                (SL.app 102
                  (SA.l
                    (SL.app 4
                      (SA.l
                        (SL.app 4
                          (SA.l
                            (SL.app 4
                              (SA.l
                                (SL.app 4
                                  (SA.l
                                    (SL.app 4
                                      (SA.l (SL.v 0)
                                        (SA.i (SI.v 0) (SA.i (SI.c (Int.ofNat 0)) (SA.i (SI.c (Int.ofNat 0)) SA.nil)))))
                                    (SA.i (SI.v 0) (SA.i (SI.c (Int.ofNat 1)) (SA.i (SI.c (Int.ofNat 0)) SA.nil)))))
                                (SA.i (SI.v 0) (SA.i (SI.c (Int.ofNat 2)) (SA.i (SI.c (Int.ofNat 0)) SA.nil)))))
                            (SA.i (SI.v 0) (SA.i (SI.c (Int.ofNat 3)) (SA.i (SI.c (Int.ofNat 0)) SA.nil)))))
                        (SA.i (SI.v 0) (SA.i (SI.c (Int.ofNat 4)) (SA.i (SI.c (Int.ofNat 0)) SA.nil)))))
                    (SA.i (SI.add (SI.v 0) (SI.c (Int.ofNat 1))) (SA.i (SI.v 5) SA.nil)))))),
          Eqn.I (SI.len (SL.app 150 (SA.l (SL.v 0) (SA.i (SI.v 5) (SA.i (SI.v 0) SA.nil)))))
            (SI.len
              (SL.app 150
                (SA.l
                  (SL.app 4
                    (SA.l
                      (SL.app 4
                        (SA.l
                          (SL.app 4
                            (SA.l
                              (SL.app 4
                                (SA.l
                                  (SL.app 4
                                    (SA.l (SL.v 0)
                                      (SA.i (SI.v 0) (SA.i (SI.c (Int.ofNat 0)) (SA.i (SI.c (Int.ofNat 0)) SA.nil)))))
                                  (SA.i (SI.v 0) (SA.i (SI.c (Int.ofNat 1)) (SA.i (SI.c (Int.ofNat 0)) SA.nil)))))
                              (SA.i (SI.v 0) (SA.i (SI.c (Int.ofNat 2)) (SA.i (SI.c (Int.ofNat 0)) SA.nil)))))
                          (SA.i (SI.v 0) (SA.i (SI.c (Int.ofNat 3)) (SA.i (SI.c (Int.ofNat 0)) SA.nil)))))
                      (SA.i (SI.v 0) (SA.i (SI.c (Int.ofNat 4)) (SA.i (SI.c (Int.ofNat 0)) SA.nil)))))
                  (SA.i (SI.v 5) (SA.i (SI.add (SI.v 0) (SI.c (Int.ofNat 1))) SA.nil))))),
          Eqn.L (SL.app 150 (SA.l (SL.v 0) (SA.i (SI.v 5) (SA.i (SI.v 0) SA.nil))))
            (SL.app 150
              (SA.l
                (SL.app 4
                  (SA.l
                    (SL.app 4
                      (SA.l
                        (SL.app 4
                          (SA.l
                            (SL.app 4
                              (SA.l
                                (SL.app 4
                                  (SA.l (SL.v 0)
                                    (SA.i (SI.v 0) (SA.i (SI.c (Int.ofNat 0)) (SA.i (SI.c (Int.ofNat 0)) SA.nil)))))
                                (SA.i (SI.v 0) (SA.i (SI.c (Int.ofNat 1)) (SA.i (SI.c (Int.ofNat 0)) SA.nil)))))
                            (SA.i (SI.v 0) (SA.i (SI.c (Int.ofNat 2)) (SA.i (SI.c (Int.ofNat 0)) SA.nil)))))
                        (SA.i (SI.v 0) (SA.i (SI.c (Int.ofNat 3)) (SA.i (SI.c (Int.ofNat 0)) SA.nil)))))
                    (SA.i (SI.v 0) (SA.i (SI.c (Int.ofNat 4)) (SA.i (SI.c (Int.ofNat 0)) SA.nil)))))
                (SA.i (SI.v 5) (SA.i (SI.add (SI.v 0) (SI.c (Int.ofNat 1))) SA.nil))))] },
    {
      pc :=
        [SB.not (SB.eq (SI.sel (SL.v 0) (SI.v 0) 2) (SI.v 5)), SB.not (SB.eq (SI.sel (SL.v 0) (SI.v 0) 0) (SI.v 5)),
          SB.lt (SI.c (Int.ofNat 0)) (SI.sel (SL.v 0) (SI.v 0) 0), SB.lt (SI.v 0) (SI.len (SL.v 0)),
          SB.le (SI.c (Int.ofNat 0)) (SI.v 0), SB.le (SI.v 0) (SI.len (SL.v 0)),
          SB.le (SI.len (SL.v 0)) (SI.c (Int.ofNat 64)), SB.le (SI.c (Int.ofNat 0)) (SI.v 1), SB.le (SI.v 1) (SI.v 0),
          SB.c true, SB.app 140 (SA.l (SL.v 0) SA.nil)],
      eqs :=
        [Eqn.T
            (SB.lt (SI.sub (SI.len (SL.v 0)) (SI.add (SI.v 0) (SI.c (Int.ofNat 1))))
              (SI.sub (SI.len (SL.v 0)) (SI.v 0))),
          Eqn.T (SB.lt (SI.c (Int.ofNat 0)) (SI.sub (SI.len (SL.v 0)) (SI.v 0)))] },
    {
      pc :=
        [SB.le
            (SI.len (SL.app 102 (SA.l (SL.v 0) (SA.i (SI.add (SI.v 0) (SI.c (Int.ofNat 1))) (SA.i (SI.v 5) SA.nil)))))
            (SI.sub (SI.len (SL.v 0)) (SI.add (SI.v 0) (SI.c (Int.ofNat 1)))),
          SB.eq
            (SI.len (SL.app 150 (SA.l (SL.v 0) (SA.i (SI.v 5) (SA.i (SI.add (SI.v 0) (SI.c (Int.ofNat 1))) SA.nil)))))
            (SI.len (SL.v 0)),
          SB.not (SB.eq (SI.sel (SL.v 0) (SI.v 0) 2) (SI.v 5)), SB.not (SB.eq (SI.sel (SL.v 0) (SI.v 0) 0) (SI.v 5)),
          SB.lt (SI.c (Int.ofNat 0)) (SI.sel (SL.v 0) (SI.v 0) 0), SB.lt (SI.v 0) (SI.len (SL.v 0)),
          SB.le (SI.c (Int.ofNat 0)) (SI.v 0), SB.le (SI.v 0) (SI.len (SL.v 0)),
          SB.le (SI.len (SL.v 0)) (SI.c (Int.ofNat 64)), SB.le (SI.c (Int.ofNat 0)) (SI.v 1), SB.le (SI.v 1) (SI.v 0),
          SB.c true, SB.app 140 (SA.l (SL.v 0) SA.nil)],
      eqs :=
        [Eqn.T (SB.eq (SI.len (SL.app 150 (SA.l (SL.v 0) (SA.i (SI.v 5) (SA.i (SI.v 0) SA.nil))))) (SI.len (SL.v 0))),
          Eqn.T
            (SB.le (SI.len (SL.app 102 (SA.l (SL.v 0) (SA.i (SI.v 0) (SA.i (SI.v 5) SA.nil)))))
              (SI.sub (SI.len (SL.v 0)) (SI.v 0))),
          Eqn.I (SI.add (SI.v 1) (SI.len (SL.app 102 (SA.l (SL.v 0) (SA.i (SI.v 0) (SA.i (SI.v 5) SA.nil))))))
            (SI.add (SI.v 1)
              (SI.len
                (SL.app 102 (SA.l (SL.v 0) (SA.i (SI.add (SI.v 0) (SI.c (Int.ofNat 1))) (SA.i (SI.v 5) SA.nil)))))),
          Eqn.I (SI.len (SL.app 150 (SA.l (SL.v 0) (SA.i (SI.v 5) (SA.i (SI.v 0) SA.nil)))))
            (SI.len (SL.app 150 (SA.l (SL.v 0) (SA.i (SI.v 5) (SA.i (SI.add (SI.v 0) (SI.c (Int.ofNat 1))) SA.nil))))),
          Eqn.L (SL.app 150 (SA.l (SL.v 0) (SA.i (SI.v 5) (SA.i (SI.v 0) SA.nil))))
            (SL.app 150 (SA.l (SL.v 0) (SA.i (SI.v 5) (SA.i (SI.add (SI.v 0) (SI.c (Int.ofNat 1))) SA.nil))))] },
    {
      pc :=
        [SB.not (SB.lt (SI.c (Int.ofNat 0)) (SI.sel (SL.v 0) (SI.v 0) 0)), SB.lt (SI.v 0) (SI.len (SL.v 0)),
          SB.le (SI.c (Int.ofNat 0)) (SI.v 0), SB.le (SI.v 0) (SI.len (SL.v 0)),
          SB.le (SI.len (SL.v 0)) (SI.c (Int.ofNat 64)), SB.le (SI.c (Int.ofNat 0)) (SI.v 1), SB.le (SI.v 1) (SI.v 0),
          SB.c true, SB.app 140 (SA.l (SL.v 0) SA.nil)],
      eqs :=
        [Eqn.T
            (SB.lt (SI.sub (SI.len (SL.v 0)) (SI.add (SI.v 0) (SI.c (Int.ofNat 1))))
              (SI.sub (SI.len (SL.v 0)) (SI.v 0))),
          Eqn.T (SB.lt (SI.c (Int.ofNat 0)) (SI.sub (SI.len (SL.v 0)) (SI.v 0)))] },
    {
      pc :=
        [SB.le
            (SI.len (SL.app 102 (SA.l (SL.v 0) (SA.i (SI.add (SI.v 0) (SI.c (Int.ofNat 1))) (SA.i (SI.v 5) SA.nil)))))
            (SI.sub (SI.len (SL.v 0)) (SI.add (SI.v 0) (SI.c (Int.ofNat 1)))),
          SB.eq
            (SI.len (SL.app 150 (SA.l (SL.v 0) (SA.i (SI.v 5) (SA.i (SI.add (SI.v 0) (SI.c (Int.ofNat 1))) SA.nil)))))
            (SI.len (SL.v 0)),
          SB.not (SB.lt (SI.c (Int.ofNat 0)) (SI.sel (SL.v 0) (SI.v 0) 0)), SB.lt (SI.v 0) (SI.len (SL.v 0)),
          SB.le (SI.c (Int.ofNat 0)) (SI.v 0), SB.le (SI.v 0) (SI.len (SL.v 0)),
          SB.le (SI.len (SL.v 0)) (SI.c (Int.ofNat 64)), SB.le (SI.c (Int.ofNat 0)) (SI.v 1), SB.le (SI.v 1) (SI.v 0),
          SB.c true, SB.app 140 (SA.l (SL.v 0) SA.nil)],
      eqs :=
        [Eqn.T (SB.eq (SI.len (SL.app 150 (SA.l (SL.v 0) (SA.i (SI.v 5) (SA.i (SI.v 0) SA.nil))))) (SI.len (SL.v 0))),
          Eqn.T
            (SB.le (SI.len (SL.app 102 (SA.l (SL.v 0) (SA.i (SI.v 0) (SA.i (SI.v 5) SA.nil)))))
              (SI.sub (SI.len (SL.v 0)) (SI.v 0))),
          Eqn.I (SI.add (SI.v 1) (SI.len (SL.app 102 (SA.l (SL.v 0) (SA.i (SI.v 0) (SA.i (SI.v 5) SA.nil))))))
            (SI.add (SI.v 1)
              (SI.len
                (SL.app 102 (SA.l (SL.v 0) (SA.i (SI.add (SI.v 0) (SI.c (Int.ofNat 1))) (SA.i (SI.v 5) SA.nil)))))),
          Eqn.I (SI.len (SL.app 150 (SA.l (SL.v 0) (SA.i (SI.v 5) (SA.i (SI.v 0) SA.nil)))))
            (SI.len (SL.app 150 (SA.l (SL.v 0) (SA.i (SI.v 5) (SA.i (SI.add (SI.v 0) (SI.c (Int.ofNat 1))) SA.nil))))),
          Eqn.L (SL.app 150 (SA.l (SL.v 0) (SA.i (SI.v 5) (SA.i (SI.v 0) SA.nil))))
            (SL.app 150 (SA.l (SL.v 0) (SA.i (SI.v 5) (SA.i (SI.add (SI.v 0) (SI.c (Int.ofNat 1))) SA.nil))))] },
    {
      pc :=
        [SB.not (SB.lt (SI.v 0) (SI.len (SL.v 0))), SB.le (SI.c (Int.ofNat 0)) (SI.v 0),
          SB.le (SI.v 0) (SI.len (SL.v 0)), SB.le (SI.len (SL.v 0)) (SI.c (Int.ofNat 64)),
          SB.le (SI.c (Int.ofNat 0)) (SI.v 1), SB.le (SI.v 1) (SI.v 0), SB.c true, SB.app 140 (SA.l (SL.v 0) SA.nil)],
      eqs :=
        [Eqn.T (SB.eq (SI.len (SL.app 150 (SA.l (SL.v 0) (SA.i (SI.v 5) (SA.i (SI.v 0) SA.nil))))) (SI.len (SL.v 0))),
          Eqn.T
            (SB.le (SI.len (SL.app 102 (SA.l (SL.v 0) (SA.i (SI.v 0) (SA.i (SI.v 5) SA.nil)))))
              (SI.sub (SI.len (SL.v 0)) (SI.v 0))),
          Eqn.I (SI.add (SI.v 1) (SI.len (SL.app 102 (SA.l (SL.v 0) (SA.i (SI.v 0) (SA.i (SI.v 5) SA.nil)))))) (SI.v 1),
          Eqn.I (SI.len (SL.app 150 (SA.l (SL.v 0) (SA.i (SI.v 5) (SA.i (SI.v 0) SA.nil))))) (SI.len (SL.v 0)),
          Eqn.L (SL.app 150 (SA.l (SL.v 0) (SA.i (SI.v 5) (SA.i (SI.v 0) SA.nil)))) (SL.v 0)] }] := by kernel_rfl
theorem rd_ok : rd.ok Φ Try.prog := by
  refine ⟨by kernel_rfl, loop_rule (fun ρ => s0_ok ρ) (loopAt_sub (by kernel_rfl)) rd_obs ?_⟩
  simp only [and_imp, List.forall_mem_cons, List.not_mem_nil, false_implies, implies_true, and_true, Ob.ok, holds, Eqn.ok, evB_eq, evB_lt, evB_le, evB_not, evB_and, evB_or, evB_eqL, evB_app, evB_v, evB_c, ev_sel, ev_len, ev_v, ev_c, ev_add, ev_sub, ev_mul, ev_quo, ev_rem, ev_bits, ev_wrap, evL_v, evL_lit, evL_app, ev_app, evA_l, evA_i, evA_nil, std_min, std_max, std_cat, std_take, std_drop, std_row, std_set, std_rep, std_find, std_put, std_del, std_flag, std_unflag, std_clr, std_left, std_copy, ints_cons, ints_nil, ofNat_lit, negSucc_lit, decide_eq_true_eq, Bool.and_eq_true, Bool.or_eq_true, Bool.not_eq_true', Bool.and_eq_false_iff, Bool.or_eq_false_iff, decide_eq_false_iff_not, aI110, aI111, aI112, aI113, aI114, aL100, aL101, aL102, aL103, aL110, aL112, aL113, aL114, aL115, aL116, aB130, aB131, aB132, aB199, aI142, aL140, aL141, aL143, aL144, aB140, aB141, aI150, aL150, aB150]
  repeat' apply And.intro
  all_goals intro ρ hR
  all_goals intros
  all_goals first
    | (omega)
    | (have hT : ∀ r ∈ ρ.l 0, okRow K5 r := hR.row 1 rfl rfl
       have hG : okGB (ρ.l 0) = true := by with_reducible assumption
       rw [set5 hT]
       exact ⟨by omega, by omega, okGB_mod hG fun _ => rfl⟩)
    | (have hT : ∀ r ∈ ρ.l 0, okRow K5 r := hR.row 1 rfl rfl
       have hG : okGB (ρ.l 0) = true := by with_reducible assumption
       have hm := getD_mem (A := ρ.l 0) (i := ρ.i 0) (by omega) (by omega)
       have h5 := hT _ hm
       have e1 := clrF_yes (T := ρ.l 0) (i := ρ.i 0) (g := ρ.i 5) (by omega) (by omega) (of_t (r := (ρ.l 0).getD (ρ.i 0).toNat []) (g := ρ.i 5) h5 (by unfold allZ; omega) (by omega))
       have e2 := og_yes (T := ρ.l 0) (i := ρ.i 0) (g := ρ.i 5) (by omega) (by omega) (of_t (r := (ρ.l 0).getD (ρ.i 0).toNat []) (g := ρ.i 5) h5 (by unfold allZ; omega) (by omega))
       rw [← set5 hT] at e1 e2
       have c1 := clrF_len (ρ.l 0) (ρ.i 5) (ρ.i 0)
       rw [← e1]
       exact ⟨by omega, by omega, by omega, rfl, rfl⟩)
    | (have hT : ∀ r ∈ ρ.l 0, okRow K5 r := hR.row 1 rfl rfl
       have hG : okGB (ρ.l 0) = true := by with_reducible assumption
       have hm := getD_mem (A := ρ.l 0) (i := ρ.i 0) (by omega) (by omega)
       have h5 := hT _ hm
       have e1 := clrF_no (T := ρ.l 0) (i := ρ.i 0) (g := ρ.i 5) (by omega) (by omega) (of_f (r := (ρ.l 0).getD (ρ.i 0).toNat []) (g := ρ.i 5) h5 (.inl (zero_of hG hm h5 (by omega))))
       have e2 := idx_no (p := ofG (ρ.i 5)) (T := ρ.l 0) (i := ρ.i 0) (by omega) (by omega) (of_f (r := (ρ.l 0).getD (ρ.i 0).toNat []) (g := ρ.i 5) h5 (.inl (zero_of hG hm h5 (by omega))))
       rw [e1, e2]
       exact ⟨by assumption, by omega, by omega, rfl, rfl⟩)
    | (have hT : ∀ r ∈ ρ.l 0, okRow K5 r := hR.row 1 rfl rfl
       have hG : okGB (ρ.l 0) = true := by with_reducible assumption
       have hm := getD_mem (A := ρ.l 0) (i := ρ.i 0) (by omega) (by omega)
       have h5 := hT _ hm
       have e1 := clrF_no (T := ρ.l 0) (i := ρ.i 0) (g := ρ.i 5) (by omega) (by omega) (of_f (r := (ρ.l 0).getD (ρ.i 0).toNat []) (g := ρ.i 5) h5 (.inr (by omega)))
       have e2 := idx_no (p := ofG (ρ.i 5)) (T := ρ.l 0) (i := ρ.i 0) (by omega) (by omega) (of_f (r := (ρ.l 0).getD (ρ.i 0).toNat []) (g := ρ.i 5) h5 (.inr (by omega)))
       rw [e1, e2]
       exact ⟨by assumption, by omega, by omega, rfl, rfl⟩)
    | (have hl := idx_len (p := ofG (ρ.i 5)) (T := List.drop (ρ.i 0).toNat (ρ.l 0)) (i := ρ.i 0)
       have hd := List.length_drop (l := ρ.l 0) (i := (ρ.i 0).toNat)
       have e1 := clrF_end (T := ρ.l 0) (g := ρ.i 5) (i := ρ.i 0) (by omega)
       rw [e1]
       exact ⟨rfl, by omega, by omega, rfl, rfl⟩)
set_option maxRecDepth 100000 in
theorem rn_obs : loopObs Φ Try.prog s0 1000 rn.f (loopAt Try.prog rn.f rn.id) rn.n rn.T k0 rn.outs = some
  [{
      pc :=
        [SB.lt (SI.c (Int.ofNat 0)) (SI.sel (SL.v 0) (SI.v 0) 0), SB.lt (SI.v 0) (SI.len (SL.v 0)),
          SB.le (SI.c (Int.ofNat 0)) (SI.v 0), SB.le (SI.v 0) (SI.len (SL.v 0)),
          SB.le (SI.len (SL.v 0)) (SI.c (Int.ofNat 64)), SB.le (SI.c (Int.ofNat 0)) (SI.v 1), SB.le (SI.v 1) (SI.v 0),
          SB.c true, SB.app 140 (SA.l (SL.v 0) SA.nil)],
      eqs :=
        [Eqn.T
            (SB.lt (SI.sub (SI.len (SL.v 0)) (SI.add (SI.v 0) (SI.c (Int.ofNat 1))))
              (SI.sub (SI.len (SL.v 0)) (SI.v 0))),
          Eqn.T (SB.lt (SI.c (Int.ofNat 0)) (SI.sub (SI.len (SL.v 0)) (SI.v 0)))] },
    {
      pc :=
        [SB.le (SI.len (SL.app 101 (SA.l (SL.v 0) (SA.i (SI.add (SI.v 0) (SI.c (Int.ofNat 1))) SA.nil))))
            (SI.sub (SI.len (SL.v 0)) (SI.add (SI.v 0) (SI.c (Int.ofNat 1)))),
          SB.lt (SI.c (Int.ofNat 0)) (SI.sel (SL.v 0) (SI.v 0) 0), SB.lt (SI.v 0) (SI.len (SL.v 0)),
          SB.le (SI.c (Int.ofNat 0)) (SI.v 0), SB.le (SI.v 0) (SI.len (SL.v 0)),
          SB.le (SI.len (SL.v 0)) (SI.c (Int.ofNat 64)), SB.le (SI.c (Int.ofNat 0)) (SI.v 1), SB.le (SI.v 1) (SI.v 0),
          SB.c true, SB.app 140 (SA.l (SL.v 0) SA.nil)],
      eqs :=
        [Eqn.T (SB.le (SI.len (SL.app 101 (SA.l (SL.v 0) (SA.i (SI.v 0) SA.nil)))) (SI.sub (SI.len (SL.v 0)) (SI.v 0))),
          Eqn.I (SI.add (SI.v 1) (SI.len (SL.app 101 (SA.l (SL.v 0) (SA.i (SI.v 0) SA.nil)))))
            (SI.add (SI.add (SI.v 1) (SI.c (Int.ofNat 1)))
              (SI.len (SL.app 101 (SA.l (SL.v 0) (SA.i (SI.add (SI.v 0) (SI.c (Int.ofNat 1))) SA.nil)))))] },
    {
      pc :=
        [SB.not (SB.lt (SI.c (Int.ofNat 0)) (SI.sel (SL.v 0) (SI.v 0) 0)), SB.lt (SI.v 0) (SI.len (SL.v 0)),
          SB.le (SI.c (Int.ofNat 0)) (SI.v 0), SB.le (SI.v 0) (SI.len (SL.v 0)),
          SB.le (SI.len (SL.v 0)) (SI.c (Int.ofNat 64)), SB.le (SI.c (Int.ofNat 0)) (SI.v 1), SB.le (SI.v 1) (SI.v 0),
          SB.c true, SB.app 140 (SA.l (SL.v 0) SA.nil)],
      eqs :=
        [Eqn.T
            (SB.lt (SI.sub (SI.len (SL.v 0)) (SI.add (SI.v 0) (SI.c (Int.ofNat 1))))
              (SI.sub (SI.len (SL.v 0)) (SI.v 0))),
          Eqn.T (SB.lt (SI.c (Int.ofNat 0)) (SI.sub (SI.len (SL.v 0)) (SI.v 0)))] },
    {
      pc :=
        [SB.le (SI.len (SL.app 101 (SA.l (SL.v 0) (SA.i (SI.add (SI.v 0) (SI.c (Int.ofNat 1))) SA.nil))))
            (SI.sub (SI.len (SL.v 0)) (SI.add (SI.v 0) (SI.c (Int.ofNat 1)))),
          SB.not (SB.lt (SI.c (Int.ofNat 0)) (SI.sel (SL.v 0) (SI.v 0) 0)), SB.lt (SI.v 0) (SI.len (SL.v 0)),
          SB.le (SI.c (Int.ofNat 0)) (SI.v 0), SB.le (SI.v 0) (SI.len (SL.v 0)),
          SB.le (SI.len (SL.v 0)) (SI.c (Int.ofNat 64)), SB.le (SI.c (Int.ofNat 0)) (SI.v 1), SB.le (SI.v 1) (SI.v 0),
          SB.c true, SB.app 140 (SA.l (SL.v 0) SA.nil)],
      eqs :=
        [Eqn.T (SB.le (SI.len (SL.app 101 (SA.l (SL.v 0) (SA.i (SI.v 0) SA.nil)))) (SI.sub (SI.len (SL.v 0)) (SI.v 0))),
          Eqn.I (SI.add (SI.v 1) (SI.len (SL.app 101 (SA.l (SL.v 0) (SA.i (SI.v 0) SA.nil)))))
            (SI.add (SI.v 1)
              (SI.len (SL.app 101 (SA.l (SL.v 0) (SA.i (SI.add (SI.v 0) (SI.c (Int.ofNat 1))) SA.nil)))))] },
    {
      pc :=
        [SB.not (SB.lt (SI.v 0) (SI.len (SL.v 0))), SB.le (SI.c (Int.ofNat 0)) (SI.v 0),
          SB.le (SI.v 0) (SI.len (SL.v 0)), SB.le (SI.len (SL.v 0)) (SI.c (Int.ofNat 64)),
          SB.le (SI.c (Int.ofNat 0)) (SI.v 1), SB.le (SI.v 1) (SI.v 0), SB.c true, SB.app 140 (SA.l (SL.v 0) SA.nil)],
      eqs :=
        [Eqn.T (SB.le (SI.len (SL.app 101 (SA.l (SL.v 0) (SA.i (SI.v 0) SA.nil)))) (SI.sub (SI.len (SL.v 0)) (SI.v 0))),
          Eqn.I (SI.add (SI.v 1) (SI.len (SL.app 101 (SA.l (SL.v 0) (SA.i (SI.v 0) SA.nil))))) (SI.v 1)] }] := by kernel_rfl
theorem rn_ok : rn.ok Φ Try.prog := by
  refine ⟨by kernel_rfl, loop_rule (fun ρ => s0_ok ρ) (loopAt_sub (by kernel_rfl)) rn_obs ?_⟩
  simp only [and_imp, List.forall_mem_cons, List.not_mem_nil, false_implies, implies_true, and_true, Ob.ok, holds, Eqn.ok, evB_eq, evB_lt, evB_le, evB_not, evB_and, evB_or, evB_eqL, evB_app, evB_v, evB_c, ev_sel, ev_len, ev_v, ev_c, ev_add, ev_sub, ev_mul, ev_quo, ev_rem, ev_bits, ev_wrap, evL_v, evL_lit, evL_app, ev_app, evA_l, evA_i, evA_nil, std_min, std_max, std_cat, std_take, std_drop, std_row, std_set, std_rep, std_find, std_put, std_del, std_flag, std_unflag, std_clr, std_left, std_copy, ints_cons, ints_nil, ofNat_lit, negSucc_lit, decide_eq_true_eq, Bool.and_eq_true, Bool.or_eq_true, Bool.not_eq_true', Bool.and_eq_false_iff, Bool.or_eq_false_iff, decide_eq_false_iff_not, aI110, aI111, aI112, aI113, aI114, aL100, aL101, aL102, aL103, aL110, aL112, aL113, aL114, aL115, aL116, aB130, aB131, aB132, aB199, aI142, aL140, aL141, aL143, aL144, aB140, aB141, aI150, aL150, aB150]
  repeat' apply And.intro
  all_goals intro ρ hR
  all_goals intros
  all_goals first
    | (omega)
    | (have hT : ∀ r ∈ ρ.l 0, okRow K5 r := hR.row 1 rfl rfl
       have hG : okGB (ρ.l 0) = true := by with_reducible assumption
       have hm := getD_mem (A := ρ.l 0) (i := ρ.i 0) (by omega) (by omega)
       have h5 := hT _ hm
       have e := congrArg List.length (idx_yes (p := liveB) (T := ρ.l 0) (i := ρ.i 0) (by omega) (by omega) (live_t h5 (by unfold allZ; omega)))
       rw [List.length_cons] at e
       omega)
    | (have hT : ∀ r ∈ ρ.l 0, okRow K5 r := hR.row 1 rfl rfl
       have hG : okGB (ρ.l 0) = true := by with_reducible assumption
       have hm := getD_mem (A := ρ.l 0) (i := ρ.i 0) (by omega) (by omega)
       have h5 := hT _ hm
       have e := congrArg List.length (idx_no (p := liveB) (T := ρ.l 0) (i := ρ.i 0) (by omega) (by omega) (live_f h5 (zero_of hG hm h5 (by omega))))
       omega)
    | (have e := congrArg List.length (idx_end (p := liveB) (T := ρ.l 0) (i := ρ.i 0) (by omega))
       rw [List.length_nil] at e
       omega)
theorem s4_ok (ρ : Env) : TblOK Φ ρ Try.prog s4 := addLp_ok (addLp_ok (s0_ok ρ) rd_ok) rn_ok
set_option maxRecDepth 100000 in
theorem rk9_obs : loopObs Φ Try.prog s0 1000 rk9.f (loopAt Try.prog rk9.f rk9.id) rk9.n rk9.T k6 rk9.outs = some
  [{
      pc :=
        [SB.eq (SI.sel (SL.v 1) (SI.sel (SL.v 0) (SI.v 3) 2) 0) (SI.c (Int.ofNat 0)),
          SB.lt (SI.sel (SL.v 0) (SI.v 3) 2) (SI.len (SL.v 1)), SB.le (SI.c (Int.ofNat 0)) (SI.sel (SL.v 0) (SI.v 3) 2),
          SB.eq (SI.sel (SL.v 1) (SI.sel (SL.v 0) (SI.v 3) 0) 0) (SI.c (Int.ofNat 0)),
          SB.lt (SI.sel (SL.v 0) (SI.v 3) 0) (SI.len (SL.v 1)), SB.lt (SI.c (Int.ofNat 0)) (SI.sel (SL.v 0) (SI.v 3) 0),
          SB.lt (SI.v 3) (SI.len (SL.v 0)), SB.le (SI.c (Int.ofNat 0)) (SI.v 3), SB.le (SI.v 3) (SI.len (SL.v 0)),
          SB.le (SI.c (Int.ofNat 1)) (SI.len (SL.v 0)), SB.le (SI.len (SL.v 0)) (SI.c (Int.ofNat 64)),
          SB.eq (SI.len (SL.v 1)) (SI.c (Int.ofNat 17)), SB.c true, SB.app 140 (SA.l (SL.v 0) SA.nil)],
      eqs :=
        [Eqn.T
            (SB.lt (SI.sub (SI.len (SL.v 0)) (SI.add (SI.v 3) (SI.c (Int.ofNat 1))))
              (SI.sub (SI.len (SL.v 0)) (SI.v 3))),
          Eqn.T (SB.lt (SI.c (Int.ofNat 0)) (SI.sub (SI.len (SL.v 0)) (SI.v 3)))] },
    {
      pc :=
        [SB.eq
            (SI.len (SL.app 144 (SA.l (SL.v 0) (SA.l (SL.v 1) (SA.i (SI.add (SI.v 3) (SI.c (Int.ofNat 1))) SA.nil)))))
            (SI.c (Int.ofNat 17)),
          SB.eq (SI.sel (SL.v 1) (SI.sel (SL.v 0) (SI.v 3) 2) 0) (SI.c (Int.ofNat 0)),
          SB.lt (SI.sel (SL.v 0) (SI.v 3) 2) (SI.len (SL.v 1)), SB.le (SI.c (Int.ofNat 0)) (SI.sel (SL.v 0) (SI.v 3) 2),
          SB.eq (SI.sel (SL.v 1) (SI.sel (SL.v 0) (SI.v 3) 0) 0) (SI.c (Int.ofNat 0)),
          SB.lt (SI.sel (SL.v 0) (SI.v 3) 0) (SI.len (SL.v 1)), SB.lt (SI.c (Int.ofNat 0)) (SI.sel (SL.v 0) (SI.v 3) 0),
          SB.lt (SI.v 3) (SI.len (SL.v 0)), SB.le (SI.c (Int.ofNat 0)) (SI.v 3), SB.le (SI.v 3) (SI.len (SL.v 0)),
          SB.le (SI.c (Int.ofNat 1)) (SI.len (SL.v 0)), SB.le (SI.len (SL.v 0)) (SI.c (Int.ofNat 64)),
          SB.eq (SI.len (SL.v 1)) (SI.c (Int.ofNat 17)), SB.c true, SB.app 140 (SA.l (SL.v 0) SA.nil)],
      eqs :=
        [Eqn.T
            (SB.eq (SI.len (SL.app 144 (SA.l (SL.v 0) (SA.l (SL.v 1) (SA.i (SI.v 3) SA.nil))))) (SI.c (Int.ofNat 17))),
          Eqn.I (SI.len (SL.app 144 (SA.l (SL.v 0) (SA.l (SL.v 1) (SA.i (SI.v 3) SA.nil)))))
            (SI.len (SL.app 144 (SA.l (SL.v 0) (SA.l (SL.v 1) (SA.i (SI.add (SI.v 3) (SI.c (Int.ofNat 1))) SA.nil))))),
          Eqn.L (SL.app 144 (SA.l (SL.v 0) (SA.l (SL.v 1) (SA.i (SI.v 3) SA.nil))))
            (SL.app 144 (SA.l (SL.v 0) (SA.l (SL.v 1) (SA.i (SI.add (SI.v 3) (SI.c (Int.ofNat 1))) SA.nil))))] },
    {
      pc :=
        [SB.not (SB.eq (SI.sel (SL.v 1) (SI.sel (SL.v 0) (SI.v 3) 2) 0) (SI.c (Int.ofNat 0))),
          SB.lt (SI.sel (SL.v 0) (SI.v 3) 2) (SI.len (SL.v 1)), SB.le (SI.c (Int.ofNat 0)) (SI.sel (SL.v 0) (SI.v 3) 2),
          SB.eq (SI.sel (SL.v 1) (SI.sel (SL.v 0) (SI.v 3) 0) 0) (SI.c (Int.ofNat 0)),
          SB.lt (SI.sel (SL.v 0) (SI.v 3) 0) (SI.len (SL.v 1)), SB.lt (SI.c (Int.ofNat 0)) (SI.sel (SL.v 0) (SI.v 3) 0),
          SB.lt (SI.v 3) (SI.len (SL.v 0)), SB.le (SI.c (Int.ofNat 0)) (SI.v 3), SB.le (SI.v 3) (SI.len (SL.v 0)),
          SB.le (SI.c (Int.ofNat 1)) (SI.len (SL.v 0)), SB.le (SI.len (SL.v 0)) (SI.c (Int.ofNat 64)),
          SB.eq (SI.len (SL.v 1)) (SI.c (Int.ofNat 17)), SB.c true, SB.app 140 (SA.l (SL.v 0) SA.nil)],
      eqs :=
        [Eqn.T
            (SB.lt (SI.sub (SI.len (SL.v 0)) (SI.add (SI.v 3) (SI.c (Int.ofNat 1))))
              (SI.sub (SI.len (SL.v 0)) (SI.v 3))),
          Eqn.T (SB.lt (SI.c (Int.ofNat 0)) (SI.sub (SI.len (SL.v 0)) (SI.v 3)))] },
    {
      pc :=
        [SB.eq
            (SI.len
              (SL.app 144
                (SA.l (SL.v 0)
                  (SA.l
                    (SL.app 4
                      (SA.l
                        (SL.app 4
                          (SA.l (SL.v 1)
                            (SA.i (SI.sel (SL.v 0) (SI.v 3) 0)
                              (SA.i (SI.c (Int.ofNat 0)) (SA.i (SI.c (Int.ofNat 1)) SA.nil)))))
                        (SA.i (SI.sel (SL.v 0) (SI.v 3) 2)
                          (SA.i (SI.c (Int.ofNat 0)) (SA.i (SI.c (Int.ofNat 1)) SA.nil)))))
                    (SA.i (SI.add (SI.v 3) (SI.c (Int.ofNat 1))) SA.nil)))))
            (SI.c (Int.ofNat 17)),
          SB.not (SB.eq (SI.sel (SL.v 1) (SI.sel (SL.v 0) (SI.v 3) 2) 0) (SI.c (Int.ofNat 0))),
          SB.lt (SI.sel (SL.v 0) (SI.v 3) 2) (SI.len (SL.v 1)), SB.le (SI.c (Int.ofNat 0)) (SI.sel (SL.v 0) (SI.v 3) 2),
          SB.eq (SI.sel (SL.v 1) (SI.sel (SL.v 0) (SI.v 3) 0) 0) (SI.c (Int.ofNat 0)),
          SB.lt (SI.sel (SL.v 0) (SI.v 3) 0) (SI.len (SL.v 1)), SB.lt (SI.c (Int.ofNat 0)) (SI.sel (SL.v 0) (SI.v 3) 0),
          SB.lt (SI.v 3) (SI.len (SL.v 0)), SB.le (SI.c (Int.ofNat 0)) (SI.v 3), SB.le (SI.v 3) (SI.len (SL.v 0)),
          SB.le (SI.c (Int.ofNat 1)) (SI.len (SL.v 0)), SB.le (SI.len (SL.v 0)) (SI.c (Int.ofNat 64)),
          SB.eq (SI.len (SL.v 1)) (SI.c (Int.ofNat 17)), SB.c true, SB.app 140 (SA.l (SL.v 0) SA.nil)],
      eqs :=
        [Eqn.T
            (SB.eq (SI.len (SL.app 144 (SA.l (SL.v 0) (SA.l (SL.v 1) (SA.i (SI.v 3) SA.nil))))) (SI.c (Int.ofNat 17))),
          Eqn.I (SI.len (SL.app 144 (SA.l (SL.v 0) (SA.l (SL.v 1) (SA.i (SI.v 3) SA.nil)))))
            (SI.len
              (SL.app 144
                (SA.l (SL.v 0)
                  (SA.l
                    (SL.app 4
                      (SA.l
                        (SL.app 4
                          (SA.l (SL.v 1)
                            (SA.i (SI.sel (SL.v 0) (SI.v 3) 0)
                              (SA.i (SI.c (Int.ofNat 0)) (SA.i (SI.c (Int.ofNat 1)) SA.nil)))))
                        (SA.i (SI.sel (SL.v 0) (SI.v 3) 2)
                          (SA.i (SI.c (Int.ofNat 0)) (SA.i (SI.c (Int.ofNat 1)) SA.nil)))))
                    (SA.i (SI.add (SI.v 3) (SI.c (Int.ofNat 1))) SA.nil))))),
          Eqn.L (SL.app 144 (SA.l (SL.v 0) (SA.l (SL.v 1) (SA.i (SI.v 3) SA.nil))))
            (SL.app 144
              (SA.l (SL.v 0)
                (SA.l
                  (SL.app 4
                    (SA.l
                      (SL.app 4
                        (SA.l (SL.v 1)
                          (SA.i (SI.sel (SL.v 0) (SI.v 3) 0)
                            (SA.i (SI.c (Int.ofNat 0)) (SA.i (SI.c (Int.ofNat 1)) SA.nil)))))
                      (SA.i (SI.sel (SL.v 0) (SI.v 3) 2)
                        (SA.i (SI.c (Int.ofNat 0)) (SA.i (SI.c (Int.ofNat 1)) SA.nil)))))
                  (SA.i (SI.add (SI.v 3) (SI.c (Int.ofNat 1))) SA.nil))))] },
    {
      pc :=
        [SB.not (SB.lt (SI.sel (SL.v 0) (SI.v 3) 2) (SI.len (SL.v 1))),
          SB.le (SI.c (Int.ofNat 0)) (SI.sel (SL.v 0) (SI.v 3) 2),
          SB.eq (SI.sel (SL.v 1) (SI.sel (SL.v 0) (SI.v 3) 0) 0) (SI.c (Int.ofNat 0)),
          SB.lt (SI.sel (SL.v 0) (SI.v 3) 0) (SI.len (SL.v 1)), SB.lt (SI.c (Int.ofNat 0)) (SI.sel (SL.v 0) (SI.v 3) 0),
          SB.lt (SI.v 3) (SI.len (SL.v 0)), SB.le (SI.c (Int.ofNat 0)) (SI.v 3), SB.le (SI.v 3) (SI.len (SL.v 0)),
          SB.le (SI.c (Int.ofNat 1)) (SI.len (SL.v 0)), SB.le (SI.len (SL.v 0)) (SI.c (Int.ofNat 64)),
          SB.eq (SI.len (SL.v 1)) (SI.c (Int.ofNat 17)), SB.c true, SB.app 140 (SA.l (SL.v 0) SA.nil)],
      eqs := [Eqn.T (SB.c false)] },
    {
      pc :=
        [SB.not (SB.le (SI.c (Int.ofNat 0)) (SI.sel (SL.v 0) (SI.v 3) 2)),
          SB.eq (SI.sel (SL.v 1) (SI.sel (SL.v 0) (SI.v 3) 0) 0) (SI.c (Int.ofNat 0)),
          SB.lt (SI.sel (SL.v 0) (SI.v 3) 0) (SI.len (SL.v 1)), SB.lt (SI.c (Int.ofNat 0)) (SI.sel (SL.v 0) (SI.v 3) 0),
          SB.lt (SI.v 3) (SI.len (SL.v 0)), SB.le (SI.c (Int.ofNat 0)) (SI.v 3), SB.le (SI.v 3) (SI.len (SL.v 0)),
          SB.le (SI.c (Int.ofNat 1)) (SI.len (SL.v 0)), SB.le (SI.len (SL.v 0)) (SI.c (Int.ofNat 64)),
          SB.eq (SI.len (SL.v 1)) (SI.c (Int.ofNat 17)), SB.c true, SB.app 140 (SA.l (SL.v 0) SA.nil)],
      eqs := [Eqn.T (SB.c false)] },
    {
      pc :=
        [SB.lt (SI.sel (SL.v 0) (SI.v 3) 2) (SI.len (SL.v 1)), SB.le (SI.c (Int.ofNat 0)) (SI.sel (SL.v 0) (SI.v 3) 2),
          SB.not (SB.eq (SI.sel (SL.v 1) (SI.sel (SL.v 0) (SI.v 3) 0) 0) (SI.c (Int.ofNat 0))),
          SB.lt (SI.sel (SL.v 0) (SI.v 3) 0) (SI.len (SL.v 1)), SB.lt (SI.c (Int.ofNat 0)) (SI.sel (SL.v 0) (SI.v 3) 0),
          SB.lt (SI.v 3) (SI.len (SL.v 0)), SB.le (SI.c (Int.ofNat 0)) (SI.v 3), SB.le (SI.v 3) (SI.len (SL.v 0)),
          SB.le (SI.c (Int.ofNat 1)) (SI.len (SL.v 0)), SB.le (SI.len (SL.v 0)) (SI.c (Int.ofNat 64)),
          SB.eq (SI.len (SL.v 1)) (SI.c (Int.ofNat 17)), SB.c true, SB.app 140 (SA.l (SL.v 0) SA.nil)],
      eqs :=
        [Eqn.T
            (SB.lt (SI.sub (SI.len (SL.v 0)) (SI.add (SI.v 3) (SI.c (Int.ofNat 1))))
              (SI.sub (SI.len (SL.v 0)) (SI.v 3))),
          Eqn.T (SB.lt (SI.c (Int.ofNat 0)) (SI.sub (SI.len (SL.v 0)) (SI.v 3)))] },
    {
      pc :=
        [SB.eq
            (SI.len
              (SL.app 144
                (SA.l (SL.v 0)
                  (SA.l
                    (SL.app 4
                      (SA.l
                        (SL.app 4
                          (SA.l (SL.v 1)
                            (SA.i (SI.sel (SL.v 0) (SI.v 3) 0)
                              (SA.i (SI.c (Int.ofNat 0)) (SA.i (SI.c (Int.ofNat 1)) SA.nil)))))
                        (SA.i (SI.sel (SL.v 0) (SI.v 3) 2)
                          (SA.i (SI.c (Int.ofNat 0)) (SA.i (SI.c (Int.ofNat 1)) SA.nil)))))
                    (SA.i (SI.add (SI.v 3) (SI.c (Int.ofNat 1))) SA.nil)))))
            (SI.c (Int.ofNat 17)),
          SB.lt (SI.sel (SL.v 0) (SI.v 3) 2) (SI.len (SL.v 1)), SB.le (SI.c (Int.ofNat 0)) (SI.sel (SL.v 0) (SI.v 3) 2),
          SB.not (SB.eq (SI.sel (SL.v 1) (SI.sel (SL.v 0) (SI.v 3) 0) 0) (SI.c (Int.ofNat 0))),
          SB.lt (SI.sel (SL.v 0) (SI.v 3) 0) (SI.len (SL.v 1)), SB.lt (SI.c (Int.ofNat 0)) (SI.sel (SL.v 0) (SI.v 3) 0),
          SB.lt (SI.v 3) (SI.len (SL.v 0)), SB.le (SI.c (Int.ofNat 0)) (SI.v 3), SB.le (SI.v 3) (SI.len (SL.v 0)),
          SB.le (SI.c (Int.ofNat 1)) (SI.len (SL.v 0)), SB.le (SI.len (SL.v 0)) (SI.c (Int.ofNat 64)),
          SB.eq (SI.len (SL.v 1)) (SI.c (Int.ofNat 17)), SB.c true, SB.app 140 (SA.l (SL.v 0) SA.nil)],
      eqs :=
        [Eqn.T
            (SB.eq (SI.len (SL.app 144 (SA.l (SL.v 0) (SA.l (SL.v 1) (SA.i (SI.v 3) SA.nil))))) (SI.c (Int.ofNat 17))),
          Eqn.I (SI.len (SL.app 144 (SA.l (SL.v 0) (SA.l (SL.v 1) (SA.i (SI.v 3) SA.nil)))))
            (SI.len
              (SL.app 144
                (SA.l (SL.v 0)
                  (SA.l
                    (SL.app 4
                      (SA.l
                        (SL.app 4
                          (SA.l (SL.v 1)
                            (SA.i (SI.sel (SL.v 0) (SI.v 3) 0)
                              (SA.i (SI.c (Int.ofNat 0)) (SA.i (SI.c (Int.ofNat 1)) SA.nil)))))
                        (SA.i (SI.sel (SL.v 0) (SI.v 3) 2)
                          (SA.i (SI.c (Int.ofNat 0)) (SA.i (SI.c (Int.ofNat 1)) SA.nil)))))
                    (SA.i (SI.add (SI.v 3) (SI.c (Int.ofNat 1))) SA.nil))))),
          Eqn.L (SL.app 144 (SA.l (SL.v 0) (SA.l (SL.v 1) (SA.i (SI.v 3) SA.nil))))
            (SL.app 144
              (SA.l (SL.v 0)
                (SA.l
                  (SL.app 4
                    (SA.l
                      (SL.app 4
                        (SA.l (SL.v 1)
                          (SA.i (SI.sel (SL.v 0) (SI.v 3) 0)
                            (SA.i (SI.c (Int.ofNat 0)) (SA.i (SI.c (Int.ofNat 1)) SA.nil)))))
                      (SA.i (SI.sel (SL.v 0) (SI.v 3) 2)
                        (SA.i (SI.c (Int.ofNat 0)) (SA.i (SI.c (Int.ofNat 1)) SA.nil)))))
                  (SA.i (SI.add (SI.v 3) (SI.c (Int.ofNat 1))) SA.nil))))] },
    {
      pc :=
        [SB.not (SB.lt (SI.sel (SL.v 0) (SI.v 3) 2) (SI.len (SL.v 1))),
          SB.le (SI.c (Int.ofNat 0)) (SI.sel (SL.v 0) (SI.v 3) 2),
          SB.not (SB.eq (SI.sel (SL.v 1) (SI.sel (SL.v 0) (SI.v 3) 0) 0) (SI.c (Int.ofNat 0))),
          SB.lt (SI.sel (SL.v 0) (SI.v 3) 0) (SI.len (SL.v 1)), SB.lt (SI.c (Int.ofNat 0)) (SI.sel (SL.v 0) (SI.v 3) 0),
          SB.lt (SI.v 3) (SI.len (SL.v 0)), SB.le (SI.c (Int.ofNat 0)) (SI.v 3), SB.le (SI.v 3) (SI.len (SL.v 0)),
          SB.le (SI.c (Int.ofNat 1)) (SI.len (SL.v 0)), SB.le (SI.len (SL.v 0)) (SI.c (Int.ofNat 64)),
          SB.eq (SI.len (SL.v 1)) (SI.c (Int.ofNat 17)), SB.c true, SB.app 140 (SA.l (SL.v 0) SA.nil)],
      eqs := [Eqn.T (SB.c false)] },
    {
      pc :=
        [SB.not (SB.le (SI.c (Int.ofNat 0)) (SI.sel (SL.v 0) (SI.v 3) 2)),
          SB.not (SB.eq (SI.sel (SL.v 1) (SI.sel (SL.v 0) (SI.v 3) 0) 0) (SI.c (Int.ofNat 0))),
          SB.lt (SI.sel (SL.v 0) (SI.v 3) 0) (SI.len (SL.v 1)), SB.lt (SI.c (Int.ofNat 0)) (SI.sel (SL.v 0) (SI.v 3) 0),
          SB.lt (SI.v 3) (SI.len (SL.v 0)), SB.le (SI.c (Int.ofNat 0)) (SI.v 3), SB.le (SI.v 3) (SI.len (SL.v 0)),
          SB.le (SI.c (Int.ofNat 1)) (SI.len (SL.v 0)), SB.le (SI.len (SL.v 0)) (SI.c (Int.ofNat 64)),
          SB.eq (SI.len (SL.v 1)) (SI.c (Int.ofNat 17)), SB.c true, SB.app 140 (SA.l (SL.v 0) SA.nil)],
      eqs := [Eqn.T (SB.c false)] },
    {
      pc :=
        [SB.not (SB.lt (SI.sel (SL.v 0) (SI.v 3) 0) (SI.len (SL.v 1))),
          SB.lt (SI.c (Int.ofNat 0)) (SI.sel (SL.v 0) (SI.v 3) 0), SB.lt (SI.v 3) (SI.len (SL.v 0)),
          SB.le (SI.c (Int.ofNat 0)) (SI.v 3), SB.le (SI.v 3) (SI.len (SL.v 0)),
          SB.le (SI.c (Int.ofNat 1)) (SI.len (SL.v 0)), SB.le (SI.len (SL.v 0)) (SI.c (Int.ofNat 64)),
          SB.eq (SI.len (SL.v 1)) (SI.c (Int.ofNat 17)), SB.c true, SB.app 140 (SA.l (SL.v 0) SA.nil)],
      eqs := [Eqn.T (SB.c false)] },
    {
      pc :=
        [SB.not (SB.lt (SI.c (Int.ofNat 0)) (SI.sel (SL.v 0) (SI.v 3) 0)), SB.lt (SI.v 3) (SI.len (SL.v 0)),
          SB.le (SI.c (Int.ofNat 0)) (SI.v 3), SB.le (SI.v 3) (SI.len (SL.v 0)),
          SB.le (SI.c (Int.ofNat 1)) (SI.len (SL.v 0)), SB.le (SI.len (SL.v 0)) (SI.c (Int.ofNat 64)),
          SB.eq (SI.len (SL.v 1)) (SI.c (Int.ofNat 17)), SB.c true, SB.app 140 (SA.l (SL.v 0) SA.nil)],
      eqs :=
        [Eqn.T
            (SB.lt (SI.sub (SI.len (SL.v 0)) (SI.add (SI.v 3) (SI.c (Int.ofNat 1))))
              (SI.sub (SI.len (SL.v 0)) (SI.v 3))),
          Eqn.T (SB.lt (SI.c (Int.ofNat 0)) (SI.sub (SI.len (SL.v 0)) (SI.v 3)))] },
    {
      pc :=
        [SB.eq
            (SI.len (SL.app 144 (SA.l (SL.v 0) (SA.l (SL.v 1) (SA.i (SI.add (SI.v 3) (SI.c (Int.ofNat 1))) SA.nil)))))
            (SI.c (Int.ofNat 17)),
          SB.not (SB.lt (SI.c (Int.ofNat 0)) (SI.sel (SL.v 0) (SI.v 3) 0)), SB.lt (SI.v 3) (SI.len (SL.v 0)),
          SB.le (SI.c (Int.ofNat 0)) (SI.v 3), SB.le (SI.v 3) (SI.len (SL.v 0)),
          SB.le (SI.c (Int.ofNat 1)) (SI.len (SL.v 0)), SB.le (SI.len (SL.v 0)) (SI.c (Int.ofNat 64)),
          SB.eq (SI.len (SL.v 1)) (SI.c (Int.ofNat 17)), SB.c true, SB.app 140 (SA.l (SL.v 0) SA.nil)],
      eqs :=
        [Eqn.T
            (SB.eq (SI.len (SL.app 144 (SA.l (SL.v 0) (SA.l (SL.v 1) (SA.i (SI.v 3) SA.nil))))) (SI.c (Int.ofNat 17))),
          Eqn.I (SI.len (SL.app 144 (SA.l (SL.v 0) (SA.l (SL.v 1) (SA.i (SI.v 3) SA.nil)))))
            (SI.len (SL.app 144 (SA.l (SL.v 0) (SA.l (SL.v 1) (SA.i (SI.add (SI.v 3) (SI.c (Int.ofNat 1))) SA.nil))))),
          Eqn.L (SL.app 144 (SA.l (SL.v 0) (SA.l (SL.v 1) (SA.i (SI.v 3) SA.nil))))
            (SL.app 144 (SA.l (SL.v 0) (SA.l (SL.v 1) (SA.i (SI.add (SI.v 3) (SI.c (Int.ofNat 1))) SA.nil))))] },
    {
      pc :=
        [SB.not (SB.lt (SI.v 3) (SI.len (SL.v 0))), SB.le (SI.c (Int.ofNat 0)) (SI.v 3),
          SB.le (SI.v 3) (SI.len (SL.v 0)), SB.le (SI.c (Int.ofNat 1)) (SI.len (SL.v 0)),
          SB.le (SI.len (SL.v 0)) (SI.c (Int.ofNat 64)), SB.eq (SI.len (SL.v 1)) (SI.c (Int.ofNat 17)), SB.c true,
          SB.app 140 (SA.l (SL.v 0) SA.nil)],
      eqs :=
        [Eqn.T
            (SB.eq (SI.len (SL.app 144 (SA.l (SL.v 0) (SA.l (SL.v 1) (SA.i (SI.v 3) SA.nil))))) (SI.c (Int.ofNat 17))),
          Eqn.I (SI.len (SL.app 144 (SA.l (SL.v 0) (SA.l (SL.v 1) (SA.i (SI.v 3) SA.nil))))) (SI.len (SL.v 1)),
          Eqn.L (SL.app 144 (SA.l (SL.v 0) (SA.l (SL.v 1) (SA.i (SI.v 3) SA.nil)))) (SL.v 1)] }] := by kernel_rfl
theorem rk9_ok : rk9.ok Φ Try.prog := by
  refine ⟨by kernel_rfl, loop_rule (fun ρ => s0_ok ρ) (loopAt_sub (by kernel_rfl)) rk9_obs ?_⟩
  simp only [and_imp, List.forall_mem_cons, List.not_mem_nil, false_implies, implies_true, and_true, Ob.ok, holds, Eqn.ok, evB_eq, evB_lt, evB_le, evB_not, evB_and, evB_or, evB_eqL, evB_app, evB_v, evB_c, ev_sel, ev_len, ev_v, ev_c, ev_add, ev_sub, ev_mul, ev_quo, ev_rem, ev_bits, ev_wrap, evL_v, evL_lit, evL_app, ev_app, evA_l, evA_i, evA_nil, std_min, std_max, std_cat, std_take, std_drop, std_row, std_set, std_rep, std_find, std_put, std_del, std_flag, std_unflag, std_clr, std_left, std_copy, ints_cons, ints_nil, ofNat_lit, negSucc_lit, decide_eq_true_eq, Bool.and_eq_true, Bool.or_eq_true, Bool.not_eq_true', Bool.and_eq_false_iff, Bool.or_eq_false_iff, decide_eq_false_iff_not, aI110, aI111, aI112, aI113, aI114, aL100, aL101, aL102, aL103, aL110, aL112, aL113, aL114, aL115, aL116, aB130, aB131, aB132, aB199, aI142, aL140, aL141, aL143, aL144, aB140, aB141, aI150, aL150, aB150]
  repeat' apply And.intro
  all_goals intro ρ hR
  all_goals intros
  all_goals first
    | (omega)
    | (have hT : ∀ r ∈ ρ.l 0, okRow K5 r := hR.row 1 rfl rfl
       have hG : okGB (ρ.l 0) = true := by with_reducible assumption
       have hm := getD_mem (A := ρ.l 0) (i := ρ.i 3) (by omega) (by omega)
       have h5 := hT _ hm
       have e := fold_at (G := ρ.l 0) (S := ρ.l 1) (f := stepB) (i := ρ.i 3) (by omega) (by omega)
       have hS : bits (ρ.l 1) := hR.row 2 rfl rfl
       rw [stepB_dead (by omega)] at e
       rw [e]
       exact ⟨by assumption, rfl, rfl⟩)
    | (have hT : ∀ r ∈ ρ.l 0, okRow K5 r := hR.row 1 rfl rfl
       have hG : okGB (ρ.l 0) = true := by with_reducible assumption
       have hm := getD_mem (A := ρ.l 0) (i := ρ.i 3) (by omega) (by omega)
       have h5 := hT _ hm
       have e := fold_at (G := ρ.l 0) (S := ρ.l 1) (f := stepB) (i := ρ.i 3) (by omega) (by omega)
       have hS : bits (ρ.l 1) := hR.row 2 rfl rfl
       rw [stepB_no (by assumption) (by assumption)] at e
       rw [e]
       exact ⟨by assumption, rfl, rfl⟩)
    | (have hT : ∀ r ∈ ρ.l 0, okRow K5 r := hR.row 1 rfl rfl
       have hG : okGB (ρ.l 0) = true := by with_reducible assumption
       have hm := getD_mem (A := ρ.l 0) (i := ρ.i 3) (by omega) (by omega)
       have h5 := hT _ hm
       have hg := okGB_at hG hm h5 (by unfold allZ; omega)
       have e := fold_at (G := ρ.l 0) (S := ρ.l 1) (f := stepB) (i := ρ.i 3) (by omega) (by omega)
       have hS : bits (ρ.l 1) := hR.row 2 rfl rfl
       rw [stepB_yes (by omega) (.inl (seen_1 (by with_reducible assumption) hS (by omega) (by omega) (by assumption)))] at e
       rw [e]
       exact ⟨by assumption, rfl, rfl⟩)
    | (have hT : ∀ r ∈ ρ.l 0, okRow K5 r := hR.row 1 rfl rfl
       have hG : okGB (ρ.l 0) = true := by with_reducible assumption
       have hm := getD_mem (A := ρ.l 0) (i := ρ.i 3) (by omega) (by omega)
       have h5 := hT _ hm
       have hg := okGB_at hG hm h5 (by unfold allZ; omega)
       have e := fold_at (G := ρ.l 0) (S := ρ.l 1) (f := stepB) (i := ρ.i 3) (by omega) (by omega)
       have hS : bits (ρ.l 1) := hR.row 2 rfl rfl
       rw [stepB_yes (by omega) (.inr (seen_1 (by with_reducible assumption) hS (by omega) (by omega) (by assumption)))] at e
       rw [e]
       exact ⟨by assumption, rfl, rfl⟩)
    | (have hT : ∀ r ∈ ρ.l 0, okRow K5 r := hR.row 1 rfl rfl
       have hG : okGB (ρ.l 0) = true := by with_reducible assumption
       have hm := getD_mem (A := ρ.l 0) (i := ρ.i 3) (by omega) (by omega)
       have h5 := hT _ hm
       have hg := okGB_at hG hm h5 (by unfold allZ; omega)
       exfalso
       omega)
    | (have e := fold_end (G := ρ.l 0) (S := ρ.l 1) (f := stepB) (i := ρ.i 3) (by omega)
       rw [e]
       exact ⟨by assumption, rfl, rfl⟩)
theorem s2_ok (ρ : Env) : TblOK Φ ρ Try.prog s2 := addLp_ok (s0_ok ρ) rk9_ok
set_option maxRecDepth 100000 in
theorem rk6_obs : loopObs Φ Try.prog s2 1000 rk6.f (loopAt Try.prog rk6.f rk6.id) rk6.n rk6.T k7 rk6.outs = some
  [{
      pc :=
        [SB.eq (SI.len (SL.app 144 (SA.l (SL.v 0) (SA.l (SL.v 1) (SA.i (SI.c (Int.ofNat 0)) SA.nil)))))
            (SI.c (Int.ofNat 17)),
          SB.lt (SI.v 2) (SI.c (Int.ofNat 16)), SB.le (SI.c (Int.ofNat 0)) (SI.v 2),
          SB.le (SI.v 2) (SI.c (Int.ofNat 16)), SB.le (SI.c (Int.ofNat 1)) (SI.len (SL.v 0)),
          SB.le (SI.len (SL.v 0)) (SI.c (Int.ofNat 64)), SB.eq (SI.len (SL.v 1)) (SI.c (Int.ofNat 17)), SB.c true,
          SB.app 140 (SA.l (SL.v 0) SA.nil)],
      eqs :=
        [Eqn.T
            (SB.lt (SI.sub (SI.c (Int.ofNat 16)) (SI.add (SI.v 2) (SI.c (Int.ofNat 1))))
              (SI.sub (SI.c (Int.ofNat 16)) (SI.v 2)))] },
    {
      pc :=
        [SB.eq
            (SI.len
              (SL.app 143
                (SA.l (SL.v 0)
                  (SA.l (SL.app 144 (SA.l (SL.v 0) (SA.l (SL.v 1) (SA.i (SI.c (Int.ofNat 0)) SA.nil))))
                    (SA.i (SI.sub (SI.c (Int.ofNat 16)) (SI.add (SI.v 2) (SI.c (Int.ofNat 1)))) SA.nil)))))
            (SI.c (Int.ofNat 17)),
          SB.eq (SI.len (SL.app 144 (SA.l (SL.v 0) (SA.l (SL.v 1) (SA.i (SI.c (Int.ofNat 0)) SA.nil)))))
            (SI.c (Int.ofNat 17)),
          SB.lt (SI.v 2) (SI.c (Int.ofNat 16)), SB.le (SI.c (Int.ofNat 0)) (SI.v 2),
          SB.le (SI.v 2) (SI.c (Int.ofNat 16)), SB.le (SI.c (Int.ofNat 1)) (SI.len (SL.v 0)),
          SB.le (SI.len (SL.v 0)) (SI.c (Int.ofNat 64)), SB.eq (SI.len (SL.v 1)) (SI.c (Int.ofNat 17)), SB.c true,
          SB.app 140 (SA.l (SL.v 0) SA.nil)],
      eqs :=
        [Eqn.T
            (SB.eq
              (SI.len
                (SL.app 143 (SA.l (SL.v 0) (SA.l (SL.v 1) (SA.i (SI.sub (SI.c (Int.ofNat 16)) (SI.v 2)) SA.nil)))))
              (SI.c (Int.ofNat 17))),
          Eqn.I
            (SI.len (SL.app 143 (SA.l (SL.v 0) (SA.l (SL.v 1) (SA.i (SI.sub (SI.c (Int.ofNat 16)) (SI.v 2)) SA.nil)))))
            (SI.len
              (SL.app 143
                (SA.l (SL.v 0)
                  (SA.l (SL.app 144 (SA.l (SL.v 0) (SA.l (SL.v 1) (SA.i (SI.c (Int.ofNat 0)) SA.nil))))
                    (SA.i (SI.sub (SI.c (Int.ofNat 16)) (SI.add (SI.v 2) (SI.c (Int.ofNat 1)))) SA.nil))))),
          Eqn.L (SL.app 143 (SA.l (SL.v 0) (SA.l (SL.v 1) (SA.i (SI.sub (SI.c (Int.ofNat 16)) (SI.v 2)) SA.nil))))
            (SL.app 143
              (SA.l (SL.v 0)
                (SA.l (SL.app 144 (SA.l (SL.v 0) (SA.l (SL.v 1) (SA.i (SI.c (Int.ofNat 0)) SA.nil))))
                  (SA.i (SI.sub (SI.c (Int.ofNat 16)) (SI.add (SI.v 2) (SI.c (Int.ofNat 1)))) SA.nil))))] },
    {
      pc :=
        [SB.not (SB.lt (SI.v 2) (SI.c (Int.ofNat 16))), SB.le (SI.c (Int.ofNat 0)) (SI.v 2),
          SB.le (SI.v 2) (SI.c (Int.ofNat 16)), SB.le (SI.c (Int.ofNat 1)) (SI.len (SL.v 0)),
          SB.le (SI.len (SL.v 0)) (SI.c (Int.ofNat 64)), SB.eq (SI.len (SL.v 1)) (SI.c (Int.ofNat 17)), SB.c true,
          SB.app 140 (SA.l (SL.v 0) SA.nil)],
      eqs :=
        [Eqn.T
            (SB.eq
              (SI.len
                (SL.app 143 (SA.l (SL.v 0) (SA.l (SL.v 1) (SA.i (SI.sub (SI.c (Int.ofNat 16)) (SI.v 2)) SA.nil)))))
              (SI.c (Int.ofNat 17))),
          Eqn.I
            (SI.len (SL.app 143 (SA.l (SL.v 0) (SA.l (SL.v 1) (SA.i (SI.sub (SI.c (Int.ofNat 16)) (SI.v 2)) SA.nil)))))
            (SI.len (SL.v 1)),
          Eqn.L (SL.app 143 (SA.l (SL.v 0) (SA.l (SL.v 1) (SA.i (SI.sub (SI.c (Int.ofNat 16)) (SI.v 2)) SA.nil))))
            (SL.v 1)] }] := by kernel_rfl
theorem rk6_ok : rk6.ok Φ Try.prog := by
  refine ⟨by kernel_rfl, loop_rule (fun ρ => s2_ok ρ) (loopAt_sub (by kernel_rfl)) rk6_obs ?_⟩
  simp only [and_imp, List.forall_mem_cons, List.not_mem_nil, false_implies, implies_true, and_true, Ob.ok, holds, Eqn.ok, evB_eq, evB_lt, evB_le, evB_not, evB_and, evB_or, evB_eqL, evB_app, evB_v, evB_c, ev_sel, ev_len, ev_v, ev_c, ev_add, ev_sub, ev_mul, ev_quo, ev_rem, ev_bits, ev_wrap, evL_v, evL_lit, evL_app, ev_app, evA_l, evA_i, evA_nil, std_min, std_max, std_cat, std_take, std_drop, std_row, std_set, std_rep, std_find, std_put, std_del, std_flag, std_unflag, std_clr, std_left, std_copy, ints_cons, ints_nil, ofNat_lit, negSucc_lit, decide_eq_true_eq, Bool.and_eq_true, Bool.or_eq_true, Bool.not_eq_true', Bool.and_eq_false_iff, Bool.or_eq_false_iff, decide_eq_false_iff_not, aI110, aI111, aI112, aI113, aI114, aL100, aL101, aL102, aL103, aL110, aL112, aL113, aL114, aL115, aL116, aB130, aB131, aB132, aB199, aI142, aL140, aL141, aL143, aL144, aB140, aB141, aI150, aL150, aB150]
  repeat' apply And.intro
  all_goals intro ρ hR
  all_goals intros
  all_goals first
    | (omega)
    | (try simp only [show ∀ T : Tab, List.drop (Int.toNat 0) T = T from fun _ => rfl] at *
       have e := rounds_next (G := ρ.l 0) (S := ρ.l 1) (k := ρ.i 2) (by omega) (by omega)
       rw [e]
       exact ⟨by assumption, rfl, rfl⟩)
    | (have e := rounds_end (G := ρ.l 0) (S := ρ.l 1) (k := ρ.i 2) (by omega) (by omega)
       rw [e]
       exact ⟨by assumption, rfl, rfl⟩)
theorem s3_ok (ρ : Env) : TblOK Φ ρ Try.prog s3 := addLp_ok (s0_ok ρ) rk6_ok
set_option maxRecDepth 100000 in
theorem cRDrop_obs : callObs Φ Try.prog s4 1000 cRDrop.f cRDrop.vs cRDrop.o cRDrop.pc cRDrop.outs = some
  [{
      pc :=
        [SB.le (SI.len (SL.app 102 (SA.l (SL.v 0) (SA.i (SI.c (Int.ofNat 0)) (SA.i (SI.v 5) SA.nil)))))
            (SI.len (SL.v 0)),
          SB.eq (SI.len (SL.app 150 (SA.l (SL.v 0) (SA.i (SI.v 5) (SA.i (SI.c (Int.ofNat 0)) SA.nil)))))
            (SI.len (SL.v 0)),
          SB.le (SI.c (Int.ofNat 1)) (SI.len (SL.v 0)), SB.le (SI.len (SL.v 0)) (SI.c (Int.ofNat 64)), SB.c true,
          SB.app 140 (SA.l (SL.v 0) SA.nil)],
      eqs :=
        [Eqn.T (SB.eq (SI.len (SL.app 116 (SA.l (SL.v 0) (SA.i (SI.v 5) SA.nil)))) (SI.len (SL.v 0))),
          Eqn.I (SI.len (SL.app 116 (SA.l (SL.v 0) (SA.i (SI.v 5) SA.nil))))
            (SI.len (SL.app 150 (SA.l (SL.v 0) (SA.i (SI.v 5) (SA.i (SI.c (Int.ofNat 0)) SA.nil))))),
          Eqn.L (SL.app 116 (SA.l (SL.v 0) (SA.i (SI.v 5) SA.nil)))
            (SL.app 150 (SA.l (SL.v 0) (SA.i (SI.v 5) (SA.i (SI.c (Int.ofNat 0)) SA.nil))))] }] := by kernel_rfl
theorem cRDrop_ok : cRDrop.ok Φ Try.prog := by
  refine call_rule (fun ρ => s4_ok ρ) cRDrop_obs ?_
  simp only [and_imp, List.forall_mem_cons, List.not_mem_nil, false_implies, implies_true, and_true, Ob.ok, holds, Eqn.ok, evB_eq, evB_lt, evB_le, evB_not, evB_and, evB_or, evB_eqL, evB_app, evB_v, evB_c, ev_sel, ev_len, ev_v, ev_c, ev_add, ev_sub, ev_mul, ev_quo, ev_rem, ev_bits, ev_wrap, evL_v, evL_lit, evL_app, ev_app, evA_l, evA_i, evA_nil, std_min, std_max, std_cat, std_take, std_drop, std_row, std_set, std_rep, std_find, std_put, std_del, std_flag, std_unflag, std_clr, std_left, std_copy, ints_cons, ints_nil, ofNat_lit, negSucc_lit, decide_eq_true_eq, Bool.and_eq_true, Bool.or_eq_true, Bool.not_eq_true', Bool.and_eq_false_iff, Bool.or_eq_false_iff, decide_eq_false_iff_not, aI110, aI111, aI112, aI113, aI114, aL100, aL101, aL102, aL103, aL110, aL112, aL113, aL114, aL115, aL116, aB130, aB131, aB132, aB199, aI142, aL140, aL141, aL143, aL144, aB140, aB141, aI150, aL150, aB150]
  repeat' apply And.intro
  all_goals intro ρ hR
  all_goals intros
  all_goals first
    | (have h := clrG_len (ρ.i 5) (ρ.l 0)
       exact ⟨by omega, rfl, rfl⟩)
set_option maxRecDepth 100000 in
theorem cRLen_obs : callObs Φ Try.prog s4 1000 cRLen.f cRLen.vs cRLen.o cRLen.pc cRLen.outs = some
  [] := by kernel_rfl
theorem cRLen_ok : cRLen.ok Φ Try.prog := by
  refine call_rule (fun ρ => s4_ok ρ) cRLen_obs ?_
  intro ob h; cases h
set_option maxRecDepth 100000 in
theorem cRLinked_obs : callObs Φ Try.prog s3 1000 cRLinked.f cRLinked.vs cRLinked.o cRLinked.pc cRLinked.outs = some
  [{
      pc :=
        [SB.eq
            (SI.len
              (SL.app 143
                (SA.l (SL.v 0)
                  (SA.l
                    (SL.app 4
                      (SA.l
                        (SL.lit
                          [[Int.ofNat 0], [Int.ofNat 0], [Int.ofNat 0], [Int.ofNat 0], [Int.ofNat 0], [Int.ofNat 0],
                            [Int.ofNat 0], [Int.ofNat 0], [Int.ofNat 0], [Int.ofNat 0], [Int.ofNat 0], [Int.ofNat 0],
                            [Int.ofNat 0], [Int.ofNat 0], [Int.ofNat 0], [Int.ofNat 0], [Int.ofNat 0]])
                        (SA.i (SI.v 0) (SA.i (SI.c (Int.ofNat 0)) (SA.i (SI.c (Int.ofNat 1)) SA.nil)))))
                    (SA.i (SI.c (Int.ofNat 16)) SA.nil)))))
            (SI.c (Int.ofNat 17)),
          SB.le (SI.v 1) (SI.c (Int.ofNat 16)), SB.le (SI.c (Int.ofNat 1)) (SI.v 1),
          SB.le (SI.v 0) (SI.c (Int.ofNat 16)), SB.le (SI.c (Int.ofNat 1)) (SI.v 0),
          SB.le (SI.c (Int.ofNat 1)) (SI.len (SL.v 0)), SB.le (SI.len (SL.v 0)) (SI.c (Int.ofNat 64)), SB.c true,
          SB.app 140 (SA.l (SL.v 0) SA.nil)],
      eqs :=
        [Eqn.B (SB.app 141 (SA.l (SL.v 0) (SA.i (SI.v 0) (SA.i (SI.v 1) SA.nil))))
            (SB.not
              (SB.eq
                (SI.sel
                  (SL.app 143
                    (SA.l (SL.v 0)
                      (SA.l
                        (SL.app 4
                          (SA.l
                            (SL.lit
                              [[Int.ofNat 0], [Int.ofNat 0], [Int.ofNat 0], [Int.ofNat 0], [Int.ofNat 0], [Int.ofNat 0],
                                [Int.ofNat 0], [Int.ofNat 0], [Int.ofNat 0], [Int.ofNat 0], [Int.ofNat 0],
                                [Int.ofNat 0], [Int.ofNat 0], [Int.ofNat 0], [Int.ofNat 0], [Int.ofNat 0],
                                [Int.ofNat 0]])
                            (SA.i (SI.v 0) (SA.i (SI.c (Int.ofNat 0)) (SA.i (SI.c (Int.ofNat 1)) SA.nil)))))
                        (SA.i (SI.c (Int.ofNat 16)) SA.nil))))
                  (SI.v 1) 0)
                (SI.c (Int.ofNat 0))))] },
    {
      pc :=
        [SB.not (SB.le (SI.v 1) (SI.c (Int.ofNat 16))), SB.le (SI.c (Int.ofNat 1)) (SI.v 1),
          SB.le (SI.v 0) (SI.c (Int.ofNat 16)), SB.le (SI.c (Int.ofNat 1)) (SI.v 0),
          SB.le (SI.c (Int.ofNat 1)) (SI.len (SL.v 0)), SB.le (SI.len (SL.v 0)) (SI.c (Int.ofNat 64)), SB.c true,
          SB.app 140 (SA.l (SL.v 0) SA.nil)],
      eqs := [Eqn.B (SB.app 141 (SA.l (SL.v 0) (SA.i (SI.v 0) (SA.i (SI.v 1) SA.nil)))) (SB.c false)] },
    {
      pc :=
        [SB.not (SB.le (SI.c (Int.ofNat 1)) (SI.v 1)), SB.le (SI.v 0) (SI.c (Int.ofNat 16)),
          SB.le (SI.c (Int.ofNat 1)) (SI.v 0), SB.le (SI.c (Int.ofNat 1)) (SI.len (SL.v 0)),
          SB.le (SI.len (SL.v 0)) (SI.c (Int.ofNat 64)), SB.c true, SB.app 140 (SA.l (SL.v 0) SA.nil)],
      eqs := [Eqn.B (SB.app 141 (SA.l (SL.v 0) (SA.i (SI.v 0) (SA.i (SI.v 1) SA.nil)))) (SB.c false)] },
    {
      pc :=
        [SB.not (SB.le (SI.v 0) (SI.c (Int.ofNat 16))), SB.le (SI.c (Int.ofNat 1)) (SI.v 0),
          SB.le (SI.c (Int.ofNat 1)) (SI.len (SL.v 0)), SB.le (SI.len (SL.v 0)) (SI.c (Int.ofNat 64)), SB.c true,
          SB.app 140 (SA.l (SL.v 0) SA.nil)],
      eqs := [Eqn.B (SB.app 141 (SA.l (SL.v 0) (SA.i (SI.v 0) (SA.i (SI.v 1) SA.nil)))) (SB.c false)] },
    {
      pc :=
        [SB.not (SB.le (SI.c (Int.ofNat 1)) (SI.v 0)), SB.le (SI.c (Int.ofNat 1)) (SI.len (SL.v 0)),
          SB.le (SI.len (SL.v 0)) (SI.c (Int.ofNat 64)), SB.c true, SB.app 140 (SA.l (SL.v 0) SA.nil)],
      eqs := [Eqn.B (SB.app 141 (SA.l (SL.v 0) (SA.i (SI.v 0) (SA.i (SI.v 1) SA.nil)))) (SB.c false)] }] := by kernel_rfl
theorem cRLinked_ok : cRLinked.ok Φ Try.prog := by
  refine call_rule (fun ρ => s3_ok ρ) cRLinked_obs ?_
  simp only [and_imp, List.forall_mem_cons, List.not_mem_nil, false_implies, implies_true, and_true, Ob.ok, holds, Eqn.ok, evB_eq, evB_lt, evB_le, evB_not, evB_and, evB_or, evB_eqL, evB_app, evB_v, evB_c, ev_sel, ev_len, ev_v, ev_c, ev_add, ev_sub, ev_mul, ev_quo, ev_rem, ev_bits, ev_wrap, evL_v, evL_lit, evL_app, ev_app, evA_l, evA_i, evA_nil, std_min, std_max, std_cat, std_take, std_drop, std_row, std_set, std_rep, std_find, std_put, std_del, std_flag, std_unflag, std_clr, std_left, std_copy, ints_cons, ints_nil, ofNat_lit, negSucc_lit, decide_eq_true_eq, Bool.and_eq_true, Bool.or_eq_true, Bool.not_eq_true', Bool.and_eq_false_iff, Bool.or_eq_false_iff, decide_eq_false_iff_not, aI110, aI111, aI112, aI113, aI114, aL100, aL101, aL102, aL103, aL110, aL112, aL113, aL114, aL115, aL116, aB130, aB131, aB132, aB199, aI142, aL140, aL141, aL143, aL144, aB140, aB141, aI150, aL150, aB150]
  repeat' apply And.intro
  all_goals intro ρ hR
  all_goals intros
  all_goals first
    | (exact link_l (by omega))
    | (exact link_r (by omega))
    | (exact link_rounds (by with_reducible assumption) (by omega) (by omega) (by assumption))
theorem s5_ok (ρ : Env) : TblOK Φ ρ Try.prog s5 := addFn_ok (addFn_ok (addFn_ok (addFn_ok (addFn_ok (addFn_ok (addFn_ok (addFn_ok (addFn_ok (r0_ok ρ) cRNew_ok) cROf_ok) cROffer_ok) cRTake_ok) cRBack_ok) cRRevoke_ok) cRDrop_ok) cRLen_ok) cRLinked_ok
set_option maxRecDepth 100000 in
theorem gp29_obs : loopObs Φ Try.prog s5 1000 gp29.f (loopAt Try.prog gp29.f gp29.id) gp29.n gp29.T k8 gp29.outs = some
  [{
      pc :=
        [SB.app 130 (SA.l (SL.v 0) (SA.i (SI.v 1) SA.nil)), SB.le (SI.v 1) (SI.v 2),
          SB.le (SI.c (Int.ofNat 1)) (SI.len (SL.v 0)), SB.le (SI.len (SL.v 0)) (SI.c (Int.ofNat 64)),
          SB.eq (SI.len (SL.v 0)) (SI.v 2), SB.le (SI.c (Int.negSucc 0)) (SI.v 1), SB.le (SI.v 1) (SI.c (Int.ofNat 70)),
          SB.c true, SB.app 140 (SA.l (SL.v 0) SA.nil)],
      eqs :=
        [Eqn.T
            (SB.lt (SI.sub (SI.c (Int.ofNat 70)) (SI.add (SI.v 1) (SI.c (Int.ofNat 1))))
              (SI.sub (SI.c (Int.ofNat 70)) (SI.v 1)))] },
    {
      pc :=
        [SB.lt (SI.v 1) (SI.len (SL.v 0)), SB.le (SI.c (Int.ofNat 0)) (SI.v 1),
          SB.not (SB.app 130 (SA.l (SL.v 0) (SA.i (SI.v 1) SA.nil))), SB.le (SI.v 1) (SI.v 2),
          SB.le (SI.c (Int.ofNat 1)) (SI.len (SL.v 0)), SB.le (SI.len (SL.v 0)) (SI.c (Int.ofNat 64)),
          SB.eq (SI.len (SL.v 0)) (SI.v 2), SB.le (SI.c (Int.negSucc 0)) (SI.v 1), SB.le (SI.v 1) (SI.c (Int.ofNat 70)),
          SB.c true, SB.app 140 (SA.l (SL.v 0) SA.nil)],
      eqs :=
        [Eqn.T
            (SB.lt (SI.sub (SI.c (Int.ofNat 70)) (SI.add (SI.v 1) (SI.c (Int.ofNat 1))))
              (SI.sub (SI.c (Int.ofNat 70)) (SI.v 1)))] }] := by kernel_rfl
theorem gp29_ok : gp29.ok Φ Try.prog := by
  refine ⟨by kernel_rfl, loop_rule (fun ρ => s5_ok ρ) (loopAt_sub (by kernel_rfl)) gp29_obs ?_⟩
  simp only [and_imp, List.forall_mem_cons, List.not_mem_nil, false_implies, implies_true, and_true, Ob.ok, holds, Eqn.ok, evB_eq, evB_lt, evB_le, evB_not, evB_and, evB_or, evB_eqL, evB_app, evB_v, evB_c, ev_sel, ev_len, ev_v, ev_c, ev_add, ev_sub, ev_mul, ev_quo, ev_rem, ev_bits, ev_wrap, evL_v, evL_lit, evL_app, ev_app, evA_l, evA_i, evA_nil, std_min, std_max, std_cat, std_take, std_drop, std_row, std_set, std_rep, std_find, std_put, std_del, std_flag, std_unflag, std_clr, std_left, std_copy, ints_cons, ints_nil, ofNat_lit, negSucc_lit, decide_eq_true_eq, Bool.and_eq_true, Bool.or_eq_true, Bool.not_eq_true', Bool.and_eq_false_iff, Bool.or_eq_false_iff, decide_eq_false_iff_not, aI110, aI111, aI112, aI113, aI114, aL100, aL101, aL102, aL103, aL110, aL112, aL113, aL114, aL115, aL116, aB130, aB131, aB132, aB199, aI142, aL140, aL141, aL143, aL144, aB140, aB141, aI150, aL150, aB150]
  repeat' apply And.intro
  all_goals intro ρ hR
  all_goals intros
  all_goals first
    | (omega)
theorem s6_ok (ρ : Env) : TblOK Φ ρ Try.prog s6 := addLp_ok (s5_ok ρ) gp29_ok
set_option maxRecDepth 100000 in
theorem gp6_obs : loopObs Φ Try.prog s6 1000 gp6.f (loopAt Try.prog gp6.f gp6.id) gp6.n gp6.T k2 gp6.outs = some
  [{
      pc :=
        [SB.le
            (SI.len
              (SL.app 101
                (SA.l
                  (SL.app 110
                    (SA.l (SL.v 0)
                      (SA.i (SI.sel (SL.v 9) (SI.v 0) 1)
                        (SA.i (SI.sel (SL.v 9) (SI.v 0) 3)
                          (SA.i (SI.sel (SL.v 9) (SI.v 0) 2) (SA.i (SI.c (Int.ofNat 1)) SA.nil))))))
                  (SA.i (SI.c (Int.ofNat 0)) SA.nil))))
            (SI.len
              (SL.app 110
                (SA.l (SL.v 0)
                  (SA.i (SI.sel (SL.v 9) (SI.v 0) 1)
                    (SA.i (SI.sel (SL.v 9) (SI.v 0) 3)
                      (SA.i (SI.sel (SL.v 9) (SI.v 0) 2) (SA.i (SI.c (Int.ofNat 1)) SA.nil))))))),
          SB.app 140
            (SA.l
              (SL.app 110
                (SA.l (SL.v 0)
                  (SA.i (SI.sel (SL.v 9) (SI.v 0) 1)
                    (SA.i (SI.sel (SL.v 9) (SI.v 0) 3)
                      (SA.i (SI.sel (SL.v 9) (SI.v 0) 2) (SA.i (SI.c (Int.ofNat 1)) SA.nil))))))
              SA.nil),
          SB.eq
            (SI.len
              (SL.app 110
                (SA.l (SL.v 0)
                  (SA.i (SI.sel (SL.v 9) (SI.v 0) 1)
                    (SA.i (SI.sel (SL.v 9) (SI.v 0) 3)
                      (SA.i (SI.sel (SL.v 9) (SI.v 0) 2) (SA.i (SI.c (Int.ofNat 1)) SA.nil)))))))
            (SI.len (SL.v 0)),
          SB.not (SB.eq (SI.sel (SL.v 9) (SI.v 0) 5) (SI.c (Int.ofNat 0))),
          SB.or (SB.not (SB.eq (SI.sel (SL.v 9) (SI.v 0) 5) (SI.c (Int.ofNat 0))))
            (SB.eq (SI.sel (SL.v 9) (SI.v 0) 5) (SI.c (Int.ofNat 0))),
          SB.eq (SI.sel (SL.v 9) (SI.v 0) 0) (SI.c (Int.ofNat 0)), SB.lt (SI.v 0) (SI.c (Int.ofNat 100)),
          SB.lt (SI.v 0) (SI.len (SL.v 9)), SB.le (SI.c (Int.ofNat 1)) (SI.len (SL.v 0)),
          SB.le (SI.len (SL.v 0)) (SI.c (Int.ofNat 64)), SB.le (SI.c (Int.ofNat 0)) (SI.v 0),
          SB.le (SI.v 0) (SI.c (Int.ofNat 100)), SB.eq (SI.len (SL.v 0)) (SI.v 2), SB.c true,
          SB.app 140 (SA.l (SL.v 0) SA.nil), SB.app 131 (SA.l (SL.v 0) SA.nil)],
      eqs :=
        [Eqn.T
            (SB.lt (SI.sub (SI.c (Int.ofNat 100)) (SI.add (SI.v 0) (SI.c (Int.ofNat 1))))
              (SI.sub (SI.c (Int.ofNat 100)) (SI.v 0))),
          Eqn.T
            (SB.app 131
              (SA.l
                (SL.app 110
                  (SA.l (SL.v 0)
                    (SA.i (SI.sel (SL.v 9) (SI.v 0) 1)
                      (SA.i (SI.sel (SL.v 9) (SI.v 0) 3)
                        (SA.i (SI.sel (SL.v 9) (SI.v 0) 2) (SA.i (SI.c (Int.ofNat 1)) SA.nil))))))
                SA.nil))] },
    {
      pc :=
        [SB.not
            (SB.app 140
              (SA.l
                (SL.app 110
                  (SA.l (SL.v 0)
                    (SA.i (SI.sel (SL.v 9) (SI.v 0) 1)
                      (SA.i (SI.sel (SL.v 9) (SI.v 0) 3)
                        (SA.i (SI.sel (SL.v 9) (SI.v 0) 2) (SA.i (SI.c (Int.ofNat 1)) SA.nil))))))
                SA.nil)),
          SB.eq
            (SI.len
              (SL.app 110
                (SA.l (SL.v 0)
                  (SA.i (SI.sel (SL.v 9) (SI.v 0) 1)
                    (SA.i (SI.sel (SL.v 9) (SI.v 0) 3)
                      (SA.i (SI.sel (SL.v 9) (SI.v 0) 2) (SA.i (SI.c (Int.ofNat 1)) SA.nil)))))))
            (SI.len (SL.v 0)),
          SB.not (SB.eq (SI.sel (SL.v 9) (SI.v 0) 5) (SI.c (Int.ofNat 0))),
          SB.or (SB.not (SB.eq (SI.sel (SL.v 9) (SI.v 0) 5) (SI.c (Int.ofNat 0))))
            (SB.eq (SI.sel (SL.v 9) (SI.v 0) 5) (SI.c (Int.ofNat 0))),
          SB.eq (SI.sel (SL.v 9) (SI.v 0) 0) (SI.c (Int.ofNat 0)), SB.lt (SI.v 0) (SI.c (Int.ofNat 100)),
          SB.lt (SI.v 0) (SI.len (SL.v 9)), SB.le (SI.c (Int.ofNat 1)) (SI.len (SL.v 0)),
          SB.le (SI.len (SL.v 0)) (SI.c (Int.ofNat 64)), SB.le (SI.c (Int.ofNat 0)) (SI.v 0),
          SB.le (SI.v 0) (SI.c (Int.ofNat 100)), SB.eq (SI.len (SL.v 0)) (SI.v 2), SB.c true,
          SB.app 140 (SA.l (SL.v 0) SA.nil), SB.app 131 (SA.l (SL.v 0) SA.nil)],
      eqs := [Eqn.T (SB.c false)] },
    {
      pc :=
        [SB.le
            (SI.len
              (SL.app 101
                (SA.l
                  (SL.app 110
                    (SA.l (SL.v 0)
                      (SA.i (SI.sel (SL.v 9) (SI.v 0) 1)
                        (SA.i (SI.sel (SL.v 9) (SI.v 0) 3)
                          (SA.i (SI.sel (SL.v 9) (SI.v 0) 2) (SA.i (SI.c (Int.ofNat 0)) SA.nil))))))
                  (SA.i (SI.c (Int.ofNat 0)) SA.nil))))
            (SI.len
              (SL.app 110
                (SA.l (SL.v 0)
                  (SA.i (SI.sel (SL.v 9) (SI.v 0) 1)
                    (SA.i (SI.sel (SL.v 9) (SI.v 0) 3)
                      (SA.i (SI.sel (SL.v 9) (SI.v 0) 2) (SA.i (SI.c (Int.ofNat 0)) SA.nil))))))),
          SB.app 140
            (SA.l
              (SL.app 110
                (SA.l (SL.v 0)
                  (SA.i (SI.sel (SL.v 9) (SI.v 0) 1)
                    (SA.i (SI.sel (SL.v 9) (SI.v 0) 3)
                      (SA.i (SI.sel (SL.v 9) (SI.v 0) 2) (SA.i (SI.c (Int.ofNat 0)) SA.nil))))))
              SA.nil),
          SB.eq
            (SI.len
              (SL.app 110
                (SA.l (SL.v 0)
                  (SA.i (SI.sel (SL.v 9) (SI.v 0) 1)
                    (SA.i (SI.sel (SL.v 9) (SI.v 0) 3)
                      (SA.i (SI.sel (SL.v 9) (SI.v 0) 2) (SA.i (SI.c (Int.ofNat 0)) SA.nil)))))))
            (SI.len (SL.v 0)),
          SB.eq (SI.sel (SL.v 9) (SI.v 0) 5) (SI.c (Int.ofNat 0)),
          SB.or (SB.not (SB.eq (SI.sel (SL.v 9) (SI.v 0) 5) (SI.c (Int.ofNat 0))))
            (SB.eq (SI.sel (SL.v 9) (SI.v 0) 5) (SI.c (Int.ofNat 0))),
          SB.eq (SI.sel (SL.v 9) (SI.v 0) 0) (SI.c (Int.ofNat 0)), SB.lt (SI.v 0) (SI.c (Int.ofNat 100)),
          SB.lt (SI.v 0) (SI.len (SL.v 9)), SB.le (SI.c (Int.ofNat 1)) (SI.len (SL.v 0)),
          SB.le (SI.len (SL.v 0)) (SI.c (Int.ofNat 64)), SB.le (SI.c (Int.ofNat 0)) (SI.v 0),
          SB.le (SI.v 0) (SI.c (Int.ofNat 100)), SB.eq (SI.len (SL.v 0)) (SI.v 2), SB.c true,
          SB.app 140 (SA.l (SL.v 0) SA.nil), SB.app 131 (SA.l (SL.v 0) SA.nil)],
      eqs :=
        [Eqn.T
            (SB.lt (SI.sub (SI.c (Int.ofNat 100)) (SI.add (SI.v 0) (SI.c (Int.ofNat 1))))
              (SI.sub (SI.c (Int.ofNat 100)) (SI.v 0))),
          Eqn.T
            (SB.app 131
              (SA.l
                (SL.app 110
                  (SA.l (SL.v 0)
                    (SA.i (SI.sel (SL.v 9) (SI.v 0) 1)
                      (SA.i (SI.sel (SL.v 9) (SI.v 0) 3)
                        (SA.i (SI.sel (SL.v 9) (SI.v 0) 2) (SA.i (SI.c (Int.ofNat 0)) SA.nil))))))
                SA.nil))] },
    {
      pc :=
        [SB.not
            (SB.app 140
              (SA.l
                (SL.app 110
                  (SA.l (SL.v 0)
                    (SA.i (SI.sel (SL.v 9) (SI.v 0) 1)
                      (SA.i (SI.sel (SL.v 9) (SI.v 0) 3)
                        (SA.i (SI.sel (SL.v 9) (SI.v 0) 2) (SA.i (SI.c (Int.ofNat 0)) SA.nil))))))
                SA.nil)),
          SB.eq
            (SI.len
              (SL.app 110
                (SA.l (SL.v 0)
                  (SA.i (SI.sel (SL.v 9) (SI.v 0) 1)
                    (SA.i (SI.sel (SL.v 9) (SI.v 0) 3)
                      (SA.i (SI.sel (SL.v 9) (SI.v 0) 2) (SA.i (SI.c (Int.ofNat 0)) SA.nil)))))))
            (SI.len (SL.v 0)),
          SB.eq (SI.sel (SL.v 9) (SI.v 0) 5) (SI.c (Int.ofNat 0)),
          SB.or (SB.not (SB.eq (SI.sel (SL.v 9) (SI.v 0) 5) (SI.c (Int.ofNat 0))))
            (SB.eq (SI.sel (SL.v 9) (SI.v 0) 5) (SI.c (Int.ofNat 0))),
          SB.eq (SI.sel (SL.v 9) (SI.v 0) 0) (SI.c (Int.ofNat 0)), SB.lt (SI.v 0) (SI.c (Int.ofNat 100)),
          SB.lt (SI.v 0) (SI.len (SL.v 9)), SB.le (SI.c (Int.ofNat 1)) (SI.len (SL.v 0)),
          SB.le (SI.len (SL.v 0)) (SI.c (Int.ofNat 64)), SB.le (SI.c (Int.ofNat 0)) (SI.v 0),
          SB.le (SI.v 0) (SI.c (Int.ofNat 100)), SB.eq (SI.len (SL.v 0)) (SI.v 2), SB.c true,
          SB.app 140 (SA.l (SL.v 0) SA.nil), SB.app 131 (SA.l (SL.v 0) SA.nil)],
      eqs := [Eqn.T (SB.c false)] },
    {
      pc :=
        [SB.not
            (SB.or (SB.not (SB.eq (SI.sel (SL.v 9) (SI.v 0) 5) (SI.c (Int.ofNat 0))))
              (SB.eq (SI.sel (SL.v 9) (SI.v 0) 5) (SI.c (Int.ofNat 0)))),
          SB.eq (SI.sel (SL.v 9) (SI.v 0) 0) (SI.c (Int.ofNat 0)), SB.lt (SI.v 0) (SI.c (Int.ofNat 100)),
          SB.lt (SI.v 0) (SI.len (SL.v 9)), SB.le (SI.c (Int.ofNat 1)) (SI.len (SL.v 0)),
          SB.le (SI.len (SL.v 0)) (SI.c (Int.ofNat 64)), SB.le (SI.c (Int.ofNat 0)) (SI.v 0),
          SB.le (SI.v 0) (SI.c (Int.ofNat 100)), SB.eq (SI.len (SL.v 0)) (SI.v 2), SB.c true,
          SB.app 140 (SA.l (SL.v 0) SA.nil), SB.app 131 (SA.l (SL.v 0) SA.nil)],
      eqs := [Eqn.T (SB.c false)] },
    {
      pc :=
        [SB.le
            (SI.len
              (SL.app 101
                (SA.l
                  (SL.app 112
                    (SA.l (SL.v 0)
                      (SA.i (SI.sel (SL.v 9) (SI.v 0) 4)
                        (SA.i (SI.sel (SL.v 9) (SI.v 0) 1) (SA.i (SI.c (Int.ofNat 1)) SA.nil)))))
                  (SA.i (SI.c (Int.ofNat 0)) SA.nil))))
            (SI.len
              (SL.app 112
                (SA.l (SL.v 0)
                  (SA.i (SI.sel (SL.v 9) (SI.v 0) 4)
                    (SA.i (SI.sel (SL.v 9) (SI.v 0) 1) (SA.i (SI.c (Int.ofNat 1)) SA.nil)))))),
          SB.app 140
            (SA.l
              (SL.app 112
                (SA.l (SL.v 0)
                  (SA.i (SI.sel (SL.v 9) (SI.v 0) 4)
                    (SA.i (SI.sel (SL.v 9) (SI.v 0) 1) (SA.i (SI.c (Int.ofNat 1)) SA.nil)))))
              SA.nil),
          SB.eq
            (SI.len
              (SL.app 112
                (SA.l (SL.v 0)
                  (SA.i (SI.sel (SL.v 9) (SI.v 0) 4)
                    (SA.i (SI.sel (SL.v 9) (SI.v 0) 1) (SA.i (SI.c (Int.ofNat 1)) SA.nil))))))
            (SI.len (SL.v 0)),
          SB.not (SB.eq (SI.sel (SL.v 9) (SI.v 0) 5) (SI.c (Int.ofNat 0))),
          SB.or (SB.not (SB.eq (SI.sel (SL.v 9) (SI.v 0) 5) (SI.c (Int.ofNat 0))))
            (SB.eq (SI.sel (SL.v 9) (SI.v 0) 5) (SI.c (Int.ofNat 0))),
          SB.eq (SI.sel (SL.v 9) (SI.v 0) 0) (SI.c (Int.ofNat 1)),
          SB.not (SB.eq (SI.sel (SL.v 9) (SI.v 0) 0) (SI.c (Int.ofNat 0))), SB.lt (SI.v 0) (SI.c (Int.ofNat 100)),
          SB.lt (SI.v 0) (SI.len (SL.v 9)), SB.le (SI.c (Int.ofNat 1)) (SI.len (SL.v 0)),
          SB.le (SI.len (SL.v 0)) (SI.c (Int.ofNat 64)), SB.le (SI.c (Int.ofNat 0)) (SI.v 0),
          SB.le (SI.v 0) (SI.c (Int.ofNat 100)), SB.eq (SI.len (SL.v 0)) (SI.v 2), SB.c true,
          SB.app 140 (SA.l (SL.v 0) SA.nil), SB.app 131 (SA.l (SL.v 0) SA.nil)],
      eqs :=
        [Eqn.T
            (SB.lt (SI.sub (SI.c (Int.ofNat 100)) (SI.add (SI.v 0) (SI.c (Int.ofNat 1))))
              (SI.sub (SI.c (Int.ofNat 100)) (SI.v 0))),
          Eqn.T
            (SB.app 131
              (SA.l
                (SL.app 112
                  (SA.l (SL.v 0)
                    (SA.i (SI.sel (SL.v 9) (SI.v 0) 4)
                      (SA.i (SI.sel (SL.v 9) (SI.v 0) 1) (SA.i (SI.c (Int.ofNat 1)) SA.nil)))))
                SA.nil))] },
    {
      pc :=
        [SB.not
            (SB.app 140
              (SA.l
                (SL.app 112
                  (SA.l (SL.v 0)
                    (SA.i (SI.sel (SL.v 9) (SI.v 0) 4)
                      (SA.i (SI.sel (SL.v 9) (SI.v 0) 1) (SA.i (SI.c (Int.ofNat 1)) SA.nil)))))
                SA.nil)),
          SB.eq
            (SI.len
              (SL.app 112
                (SA.l (SL.v 0)
                  (SA.i (SI.sel (SL.v 9) (SI.v 0) 4)
                    (SA.i (SI.sel (SL.v 9) (SI.v 0) 1) (SA.i (SI.c (Int.ofNat 1)) SA.nil))))))
            (SI.len (SL.v 0)),
          SB.not (SB.eq (SI.sel (SL.v 9) (SI.v 0) 5) (SI.c (Int.ofNat 0))),
          SB.or (SB.not (SB.eq (SI.sel (SL.v 9) (SI.v 0) 5) (SI.c (Int.ofNat 0))))
            (SB.eq (SI.sel (SL.v 9) (SI.v 0) 5) (SI.c (Int.ofNat 0))),
          SB.eq (SI.sel (SL.v 9) (SI.v 0) 0) (SI.c (Int.ofNat 1)),
          SB.not (SB.eq (SI.sel (SL.v 9) (SI.v 0) 0) (SI.c (Int.ofNat 0))), SB.lt (SI.v 0) (SI.c (Int.ofNat 100)),
          SB.lt (SI.v 0) (SI.len (SL.v 9)), SB.le (SI.c (Int.ofNat 1)) (SI.len (SL.v 0)),
          SB.le (SI.len (SL.v 0)) (SI.c (Int.ofNat 64)), SB.le (SI.c (Int.ofNat 0)) (SI.v 0),
          SB.le (SI.v 0) (SI.c (Int.ofNat 100)), SB.eq (SI.len (SL.v 0)) (SI.v 2), SB.c true,
          SB.app 140 (SA.l (SL.v 0) SA.nil), SB.app 131 (SA.l (SL.v 0) SA.nil)],
      eqs := [Eqn.T (SB.c false)] },
    {
      pc :=
        [SB.le
            (SI.len
              (SL.app 101
                (SA.l
                  (SL.app 112
                    (SA.l (SL.v 0)
                      (SA.i (SI.sel (SL.v 9) (SI.v 0) 4)
                        (SA.i (SI.sel (SL.v 9) (SI.v 0) 1) (SA.i (SI.c (Int.ofNat 0)) SA.nil)))))
                  (SA.i (SI.c (Int.ofNat 0)) SA.nil))))
            (SI.len
              (SL.app 112
                (SA.l (SL.v 0)
                  (SA.i (SI.sel (SL.v 9) (SI.v 0) 4)
                    (SA.i (SI.sel (SL.v 9) (SI.v 0) 1) (SA.i (SI.c (Int.ofNat 0)) SA.nil)))))),
          SB.app 140
            (SA.l
              (SL.app 112
                (SA.l (SL.v 0)
                  (SA.i (SI.sel (SL.v 9) (SI.v 0) 4)
                    (SA.i (SI.sel (SL.v 9) (SI.v 0) 1) (SA.i (SI.c (Int.ofNat 0)) SA.nil)))))
              SA.nil),
          SB.eq
            (SI.len
              (SL.app 112
                (SA.l (SL.v 0)
                  (SA.i (SI.sel (SL.v 9) (SI.v 0) 4)
                    (SA.i (SI.sel (SL.v 9) (SI.v 0) 1) (SA.i (SI.c (Int.ofNat 0)) SA.nil))))))
            (SI.len (SL.v 0)),
          SB.eq (SI.sel (SL.v 9) (SI.v 0) 5) (SI.c (Int.ofNat 0)),
          SB.or (SB.not (SB.eq (SI.sel (SL.v 9) (SI.v 0) 5) (SI.c (Int.ofNat 0))))
            (SB.eq (SI.sel (SL.v 9) (SI.v 0) 5) (SI.c (Int.ofNat 0))),
          SB.eq (SI.sel (SL.v 9) (SI.v 0) 0) (SI.c (Int.ofNat 1)),
          SB.not (SB.eq (SI.sel (SL.v 9) (SI.v 0) 0) (SI.c (Int.ofNat 0))), SB.lt (SI.v 0) (SI.c (Int.ofNat 100)),
          SB.lt (SI.v 0) (SI.len (SL.v 9)), SB.le (SI.c (Int.ofNat 1)) (SI.len (SL.v 0)),
          SB.le (SI.len (SL.v 0)) (SI.c (Int.ofNat 64)), SB.le (SI.c (Int.ofNat 0)) (SI.v 0),
          SB.le (SI.v 0) (SI.c (Int.ofNat 100)), SB.eq (SI.len (SL.v 0)) (SI.v 2), SB.c true,
          SB.app 140 (SA.l (SL.v 0) SA.nil), SB.app 131 (SA.l (SL.v 0) SA.nil)],
      eqs :=
        [Eqn.T
            (SB.lt (SI.sub (SI.c (Int.ofNat 100)) (SI.add (SI.v 0) (SI.c (Int.ofNat 1))))
              (SI.sub (SI.c (Int.ofNat 100)) (SI.v 0))),
          Eqn.T
            (SB.app 131
              (SA.l
                (SL.app 112
                  (SA.l (SL.v 0)
                    (SA.i (SI.sel (SL.v 9) (SI.v 0) 4)
                      (SA.i (SI.sel (SL.v 9) (SI.v 0) 1) (SA.i (SI.c (Int.ofNat 0)) SA.nil)))))
                SA.nil))] },
    {
      pc :=
        [SB.not
            (SB.app 140
              (SA.l
                (SL.app 112
                  (SA.l (SL.v 0)
                    (SA.i (SI.sel (SL.v 9) (SI.v 0) 4)
                      (SA.i (SI.sel (SL.v 9) (SI.v 0) 1) (SA.i (SI.c (Int.ofNat 0)) SA.nil)))))
                SA.nil)),
          SB.eq
            (SI.len
              (SL.app 112
                (SA.l (SL.v 0)
                  (SA.i (SI.sel (SL.v 9) (SI.v 0) 4)
                    (SA.i (SI.sel (SL.v 9) (SI.v 0) 1) (SA.i (SI.c (Int.ofNat 0)) SA.nil))))))
            (SI.len (SL.v 0)),
          SB.eq (SI.sel (SL.v 9) (SI.v 0) 5) (SI.c (Int.ofNat 0)),
          SB.or (SB.not (SB.eq (SI.sel (SL.v 9) (SI.v 0) 5) (SI.c (Int.ofNat 0))))
            (SB.eq (SI.sel (SL.v 9) (SI.v 0) 5) (SI.c (Int.ofNat 0))),
          SB.eq (SI.sel (SL.v 9) (SI.v 0) 0) (SI.c (Int.ofNat 1)),
          SB.not (SB.eq (SI.sel (SL.v 9) (SI.v 0) 0) (SI.c (Int.ofNat 0))), SB.lt (SI.v 0) (SI.c (Int.ofNat 100)),
          SB.lt (SI.v 0) (SI.len (SL.v 9)), SB.le (SI.c (Int.ofNat 1)) (SI.len (SL.v 0)),
          SB.le (SI.len (SL.v 0)) (SI.c (Int.ofNat 64)), SB.le (SI.c (Int.ofNat 0)) (SI.v 0),
          SB.le (SI.v 0) (SI.c (Int.ofNat 100)), SB.eq (SI.len (SL.v 0)) (SI.v 2), SB.c true,
          SB.app 140 (SA.l (SL.v 0) SA.nil), SB.app 131 (SA.l (SL.v 0) SA.nil)],
      eqs := [Eqn.T (SB.c false)] },
    {
      pc :=
        [SB.not
            (SB.or (SB.not (SB.eq (SI.sel (SL.v 9) (SI.v 0) 5) (SI.c (Int.ofNat 0))))
              (SB.eq (SI.sel (SL.v 9) (SI.v 0) 5) (SI.c (Int.ofNat 0)))),
          SB.eq (SI.sel (SL.v 9) (SI.v 0) 0) (SI.c (Int.ofNat 1)),
          SB.not (SB.eq (SI.sel (SL.v 9) (SI.v 0) 0) (SI.c (Int.ofNat 0))), SB.lt (SI.v 0) (SI.c (Int.ofNat 100)),
          SB.lt (SI.v 0) (SI.len (SL.v 9)), SB.le (SI.c (Int.ofNat 1)) (SI.len (SL.v 0)),
          SB.le (SI.len (SL.v 0)) (SI.c (Int.ofNat 64)), SB.le (SI.c (Int.ofNat 0)) (SI.v 0),
          SB.le (SI.v 0) (SI.c (Int.ofNat 100)), SB.eq (SI.len (SL.v 0)) (SI.v 2), SB.c true,
          SB.app 140 (SA.l (SL.v 0) SA.nil), SB.app 131 (SA.l (SL.v 0) SA.nil)],
      eqs := [Eqn.T (SB.c false)] },
    {
      pc :=
        [SB.le
            (SI.len
              (SL.app 101
                (SA.l
                  (SL.app 113
                    (SA.l (SL.v 0) (SA.i (SI.sel (SL.v 9) (SI.v 0) 4) (SA.i (SI.sel (SL.v 9) (SI.v 0) 1) SA.nil))))
                  (SA.i (SI.c (Int.ofNat 0)) SA.nil))))
            (SI.len
              (SL.app 113
                (SA.l (SL.v 0) (SA.i (SI.sel (SL.v 9) (SI.v 0) 4) (SA.i (SI.sel (SL.v 9) (SI.v 0) 1) SA.nil))))),
          SB.app 140
            (SA.l
              (SL.app 113
                (SA.l (SL.v 0) (SA.i (SI.sel (SL.v 9) (SI.v 0) 4) (SA.i (SI.sel (SL.v 9) (SI.v 0) 1) SA.nil))))
              SA.nil),
          SB.eq
            (SI.len
              (SL.app 113
                (SA.l (SL.v 0) (SA.i (SI.sel (SL.v 9) (SI.v 0) 4) (SA.i (SI.sel (SL.v 9) (SI.v 0) 1) SA.nil)))))
            (SI.len (SL.v 0)),
          SB.eq (SI.sel (SL.v 9) (SI.v 0) 0) (SI.c (Int.ofNat 2)),
          SB.not (SB.eq (SI.sel (SL.v 9) (SI.v 0) 0) (SI.c (Int.ofNat 1))),
          SB.not (SB.eq (SI.sel (SL.v 9) (SI.v 0) 0) (SI.c (Int.ofNat 0))), SB.lt (SI.v 0) (SI.c (Int.ofNat 100)),
          SB.lt (SI.v 0) (SI.len (SL.v 9)), SB.le (SI.c (Int.ofNat 1)) (SI.len (SL.v 0)),
          SB.le (SI.len (SL.v 0)) (SI.c (Int.ofNat 64)), SB.le (SI.c (Int.ofNat 0)) (SI.v 0),
          SB.le (SI.v 0) (SI.c (Int.ofNat 100)), SB.eq (SI.len (SL.v 0)) (SI.v 2), SB.c true,
          SB.app 140 (SA.l (SL.v 0) SA.nil), SB.app 131 (SA.l (SL.v 0) SA.nil)],
      eqs :=
        [Eqn.T
            (SB.lt (SI.sub (SI.c (Int.ofNat 100)) (SI.add (SI.v 0) (SI.c (Int.ofNat 1))))
              (SI.sub (SI.c (Int.ofNat 100)) (SI.v 0))),
          Eqn.T
            (SB.app 131
              (SA.l
                (SL.app 113
                  (SA.l (SL.v 0) (SA.i (SI.sel (SL.v 9) (SI.v 0) 4) (SA.i (SI.sel (SL.v 9) (SI.v 0) 1) SA.nil))))
                SA.nil))] },
    {
      pc :=
        [SB.not
            (SB.app 140
              (SA.l
                (SL.app 113
                  (SA.l (SL.v 0) (SA.i (SI.sel (SL.v 9) (SI.v 0) 4) (SA.i (SI.sel (SL.v 9) (SI.v 0) 1) SA.nil))))
                SA.nil)),
          SB.eq
            (SI.len
              (SL.app 113
                (SA.l (SL.v 0) (SA.i (SI.sel (SL.v 9) (SI.v 0) 4) (SA.i (SI.sel (SL.v 9) (SI.v 0) 1) SA.nil)))))
            (SI.len (SL.v 0)),
          SB.eq (SI.sel (SL.v 9) (SI.v 0) 0) (SI.c (Int.ofNat 2)),
          SB.not (SB.eq (SI.sel (SL.v 9) (SI.v 0) 0) (SI.c (Int.ofNat 1))),
          SB.not (SB.eq (SI.sel (SL.v 9) (SI.v 0) 0) (SI.c (Int.ofNat 0))), SB.lt (SI.v 0) (SI.c (Int.ofNat 100)),
          SB.lt (SI.v 0) (SI.len (SL.v 9)), SB.le (SI.c (Int.ofNat 1)) (SI.len (SL.v 0)),
          SB.le (SI.len (SL.v 0)) (SI.c (Int.ofNat 64)), SB.le (SI.c (Int.ofNat 0)) (SI.v 0),
          SB.le (SI.v 0) (SI.c (Int.ofNat 100)), SB.eq (SI.len (SL.v 0)) (SI.v 2), SB.c true,
          SB.app 140 (SA.l (SL.v 0) SA.nil), SB.app 131 (SA.l (SL.v 0) SA.nil)],
      eqs := [Eqn.T (SB.c false)] },
    {
      pc :=
        [SB.le
            (SI.len
              (SL.app 101
                (SA.l
                  (SL.app 114
                    (SA.l (SL.v 0) (SA.i (SI.sel (SL.v 9) (SI.v 0) 4) (SA.i (SI.sel (SL.v 9) (SI.v 0) 1) SA.nil))))
                  (SA.i (SI.c (Int.ofNat 0)) SA.nil))))
            (SI.len
              (SL.app 114
                (SA.l (SL.v 0) (SA.i (SI.sel (SL.v 9) (SI.v 0) 4) (SA.i (SI.sel (SL.v 9) (SI.v 0) 1) SA.nil))))),
          SB.app 140
            (SA.l
              (SL.app 114
                (SA.l (SL.v 0) (SA.i (SI.sel (SL.v 9) (SI.v 0) 4) (SA.i (SI.sel (SL.v 9) (SI.v 0) 1) SA.nil))))
              SA.nil),
          SB.eq
            (SI.len
              (SL.app 114
                (SA.l (SL.v 0) (SA.i (SI.sel (SL.v 9) (SI.v 0) 4) (SA.i (SI.sel (SL.v 9) (SI.v 0) 1) SA.nil)))))
            (SI.len (SL.v 0)),
          SB.eq (SI.sel (SL.v 9) (SI.v 0) 0) (SI.c (Int.ofNat 3)),
          SB.not (SB.eq (SI.sel (SL.v 9) (SI.v 0) 0) (SI.c (Int.ofNat 2))),
          SB.not (SB.eq (SI.sel (SL.v 9) (SI.v 0) 0) (SI.c (Int.ofNat 1))),
          SB.not (SB.eq (SI.sel (SL.v 9) (SI.v 0) 0) (SI.c (Int.ofNat 0))), SB.lt (SI.v 0) (SI.c (Int.ofNat 100)),
          SB.lt (SI.v 0) (SI.len (SL.v 9)), SB.le (SI.c (Int.ofNat 1)) (SI.len (SL.v 0)),
          SB.le (SI.len (SL.v 0)) (SI.c (Int.ofNat 64)), SB.le (SI.c (Int.ofNat 0)) (SI.v 0),
          SB.le (SI.v 0) (SI.c (Int.ofNat 100)), SB.eq (SI.len (SL.v 0)) (SI.v 2), SB.c true,
          SB.app 140 (SA.l (SL.v 0) SA.nil), SB.app 131 (SA.l (SL.v 0) SA.nil)],
      eqs :=
        [Eqn.T
            (SB.lt (SI.sub (SI.c (Int.ofNat 100)) (SI.add (SI.v 0) (SI.c (Int.ofNat 1))))
              (SI.sub (SI.c (Int.ofNat 100)) (SI.v 0))),
          Eqn.T
            (SB.app 131
              (SA.l
                (SL.app 114
                  (SA.l (SL.v 0) (SA.i (SI.sel (SL.v 9) (SI.v 0) 4) (SA.i (SI.sel (SL.v 9) (SI.v 0) 1) SA.nil))))
                SA.nil))] },
    {
      pc :=
        [SB.not
            (SB.app 140
              (SA.l
                (SL.app 114
                  (SA.l (SL.v 0) (SA.i (SI.sel (SL.v 9) (SI.v 0) 4) (SA.i (SI.sel (SL.v 9) (SI.v 0) 1) SA.nil))))
                SA.nil)),
          SB.eq
            (SI.len
              (SL.app 114
                (SA.l (SL.v 0) (SA.i (SI.sel (SL.v 9) (SI.v 0) 4) (SA.i (SI.sel (SL.v 9) (SI.v 0) 1) SA.nil)))))
            (SI.len (SL.v 0)),
          SB.eq (SI.sel (SL.v 9) (SI.v 0) 0) (SI.c (Int.ofNat 3)),
          SB.not (SB.eq (SI.sel (SL.v 9) (SI.v 0) 0) (SI.c (Int.ofNat 2))),
          SB.not (SB.eq (SI.sel (SL.v 9) (SI.v 0) 0) (SI.c (Int.ofNat 1))),
          SB.not (SB.eq (SI.sel (SL.v 9) (SI.v 0) 0) (SI.c (Int.ofNat 0))), SB.lt (SI.v 0) (SI.c (Int.ofNat 100)),
          SB.lt (SI.v 0) (SI.len (SL.v 9)), SB.le (SI.c (Int.ofNat 1)) (SI.len (SL.v 0)),
          SB.le (SI.len (SL.v 0)) (SI.c (Int.ofNat 64)), SB.le (SI.c (Int.ofNat 0)) (SI.v 0),
          SB.le (SI.v 0) (SI.c (Int.ofNat 100)), SB.eq (SI.len (SL.v 0)) (SI.v 2), SB.c true,
          SB.app 140 (SA.l (SL.v 0) SA.nil), SB.app 131 (SA.l (SL.v 0) SA.nil)],
      eqs := [Eqn.T (SB.c false)] },
    {
      pc :=
        [SB.le
            (SI.len
              (SL.app 101
                (SA.l (SL.app 116 (SA.l (SL.v 0) (SA.i (SI.sel (SL.v 9) (SI.v 0) 1) SA.nil)))
                  (SA.i (SI.c (Int.ofNat 0)) SA.nil))))
            (SI.len (SL.app 116 (SA.l (SL.v 0) (SA.i (SI.sel (SL.v 9) (SI.v 0) 1) SA.nil)))),
          SB.app 140 (SA.l (SL.app 116 (SA.l (SL.v 0) (SA.i (SI.sel (SL.v 9) (SI.v 0) 1) SA.nil))) SA.nil),
          SB.le
            (SI.len (SL.app 102 (SA.l (SL.v 0) (SA.i (SI.c (Int.ofNat 0)) (SA.i (SI.sel (SL.v 9) (SI.v 0) 1) SA.nil)))))
            (SI.len (SL.v 0)),
          SB.eq (SI.len (SL.app 116 (SA.l (SL.v 0) (SA.i (SI.sel (SL.v 9) (SI.v 0) 1) SA.nil)))) (SI.len (SL.v 0)),
          SB.not (SB.eq (SI.sel (SL.v 9) (SI.v 0) 0) (SI.c (Int.ofNat 3))),
          SB.not (SB.eq (SI.sel (SL.v 9) (SI.v 0) 0) (SI.c (Int.ofNat 2))),
          SB.not (SB.eq (SI.sel (SL.v 9) (SI.v 0) 0) (SI.c (Int.ofNat 1))),
          SB.not (SB.eq (SI.sel (SL.v 9) (SI.v 0) 0) (SI.c (Int.ofNat 0))), SB.lt (SI.v 0) (SI.c (Int.ofNat 100)),
          SB.lt (SI.v 0) (SI.len (SL.v 9)), SB.le (SI.c (Int.ofNat 1)) (SI.len (SL.v 0)),
          SB.le (SI.len (SL.v 0)) (SI.c (Int.ofNat 64)), SB.le (SI.c (Int.ofNat 0)) (SI.v 0),
          SB.le (SI.v 0) (SI.c (Int.ofNat 100)), SB.eq (SI.len (SL.v 0)) (SI.v 2), SB.c true,
          SB.app 140 (SA.l (SL.v 0) SA.nil), SB.app 131 (SA.l (SL.v 0) SA.nil)],
      eqs :=
        [Eqn.T
            (SB.lt (SI.sub (SI.c (Int.ofNat 100)) (SI.add (SI.v 0) (SI.c (Int.ofNat 1))))
              (SI.sub (SI.c (Int.ofNat 100)) (SI.v 0))),
          Eqn.T (SB.app 131 (SA.l (SL.app 116 (SA.l (SL.v 0) (SA.i (SI.sel (SL.v 9) (SI.v 0) 1) SA.nil))) SA.nil))] },
    {
      pc :=
        [SB.not (SB.app 140 (SA.l (SL.app 116 (SA.l (SL.v 0) (SA.i (SI.sel (SL.v 9) (SI.v 0) 1) SA.nil))) SA.nil)),
          SB.le
            (SI.len (SL.app 102 (SA.l (SL.v 0) (SA.i (SI.c (Int.ofNat 0)) (SA.i (SI.sel (SL.v 9) (SI.v 0) 1) SA.nil)))))
            (SI.len (SL.v 0)),
          SB.eq (SI.len (SL.app 116 (SA.l (SL.v 0) (SA.i (SI.sel (SL.v 9) (SI.v 0) 1) SA.nil)))) (SI.len (SL.v 0)),
          SB.not (SB.eq (SI.sel (SL.v 9) (SI.v 0) 0) (SI.c (Int.ofNat 3))),
          SB.not (SB.eq (SI.sel (SL.v 9) (SI.v 0) 0) (SI.c (Int.ofNat 2))),
          SB.not (SB.eq (SI.sel (SL.v 9) (SI.v 0) 0) (SI.c (Int.ofNat 1))),
          SB.not (SB.eq (SI.sel (SL.v 9) (SI.v 0) 0) (SI.c (Int.ofNat 0))), SB.lt (SI.v 0) (SI.c (Int.ofNat 100)),
          SB.lt (SI.v 0) (SI.len (SL.v 9)), SB.le (SI.c (Int.ofNat 1)) (SI.len (SL.v 0)),
          SB.le (SI.len (SL.v 0)) (SI.c (Int.ofNat 64)), SB.le (SI.c (Int.ofNat 0)) (SI.v 0),
          SB.le (SI.v 0) (SI.c (Int.ofNat 100)), SB.eq (SI.len (SL.v 0)) (SI.v 2), SB.c true,
          SB.app 140 (SA.l (SL.v 0) SA.nil), SB.app 131 (SA.l (SL.v 0) SA.nil)],
      eqs := [Eqn.T (SB.c false)] }] := by kernel_rfl
theorem gp6_ok : gp6.ok Φ Try.prog := by
  refine ⟨by kernel_rfl, loop_rule (fun ρ => s6_ok ρ) (loopAt_sub (by kernel_rfl)) gp6_obs ?_⟩
  simp only [and_imp, List.forall_mem_cons, List.not_mem_nil, false_implies, implies_true, and_true, Ob.ok, holds, Eqn.ok, evB_eq, evB_lt, evB_le, evB_not, evB_and, evB_or, evB_eqL, evB_app, evB_v, evB_c, ev_sel, ev_len, ev_v, ev_c, ev_add, ev_sub, ev_mul, ev_quo, ev_rem, ev_bits, ev_wrap, evL_v, evL_lit, evL_app, ev_app, evA_l, evA_i, evA_nil, std_min, std_max, std_cat, std_take, std_drop, std_row, std_set, std_rep, std_find, std_put, std_del, std_flag, std_unflag, std_clr, std_left, std_copy, ints_cons, ints_nil, ofNat_lit, negSucc_lit, decide_eq_true_eq, Bool.and_eq_true, Bool.or_eq_true, Bool.not_eq_true', Bool.and_eq_false_iff, Bool.or_eq_false_iff, decide_eq_false_iff_not, aI110, aI111, aI112, aI113, aI114, aL100, aL101, aL102, aL103, aL110, aL112, aL113, aL114, aL115, aL116, aB130, aB131, aB132, aB199, aI142, aL140, aL141, aL143, aL144, aB140, aB141, aI150, aL150, aB150]
  repeat' apply And.intro
  all_goals intro ρ hR
  all_goals intros
  all_goals first
    | (have hT : ∀ r ∈ ρ.l 0, okRow K5 r := hR.row 2 rfl rfl
       have hG : okGB (ρ.l 0) = true := by with_reducible assumption
       have hU : usesB (ρ.l 0) = true := by with_reducible assumption
       exact ⟨by omega, uses_off hU _ _ _ _⟩)
    | (have hT : ∀ r ∈ ρ.l 0, okRow K5 r := hR.row 2 rfl rfl
       have hG : okGB (ρ.l 0) = true := by with_reducible assumption
       have hU : usesB (ρ.l 0) = true := by with_reducible assumption
       exact ⟨by omega, uses_tak hT hU⟩)
    | (have hT : ∀ r ∈ ρ.l 0, okRow K5 r := hR.row 2 rfl rfl
       have hG : okGB (ρ.l 0) = true := by with_reducible assumption
       have hU : usesB (ρ.l 0) = true := by with_reducible assumption
       exact ⟨by omega, uses_bac hT hU⟩)
    | (have hT : ∀ r ∈ ρ.l 0, okRow K5 r := hR.row 2 rfl rfl
       have hG : okGB (ρ.l 0) = true := by with_reducible assumption
       have hU : usesB (ρ.l 0) = true := by with_reducible assumption
       exact ⟨by omega, uses_rev hU _ _⟩)
    | (have hT : ∀ r ∈ ρ.l 0, okRow K5 r := hR.row 2 rfl rfl
       have hG : okGB (ρ.l 0) = true := by with_reducible assumption
       have hU : usesB (ρ.l 0) = true := by with_reducible assumption
       exact ⟨by omega, uses_clr hU _⟩)
    | (have hT : ∀ r ∈ ρ.l 0, okRow K5 r := hR.row 2 rfl rfl
       have hG : okGB (ρ.l 0) = true := by with_reducible assumption
       have hU : usesB (ρ.l 0) = true := by with_reducible assumption
       exfalso
       exact Bool.false_ne_true (‹okGB _ = false›.symm.trans (okGB_off hG _ _ _ _)))
    | (have hT : ∀ r ∈ ρ.l 0, okRow K5 r := hR.row 2 rfl rfl
       have hG : okGB (ρ.l 0) = true := by with_reducible assumption
       have hU : usesB (ρ.l 0) = true := by with_reducible assumption
       exfalso
       exact Bool.false_ne_true (‹okGB _ = false›.symm.trans (okGB_tak hT hG _ _ _)))
    | (have hT : ∀ r ∈ ρ.l 0, okRow K5 r := hR.row 2 rfl rfl
       have hG : okGB (ρ.l 0) = true := by with_reducible assumption
       have hU : usesB (ρ.l 0) = true := by with_reducible assumption
       exfalso
       exact Bool.false_ne_true (‹okGB _ = false›.symm.trans (okGB_bac hT hG _ _)))
    | (have hT : ∀ r ∈ ρ.l 0, okRow K5 r := hR.row 2 rfl rfl
       have hG : okGB (ρ.l 0) = true := by with_reducible assumption
       have hU : usesB (ρ.l 0) = true := by with_reducible assumption
       exfalso
       exact Bool.false_ne_true (‹okGB _ = false›.symm.trans (okGB_rev hG _ _)))
    | (have hT : ∀ r ∈ ρ.l 0, okRow K5 r := hR.row 2 rfl rfl
       have hG : okGB (ρ.l 0) = true := by with_reducible assumption
       have hU : usesB (ρ.l 0) = true := by with_reducible assumption
       exfalso
       exact Bool.false_ne_true (‹okGB _ = false›.symm.trans (all_clr hG)))
    | (exfalso
       grind)
    | (exfalso
       simp_all
       done)
theorem s7_ok (ρ : Env) : TblOK Φ ρ Try.prog s7 := addLp_ok (s6_ok ρ) gp6_ok
set_option maxRecDepth 100000 in
theorem lPlays0_obs : callObs Φ Try.prog s7 1000 lPlays0.f lPlays0.vs lPlays0.o lPlays0.pc lPlays0.outs = some
  [{
      pc :=
        [SB.eq
            (SI.len
              (SL.app 5
                (SA.i (SI.v 0)
                  (SA.i (SI.c (Int.ofNat 0))
                    (SA.i (SI.c (Int.ofNat 0))
                      (SA.i (SI.c (Int.ofNat 0)) (SA.i (SI.c (Int.ofNat 0)) (SA.i (SI.c (Int.ofNat 0)) SA.nil))))))))
            (SI.v 0),
          SB.le (SI.v 0) (SI.c (Int.ofNat 64)), SB.le (SI.c (Int.ofNat 1)) (SI.v 0),
          SB.or (SB.lt (SI.v 0) (SI.c (Int.ofNat 1))) (SB.lt (SI.c (Int.ofNat 64)) (SI.v 0))],
      eqs := [Eqn.T (SB.app 199 SA.nil)] },
    {
      pc :=
        [SB.not
            (SB.app 140
              (SA.l
                (SL.app 5
                  (SA.i (SI.v 0)
                    (SA.i (SI.c (Int.ofNat 0))
                      (SA.i (SI.c (Int.ofNat 0))
                        (SA.i (SI.c (Int.ofNat 0)) (SA.i (SI.c (Int.ofNat 0)) (SA.i (SI.c (Int.ofNat 0)) SA.nil)))))))
                SA.nil)),
          SB.eq
            (SI.len
              (SL.app 5
                (SA.i (SI.v 0)
                  (SA.i (SI.c (Int.ofNat 0))
                    (SA.i (SI.c (Int.ofNat 0))
                      (SA.i (SI.c (Int.ofNat 0)) (SA.i (SI.c (Int.ofNat 0)) (SA.i (SI.c (Int.ofNat 0)) SA.nil))))))))
            (SI.v 0),
          SB.le (SI.v 0) (SI.c (Int.ofNat 64)), SB.le (SI.c (Int.ofNat 1)) (SI.v 0)],
      eqs := [Eqn.T (SB.c false)] },
    {
      pc :=
        [SB.not
            (SB.app 131
              (SA.l
                (SL.app 5
                  (SA.i (SI.v 0)
                    (SA.i (SI.c (Int.ofNat 0))
                      (SA.i (SI.c (Int.ofNat 0))
                        (SA.i (SI.c (Int.ofNat 0)) (SA.i (SI.c (Int.ofNat 0)) (SA.i (SI.c (Int.ofNat 0)) SA.nil)))))))
                SA.nil)),
          SB.eq
            (SI.len
              (SL.app 5
                (SA.i (SI.v 0)
                  (SA.i (SI.c (Int.ofNat 0))
                    (SA.i (SI.c (Int.ofNat 0))
                      (SA.i (SI.c (Int.ofNat 0)) (SA.i (SI.c (Int.ofNat 0)) (SA.i (SI.c (Int.ofNat 0)) SA.nil))))))))
            (SI.v 0),
          SB.le (SI.v 0) (SI.c (Int.ofNat 64)), SB.le (SI.c (Int.ofNat 1)) (SI.v 0)],
      eqs := [Eqn.T (SB.c false)] }] := by kernel_rfl
theorem lPlays0_ok : lPlays0.ok Φ Try.prog := by
  refine call_rule (fun ρ => s7_ok ρ) lPlays0_obs ?_
  simp only [and_imp, List.forall_mem_cons, List.not_mem_nil, false_implies, implies_true, and_true, Ob.ok, holds, Eqn.ok, evB_eq, evB_lt, evB_le, evB_not, evB_and, evB_or, evB_eqL, evB_app, evB_v, evB_c, ev_sel, ev_len, ev_v, ev_c, ev_add, ev_sub, ev_mul, ev_quo, ev_rem, ev_bits, ev_wrap, evL_v, evL_lit, evL_app, ev_app, evA_l, evA_i, evA_nil, std_min, std_max, std_cat, std_take, std_drop, std_row, std_set, std_rep, std_find, std_put, std_del, std_flag, std_unflag, std_clr, std_left, std_copy, ints_cons, ints_nil, ofNat_lit, negSucc_lit, decide_eq_true_eq, Bool.and_eq_true, Bool.or_eq_true, Bool.not_eq_true', Bool.and_eq_false_iff, Bool.or_eq_false_iff, decide_eq_false_iff_not, aI110, aI111, aI112, aI113, aI114, aL100, aL101, aL102, aL103, aL110, aL112, aL113, aL114, aL115, aL116, aB130, aB131, aB132, aB199, aI142, aL140, aL141, aL143, aL144, aB140, aB141, aI150, aL150, aB150]
  repeat' apply And.intro
  all_goals intro ρ hR
  all_goals intros
  all_goals first
    | (exfalso
       exact Bool.false_ne_true (‹okGB _ = false›.symm.trans (okGB_rep _)))
    | (exfalso
       exact Bool.false_ne_true (‹usesB _ = false›.symm.trans (uses_rep _)))
    | (exfalso
       omega)
theorem lPlays_ok : lPlays.ok Φ Try.prog := drop_never rfl lPlays0_ok
end Go.SF.C19
