/- The fixed calls; the laws of timers that are not there, that fire once, and of credits. -/
import Derived.Test.YtnjnmeidjcdppaaQ1
import Derived.Test.YtnjnmeidjcdppaaC2
import Derived.KernelRfl
namespace Go.SF.C18
open Go Go.SF Go.Proofs
set_option linter.unusedVariables false
set_option linter.unusedSimpArgs false

set_option maxRecDepth 100000 in
theorem sm0_obs : loopObs Φ Try.prog noTbl 1000 sm0.f (loopAt Try.prog sm0.f sm0.id) sm0.n sm0.T i4 sm0.outs = some
  [{
      pc :=
        [SB.eq (SI.sel (SL.v 0) (SI.v 1) 2) (SI.sel (SL.v 1) (SI.v 1) 2),
          SB.eq (SI.sel (SL.v 0) (SI.v 1) 1) (SI.sel (SL.v 1) (SI.v 1) 1),
          SB.eq (SI.sel (SL.v 0) (SI.v 1) 0) (SI.sel (SL.v 1) (SI.v 1) 0), SB.lt (SI.v 1) (SI.len (SL.v 0)),
          SB.le (SI.c (Int.ofNat 0)) (SI.v 1), SB.le (SI.v 1) (SI.len (SL.v 0)),
          SB.eq (SI.len (SL.v 0)) (SI.len (SL.v 1)), SB.lt (SI.len (SL.v 0)) (SI.c (Int.ofNat 90000))],
      eqs :=
        [Eqn.T
            (SB.lt (SI.sub (SI.len (SL.v 0)) (SI.add (SI.v 1) (SI.c (Int.ofNat 1))))
              (SI.sub (SI.len (SL.v 0)) (SI.v 1))),
          Eqn.T (SB.lt (SI.c (Int.ofNat 0)) (SI.sub (SI.len (SL.v 0)) (SI.v 1)))] },
    {
      pc :=
        [SB.not
            (SB.eqL (SL.app 2 (SA.l (SL.v 0) (SA.i (SI.add (SI.v 1) (SI.c (Int.ofNat 1))) SA.nil)))
              (SL.app 2 (SA.l (SL.v 1) (SA.i (SI.add (SI.v 1) (SI.c (Int.ofNat 1))) SA.nil)))),
          SB.eq (SI.sel (SL.v 0) (SI.v 1) 2) (SI.sel (SL.v 1) (SI.v 1) 2),
          SB.eq (SI.sel (SL.v 0) (SI.v 1) 1) (SI.sel (SL.v 1) (SI.v 1) 1),
          SB.eq (SI.sel (SL.v 0) (SI.v 1) 0) (SI.sel (SL.v 1) (SI.v 1) 0), SB.lt (SI.v 1) (SI.len (SL.v 0)),
          SB.le (SI.c (Int.ofNat 0)) (SI.v 1), SB.le (SI.v 1) (SI.len (SL.v 0)),
          SB.eq (SI.len (SL.v 0)) (SI.len (SL.v 1)), SB.lt (SI.len (SL.v 0)) (SI.c (Int.ofNat 90000))],
      eqs :=
        [Eqn.T
            (SB.not
              (SB.eqL (SL.app 2 (SA.l (SL.v 0) (SA.i (SI.v 1) SA.nil)))
                (SL.app 2 (SA.l (SL.v 1) (SA.i (SI.v 1) SA.nil)))))] },
    {
      pc :=
        [SB.eqL (SL.app 2 (SA.l (SL.v 0) (SA.i (SI.add (SI.v 1) (SI.c (Int.ofNat 1))) SA.nil)))
            (SL.app 2 (SA.l (SL.v 1) (SA.i (SI.add (SI.v 1) (SI.c (Int.ofNat 1))) SA.nil))),
          SB.eq (SI.sel (SL.v 0) (SI.v 1) 2) (SI.sel (SL.v 1) (SI.v 1) 2),
          SB.eq (SI.sel (SL.v 0) (SI.v 1) 1) (SI.sel (SL.v 1) (SI.v 1) 1),
          SB.eq (SI.sel (SL.v 0) (SI.v 1) 0) (SI.sel (SL.v 1) (SI.v 1) 0), SB.lt (SI.v 1) (SI.len (SL.v 0)),
          SB.le (SI.c (Int.ofNat 0)) (SI.v 1), SB.le (SI.v 1) (SI.len (SL.v 0)),
          SB.eq (SI.len (SL.v 0)) (SI.len (SL.v 1)), SB.lt (SI.len (SL.v 0)) (SI.c (Int.ofNat 90000))],
      eqs :=
        [Eqn.T
            (SB.eqL (SL.app 2 (SA.l (SL.v 0) (SA.i (SI.v 1) SA.nil)))
              (SL.app 2 (SA.l (SL.v 1) (SA.i (SI.v 1) SA.nil))))] },
    {
      pc :=
        [SB.not (SB.eq (SI.sel (SL.v 0) (SI.v 1) 2) (SI.sel (SL.v 1) (SI.v 1) 2)),
          SB.eq (SI.sel (SL.v 0) (SI.v 1) 1) (SI.sel (SL.v 1) (SI.v 1) 1),
          SB.eq (SI.sel (SL.v 0) (SI.v 1) 0) (SI.sel (SL.v 1) (SI.v 1) 0), SB.lt (SI.v 1) (SI.len (SL.v 0)),
          SB.le (SI.c (Int.ofNat 0)) (SI.v 1), SB.le (SI.v 1) (SI.len (SL.v 0)),
          SB.eq (SI.len (SL.v 0)) (SI.len (SL.v 1)), SB.lt (SI.len (SL.v 0)) (SI.c (Int.ofNat 90000))],
      eqs :=
        [Eqn.T
            (SB.not
              (SB.eqL (SL.app 2 (SA.l (SL.v 0) (SA.i (SI.v 1) SA.nil)))
                (SL.app 2 (SA.l (SL.v 1) (SA.i (SI.v 1) SA.nil)))))] },
    {
      pc :=
        [SB.not (SB.eq (SI.sel (SL.v 0) (SI.v 1) 1) (SI.sel (SL.v 1) (SI.v 1) 1)),
          SB.eq (SI.sel (SL.v 0) (SI.v 1) 0) (SI.sel (SL.v 1) (SI.v 1) 0), SB.lt (SI.v 1) (SI.len (SL.v 0)),
          SB.le (SI.c (Int.ofNat 0)) (SI.v 1), SB.le (SI.v 1) (SI.len (SL.v 0)),
          SB.eq (SI.len (SL.v 0)) (SI.len (SL.v 1)), SB.lt (SI.len (SL.v 0)) (SI.c (Int.ofNat 90000))],
      eqs :=
        [Eqn.T
            (SB.not
              (SB.eqL (SL.app 2 (SA.l (SL.v 0) (SA.i (SI.v 1) SA.nil)))
                (SL.app 2 (SA.l (SL.v 1) (SA.i (SI.v 1) SA.nil)))))] },
    {
      pc :=
        [SB.not (SB.eq (SI.sel (SL.v 0) (SI.v 1) 0) (SI.sel (SL.v 1) (SI.v 1) 0)), SB.lt (SI.v 1) (SI.len (SL.v 0)),
          SB.le (SI.c (Int.ofNat 0)) (SI.v 1), SB.le (SI.v 1) (SI.len (SL.v 0)),
          SB.eq (SI.len (SL.v 0)) (SI.len (SL.v 1)), SB.lt (SI.len (SL.v 0)) (SI.c (Int.ofNat 90000))],
      eqs :=
        [Eqn.T
            (SB.not
              (SB.eqL (SL.app 2 (SA.l (SL.v 0) (SA.i (SI.v 1) SA.nil)))
                (SL.app 2 (SA.l (SL.v 1) (SA.i (SI.v 1) SA.nil)))))] },
    {
      pc :=
        [SB.not (SB.lt (SI.v 1) (SI.len (SL.v 0))), SB.le (SI.c (Int.ofNat 0)) (SI.v 1),
          SB.le (SI.v 1) (SI.len (SL.v 0)), SB.eq (SI.len (SL.v 0)) (SI.len (SL.v 1)),
          SB.lt (SI.len (SL.v 0)) (SI.c (Int.ofNat 90000))],
      eqs :=
        [Eqn.T
            (SB.eqL (SL.app 2 (SA.l (SL.v 0) (SA.i (SI.v 1) SA.nil)))
              (SL.app 2 (SA.l (SL.v 1) (SA.i (SI.v 1) SA.nil))))] }] := by kernel_rfl
theorem sm0_ok : sm0.ok Φ Try.prog := by
  refine ⟨by kernel_rfl, loop_rule (fun ρ => noTbl_ok) (loopAt_sub (by kernel_rfl)) sm0_obs ?_⟩
  simp only [and_imp, List.forall_mem_cons, List.not_mem_nil, false_implies, implies_true, and_true, Ob.ok, holds, Eqn.ok, evB_eq, evB_lt, evB_le, evB_not, evB_and, evB_or, evB_eqL, evB_app, evB_v, evB_c, ev_sel, ev_len, ev_v, ev_c, ev_add, ev_sub, ev_mul, ev_quo, ev_rem, ev_bits, ev_wrap, evL_v, evL_lit, evL_app, ev_app, evA_l, evA_i, evA_nil, std_min, std_max, std_cat, std_take, std_drop, std_row, std_set, std_rep, std_find, std_put, std_del, std_flag, std_unflag, std_clr, std_left, std_copy, ints_cons, ints_nil, ofNat_lit, negSucc_lit, decide_eq_true_eq, Bool.and_eq_true, Bool.or_eq_true, Bool.not_eq_true', Bool.and_eq_false_iff, Bool.or_eq_false_iff, decide_eq_false_iff_not, aI110, aI111, aI112, aI113, aI114, aI115, aI120, aI121, aI122, aL110, aL116, aL120, aL122, aL123, aL124, aL125, aB130, aB132, aB140, aB141, aB142, aL126, aL127, aL128, aB199]
  repeat' apply And.intro
  all_goals intro ρ hR
  all_goals intros
  all_goals first
    | (omega)
    | (intro e
       have e := (eq_step (A := ρ.l 0) (B := ρ.l 1) (i := ρ.i 1) (hR.row 0 rfl rfl) (hR.row 1 rfl rfl) (by omega) (by omega) (by omega)).1 e
       exact absurd e.2 (by with_reducible assumption))
    | (intro e
       have e := (eq_step (A := ρ.l 0) (B := ρ.l 1) (i := ρ.i 1) (hR.row 0 rfl rfl) (hR.row 1 rfl rfl) (by omega) (by omega) (by omega)).1 e
       have e := e.1
       omega)
    | (exact (eq_step (A := ρ.l 0) (B := ρ.l 1) (i := ρ.i 1) (hR.row 0 rfl rfl) (hR.row 1 rfl rfl) (by omega) (by omega) (by omega)).2 ⟨⟨by with_reducible assumption, by with_reducible assumption, by with_reducible assumption⟩, by with_reducible assumption⟩)
    | (exact eq_end (by omega) (by omega))
set_option maxRecDepth 100000 in
theorem pl0_obs : loopObs Φ Try.prog noTbl 1000 pl0.f (loopAt Try.prog pl0.f pl0.id) pl0.n pl0.T i5 pl0.outs = some
  [{
      pc :=
        [SB.lt (SI.v 1) (SI.len (SL.v 2)), SB.le (SI.c (Int.ofNat 0)) (SI.v 1), SB.le (SI.v 1) (SI.len (SL.v 2)),
          SB.lt (SI.len (SL.v 2)) (SI.c (Int.ofNat 90000)), SB.le (SI.len (SL.v 1)) (SI.v 1), SB.c true,
          SB.eqL (SL.v 1) (SL.app 1 (SA.l (SL.v 2) (SA.i (SI.v 1) SA.nil)))],
      eqs :=
        [Eqn.T
            (SB.lt (SI.sub (SI.len (SL.v 2)) (SI.add (SI.v 1) (SI.c (Int.ofNat 1))))
              (SI.sub (SI.len (SL.v 2)) (SI.v 1))),
          Eqn.T (SB.lt (SI.c (Int.ofNat 0)) (SI.sub (SI.len (SL.v 2)) (SI.v 1))),
          Eqn.T
            (SB.eqL
              (SL.app 0
                (SA.l (SL.v 1)
                  (SA.l
                    (SL.app 3
                      (SA.i (SI.sel (SL.v 2) (SI.v 1) 0)
                        (SA.i (SI.sel (SL.v 2) (SI.v 1) 1) (SA.i (SI.sel (SL.v 2) (SI.v 1) 2) SA.nil))))
                    SA.nil)))
              (SL.app 1 (SA.l (SL.v 2) (SA.i (SI.add (SI.v 1) (SI.c (Int.ofNat 1))) SA.nil))))] },
    {
      pc :=
        [SB.not (SB.lt (SI.v 1) (SI.len (SL.v 2))), SB.le (SI.c (Int.ofNat 0)) (SI.v 1),
          SB.le (SI.v 1) (SI.len (SL.v 2)), SB.lt (SI.len (SL.v 2)) (SI.c (Int.ofNat 90000)),
          SB.le (SI.len (SL.v 1)) (SI.v 1), SB.c true,
          SB.eqL (SL.v 1) (SL.app 1 (SA.l (SL.v 2) (SA.i (SI.v 1) SA.nil)))],
      eqs := [Eqn.I (SI.len (SL.v 2)) (SI.len (SL.v 1)), Eqn.L (SL.v 2) (SL.v 1)] }] := by kernel_rfl
theorem pl0_ok : pl0.ok Φ Try.prog := by
  refine ⟨by kernel_rfl, loop_rule (fun ρ => noTbl_ok) (loopAt_sub (by kernel_rfl)) pl0_obs ?_⟩
  simp only [and_imp, List.forall_mem_cons, List.not_mem_nil, false_implies, implies_true, and_true, Ob.ok, holds, Eqn.ok, evB_eq, evB_lt, evB_le, evB_not, evB_and, evB_or, evB_eqL, evB_app, evB_v, evB_c, ev_sel, ev_len, ev_v, ev_c, ev_add, ev_sub, ev_mul, ev_quo, ev_rem, ev_bits, ev_wrap, evL_v, evL_lit, evL_app, ev_app, evA_l, evA_i, evA_nil, std_min, std_max, std_cat, std_take, std_drop, std_row, std_set, std_rep, std_find, std_put, std_del, std_flag, std_unflag, std_clr, std_left, std_copy, ints_cons, ints_nil, ofNat_lit, negSucc_lit, decide_eq_true_eq, Bool.and_eq_true, Bool.or_eq_true, Bool.not_eq_true', Bool.and_eq_false_iff, Bool.or_eq_false_iff, decide_eq_false_iff_not, aI110, aI111, aI112, aI113, aI114, aI115, aI120, aI121, aI122, aL110, aL116, aL120, aL122, aL123, aL124, aL125, aB130, aB132, aB140, aB141, aB142, aL126, aL127, aL128, aB199]
  repeat' apply And.intro
  all_goals intro ρ hR
  all_goals intros
  all_goals first
    | (omega)
    | (have e1 : ρ.l 1 = List.take (ρ.i 1).toNat (ρ.l 2) := by with_reducible assumption
       refine ⟨by omega, by omega, ?_⟩
       rw [e1, take_step (by omega) (by omega), row3 (show okRow K3 ((ρ.l 2).getD (ρ.i 1).toNat []) from hR.row 0 rfl rfl _ (getD_mem (A := ρ.l 2) (by omega) (by omega)))])
    | (have e1 : ρ.l 1 = List.take (ρ.i 1).toNat (ρ.l 2) := by with_reducible assumption
       rw [take_end (by omega)] at e1
       rw [e1]
       exact ⟨rfl, rfl⟩)
theorem t7_ok (ρ : Env) : TblOK Φ ρ Try.prog t7 := addLp_ok (addLp_ok (t6_ok ρ) sm0_ok) pl0_ok
set_option maxRecDepth 100000 in
theorem cSame_obs : callObs Φ Try.prog t7 1000 cSame.f cSame.vs cSame.o cSame.pc cSame.outs = some
  [{
      pc :=
        [SB.not
            (SB.eqL (SL.app 2 (SA.l (SL.v 0) (SA.i (SI.c (Int.ofNat 0)) SA.nil)))
              (SL.app 2 (SA.l (SL.v 1) (SA.i (SI.c (Int.ofNat 0)) SA.nil)))),
          SB.eq (SI.len (SL.v 0)) (SI.len (SL.v 1)), SB.lt (SI.len (SL.v 0)) (SI.c (Int.ofNat 90000))],
      eqs := [Eqn.B (SB.eqL (SL.v 0) (SL.v 1)) (SB.c false)] },
    {
      pc :=
        [SB.eqL (SL.app 2 (SA.l (SL.v 0) (SA.i (SI.c (Int.ofNat 0)) SA.nil)))
            (SL.app 2 (SA.l (SL.v 1) (SA.i (SI.c (Int.ofNat 0)) SA.nil))),
          SB.eq (SI.len (SL.v 0)) (SI.len (SL.v 1)), SB.lt (SI.len (SL.v 0)) (SI.c (Int.ofNat 90000))],
      eqs := [Eqn.B (SB.eqL (SL.v 0) (SL.v 1)) (SB.c true)] },
    { pc := [SB.not (SB.eq (SI.len (SL.v 0)) (SI.len (SL.v 1))), SB.lt (SI.len (SL.v 0)) (SI.c (Int.ofNat 90000))],
      eqs := [Eqn.B (SB.eqL (SL.v 0) (SL.v 1)) (SB.c false)] }] := by kernel_rfl
theorem cSame_ok : cSame.ok Φ Try.prog := by
  refine call_rule (fun ρ => t7_ok ρ) cSame_obs ?_
  simp only [and_imp, List.forall_mem_cons, List.not_mem_nil, false_implies, implies_true, and_true, Ob.ok, holds, Eqn.ok, evB_eq, evB_lt, evB_le, evB_not, evB_and, evB_or, evB_eqL, evB_app, evB_v, evB_c, ev_sel, ev_len, ev_v, ev_c, ev_add, ev_sub, ev_mul, ev_quo, ev_rem, ev_bits, ev_wrap, evL_v, evL_lit, evL_app, ev_app, evA_l, evA_i, evA_nil, std_min, std_max, std_cat, std_take, std_drop, std_row, std_set, std_rep, std_find, std_put, std_del, std_flag, std_unflag, std_clr, std_left, std_copy, ints_cons, ints_nil, ofNat_lit, negSucc_lit, decide_eq_true_eq, Bool.and_eq_true, Bool.or_eq_true, Bool.not_eq_true', Bool.and_eq_false_iff, Bool.or_eq_false_iff, decide_eq_false_iff_not, aI110, aI111, aI112, aI113, aI114, aI115, aI120, aI121, aI122, aL110, aL116, aL120, aL122, aL123, aL124, aL125, aB130, aB132, aB140, aB141, aB142, aL126, aL127, aL128, aB199]
  repeat' apply And.intro
  all_goals intro ρ hR
  all_goals intros
  all_goals first
    | (have h : ¬ ((ρ.l 0).length : Int) = (ρ.l 1).length := by assumption
       have : ¬ ρ.l 0 = ρ.l 1 := fun e => h (by rw [e])
       simpa using this)
    | (simp_all)
set_option maxRecDepth 100000 in
theorem cPlain_obs : callObs Φ Try.prog t7 1000 cPlain.f cPlain.vs cPlain.o cPlain.pc cPlain.outs = some
  [{
      pc :=
        [SB.not (SB.eqL (SL.lit []) (SL.app 1 (SA.l (SL.v 2) (SA.i (SI.c (Int.ofNat 0)) SA.nil)))),
          SB.lt (SI.len (SL.v 2)) (SI.c (Int.ofNat 90000))],
      eqs := [Eqn.T (SB.c false)] }] := by kernel_rfl
theorem cPlain_ok : cPlain.ok Φ Try.prog := by
  refine call_rule (fun ρ => t7_ok ρ) cPlain_obs ?_
  simp only [and_imp, List.forall_mem_cons, List.not_mem_nil, false_implies, implies_true, and_true, Ob.ok, holds, Eqn.ok, evB_eq, evB_lt, evB_le, evB_not, evB_and, evB_or, evB_eqL, evB_app, evB_v, evB_c, ev_sel, ev_len, ev_v, ev_c, ev_add, ev_sub, ev_mul, ev_quo, ev_rem, ev_bits, ev_wrap, evL_v, evL_lit, evL_app, ev_app, evA_l, evA_i, evA_nil, std_min, std_max, std_cat, std_take, std_drop, std_row, std_set, std_rep, std_find, std_put, std_del, std_flag, std_unflag, std_clr, std_left, std_copy, ints_cons, ints_nil, ofNat_lit, negSucc_lit, decide_eq_true_eq, Bool.and_eq_true, Bool.or_eq_true, Bool.not_eq_true', Bool.and_eq_false_iff, Bool.or_eq_false_iff, decide_eq_false_iff_not, aI110, aI111, aI112, aI113, aI114, aI115, aI120, aI121, aI122, aL110, aL116, aL120, aL122, aL123, aL124, aL125, aB130, aB132, aB140, aB141, aB142, aL126, aL127, aL128, aB199]
  repeat' apply And.intro
  all_goals intro ρ hR
  all_goals intros
  all_goals first
    | (exfalso
       exact absurd rfl (by assumption))
theorem t8_ok (ρ : Env) : TblOK Φ ρ Try.prog t8 := addFn_ok (addFn_ok (addFn_ok (addFn_ok (addFn_ok (addFn_ok (addFn_ok (addFn_ok (addFn_ok (t7_ok ρ) cSame_ok) cPlain_ok) cNew_ok) cArm_ok) cDisarm_ok) cNow_ok) cCredit_ok) cCharge_ok) cRefill_ok
set_option maxRecDepth 100000 in
theorem cKnown_obs : callObs Φ Try.prog t8 1000 cKnown.f cKnown.vs cKnown.o cKnown.pc cKnown.outs = some
  [] := by kernel_rfl
theorem cKnown_ok : cKnown.ok Φ Try.prog := by
  refine call_rule (fun ρ => t8_ok ρ) cKnown_obs ?_
  intro ob h; cases h
theorem t9_ok (ρ : Env) : TblOK Φ ρ Try.prog t9 := addFn_ok noTbl_ok cKnown_ok
theorem t10_ok (ρ : Env) : TblOK Φ ρ Try.prog t10 := addFn_ok (t8_ok ρ) cKnown_ok
set_option maxRecDepth 100000 in
theorem lNil_obs : callObs Φ Try.prog t9 1000 lNil.f lNil.vs lNil.o lNil.pc lNil.outs = some
  [] := by kernel_rfl
theorem lNil_ok : lNil.ok Φ Try.prog := by
  refine call_rule (fun ρ => t9_ok ρ) lNil_obs ?_
  intro ob h; cases h
set_option maxRecDepth 100000 in
theorem lOnce0_obs : callObs Φ Try.prog t10 1000 lOnce0.f lOnce0.vs lOnce0.o lOnce0.pc lOnce0.outs = some
  [{
      pc :=
        [SB.le
            (SI.len
              (SL.app 125
                (SA.l
                  (SL.app 125
                    (SA.l
                      (SL.app 110
                        (SA.l
                          (SL.app 110
                            (SA.l (SL.lit [])
                              (SA.i (SI.v 2)
                                (SA.i (SI.add (SI.v 0) (SI.c (Int.ofNat 1)))
                                  (SA.i (SI.c (Int.ofNat 0)) (SA.i (SI.c (Int.ofNat 0)) SA.nil))))))
                          (SA.i (SI.v 2)
                            (SA.i (SI.add (SI.v 1) (SI.c (Int.ofNat 1)))
                              (SA.i (SI.c (Int.ofNat 0)) (SA.i (SI.c (Int.ofNat 0)) SA.nil))))))
                      (SA.i (SI.v 1) SA.nil)))
                  (SA.i (SI.add (SI.v 1) (SI.c (Int.ofNat 1))) SA.nil))))
            (SI.len
              (SL.app 125
                (SA.l
                  (SL.app 110
                    (SA.l
                      (SL.app 110
                        (SA.l (SL.lit [])
                          (SA.i (SI.v 2)
                            (SA.i (SI.add (SI.v 0) (SI.c (Int.ofNat 1)))
                              (SA.i (SI.c (Int.ofNat 0)) (SA.i (SI.c (Int.ofNat 0)) SA.nil))))))
                      (SA.i (SI.v 2)
                        (SA.i (SI.add (SI.v 1) (SI.c (Int.ofNat 1)))
                          (SA.i (SI.c (Int.ofNat 0)) (SA.i (SI.c (Int.ofNat 0)) SA.nil))))))
                  (SA.i (SI.v 1) SA.nil)))),
          SB.lt
            (SI.len
              (SL.app 124
                (SA.l
                  (SL.app 125
                    (SA.l
                      (SL.app 110
                        (SA.l
                          (SL.app 110
                            (SA.l (SL.lit [])
                              (SA.i (SI.v 2)
                                (SA.i (SI.add (SI.v 0) (SI.c (Int.ofNat 1)))
                                  (SA.i (SI.c (Int.ofNat 0)) (SA.i (SI.c (Int.ofNat 0)) SA.nil))))))
                          (SA.i (SI.v 2)
                            (SA.i (SI.add (SI.v 1) (SI.c (Int.ofNat 1)))
                              (SA.i (SI.c (Int.ofNat 0)) (SA.i (SI.c (Int.ofNat 0)) SA.nil))))))
                      (SA.i (SI.v 1) SA.nil)))
                  (SA.i (SI.add (SI.v 1) (SI.c (Int.ofNat 1))) SA.nil))))
            (SI.c (Int.ofNat 80000)),
          SB.le
            (SI.len
              (SL.app 125
                (SA.l
                  (SL.app 110
                    (SA.l
                      (SL.app 110
                        (SA.l (SL.lit [])
                          (SA.i (SI.v 2)
                            (SA.i (SI.add (SI.v 0) (SI.c (Int.ofNat 1)))
                              (SA.i (SI.c (Int.ofNat 0)) (SA.i (SI.c (Int.ofNat 0)) SA.nil))))))
                      (SA.i (SI.v 2)
                        (SA.i (SI.add (SI.v 1) (SI.c (Int.ofNat 1)))
                          (SA.i (SI.c (Int.ofNat 0)) (SA.i (SI.c (Int.ofNat 0)) SA.nil))))))
                  (SA.i (SI.v 1) SA.nil))))
            (SI.len
              (SL.app 110
                (SA.l
                  (SL.app 110
                    (SA.l (SL.lit [])
                      (SA.i (SI.v 2)
                        (SA.i (SI.add (SI.v 0) (SI.c (Int.ofNat 1)))
                          (SA.i (SI.c (Int.ofNat 0)) (SA.i (SI.c (Int.ofNat 0)) SA.nil))))))
                  (SA.i (SI.v 2)
                    (SA.i (SI.add (SI.v 1) (SI.c (Int.ofNat 1)))
                      (SA.i (SI.c (Int.ofNat 0)) (SA.i (SI.c (Int.ofNat 0)) SA.nil))))))),
          SB.lt
            (SI.len
              (SL.app 124
                (SA.l
                  (SL.app 110
                    (SA.l
                      (SL.app 110
                        (SA.l (SL.lit [])
                          (SA.i (SI.v 2)
                            (SA.i (SI.add (SI.v 0) (SI.c (Int.ofNat 1)))
                              (SA.i (SI.c (Int.ofNat 0)) (SA.i (SI.c (Int.ofNat 0)) SA.nil))))))
                      (SA.i (SI.v 2)
                        (SA.i (SI.add (SI.v 1) (SI.c (Int.ofNat 1)))
                          (SA.i (SI.c (Int.ofNat 0)) (SA.i (SI.c (Int.ofNat 0)) SA.nil))))))
                  (SA.i (SI.v 1) SA.nil))))
            (SI.c (Int.ofNat 80000)),
          SB.eq
            (SI.len
              (SL.app 110
                (SA.l
                  (SL.app 110
                    (SA.l (SL.lit [])
                      (SA.i (SI.v 2)
                        (SA.i (SI.add (SI.v 0) (SI.c (Int.ofNat 1)))
                          (SA.i (SI.c (Int.ofNat 0)) (SA.i (SI.c (Int.ofNat 0)) SA.nil))))))
                  (SA.i (SI.v 2)
                    (SA.i (SI.add (SI.v 1) (SI.c (Int.ofNat 1)))
                      (SA.i (SI.c (Int.ofNat 0)) (SA.i (SI.c (Int.ofNat 0)) SA.nil)))))))
            (SI.c (Int.ofNat 0)),
          SB.eq
            (SI.app 110
              (SA.i (SI.v 2)
                (SA.i (SI.add (SI.v 1) (SI.c (Int.ofNat 1)))
                  (SA.i (SI.c (Int.ofNat 0)) (SA.i (SI.c (Int.ofNat 0)) SA.nil)))))
            (SI.c (Int.ofNat 0)),
          SB.le
            (SI.len
              (SL.app 110
                (SA.l
                  (SL.app 110
                    (SA.l (SL.lit [])
                      (SA.i (SI.v 2)
                        (SA.i (SI.add (SI.v 0) (SI.c (Int.ofNat 1)))
                          (SA.i (SI.c (Int.ofNat 0)) (SA.i (SI.c (Int.ofNat 0)) SA.nil))))))
                  (SA.i (SI.v 2)
                    (SA.i (SI.add (SI.v 1) (SI.c (Int.ofNat 1)))
                      (SA.i (SI.c (Int.ofNat 0)) (SA.i (SI.c (Int.ofNat 0)) SA.nil)))))))
            (SI.add
              (SI.len
                (SL.app 110
                  (SA.l (SL.lit [])
                    (SA.i (SI.v 2)
                      (SA.i (SI.add (SI.v 0) (SI.c (Int.ofNat 1)))
                        (SA.i (SI.c (Int.ofNat 0)) (SA.i (SI.c (Int.ofNat 0)) SA.nil)))))))
              (SI.c (Int.ofNat 1))),
          SB.eq
            (SI.app 110
              (SA.i (SI.v 2)
                (SA.i (SI.add (SI.v 0) (SI.c (Int.ofNat 1)))
                  (SA.i (SI.c (Int.ofNat 0)) (SA.i (SI.c (Int.ofNat 0)) SA.nil)))))
            (SI.c (Int.ofNat 0)),
          SB.le
            (SI.len
              (SL.app 110
                (SA.l (SL.lit [])
                  (SA.i (SI.v 2)
                    (SA.i (SI.add (SI.v 0) (SI.c (Int.ofNat 1)))
                      (SA.i (SI.c (Int.ofNat 0)) (SA.i (SI.c (Int.ofNat 0)) SA.nil)))))))
            (SI.c (Int.ofNat 1)),
          SB.le (SI.c (Int.ofNat 0)) (SI.v 0), SB.le (SI.v 0) (SI.c (Int.ofNat 65535)),
          SB.le (SI.c (Int.ofNat 0)) (SI.v 1), SB.le (SI.v 1) (SI.c (Int.ofNat 65535)),
          SB.le (SI.c (Int.ofNat 0)) (SI.v 2), SB.le (SI.v 2) (SI.c (Int.ofNat 255))],
      eqs := [Eqn.T (SB.app 199 SA.nil)] },
    {
      pc :=
        [SB.lt (SI.c (Int.ofNat 0))
            (SI.len
              (SL.app 6
                (SA.l
                  (SL.app 125
                    (SA.l
                      (SL.app 125
                        (SA.l
                          (SL.app 110
                            (SA.l
                              (SL.app 110
                                (SA.l (SL.lit [])
                                  (SA.i (SI.v 2)
                                    (SA.i (SI.add (SI.v 0) (SI.c (Int.ofNat 1)))
                                      (SA.i (SI.c (Int.ofNat 0)) (SA.i (SI.c (Int.ofNat 0)) SA.nil))))))
                              (SA.i (SI.v 2)
                                (SA.i (SI.add (SI.v 1) (SI.c (Int.ofNat 1)))
                                  (SA.i (SI.c (Int.ofNat 0)) (SA.i (SI.c (Int.ofNat 0)) SA.nil))))))
                          (SA.i (SI.v 1) SA.nil)))
                      (SA.i (SI.add (SI.v 1) (SI.c (Int.ofNat 1))) SA.nil)))
                  (SA.i (SI.v 2) SA.nil)))),
          SB.eq
            (SI.sel
              (SL.app 124
                (SA.l
                  (SL.app 125
                    (SA.l
                      (SL.app 110
                        (SA.l
                          (SL.app 110
                            (SA.l (SL.lit [])
                              (SA.i (SI.v 2)
                                (SA.i (SI.add (SI.v 0) (SI.c (Int.ofNat 1)))
                                  (SA.i (SI.c (Int.ofNat 0)) (SA.i (SI.c (Int.ofNat 0)) SA.nil))))))
                          (SA.i (SI.v 2)
                            (SA.i (SI.add (SI.v 1) (SI.c (Int.ofNat 1)))
                              (SA.i (SI.c (Int.ofNat 0)) (SA.i (SI.c (Int.ofNat 0)) SA.nil))))))
                      (SA.i (SI.v 1) SA.nil)))
                  (SA.i (SI.add (SI.v 1) (SI.c (Int.ofNat 1))) SA.nil)))
              (SI.c (Int.ofNat 0)) 2)
            (SI.c (Int.ofNat 1)),
          SB.eq
            (SI.sel
              (SL.app 124
                (SA.l
                  (SL.app 125
                    (SA.l
                      (SL.app 110
                        (SA.l
                          (SL.app 110
                            (SA.l (SL.lit [])
                              (SA.i (SI.v 2)
                                (SA.i (SI.add (SI.v 0) (SI.c (Int.ofNat 1)))
                                  (SA.i (SI.c (Int.ofNat 0)) (SA.i (SI.c (Int.ofNat 0)) SA.nil))))))
                          (SA.i (SI.v 2)
                            (SA.i (SI.add (SI.v 1) (SI.c (Int.ofNat 1)))
                              (SA.i (SI.c (Int.ofNat 0)) (SA.i (SI.c (Int.ofNat 0)) SA.nil))))))
                      (SA.i (SI.v 1) SA.nil)))
                  (SA.i (SI.add (SI.v 1) (SI.c (Int.ofNat 1))) SA.nil)))
              (SI.c (Int.ofNat 0)) 1)
            (SI.add (SI.v 1) (SI.c (Int.ofNat 1))),
          SB.eq
            (SI.sel
              (SL.app 124
                (SA.l
                  (SL.app 125
                    (SA.l
                      (SL.app 110
                        (SA.l
                          (SL.app 110
                            (SA.l (SL.lit [])
                              (SA.i (SI.v 2)
                                (SA.i (SI.add (SI.v 0) (SI.c (Int.ofNat 1)))
                                  (SA.i (SI.c (Int.ofNat 0)) (SA.i (SI.c (Int.ofNat 0)) SA.nil))))))
                          (SA.i (SI.v 2)
                            (SA.i (SI.add (SI.v 1) (SI.c (Int.ofNat 1)))
                              (SA.i (SI.c (Int.ofNat 0)) (SA.i (SI.c (Int.ofNat 0)) SA.nil))))))
                      (SA.i (SI.v 1) SA.nil)))
                  (SA.i (SI.add (SI.v 1) (SI.c (Int.ofNat 1))) SA.nil)))
              (SI.c (Int.ofNat 0)) 0)
            (SI.v 2),
          SB.eq
            (SI.len
              (SL.app 124
                (SA.l
                  (SL.app 125
                    (SA.l
                      (SL.app 110
                        (SA.l
                          (SL.app 110
                            (SA.l (SL.lit [])
                              (SA.i (SI.v 2)
                                (SA.i (SI.add (SI.v 0) (SI.c (Int.ofNat 1)))
                                  (SA.i (SI.c (Int.ofNat 0)) (SA.i (SI.c (Int.ofNat 0)) SA.nil))))))
                          (SA.i (SI.v 2)
                            (SA.i (SI.add (SI.v 1) (SI.c (Int.ofNat 1)))
                              (SA.i (SI.c (Int.ofNat 0)) (SA.i (SI.c (Int.ofNat 0)) SA.nil))))))
                      (SA.i (SI.v 1) SA.nil)))
                  (SA.i (SI.add (SI.v 1) (SI.c (Int.ofNat 1))) SA.nil))))
            (SI.c (Int.ofNat 1)),
          SB.eq
            (SI.len
              (SL.app 124
                (SA.l
                  (SL.app 110
                    (SA.l
                      (SL.app 110
                        (SA.l (SL.lit [])
                          (SA.i (SI.v 2)
                            (SA.i (SI.add (SI.v 0) (SI.c (Int.ofNat 1)))
                              (SA.i (SI.c (Int.ofNat 0)) (SA.i (SI.c (Int.ofNat 0)) SA.nil))))))
                      (SA.i (SI.v 2)
                        (SA.i (SI.add (SI.v 1) (SI.c (Int.ofNat 1)))
                          (SA.i (SI.c (Int.ofNat 0)) (SA.i (SI.c (Int.ofNat 0)) SA.nil))))))
                  (SA.i (SI.v 1) SA.nil))))
            (SI.c (Int.ofNat 0)),
          SB.eq
            (SI.app 112
              (SA.l
                (SL.app 110
                  (SA.l
                    (SL.app 110
                      (SA.l (SL.lit [])
                        (SA.i (SI.v 2)
                          (SA.i (SI.add (SI.v 0) (SI.c (Int.ofNat 1)))
                            (SA.i (SI.c (Int.ofNat 0)) (SA.i (SI.c (Int.ofNat 0)) SA.nil))))))
                    (SA.i (SI.v 2)
                      (SA.i (SI.add (SI.v 1) (SI.c (Int.ofNat 1)))
                        (SA.i (SI.c (Int.ofNat 0)) (SA.i (SI.c (Int.ofNat 0)) SA.nil))))))
                SA.nil))
            (SI.add (SI.v 1) (SI.c (Int.ofNat 1))),
          SB.eq
            (SI.len
              (SL.app 125
                (SA.l
                  (SL.app 125
                    (SA.l
                      (SL.app 110
                        (SA.l
                          (SL.app 110
                            (SA.l (SL.lit [])
                              (SA.i (SI.v 2)
                                (SA.i (SI.add (SI.v 0) (SI.c (Int.ofNat 1)))
                                  (SA.i (SI.c (Int.ofNat 0)) (SA.i (SI.c (Int.ofNat 0)) SA.nil))))))
                          (SA.i (SI.v 2)
                            (SA.i (SI.add (SI.v 1) (SI.c (Int.ofNat 1)))
                              (SA.i (SI.c (Int.ofNat 0)) (SA.i (SI.c (Int.ofNat 0)) SA.nil))))))
                      (SA.i (SI.v 1) SA.nil)))
                  (SA.i (SI.add (SI.v 1) (SI.c (Int.ofNat 1))) SA.nil))))
            (SI.c (Int.ofNat 0)),
          SB.le
            (SI.len
              (SL.app 125
                (SA.l
                  (SL.app 125
                    (SA.l
                      (SL.app 110
                        (SA.l
                          (SL.app 110
                            (SA.l (SL.lit [])
                              (SA.i (SI.v 2)
                                (SA.i (SI.add (SI.v 0) (SI.c (Int.ofNat 1)))
                                  (SA.i (SI.c (Int.ofNat 0)) (SA.i (SI.c (Int.ofNat 0)) SA.nil))))))
                          (SA.i (SI.v 2)
                            (SA.i (SI.add (SI.v 1) (SI.c (Int.ofNat 1)))
                              (SA.i (SI.c (Int.ofNat 0)) (SA.i (SI.c (Int.ofNat 0)) SA.nil))))))
                      (SA.i (SI.v 1) SA.nil)))
                  (SA.i (SI.add (SI.v 1) (SI.c (Int.ofNat 1))) SA.nil))))
            (SI.len
              (SL.app 125
                (SA.l
                  (SL.app 110
                    (SA.l
                      (SL.app 110
                        (SA.l (SL.lit [])
                          (SA.i (SI.v 2)
                            (SA.i (SI.add (SI.v 0) (SI.c (Int.ofNat 1)))
                              (SA.i (SI.c (Int.ofNat 0)) (SA.i (SI.c (Int.ofNat 0)) SA.nil))))))
                      (SA.i (SI.v 2)
                        (SA.i (SI.add (SI.v 1) (SI.c (Int.ofNat 1)))
                          (SA.i (SI.c (Int.ofNat 0)) (SA.i (SI.c (Int.ofNat 0)) SA.nil))))))
                  (SA.i (SI.v 1) SA.nil)))),
          SB.lt
            (SI.len
              (SL.app 124
                (SA.l
                  (SL.app 125
                    (SA.l
                      (SL.app 110
                        (SA.l
                          (SL.app 110
                            (SA.l (SL.lit [])
                              (SA.i (SI.v 2)
                                (SA.i (SI.add (SI.v 0) (SI.c (Int.ofNat 1)))
                                  (SA.i (SI.c (Int.ofNat 0)) (SA.i (SI.c (Int.ofNat 0)) SA.nil))))))
                          (SA.i (SI.v 2)
                            (SA.i (SI.add (SI.v 1) (SI.c (Int.ofNat 1)))
                              (SA.i (SI.c (Int.ofNat 0)) (SA.i (SI.c (Int.ofNat 0)) SA.nil))))))
                      (SA.i (SI.v 1) SA.nil)))
                  (SA.i (SI.add (SI.v 1) (SI.c (Int.ofNat 1))) SA.nil))))
            (SI.c (Int.ofNat 80000)),
          SB.le
            (SI.len
              (SL.app 125
                (SA.l
                  (SL.app 110
                    (SA.l
                      (SL.app 110
                        (SA.l (SL.lit [])
                          (SA.i (SI.v 2)
                            (SA.i (SI.add (SI.v 0) (SI.c (Int.ofNat 1)))
                              (SA.i (SI.c (Int.ofNat 0)) (SA.i (SI.c (Int.ofNat 0)) SA.nil))))))
                      (SA.i (SI.v 2)
                        (SA.i (SI.add (SI.v 1) (SI.c (Int.ofNat 1)))
                          (SA.i (SI.c (Int.ofNat 0)) (SA.i (SI.c (Int.ofNat 0)) SA.nil))))))
                  (SA.i (SI.v 1) SA.nil))))
            (SI.len
              (SL.app 110
                (SA.l
                  (SL.app 110
                    (SA.l (SL.lit [])
                      (SA.i (SI.v 2)
                        (SA.i (SI.add (SI.v 0) (SI.c (Int.ofNat 1)))
                          (SA.i (SI.c (Int.ofNat 0)) (SA.i (SI.c (Int.ofNat 0)) SA.nil))))))
                  (SA.i (SI.v 2)
                    (SA.i (SI.add (SI.v 1) (SI.c (Int.ofNat 1)))
                      (SA.i (SI.c (Int.ofNat 0)) (SA.i (SI.c (Int.ofNat 0)) SA.nil))))))),
          SB.lt
            (SI.len
              (SL.app 124
                (SA.l
                  (SL.app 110
                    (SA.l
                      (SL.app 110
                        (SA.l (SL.lit [])
                          (SA.i (SI.v 2)
                            (SA.i (SI.add (SI.v 0) (SI.c (Int.ofNat 1)))
                              (SA.i (SI.c (Int.ofNat 0)) (SA.i (SI.c (Int.ofNat 0)) SA.nil))))))
                      (SA.i (SI.v 2)
                        (SA.i (SI.add (SI.v 1) (SI.c (Int.ofNat 1)))
                          (SA.i (SI.c (Int.ofNat 0)) (SA.i (SI.c (Int.ofNat 0)) SA.nil))))))
                  (SA.i (SI.v 1) SA.nil))))
            (SI.c (Int.ofNat 80000)),
          SB.not
            (SB.eq
              (SI.len
                (SL.app 110
                  (SA.l
                    (SL.app 110
                      (SA.l (SL.lit [])
                        (SA.i (SI.v 2)
                          (SA.i (SI.add (SI.v 0) (SI.c (Int.ofNat 1)))
                            (SA.i (SI.c (Int.ofNat 0)) (SA.i (SI.c (Int.ofNat 0)) SA.nil))))))
                    (SA.i (SI.v 2)
                      (SA.i (SI.add (SI.v 1) (SI.c (Int.ofNat 1)))
                        (SA.i (SI.c (Int.ofNat 0)) (SA.i (SI.c (Int.ofNat 0)) SA.nil)))))))
              (SI.c (Int.ofNat 0))),
          SB.eq
            (SI.app 110
              (SA.i (SI.v 2)
                (SA.i (SI.add (SI.v 1) (SI.c (Int.ofNat 1)))
                  (SA.i (SI.c (Int.ofNat 0)) (SA.i (SI.c (Int.ofNat 0)) SA.nil)))))
            (SI.c (Int.ofNat 0)),
          SB.le
            (SI.len
              (SL.app 110
                (SA.l
                  (SL.app 110
                    (SA.l (SL.lit [])
                      (SA.i (SI.v 2)
                        (SA.i (SI.add (SI.v 0) (SI.c (Int.ofNat 1)))
                          (SA.i (SI.c (Int.ofNat 0)) (SA.i (SI.c (Int.ofNat 0)) SA.nil))))))
                  (SA.i (SI.v 2)
                    (SA.i (SI.add (SI.v 1) (SI.c (Int.ofNat 1)))
                      (SA.i (SI.c (Int.ofNat 0)) (SA.i (SI.c (Int.ofNat 0)) SA.nil)))))))
            (SI.add
              (SI.len
                (SL.app 110
                  (SA.l (SL.lit [])
                    (SA.i (SI.v 2)
                      (SA.i (SI.add (SI.v 0) (SI.c (Int.ofNat 1)))
                        (SA.i (SI.c (Int.ofNat 0)) (SA.i (SI.c (Int.ofNat 0)) SA.nil)))))))
              (SI.c (Int.ofNat 1))),
          SB.eq
            (SI.app 110
              (SA.i (SI.v 2)
                (SA.i (SI.add (SI.v 0) (SI.c (Int.ofNat 1)))
                  (SA.i (SI.c (Int.ofNat 0)) (SA.i (SI.c (Int.ofNat 0)) SA.nil)))))
            (SI.c (Int.ofNat 0)),
          SB.le
            (SI.len
              (SL.app 110
                (SA.l (SL.lit [])
                  (SA.i (SI.v 2)
                    (SA.i (SI.add (SI.v 0) (SI.c (Int.ofNat 1)))
                      (SA.i (SI.c (Int.ofNat 0)) (SA.i (SI.c (Int.ofNat 0)) SA.nil)))))))
            (SI.c (Int.ofNat 1)),
          SB.le (SI.c (Int.ofNat 0)) (SI.v 0), SB.le (SI.v 0) (SI.c (Int.ofNat 65535)),
          SB.le (SI.c (Int.ofNat 0)) (SI.v 1), SB.le (SI.v 1) (SI.c (Int.ofNat 65535)),
          SB.le (SI.c (Int.ofNat 0)) (SI.v 2), SB.le (SI.v 2) (SI.c (Int.ofNat 255))],
      eqs := [Eqn.T (SB.app 199 SA.nil)] },
    {
      pc :=
        [SB.not
            (SB.eq
              (SI.sel
                (SL.app 124
                  (SA.l
                    (SL.app 125
                      (SA.l
                        (SL.app 110
                          (SA.l
                            (SL.app 110
                              (SA.l (SL.lit [])
                                (SA.i (SI.v 2)
                                  (SA.i (SI.add (SI.v 0) (SI.c (Int.ofNat 1)))
                                    (SA.i (SI.c (Int.ofNat 0)) (SA.i (SI.c (Int.ofNat 0)) SA.nil))))))
                            (SA.i (SI.v 2)
                              (SA.i (SI.add (SI.v 1) (SI.c (Int.ofNat 1)))
                                (SA.i (SI.c (Int.ofNat 0)) (SA.i (SI.c (Int.ofNat 0)) SA.nil))))))
                        (SA.i (SI.v 1) SA.nil)))
                    (SA.i (SI.add (SI.v 1) (SI.c (Int.ofNat 1))) SA.nil)))
                (SI.c (Int.ofNat 0)) 2)
              (SI.c (Int.ofNat 1))),
          SB.eq
            (SI.sel
              (SL.app 124
                (SA.l
                  (SL.app 125
                    (SA.l
                      (SL.app 110
                        (SA.l
                          (SL.app 110
                            (SA.l (SL.lit [])
                              (SA.i (SI.v 2)
                                (SA.i (SI.add (SI.v 0) (SI.c (Int.ofNat 1)))
                                  (SA.i (SI.c (Int.ofNat 0)) (SA.i (SI.c (Int.ofNat 0)) SA.nil))))))
                          (SA.i (SI.v 2)
                            (SA.i (SI.add (SI.v 1) (SI.c (Int.ofNat 1)))
                              (SA.i (SI.c (Int.ofNat 0)) (SA.i (SI.c (Int.ofNat 0)) SA.nil))))))
                      (SA.i (SI.v 1) SA.nil)))
                  (SA.i (SI.add (SI.v 1) (SI.c (Int.ofNat 1))) SA.nil)))
              (SI.c (Int.ofNat 0)) 1)
            (SI.add (SI.v 1) (SI.c (Int.ofNat 1))),
          SB.eq
            (SI.sel
              (SL.app 124
                (SA.l
                  (SL.app 125
                    (SA.l
                      (SL.app 110
                        (SA.l
                          (SL.app 110
                            (SA.l (SL.lit [])
                              (SA.i (SI.v 2)
                                (SA.i (SI.add (SI.v 0) (SI.c (Int.ofNat 1)))
                                  (SA.i (SI.c (Int.ofNat 0)) (SA.i (SI.c (Int.ofNat 0)) SA.nil))))))
                          (SA.i (SI.v 2)
                            (SA.i (SI.add (SI.v 1) (SI.c (Int.ofNat 1)))
                              (SA.i (SI.c (Int.ofNat 0)) (SA.i (SI.c (Int.ofNat 0)) SA.nil))))))
                      (SA.i (SI.v 1) SA.nil)))
                  (SA.i (SI.add (SI.v 1) (SI.c (Int.ofNat 1))) SA.nil)))
              (SI.c (Int.ofNat 0)) 0)
            (SI.v 2),
          SB.eq
            (SI.len
              (SL.app 124
                (SA.l
                  (SL.app 125
                    (SA.l
                      (SL.app 110
                        (SA.l
                          (SL.app 110
                            (SA.l (SL.lit [])
                              (SA.i (SI.v 2)
                                (SA.i (SI.add (SI.v 0) (SI.c (Int.ofNat 1)))
                                  (SA.i (SI.c (Int.ofNat 0)) (SA.i (SI.c (Int.ofNat 0)) SA.nil))))))
                          (SA.i (SI.v 2)
                            (SA.i (SI.add (SI.v 1) (SI.c (Int.ofNat 1)))
                              (SA.i (SI.c (Int.ofNat 0)) (SA.i (SI.c (Int.ofNat 0)) SA.nil))))))
                      (SA.i (SI.v 1) SA.nil)))
                  (SA.i (SI.add (SI.v 1) (SI.c (Int.ofNat 1))) SA.nil))))
            (SI.c (Int.ofNat 1)),
          SB.eq
            (SI.len
              (SL.app 124
                (SA.l
                  (SL.app 110
                    (SA.l
                      (SL.app 110
                        (SA.l (SL.lit [])
                          (SA.i (SI.v 2)
                            (SA.i (SI.add (SI.v 0) (SI.c (Int.ofNat 1)))
                              (SA.i (SI.c (Int.ofNat 0)) (SA.i (SI.c (Int.ofNat 0)) SA.nil))))))
                      (SA.i (SI.v 2)
                        (SA.i (SI.add (SI.v 1) (SI.c (Int.ofNat 1)))
                          (SA.i (SI.c (Int.ofNat 0)) (SA.i (SI.c (Int.ofNat 0)) SA.nil))))))
                  (SA.i (SI.v 1) SA.nil))))
            (SI.c (Int.ofNat 0)),
          SB.eq
            (SI.app 112
              (SA.l
                (SL.app 110
                  (SA.l
                    (SL.app 110
                      (SA.l (SL.lit [])
                        (SA.i (SI.v 2)
                          (SA.i (SI.add (SI.v 0) (SI.c (Int.ofNat 1)))
                            (SA.i (SI.c (Int.ofNat 0)) (SA.i (SI.c (Int.ofNat 0)) SA.nil))))))
                    (SA.i (SI.v 2)
                      (SA.i (SI.add (SI.v 1) (SI.c (Int.ofNat 1)))
                        (SA.i (SI.c (Int.ofNat 0)) (SA.i (SI.c (Int.ofNat 0)) SA.nil))))))
                SA.nil))
            (SI.add (SI.v 1) (SI.c (Int.ofNat 1))),
          SB.eq
            (SI.len
              (SL.app 125
                (SA.l
                  (SL.app 125
                    (SA.l
                      (SL.app 110
                        (SA.l
                          (SL.app 110
                            (SA.l (SL.lit [])
                              (SA.i (SI.v 2)
                                (SA.i (SI.add (SI.v 0) (SI.c (Int.ofNat 1)))
                                  (SA.i (SI.c (Int.ofNat 0)) (SA.i (SI.c (Int.ofNat 0)) SA.nil))))))
                          (SA.i (SI.v 2)
                            (SA.i (SI.add (SI.v 1) (SI.c (Int.ofNat 1)))
                              (SA.i (SI.c (Int.ofNat 0)) (SA.i (SI.c (Int.ofNat 0)) SA.nil))))))
                      (SA.i (SI.v 1) SA.nil)))
                  (SA.i (SI.add (SI.v 1) (SI.c (Int.ofNat 1))) SA.nil))))
            (SI.c (Int.ofNat 0)),
          SB.le
            (SI.len
              (SL.app 125
                (SA.l
                  (SL.app 125
                    (SA.l
                      (SL.app 110
                        (SA.l
                          (SL.app 110
                            (SA.l (SL.lit [])
                              (SA.i (SI.v 2)
                                (SA.i (SI.add (SI.v 0) (SI.c (Int.ofNat 1)))
                                  (SA.i (SI.c (Int.ofNat 0)) (SA.i (SI.c (Int.ofNat 0)) SA.nil))))))
                          (SA.i (SI.v 2)
                            (SA.i (SI.add (SI.v 1) (SI.c (Int.ofNat 1)))
                              (SA.i (SI.c (Int.ofNat 0)) (SA.i (SI.c (Int.ofNat 0)) SA.nil))))))
                      (SA.i (SI.v 1) SA.nil)))
                  (SA.i (SI.add (SI.v 1) (SI.c (Int.ofNat 1))) SA.nil))))
            (SI.len
              (SL.app 125
                (SA.l
                  (SL.app 110
                    (SA.l
                      (SL.app 110
                        (SA.l (SL.lit [])
                          (SA.i (SI.v 2)
                            (SA.i (SI.add (SI.v 0) (SI.c (Int.ofNat 1)))
                              (SA.i (SI.c (Int.ofNat 0)) (SA.i (SI.c (Int.ofNat 0)) SA.nil))))))
                      (SA.i (SI.v 2)
                        (SA.i (SI.add (SI.v 1) (SI.c (Int.ofNat 1)))
                          (SA.i (SI.c (Int.ofNat 0)) (SA.i (SI.c (Int.ofNat 0)) SA.nil))))))
                  (SA.i (SI.v 1) SA.nil)))),
          SB.lt
            (SI.len
              (SL.app 124
                (SA.l
                  (SL.app 125
                    (SA.l
                      (SL.app 110
                        (SA.l
                          (SL.app 110
                            (SA.l (SL.lit [])
                              (SA.i (SI.v 2)
                                (SA.i (SI.add (SI.v 0) (SI.c (Int.ofNat 1)))
                                  (SA.i (SI.c (Int.ofNat 0)) (SA.i (SI.c (Int.ofNat 0)) SA.nil))))))
                          (SA.i (SI.v 2)
                            (SA.i (SI.add (SI.v 1) (SI.c (Int.ofNat 1)))
                              (SA.i (SI.c (Int.ofNat 0)) (SA.i (SI.c (Int.ofNat 0)) SA.nil))))))
                      (SA.i (SI.v 1) SA.nil)))
                  (SA.i (SI.add (SI.v 1) (SI.c (Int.ofNat 1))) SA.nil))))
            (SI.c (Int.ofNat 80000)),
          SB.le
            (SI.len
              (SL.app 125
                (SA.l
                  (SL.app 110
                    (SA.l
                      (SL.app 110
                        (SA.l (SL.lit [])
                          (SA.i (SI.v 2)
                            (SA.i (SI.add (SI.v 0) (SI.c (Int.ofNat 1)))
                              (SA.i (SI.c (Int.ofNat 0)) (SA.i (SI.c (Int.ofNat 0)) SA.nil))))))
                      (SA.i (SI.v 2)
                        (SA.i (SI.add (SI.v 1) (SI.c (Int.ofNat 1)))
                          (SA.i (SI.c (Int.ofNat 0)) (SA.i (SI.c (Int.ofNat 0)) SA.nil))))))
                  (SA.i (SI.v 1) SA.nil))))
            (SI.len
              (SL.app 110
                (SA.l
                  (SL.app 110
                    (SA.l (SL.lit [])
                      (SA.i (SI.v 2)
                        (SA.i (SI.add (SI.v 0) (SI.c (Int.ofNat 1)))
                          (SA.i (SI.c (Int.ofNat 0)) (SA.i (SI.c (Int.ofNat 0)) SA.nil))))))
                  (SA.i (SI.v 2)
                    (SA.i (SI.add (SI.v 1) (SI.c (Int.ofNat 1)))
                      (SA.i (SI.c (Int.ofNat 0)) (SA.i (SI.c (Int.ofNat 0)) SA.nil))))))),
          SB.lt
            (SI.len
              (SL.app 124
                (SA.l
                  (SL.app 110
                    (SA.l
                      (SL.app 110
                        (SA.l (SL.lit [])
                          (SA.i (SI.v 2)
                            (SA.i (SI.add (SI.v 0) (SI.c (Int.ofNat 1)))
                              (SA.i (SI.c (Int.ofNat 0)) (SA.i (SI.c (Int.ofNat 0)) SA.nil))))))
                      (SA.i (SI.v 2)
                        (SA.i (SI.add (SI.v 1) (SI.c (Int.ofNat 1)))
                          (SA.i (SI.c (Int.ofNat 0)) (SA.i (SI.c (Int.ofNat 0)) SA.nil))))))
                  (SA.i (SI.v 1) SA.nil))))
            (SI.c (Int.ofNat 80000)),
          SB.not
            (SB.eq
              (SI.len
                (SL.app 110
                  (SA.l
                    (SL.app 110
                      (SA.l (SL.lit [])
                        (SA.i (SI.v 2)
                          (SA.i (SI.add (SI.v 0) (SI.c (Int.ofNat 1)))
                            (SA.i (SI.c (Int.ofNat 0)) (SA.i (SI.c (Int.ofNat 0)) SA.nil))))))
                    (SA.i (SI.v 2)
                      (SA.i (SI.add (SI.v 1) (SI.c (Int.ofNat 1)))
                        (SA.i (SI.c (Int.ofNat 0)) (SA.i (SI.c (Int.ofNat 0)) SA.nil)))))))
              (SI.c (Int.ofNat 0))),
          SB.eq
            (SI.app 110
              (SA.i (SI.v 2)
                (SA.i (SI.add (SI.v 1) (SI.c (Int.ofNat 1)))
                  (SA.i (SI.c (Int.ofNat 0)) (SA.i (SI.c (Int.ofNat 0)) SA.nil)))))
            (SI.c (Int.ofNat 0)),
          SB.le
            (SI.len
              (SL.app 110
                (SA.l
                  (SL.app 110
                    (SA.l (SL.lit [])
                      (SA.i (SI.v 2)
                        (SA.i (SI.add (SI.v 0) (SI.c (Int.ofNat 1)))
                          (SA.i (SI.c (Int.ofNat 0)) (SA.i (SI.c (Int.ofNat 0)) SA.nil))))))
                  (SA.i (SI.v 2)
                    (SA.i (SI.add (SI.v 1) (SI.c (Int.ofNat 1)))
                      (SA.i (SI.c (Int.ofNat 0)) (SA.i (SI.c (Int.ofNat 0)) SA.nil)))))))
            (SI.add
              (SI.len
                (SL.app 110
                  (SA.l (SL.lit [])
                    (SA.i (SI.v 2)
                      (SA.i (SI.add (SI.v 0) (SI.c (Int.ofNat 1)))
                        (SA.i (SI.c (Int.ofNat 0)) (SA.i (SI.c (Int.ofNat 0)) SA.nil)))))))
              (SI.c (Int.ofNat 1))),
          SB.eq
            (SI.app 110
              (SA.i (SI.v 2)
                (SA.i (SI.add (SI.v 0) (SI.c (Int.ofNat 1)))
                  (SA.i (SI.c (Int.ofNat 0)) (SA.i (SI.c (Int.ofNat 0)) SA.nil)))))
            (SI.c (Int.ofNat 0)),
          SB.le
            (SI.len
              (SL.app 110
                (SA.l (SL.lit [])
                  (SA.i (SI.v 2)
                    (SA.i (SI.add (SI.v 0) (SI.c (Int.ofNat 1)))
                      (SA.i (SI.c (Int.ofNat 0)) (SA.i (SI.c (Int.ofNat 0)) SA.nil)))))))
            (SI.c (Int.ofNat 1)),
          SB.le (SI.c (Int.ofNat 0)) (SI.v 0), SB.le (SI.v 0) (SI.c (Int.ofNat 65535)),
          SB.le (SI.c (Int.ofNat 0)) (SI.v 1), SB.le (SI.v 1) (SI.c (Int.ofNat 65535)),
          SB.le (SI.c (Int.ofNat 0)) (SI.v 2), SB.le (SI.v 2) (SI.c (Int.ofNat 255))],
      eqs := [Eqn.T (SB.app 199 SA.nil)] },
    {
      pc :=
        [SB.not
            (SB.eq
              (SI.sel
                (SL.app 124
                  (SA.l
                    (SL.app 125
                      (SA.l
                        (SL.app 110
                          (SA.l
                            (SL.app 110
                              (SA.l (SL.lit [])
                                (SA.i (SI.v 2)
                                  (SA.i (SI.add (SI.v 0) (SI.c (Int.ofNat 1)))
                                    (SA.i (SI.c (Int.ofNat 0)) (SA.i (SI.c (Int.ofNat 0)) SA.nil))))))
                            (SA.i (SI.v 2)
                              (SA.i (SI.add (SI.v 1) (SI.c (Int.ofNat 1)))
                                (SA.i (SI.c (Int.ofNat 0)) (SA.i (SI.c (Int.ofNat 0)) SA.nil))))))
                        (SA.i (SI.v 1) SA.nil)))
                    (SA.i (SI.add (SI.v 1) (SI.c (Int.ofNat 1))) SA.nil)))
                (SI.c (Int.ofNat 0)) 1)
              (SI.add (SI.v 1) (SI.c (Int.ofNat 1)))),
          SB.eq
            (SI.sel
              (SL.app 124
                (SA.l
                  (SL.app 125
                    (SA.l
                      (SL.app 110
                        (SA.l
                          (SL.app 110
                            (SA.l (SL.lit [])
                              (SA.i (SI.v 2)
                                (SA.i (SI.add (SI.v 0) (SI.c (Int.ofNat 1)))
                                  (SA.i (SI.c (Int.ofNat 0)) (SA.i (SI.c (Int.ofNat 0)) SA.nil))))))
                          (SA.i (SI.v 2)
                            (SA.i (SI.add (SI.v 1) (SI.c (Int.ofNat 1)))
                              (SA.i (SI.c (Int.ofNat 0)) (SA.i (SI.c (Int.ofNat 0)) SA.nil))))))
                      (SA.i (SI.v 1) SA.nil)))
                  (SA.i (SI.add (SI.v 1) (SI.c (Int.ofNat 1))) SA.nil)))
              (SI.c (Int.ofNat 0)) 0)
            (SI.v 2),
          SB.eq
            (SI.len
              (SL.app 124
                (SA.l
                  (SL.app 125
                    (SA.l
                      (SL.app 110
                        (SA.l
                          (SL.app 110
                            (SA.l (SL.lit [])
                              (SA.i (SI.v 2)
                                (SA.i (SI.add (SI.v 0) (SI.c (Int.ofNat 1)))
                                  (SA.i (SI.c (Int.ofNat 0)) (SA.i (SI.c (Int.ofNat 0)) SA.nil))))))
                          (SA.i (SI.v 2)
                            (SA.i (SI.add (SI.v 1) (SI.c (Int.ofNat 1)))
                              (SA.i (SI.c (Int.ofNat 0)) (SA.i (SI.c (Int.ofNat 0)) SA.nil))))))
                      (SA.i (SI.v 1) SA.nil)))
                  (SA.i (SI.add (SI.v 1) (SI.c (Int.ofNat 1))) SA.nil))))
            (SI.c (Int.ofNat 1)),
          SB.eq
            (SI.len
              (SL.app 124
                (SA.l
                  (SL.app 110
                    (SA.l
                      (SL.app 110
                        (SA.l (SL.lit [])
                          (SA.i (SI.v 2)
                            (SA.i (SI.add (SI.v 0) (SI.c (Int.ofNat 1)))
                              (SA.i (SI.c (Int.ofNat 0)) (SA.i (SI.c (Int.ofNat 0)) SA.nil))))))
                      (SA.i (SI.v 2)
                        (SA.i (SI.add (SI.v 1) (SI.c (Int.ofNat 1)))
                          (SA.i (SI.c (Int.ofNat 0)) (SA.i (SI.c (Int.ofNat 0)) SA.nil))))))
                  (SA.i (SI.v 1) SA.nil))))
            (SI.c (Int.ofNat 0)),
          SB.eq
            (SI.app 112
              (SA.l
                (SL.app 110
                  (SA.l
                    (SL.app 110
                      (SA.l (SL.lit [])
                        (SA.i (SI.v 2)
                          (SA.i (SI.add (SI.v 0) (SI.c (Int.ofNat 1)))
                            (SA.i (SI.c (Int.ofNat 0)) (SA.i (SI.c (Int.ofNat 0)) SA.nil))))))
                    (SA.i (SI.v 2)
                      (SA.i (SI.add (SI.v 1) (SI.c (Int.ofNat 1)))
                        (SA.i (SI.c (Int.ofNat 0)) (SA.i (SI.c (Int.ofNat 0)) SA.nil))))))
                SA.nil))
            (SI.add (SI.v 1) (SI.c (Int.ofNat 1))),
          SB.eq
            (SI.len
              (SL.app 125
                (SA.l
                  (SL.app 125
                    (SA.l
                      (SL.app 110
                        (SA.l
                          (SL.app 110
                            (SA.l (SL.lit [])
                              (SA.i (SI.v 2)
                                (SA.i (SI.add (SI.v 0) (SI.c (Int.ofNat 1)))
                                  (SA.i (SI.c (Int.ofNat 0)) (SA.i (SI.c (Int.ofNat 0)) SA.nil))))))
                          (SA.i (SI.v 2)
                            (SA.i (SI.add (SI.v 1) (SI.c (Int.ofNat 1)))
                              (SA.i (SI.c (Int.ofNat 0)) (SA.i (SI.c (Int.ofNat 0)) SA.nil))))))
                      (SA.i (SI.v 1) SA.nil)))
                  (SA.i (SI.add (SI.v 1) (SI.c (Int.ofNat 1))) SA.nil))))
            (SI.c (Int.ofNat 0)),
          SB.le
            (SI.len
              (SL.app 125
                (SA.l
                  (SL.app 125
                    (SA.l
                      (SL.app 110
                        (SA.l
                          (SL.app 110
                            (SA.l (SL.lit [])
                              (SA.i (SI.v 2)
                                (SA.i (SI.add (SI.v 0) (SI.c (Int.ofNat 1)))
                                  (SA.i (SI.c (Int.ofNat 0)) (SA.i (SI.c (Int.ofNat 0)) SA.nil))))))
                          (SA.i (SI.v 2)
                            (SA.i (SI.add (SI.v 1) (SI.c (Int.ofNat 1)))
                              (SA.i (SI.c (Int.ofNat 0)) (SA.i (SI.c (Int.ofNat 0)) SA.nil))))))
                      (SA.i (SI.v 1) SA.nil)))
                  (SA.i (SI.add (SI.v 1) (SI.c (Int.ofNat 1))) SA.nil))))
            (SI.len
              (SL.app 125
                (SA.l
                  (SL.app 110
                    (SA.l
                      (SL.app 110
                        (SA.l (SL.lit [])
                          (SA.i (SI.v 2)
                            (SA.i (SI.add (SI.v 0) (SI.c (Int.ofNat 1)))
                              (SA.i (SI.c (Int.ofNat 0)) (SA.i (SI.c (Int.ofNat 0)) SA.nil))))))
                      (SA.i (SI.v 2)
                        (SA.i (SI.add (SI.v 1) (SI.c (Int.ofNat 1)))
                          (SA.i (SI.c (Int.ofNat 0)) (SA.i (SI.c (Int.ofNat 0)) SA.nil))))))
                  (SA.i (SI.v 1) SA.nil)))),
          SB.lt
            (SI.len
              (SL.app 124
                (SA.l
                  (SL.app 125
                    (SA.l
                      (SL.app 110
                        (SA.l
                          (SL.app 110
                            (SA.l (SL.lit [])
                              (SA.i (SI.v 2)
                                (SA.i (SI.add (SI.v 0) (SI.c (Int.ofNat 1)))
                                  (SA.i (SI.c (Int.ofNat 0)) (SA.i (SI.c (Int.ofNat 0)) SA.nil))))))
                          (SA.i (SI.v 2)
                            (SA.i (SI.add (SI.v 1) (SI.c (Int.ofNat 1)))
                              (SA.i (SI.c (Int.ofNat 0)) (SA.i (SI.c (Int.ofNat 0)) SA.nil))))))
                      (SA.i (SI.v 1) SA.nil)))
                  (SA.i (SI.add (SI.v 1) (SI.c (Int.ofNat 1))) SA.nil))))
            (SI.c (Int.ofNat 80000)),
          SB.le
            (SI.len
              (SL.app 125
                (SA.l
                  (SL.app 110
                    (SA.l
                      (SL.app 110
                        (SA.l (SL.lit [])
                          (SA.i (SI.v 2)
                            (SA.i (SI.add (SI.v 0) (SI.c (Int.ofNat 1)))
                              (SA.i (SI.c (Int.ofNat 0)) (SA.i (SI.c (Int.ofNat 0)) SA.nil))))))
                      (SA.i (SI.v 2)
                        (SA.i (SI.add (SI.v 1) (SI.c (Int.ofNat 1)))
                          (SA.i (SI.c (Int.ofNat 0)) (SA.i (SI.c (Int.ofNat 0)) SA.nil))))))
                  (SA.i (SI.v 1) SA.nil))))
            (SI.len
              (SL.app 110
                (SA.l
                  (SL.app 110
                    (SA.l (SL.lit [])
                      (SA.i (SI.v 2)
                        (SA.i (SI.add (SI.v 0) (SI.c (Int.ofNat 1)))
                          (SA.i (SI.c (Int.ofNat 0)) (SA.i (SI.c (Int.ofNat 0)) SA.nil))))))
                  (SA.i (SI.v 2)
                    (SA.i (SI.add (SI.v 1) (SI.c (Int.ofNat 1)))
                      (SA.i (SI.c (Int.ofNat 0)) (SA.i (SI.c (Int.ofNat 0)) SA.nil))))))),
          SB.lt
            (SI.len
              (SL.app 124
                (SA.l
                  (SL.app 110
                    (SA.l
                      (SL.app 110
                        (SA.l (SL.lit [])
                          (SA.i (SI.v 2)
                            (SA.i (SI.add (SI.v 0) (SI.c (Int.ofNat 1)))
                              (SA.i (SI.c (Int.ofNat 0)) (SA.i (SI.c (Int.ofNat 0)) SA.nil))))))
                      (SA.i (SI.v 2)
                        (SA.i (SI.add (SI.v 1) (SI.c (Int.ofNat 1)))
                          (SA.i (SI.c (Int.ofNat 0)) (SA.i (SI.c (Int.ofNat 0)) SA.nil))))))
                  (SA.i (SI.v 1) SA.nil))))
            (SI.c (Int.ofNat 80000)),
          SB.not
            (SB.eq
              (SI.len
                (SL.app 110
                  (SA.l
                    (SL.app 110
                      (SA.l (SL.lit [])
                        (SA.i (SI.v 2)
                          (SA.i (SI.add (SI.v 0) (SI.c (Int.ofNat 1)))
                            (SA.i (SI.c (Int.ofNat 0)) (SA.i (SI.c (Int.ofNat 0)) SA.nil))))))
                    (SA.i (SI.v 2)
                      (SA.i (SI.add (SI.v 1) (SI.c (Int.ofNat 1)))
                        (SA.i (SI.c (Int.ofNat 0)) (SA.i (SI.c (Int.ofNat 0)) SA.nil)))))))
              (SI.c (Int.ofNat 0))),
          SB.eq
            (SI.app 110
              (SA.i (SI.v 2)
                (SA.i (SI.add (SI.v 1) (SI.c (Int.ofNat 1)))
                  (SA.i (SI.c (Int.ofNat 0)) (SA.i (SI.c (Int.ofNat 0)) SA.nil)))))
            (SI.c (Int.ofNat 0)),
          SB.le
            (SI.len
              (SL.app 110
                (SA.l
                  (SL.app 110
                    (SA.l (SL.lit [])
                      (SA.i (SI.v 2)
                        (SA.i (SI.add (SI.v 0) (SI.c (Int.ofNat 1)))
                          (SA.i (SI.c (Int.ofNat 0)) (SA.i (SI.c (Int.ofNat 0)) SA.nil))))))
                  (SA.i (SI.v 2)
                    (SA.i (SI.add (SI.v 1) (SI.c (Int.ofNat 1)))
                      (SA.i (SI.c (Int.ofNat 0)) (SA.i (SI.c (Int.ofNat 0)) SA.nil)))))))
            (SI.add
              (SI.len
                (SL.app 110
                  (SA.l (SL.lit [])
                    (SA.i (SI.v 2)
                      (SA.i (SI.add (SI.v 0) (SI.c (Int.ofNat 1)))
                        (SA.i (SI.c (Int.ofNat 0)) (SA.i (SI.c (Int.ofNat 0)) SA.nil)))))))
              (SI.c (Int.ofNat 1))),
          SB.eq
            (SI.app 110
              (SA.i (SI.v 2)
                (SA.i (SI.add (SI.v 0) (SI.c (Int.ofNat 1)))
                  (SA.i (SI.c (Int.ofNat 0)) (SA.i (SI.c (Int.ofNat 0)) SA.nil)))))
            (SI.c (Int.ofNat 0)),
          SB.le
            (SI.len
              (SL.app 110
                (SA.l (SL.lit [])
                  (SA.i (SI.v 2)
                    (SA.i (SI.add (SI.v 0) (SI.c (Int.ofNat 1)))
                      (SA.i (SI.c (Int.ofNat 0)) (SA.i (SI.c (Int.ofNat 0)) SA.nil)))))))
            (SI.c (Int.ofNat 1)),
          SB.le (SI.c (Int.ofNat 0)) (SI.v 0), SB.le (SI.v 0) (SI.c (Int.ofNat 65535)),
          SB.le (SI.c (Int.ofNat 0)) (SI.v 1), SB.le (SI.v 1) (SI.c (Int.ofNat 65535)),
          SB.le (SI.c (Int.ofNat 0)) (SI.v 2), SB.le (SI.v 2) (SI.c (Int.ofNat 255))],
      eqs := [Eqn.T (SB.app 199 SA.nil)] },
    {
      pc :=
        [SB.not
            (SB.eq
              (SI.sel
                (SL.app 124
                  (SA.l
                    (SL.app 125
                      (SA.l
                        (SL.app 110
                          (SA.l
                            (SL.app 110
                              (SA.l (SL.lit [])
                                (SA.i (SI.v 2)
                                  (SA.i (SI.add (SI.v 0) (SI.c (Int.ofNat 1)))
                                    (SA.i (SI.c (Int.ofNat 0)) (SA.i (SI.c (Int.ofNat 0)) SA.nil))))))
                            (SA.i (SI.v 2)
                              (SA.i (SI.add (SI.v 1) (SI.c (Int.ofNat 1)))
                                (SA.i (SI.c (Int.ofNat 0)) (SA.i (SI.c (Int.ofNat 0)) SA.nil))))))
                        (SA.i (SI.v 1) SA.nil)))
                    (SA.i (SI.add (SI.v 1) (SI.c (Int.ofNat 1))) SA.nil)))
                (SI.c (Int.ofNat 0)) 0)
              (SI.v 2)),
          SB.eq
            (SI.len
              (SL.app 124
                (SA.l
                  (SL.app 125
                    (SA.l
                      (SL.app 110
                        (SA.l
                          (SL.app 110
                            (SA.l (SL.lit [])
                              (SA.i (SI.v 2)
                                (SA.i (SI.add (SI.v 0) (SI.c (Int.ofNat 1)))
                                  (SA.i (SI.c (Int.ofNat 0)) (SA.i (SI.c (Int.ofNat 0)) SA.nil))))))
                          (SA.i (SI.v 2)
                            (SA.i (SI.add (SI.v 1) (SI.c (Int.ofNat 1)))
                              (SA.i (SI.c (Int.ofNat 0)) (SA.i (SI.c (Int.ofNat 0)) SA.nil))))))
                      (SA.i (SI.v 1) SA.nil)))
                  (SA.i (SI.add (SI.v 1) (SI.c (Int.ofNat 1))) SA.nil))))
            (SI.c (Int.ofNat 1)),
          SB.eq
            (SI.len
              (SL.app 124
                (SA.l
                  (SL.app 110
                    (SA.l
                      (SL.app 110
                        (SA.l (SL.lit [])
                          (SA.i (SI.v 2)
                            (SA.i (SI.add (SI.v 0) (SI.c (Int.ofNat 1)))
                              (SA.i (SI.c (Int.ofNat 0)) (SA.i (SI.c (Int.ofNat 0)) SA.nil))))))
                      (SA.i (SI.v 2)
                        (SA.i (SI.add (SI.v 1) (SI.c (Int.ofNat 1)))
                          (SA.i (SI.c (Int.ofNat 0)) (SA.i (SI.c (Int.ofNat 0)) SA.nil))))))
                  (SA.i (SI.v 1) SA.nil))))
            (SI.c (Int.ofNat 0)),
          SB.eq
            (SI.app 112
              (SA.l
                (SL.app 110
                  (SA.l
                    (SL.app 110
                      (SA.l (SL.lit [])
                        (SA.i (SI.v 2)
                          (SA.i (SI.add (SI.v 0) (SI.c (Int.ofNat 1)))
                            (SA.i (SI.c (Int.ofNat 0)) (SA.i (SI.c (Int.ofNat 0)) SA.nil))))))
                    (SA.i (SI.v 2)
                      (SA.i (SI.add (SI.v 1) (SI.c (Int.ofNat 1)))
                        (SA.i (SI.c (Int.ofNat 0)) (SA.i (SI.c (Int.ofNat 0)) SA.nil))))))
                SA.nil))
            (SI.add (SI.v 1) (SI.c (Int.ofNat 1))),
          SB.eq
            (SI.len
              (SL.app 125
                (SA.l
                  (SL.app 125
                    (SA.l
                      (SL.app 110
                        (SA.l
                          (SL.app 110
                            (SA.l (SL.lit [])
                              (SA.i (SI.v 2)
                                (SA.i (SI.add (SI.v 0) (SI.c (Int.ofNat 1)))
                                  (SA.i (SI.c (Int.ofNat 0)) (SA.i (SI.c (Int.ofNat 0)) SA.nil))))))
                          (SA.i (SI.v 2)
                            (SA.i (SI.add (SI.v 1) (SI.c (Int.ofNat 1)))
                              (SA.i (SI.c (Int.ofNat 0)) (SA.i (SI.c (Int.ofNat 0)) SA.nil))))))
                      (SA.i (SI.v 1) SA.nil)))
                  (SA.i (SI.add (SI.v 1) (SI.c (Int.ofNat 1))) SA.nil))))
            (SI.c (Int.ofNat 0)),
          SB.le
            (SI.len
              (SL.app 125
                (SA.l
                  (SL.app 125
                    (SA.l
                      (SL.app 110
                        (SA.l
                          (SL.app 110
                            (SA.l (SL.lit [])
                              (SA.i (SI.v 2)
                                (SA.i (SI.add (SI.v 0) (SI.c (Int.ofNat 1)))
                                  (SA.i (SI.c (Int.ofNat 0)) (SA.i (SI.c (Int.ofNat 0)) SA.nil))))))
                          (SA.i (SI.v 2)
                            (SA.i (SI.add (SI.v 1) (SI.c (Int.ofNat 1)))
                              (SA.i (SI.c (Int.ofNat 0)) (SA.i (SI.c (Int.ofNat 0)) SA.nil))))))
                      (SA.i (SI.v 1) SA.nil)))
                  (SA.i (SI.add (SI.v 1) (SI.c (Int.ofNat 1))) SA.nil))))
            (SI.len
              (SL.app 125
                (SA.l
                  (SL.app 110
                    (SA.l
                      (SL.app 110
                        (SA.l (SL.lit [])
                          (SA.i (SI.v 2)
                            (SA.i (SI.add (SI.v 0) (SI.c (Int.ofNat 1)))
                              (SA.i (SI.c (Int.ofNat 0)) (SA.i (SI.c (Int.ofNat 0)) SA.nil))))))
                      (SA.i (SI.v 2)
                        (SA.i (SI.add (SI.v 1) (SI.c (Int.ofNat 1)))
                          (SA.i (SI.c (Int.ofNat 0)) (SA.i (SI.c (Int.ofNat 0)) SA.nil))))))
                  (SA.i (SI.v 1) SA.nil)))),
          SB.lt
            (SI.len
              (SL.app 124
                (SA.l
                  (SL.app 125
                    (SA.l
                      (SL.app 110
                        (SA.l
                          (SL.app 110
                            (SA.l (SL.lit [])
                              (SA.i (SI.v 2)
                                (SA.i (SI.add (SI.v 0) (SI.c (Int.ofNat 1)))
                                  (SA.i (SI.c (Int.ofNat 0)) (SA.i (SI.c (Int.ofNat 0)) SA.nil))))))
                          (SA.i (SI.v 2)
                            (SA.i (SI.add (SI.v 1) (SI.c (Int.ofNat 1)))
                              (SA.i (SI.c (Int.ofNat 0)) (SA.i (SI.c (Int.ofNat 0)) SA.nil))))))
                      (SA.i (SI.v 1) SA.nil)))
                  (SA.i (SI.add (SI.v 1) (SI.c (Int.ofNat 1))) SA.nil))))
            (SI.c (Int.ofNat 80000)),
          SB.le
            (SI.len
              (SL.app 125
                (SA.l
                  (SL.app 110
                    (SA.l
                      (SL.app 110
                        (SA.l (SL.lit [])
                          (SA.i (SI.v 2)
                            (SA.i (SI.add (SI.v 0) (SI.c (Int.ofNat 1)))
                              (SA.i (SI.c (Int.ofNat 0)) (SA.i (SI.c (Int.ofNat 0)) SA.nil))))))
                      (SA.i (SI.v 2)
                        (SA.i (SI.add (SI.v 1) (SI.c (Int.ofNat 1)))
                          (SA.i (SI.c (Int.ofNat 0)) (SA.i (SI.c (Int.ofNat 0)) SA.nil))))))
                  (SA.i (SI.v 1) SA.nil))))
            (SI.len
              (SL.app 110
                (SA.l
                  (SL.app 110
                    (SA.l (SL.lit [])
                      (SA.i (SI.v 2)
                        (SA.i (SI.add (SI.v 0) (SI.c (Int.ofNat 1)))
                          (SA.i (SI.c (Int.ofNat 0)) (SA.i (SI.c (Int.ofNat 0)) SA.nil))))))
                  (SA.i (SI.v 2)
                    (SA.i (SI.add (SI.v 1) (SI.c (Int.ofNat 1)))
                      (SA.i (SI.c (Int.ofNat 0)) (SA.i (SI.c (Int.ofNat 0)) SA.nil))))))),
          SB.lt
            (SI.len
              (SL.app 124
                (SA.l
                  (SL.app 110
                    (SA.l
                      (SL.app 110
                        (SA.l (SL.lit [])
                          (SA.i (SI.v 2)
                            (SA.i (SI.add (SI.v 0) (SI.c (Int.ofNat 1)))
                              (SA.i (SI.c (Int.ofNat 0)) (SA.i (SI.c (Int.ofNat 0)) SA.nil))))))
                      (SA.i (SI.v 2)
                        (SA.i (SI.add (SI.v 1) (SI.c (Int.ofNat 1)))
                          (SA.i (SI.c (Int.ofNat 0)) (SA.i (SI.c (Int.ofNat 0)) SA.nil))))))
                  (SA.i (SI.v 1) SA.nil))))
            (SI.c (Int.ofNat 80000)),
          SB.not
            (SB.eq
              (SI.len
                (SL.app 110
                  (SA.l
                    (SL.app 110
                      (SA.l (SL.lit [])
                        (SA.i (SI.v 2)
                          (SA.i (SI.add (SI.v 0) (SI.c (Int.ofNat 1)))
                            (SA.i (SI.c (Int.ofNat 0)) (SA.i (SI.c (Int.ofNat 0)) SA.nil))))))
                    (SA.i (SI.v 2)
                      (SA.i (SI.add (SI.v 1) (SI.c (Int.ofNat 1)))
                        (SA.i (SI.c (Int.ofNat 0)) (SA.i (SI.c (Int.ofNat 0)) SA.nil)))))))
              (SI.c (Int.ofNat 0))),
          SB.eq
            (SI.app 110
              (SA.i (SI.v 2)
                (SA.i (SI.add (SI.v 1) (SI.c (Int.ofNat 1)))
                  (SA.i (SI.c (Int.ofNat 0)) (SA.i (SI.c (Int.ofNat 0)) SA.nil)))))
            (SI.c (Int.ofNat 0)),
          SB.le
            (SI.len
              (SL.app 110
                (SA.l
                  (SL.app 110
                    (SA.l (SL.lit [])
                      (SA.i (SI.v 2)
                        (SA.i (SI.add (SI.v 0) (SI.c (Int.ofNat 1)))
                          (SA.i (SI.c (Int.ofNat 0)) (SA.i (SI.c (Int.ofNat 0)) SA.nil))))))
                  (SA.i (SI.v 2)
                    (SA.i (SI.add (SI.v 1) (SI.c (Int.ofNat 1)))
                      (SA.i (SI.c (Int.ofNat 0)) (SA.i (SI.c (Int.ofNat 0)) SA.nil)))))))
            (SI.add
              (SI.len
                (SL.app 110
                  (SA.l (SL.lit [])
                    (SA.i (SI.v 2)
                      (SA.i (SI.add (SI.v 0) (SI.c (Int.ofNat 1)))
                        (SA.i (SI.c (Int.ofNat 0)) (SA.i (SI.c (Int.ofNat 0)) SA.nil)))))))
              (SI.c (Int.ofNat 1))),
          SB.eq
            (SI.app 110
              (SA.i (SI.v 2)
                (SA.i (SI.add (SI.v 0) (SI.c (Int.ofNat 1)))
                  (SA.i (SI.c (Int.ofNat 0)) (SA.i (SI.c (Int.ofNat 0)) SA.nil)))))
            (SI.c (Int.ofNat 0)),
          SB.le
            (SI.len
              (SL.app 110
                (SA.l (SL.lit [])
                  (SA.i (SI.v 2)
                    (SA.i (SI.add (SI.v 0) (SI.c (Int.ofNat 1)))
                      (SA.i (SI.c (Int.ofNat 0)) (SA.i (SI.c (Int.ofNat 0)) SA.nil)))))))
            (SI.c (Int.ofNat 1)),
          SB.le (SI.c (Int.ofNat 0)) (SI.v 0), SB.le (SI.v 0) (SI.c (Int.ofNat 65535)),
          SB.le (SI.c (Int.ofNat 0)) (SI.v 1), SB.le (SI.v 1) (SI.c (Int.ofNat 65535)),
          SB.le (SI.c (Int.ofNat 0)) (SI.v 2), SB.le (SI.v 2) (SI.c (Int.ofNat 255))],
      eqs := [Eqn.T (SB.app 199 SA.nil)] },
    {
      pc :=
        [SB.not
            (SB.eq
              (SI.len
                (SL.app 124
                  (SA.l
                    (SL.app 125
                      (SA.l
                        (SL.app 110
                          (SA.l
                            (SL.app 110
                              (SA.l (SL.lit [])
                                (SA.i (SI.v 2)
                                  (SA.i (SI.add (SI.v 0) (SI.c (Int.ofNat 1)))
                                    (SA.i (SI.c (Int.ofNat 0)) (SA.i (SI.c (Int.ofNat 0)) SA.nil))))))
                            (SA.i (SI.v 2)
                              (SA.i (SI.add (SI.v 1) (SI.c (Int.ofNat 1)))
                                (SA.i (SI.c (Int.ofNat 0)) (SA.i (SI.c (Int.ofNat 0)) SA.nil))))))
                        (SA.i (SI.v 1) SA.nil)))
                    (SA.i (SI.add (SI.v 1) (SI.c (Int.ofNat 1))) SA.nil))))
              (SI.c (Int.ofNat 1))),
          SB.eq
            (SI.len
              (SL.app 124
                (SA.l
                  (SL.app 110
                    (SA.l
                      (SL.app 110
                        (SA.l (SL.lit [])
                          (SA.i (SI.v 2)
                            (SA.i (SI.add (SI.v 0) (SI.c (Int.ofNat 1)))
                              (SA.i (SI.c (Int.ofNat 0)) (SA.i (SI.c (Int.ofNat 0)) SA.nil))))))
                      (SA.i (SI.v 2)
                        (SA.i (SI.add (SI.v 1) (SI.c (Int.ofNat 1)))
                          (SA.i (SI.c (Int.ofNat 0)) (SA.i (SI.c (Int.ofNat 0)) SA.nil))))))
                  (SA.i (SI.v 1) SA.nil))))
            (SI.c (Int.ofNat 0)),
          SB.eq
            (SI.app 112
              (SA.l
                (SL.app 110
                  (SA.l
                    (SL.app 110
                      (SA.l (SL.lit [])
                        (SA.i (SI.v 2)
                          (SA.i (SI.add (SI.v 0) (SI.c (Int.ofNat 1)))
                            (SA.i (SI.c (Int.ofNat 0)) (SA.i (SI.c (Int.ofNat 0)) SA.nil))))))
                    (SA.i (SI.v 2)
                      (SA.i (SI.add (SI.v 1) (SI.c (Int.ofNat 1)))
                        (SA.i (SI.c (Int.ofNat 0)) (SA.i (SI.c (Int.ofNat 0)) SA.nil))))))
                SA.nil))
            (SI.add (SI.v 1) (SI.c (Int.ofNat 1))),
          SB.eq
            (SI.len
              (SL.app 125
                (SA.l
                  (SL.app 125
                    (SA.l
                      (SL.app 110
                        (SA.l
                          (SL.app 110
                            (SA.l (SL.lit [])
                              (SA.i (SI.v 2)
                                (SA.i (SI.add (SI.v 0) (SI.c (Int.ofNat 1)))
                                  (SA.i (SI.c (Int.ofNat 0)) (SA.i (SI.c (Int.ofNat 0)) SA.nil))))))
                          (SA.i (SI.v 2)
                            (SA.i (SI.add (SI.v 1) (SI.c (Int.ofNat 1)))
                              (SA.i (SI.c (Int.ofNat 0)) (SA.i (SI.c (Int.ofNat 0)) SA.nil))))))
                      (SA.i (SI.v 1) SA.nil)))
                  (SA.i (SI.add (SI.v 1) (SI.c (Int.ofNat 1))) SA.nil))))
            (SI.c (Int.ofNat 0)),
          SB.le
            (SI.len
              (SL.app 125
                (SA.l
                  (SL.app 125
                    (SA.l
                      (SL.app 110
                        (SA.l
                          (SL.app 110
                            (SA.l (SL.lit [])
                              (SA.i (SI.v 2)
                                (SA.i (SI.add (SI.v 0) (SI.c (Int.ofNat 1)))
                                  (SA.i (SI.c (Int.ofNat 0)) (SA.i (SI.c (Int.ofNat 0)) SA.nil))))))
                          (SA.i (SI.v 2)
                            (SA.i (SI.add (SI.v 1) (SI.c (Int.ofNat 1)))
                              (SA.i (SI.c (Int.ofNat 0)) (SA.i (SI.c (Int.ofNat 0)) SA.nil))))))
                      (SA.i (SI.v 1) SA.nil)))
                  (SA.i (SI.add (SI.v 1) (SI.c (Int.ofNat 1))) SA.nil))))
            (SI.len
              (SL.app 125
                (SA.l
                  (SL.app 110
                    (SA.l
                      (SL.app 110
                        (SA.l (SL.lit [])
                          (SA.i (SI.v 2)
                            (SA.i (SI.add (SI.v 0) (SI.c (Int.ofNat 1)))
                              (SA.i (SI.c (Int.ofNat 0)) (SA.i (SI.c (Int.ofNat 0)) SA.nil))))))
                      (SA.i (SI.v 2)
                        (SA.i (SI.add (SI.v 1) (SI.c (Int.ofNat 1)))
                          (SA.i (SI.c (Int.ofNat 0)) (SA.i (SI.c (Int.ofNat 0)) SA.nil))))))
                  (SA.i (SI.v 1) SA.nil)))),
          SB.lt
            (SI.len
              (SL.app 124
                (SA.l
                  (SL.app 125
                    (SA.l
                      (SL.app 110
                        (SA.l
                          (SL.app 110
                            (SA.l (SL.lit [])
                              (SA.i (SI.v 2)
                                (SA.i (SI.add (SI.v 0) (SI.c (Int.ofNat 1)))
                                  (SA.i (SI.c (Int.ofNat 0)) (SA.i (SI.c (Int.ofNat 0)) SA.nil))))))
                          (SA.i (SI.v 2)
                            (SA.i (SI.add (SI.v 1) (SI.c (Int.ofNat 1)))
                              (SA.i (SI.c (Int.ofNat 0)) (SA.i (SI.c (Int.ofNat 0)) SA.nil))))))
                      (SA.i (SI.v 1) SA.nil)))
                  (SA.i (SI.add (SI.v 1) (SI.c (Int.ofNat 1))) SA.nil))))
            (SI.c (Int.ofNat 80000)),
          SB.le
            (SI.len
              (SL.app 125
                (SA.l
                  (SL.app 110
                    (SA.l
                      (SL.app 110
                        (SA.l (SL.lit [])
                          (SA.i (SI.v 2)
                            (SA.i (SI.add (SI.v 0) (SI.c (Int.ofNat 1)))
                              (SA.i (SI.c (Int.ofNat 0)) (SA.i (SI.c (Int.ofNat 0)) SA.nil))))))
                      (SA.i (SI.v 2)
                        (SA.i (SI.add (SI.v 1) (SI.c (Int.ofNat 1)))
                          (SA.i (SI.c (Int.ofNat 0)) (SA.i (SI.c (Int.ofNat 0)) SA.nil))))))
                  (SA.i (SI.v 1) SA.nil))))
            (SI.len
              (SL.app 110
                (SA.l
                  (SL.app 110
                    (SA.l (SL.lit [])
                      (SA.i (SI.v 2)
                        (SA.i (SI.add (SI.v 0) (SI.c (Int.ofNat 1)))
                          (SA.i (SI.c (Int.ofNat 0)) (SA.i (SI.c (Int.ofNat 0)) SA.nil))))))
                  (SA.i (SI.v 2)
                    (SA.i (SI.add (SI.v 1) (SI.c (Int.ofNat 1)))
                      (SA.i (SI.c (Int.ofNat 0)) (SA.i (SI.c (Int.ofNat 0)) SA.nil))))))),
          SB.lt
            (SI.len
              (SL.app 124
                (SA.l
                  (SL.app 110
                    (SA.l
                      (SL.app 110
                        (SA.l (SL.lit [])
                          (SA.i (SI.v 2)
                            (SA.i (SI.add (SI.v 0) (SI.c (Int.ofNat 1)))
                              (SA.i (SI.c (Int.ofNat 0)) (SA.i (SI.c (Int.ofNat 0)) SA.nil))))))
                      (SA.i (SI.v 2)
                        (SA.i (SI.add (SI.v 1) (SI.c (Int.ofNat 1)))
                          (SA.i (SI.c (Int.ofNat 0)) (SA.i (SI.c (Int.ofNat 0)) SA.nil))))))
                  (SA.i (SI.v 1) SA.nil))))
            (SI.c (Int.ofNat 80000)),
          SB.not
            (SB.eq
              (SI.len
                (SL.app 110
                  (SA.l
                    (SL.app 110
                      (SA.l (SL.lit [])
                        (SA.i (SI.v 2)
                          (SA.i (SI.add (SI.v 0) (SI.c (Int.ofNat 1)))
                            (SA.i (SI.c (Int.ofNat 0)) (SA.i (SI.c (Int.ofNat 0)) SA.nil))))))
                    (SA.i (SI.v 2)
                      (SA.i (SI.add (SI.v 1) (SI.c (Int.ofNat 1)))
                        (SA.i (SI.c (Int.ofNat 0)) (SA.i (SI.c (Int.ofNat 0)) SA.nil)))))))
              (SI.c (Int.ofNat 0))),
          SB.eq
            (SI.app 110
              (SA.i (SI.v 2)
                (SA.i (SI.add (SI.v 1) (SI.c (Int.ofNat 1)))
                  (SA.i (SI.c (Int.ofNat 0)) (SA.i (SI.c (Int.ofNat 0)) SA.nil)))))
            (SI.c (Int.ofNat 0)),
          SB.le
            (SI.len
              (SL.app 110
                (SA.l
                  (SL.app 110
                    (SA.l (SL.lit [])
                      (SA.i (SI.v 2)
                        (SA.i (SI.add (SI.v 0) (SI.c (Int.ofNat 1)))
                          (SA.i (SI.c (Int.ofNat 0)) (SA.i (SI.c (Int.ofNat 0)) SA.nil))))))
                  (SA.i (SI.v 2)
                    (SA.i (SI.add (SI.v 1) (SI.c (Int.ofNat 1)))
                      (SA.i (SI.c (Int.ofNat 0)) (SA.i (SI.c (Int.ofNat 0)) SA.nil)))))))
            (SI.add
              (SI.len
                (SL.app 110
                  (SA.l (SL.lit [])
                    (SA.i (SI.v 2)
                      (SA.i (SI.add (SI.v 0) (SI.c (Int.ofNat 1)))
                        (SA.i (SI.c (Int.ofNat 0)) (SA.i (SI.c (Int.ofNat 0)) SA.nil)))))))
              (SI.c (Int.ofNat 1))),
          SB.eq
            (SI.app 110
              (SA.i (SI.v 2)
                (SA.i (SI.add (SI.v 0) (SI.c (Int.ofNat 1)))
                  (SA.i (SI.c (Int.ofNat 0)) (SA.i (SI.c (Int.ofNat 0)) SA.nil)))))
            (SI.c (Int.ofNat 0)),
          SB.le
            (SI.len
              (SL.app 110
                (SA.l (SL.lit [])
                  (SA.i (SI.v 2)
                    (SA.i (SI.add (SI.v 0) (SI.c (Int.ofNat 1)))
                      (SA.i (SI.c (Int.ofNat 0)) (SA.i (SI.c (Int.ofNat 0)) SA.nil)))))))
            (SI.c (Int.ofNat 1)),
          SB.le (SI.c (Int.ofNat 0)) (SI.v 0), SB.le (SI.v 0) (SI.c (Int.ofNat 65535)),
          SB.le (SI.c (Int.ofNat 0)) (SI.v 1), SB.le (SI.v 1) (SI.c (Int.ofNat 65535)),
          SB.le (SI.c (Int.ofNat 0)) (SI.v 2), SB.le (SI.v 2) (SI.c (Int.ofNat 255))],
      eqs := [Eqn.T (SB.app 199 SA.nil)] },
    {
      pc :=
        [SB.not
            (SB.eq
              (SI.len
                (SL.app 124
                  (SA.l
                    (SL.app 110
                      (SA.l
                        (SL.app 110
                          (SA.l (SL.lit [])
                            (SA.i (SI.v 2)
                              (SA.i (SI.add (SI.v 0) (SI.c (Int.ofNat 1)))
                                (SA.i (SI.c (Int.ofNat 0)) (SA.i (SI.c (Int.ofNat 0)) SA.nil))))))
                        (SA.i (SI.v 2)
                          (SA.i (SI.add (SI.v 1) (SI.c (Int.ofNat 1)))
                            (SA.i (SI.c (Int.ofNat 0)) (SA.i (SI.c (Int.ofNat 0)) SA.nil))))))
                    (SA.i (SI.v 1) SA.nil))))
              (SI.c (Int.ofNat 0))),
          SB.eq
            (SI.app 112
              (SA.l
                (SL.app 110
                  (SA.l
                    (SL.app 110
                      (SA.l (SL.lit [])
                        (SA.i (SI.v 2)
                          (SA.i (SI.add (SI.v 0) (SI.c (Int.ofNat 1)))
                            (SA.i (SI.c (Int.ofNat 0)) (SA.i (SI.c (Int.ofNat 0)) SA.nil))))))
                    (SA.i (SI.v 2)
                      (SA.i (SI.add (SI.v 1) (SI.c (Int.ofNat 1)))
                        (SA.i (SI.c (Int.ofNat 0)) (SA.i (SI.c (Int.ofNat 0)) SA.nil))))))
                SA.nil))
            (SI.add (SI.v 1) (SI.c (Int.ofNat 1))),
          SB.eq
            (SI.len
              (SL.app 125
                (SA.l
                  (SL.app 125
                    (SA.l
                      (SL.app 110
                        (SA.l
                          (SL.app 110
                            (SA.l (SL.lit [])
                              (SA.i (SI.v 2)
                                (SA.i (SI.add (SI.v 0) (SI.c (Int.ofNat 1)))
                                  (SA.i (SI.c (Int.ofNat 0)) (SA.i (SI.c (Int.ofNat 0)) SA.nil))))))
                          (SA.i (SI.v 2)
                            (SA.i (SI.add (SI.v 1) (SI.c (Int.ofNat 1)))
                              (SA.i (SI.c (Int.ofNat 0)) (SA.i (SI.c (Int.ofNat 0)) SA.nil))))))
                      (SA.i (SI.v 1) SA.nil)))
                  (SA.i (SI.add (SI.v 1) (SI.c (Int.ofNat 1))) SA.nil))))
            (SI.c (Int.ofNat 0)),
          SB.le
            (SI.len
              (SL.app 125
                (SA.l
                  (SL.app 125
                    (SA.l
                      (SL.app 110
                        (SA.l
                          (SL.app 110
                            (SA.l (SL.lit [])
                              (SA.i (SI.v 2)
                                (SA.i (SI.add (SI.v 0) (SI.c (Int.ofNat 1)))
                                  (SA.i (SI.c (Int.ofNat 0)) (SA.i (SI.c (Int.ofNat 0)) SA.nil))))))
                          (SA.i (SI.v 2)
                            (SA.i (SI.add (SI.v 1) (SI.c (Int.ofNat 1)))
                              (SA.i (SI.c (Int.ofNat 0)) (SA.i (SI.c (Int.ofNat 0)) SA.nil))))))
                      (SA.i (SI.v 1) SA.nil)))
                  (SA.i (SI.add (SI.v 1) (SI.c (Int.ofNat 1))) SA.nil))))
            (SI.len
              (SL.app 125
                (SA.l
                  (SL.app 110
                    (SA.l
                      (SL.app 110
                        (SA.l (SL.lit [])
                          (SA.i (SI.v 2)
                            (SA.i (SI.add (SI.v 0) (SI.c (Int.ofNat 1)))
                              (SA.i (SI.c (Int.ofNat 0)) (SA.i (SI.c (Int.ofNat 0)) SA.nil))))))
                      (SA.i (SI.v 2)
                        (SA.i (SI.add (SI.v 1) (SI.c (Int.ofNat 1)))
                          (SA.i (SI.c (Int.ofNat 0)) (SA.i (SI.c (Int.ofNat 0)) SA.nil))))))
                  (SA.i (SI.v 1) SA.nil)))),
          SB.lt
            (SI.len
              (SL.app 124
                (SA.l
                  (SL.app 125
                    (SA.l
                      (SL.app 110
                        (SA.l
                          (SL.app 110
                            (SA.l (SL.lit [])
                              (SA.i (SI.v 2)
                                (SA.i (SI.add (SI.v 0) (SI.c (Int.ofNat 1)))
                                  (SA.i (SI.c (Int.ofNat 0)) (SA.i (SI.c (Int.ofNat 0)) SA.nil))))))
                          (SA.i (SI.v 2)
                            (SA.i (SI.add (SI.v 1) (SI.c (Int.ofNat 1)))
                              (SA.i (SI.c (Int.ofNat 0)) (SA.i (SI.c (Int.ofNat 0)) SA.nil))))))
                      (SA.i (SI.v 1) SA.nil)))
                  (SA.i (SI.add (SI.v 1) (SI.c (Int.ofNat 1))) SA.nil))))
            (SI.c (Int.ofNat 80000)),
          SB.le
            (SI.len
              (SL.app 125
                (SA.l
                  (SL.app 110
                    (SA.l
                      (SL.app 110
                        (SA.l (SL.lit [])
                          (SA.i (SI.v 2)
                            (SA.i (SI.add (SI.v 0) (SI.c (Int.ofNat 1)))
                              (SA.i (SI.c (Int.ofNat 0)) (SA.i (SI.c (Int.ofNat 0)) SA.nil))))))
                      (SA.i (SI.v 2)
                        (SA.i (SI.add (SI.v 1) (SI.c (Int.ofNat 1)))
                          (SA.i (SI.c (Int.ofNat 0)) (SA.i (SI.c (Int.ofNat 0)) SA.nil))))))
                  (SA.i (SI.v 1) SA.nil))))
            (SI.len
              (SL.app 110
                (SA.l
                  (SL.app 110
                    (SA.l (SL.lit [])
                      (SA.i (SI.v 2)
                        (SA.i (SI.add (SI.v 0) (SI.c (Int.ofNat 1)))
                          (SA.i (SI.c (Int.ofNat 0)) (SA.i (SI.c (Int.ofNat 0)) SA.nil))))))
                  (SA.i (SI.v 2)
                    (SA.i (SI.add (SI.v 1) (SI.c (Int.ofNat 1)))
                      (SA.i (SI.c (Int.ofNat 0)) (SA.i (SI.c (Int.ofNat 0)) SA.nil))))))),
          SB.lt
            (SI.len
              (SL.app 124
                (SA.l
                  (SL.app 110
                    (SA.l
                      (SL.app 110
                        (SA.l (SL.lit [])
                          (SA.i (SI.v 2)
                            (SA.i (SI.add (SI.v 0) (SI.c (Int.ofNat 1)))
                              (SA.i (SI.c (Int.ofNat 0)) (SA.i (SI.c (Int.ofNat 0)) SA.nil))))))
                      (SA.i (SI.v 2)
                        (SA.i (SI.add (SI.v 1) (SI.c (Int.ofNat 1)))
                          (SA.i (SI.c (Int.ofNat 0)) (SA.i (SI.c (Int.ofNat 0)) SA.nil))))))
                  (SA.i (SI.v 1) SA.nil))))
            (SI.c (Int.ofNat 80000)),
          SB.not
            (SB.eq
              (SI.len
                (SL.app 110
                  (SA.l
                    (SL.app 110
                      (SA.l (SL.lit [])
                        (SA.i (SI.v 2)
                          (SA.i (SI.add (SI.v 0) (SI.c (Int.ofNat 1)))
                            (SA.i (SI.c (Int.ofNat 0)) (SA.i (SI.c (Int.ofNat 0)) SA.nil))))))
                    (SA.i (SI.v 2)
                      (SA.i (SI.add (SI.v 1) (SI.c (Int.ofNat 1)))
                        (SA.i (SI.c (Int.ofNat 0)) (SA.i (SI.c (Int.ofNat 0)) SA.nil)))))))
              (SI.c (Int.ofNat 0))),
          SB.eq
            (SI.app 110
              (SA.i (SI.v 2)
                (SA.i (SI.add (SI.v 1) (SI.c (Int.ofNat 1)))
                  (SA.i (SI.c (Int.ofNat 0)) (SA.i (SI.c (Int.ofNat 0)) SA.nil)))))
            (SI.c (Int.ofNat 0)),
          SB.le
            (SI.len
              (SL.app 110
                (SA.l
                  (SL.app 110
                    (SA.l (SL.lit [])
                      (SA.i (SI.v 2)
                        (SA.i (SI.add (SI.v 0) (SI.c (Int.ofNat 1)))
                          (SA.i (SI.c (Int.ofNat 0)) (SA.i (SI.c (Int.ofNat 0)) SA.nil))))))
                  (SA.i (SI.v 2)
                    (SA.i (SI.add (SI.v 1) (SI.c (Int.ofNat 1)))
                      (SA.i (SI.c (Int.ofNat 0)) (SA.i (SI.c (Int.ofNat 0)) SA.nil)))))))
            (SI.add
              (SI.len
                (SL.app 110
                  (SA.l (SL.lit [])
                    (SA.i (SI.v 2)
                      (SA.i (SI.add (SI.v 0) (SI.c (Int.ofNat 1)))
                        (SA.i (SI.c (Int.ofNat 0)) (SA.i (SI.c (Int.ofNat 0)) SA.nil)))))))
              (SI.c (Int.ofNat 1))),
          SB.eq
            (SI.app 110
              (SA.i (SI.v 2)
                (SA.i (SI.add (SI.v 0) (SI.c (Int.ofNat 1)))
                  (SA.i (SI.c (Int.ofNat 0)) (SA.i (SI.c (Int.ofNat 0)) SA.nil)))))
            (SI.c (Int.ofNat 0)),
          SB.le
            (SI.len
              (SL.app 110
                (SA.l (SL.lit [])
                  (SA.i (SI.v 2)
                    (SA.i (SI.add (SI.v 0) (SI.c (Int.ofNat 1)))
                      (SA.i (SI.c (Int.ofNat 0)) (SA.i (SI.c (Int.ofNat 0)) SA.nil)))))))
            (SI.c (Int.ofNat 1)),
          SB.le (SI.c (Int.ofNat 0)) (SI.v 0), SB.le (SI.v 0) (SI.c (Int.ofNat 65535)),
          SB.le (SI.c (Int.ofNat 0)) (SI.v 1), SB.le (SI.v 1) (SI.c (Int.ofNat 65535)),
          SB.le (SI.c (Int.ofNat 0)) (SI.v 2), SB.le (SI.v 2) (SI.c (Int.ofNat 255))],
      eqs := [Eqn.T (SB.app 199 SA.nil)] },
    {
      pc :=
        [SB.not
            (SB.eq
              (SI.app 112
                (SA.l
                  (SL.app 110
                    (SA.l
                      (SL.app 110
                        (SA.l (SL.lit [])
                          (SA.i (SI.v 2)
                            (SA.i (SI.add (SI.v 0) (SI.c (Int.ofNat 1)))
                              (SA.i (SI.c (Int.ofNat 0)) (SA.i (SI.c (Int.ofNat 0)) SA.nil))))))
                      (SA.i (SI.v 2)
                        (SA.i (SI.add (SI.v 1) (SI.c (Int.ofNat 1)))
                          (SA.i (SI.c (Int.ofNat 0)) (SA.i (SI.c (Int.ofNat 0)) SA.nil))))))
                  SA.nil))
              (SI.add (SI.v 1) (SI.c (Int.ofNat 1)))),
          SB.eq
            (SI.len
              (SL.app 125
                (SA.l
                  (SL.app 125
                    (SA.l
                      (SL.app 110
                        (SA.l
                          (SL.app 110
                            (SA.l (SL.lit [])
                              (SA.i (SI.v 2)
                                (SA.i (SI.add (SI.v 0) (SI.c (Int.ofNat 1)))
                                  (SA.i (SI.c (Int.ofNat 0)) (SA.i (SI.c (Int.ofNat 0)) SA.nil))))))
                          (SA.i (SI.v 2)
                            (SA.i (SI.add (SI.v 1) (SI.c (Int.ofNat 1)))
                              (SA.i (SI.c (Int.ofNat 0)) (SA.i (SI.c (Int.ofNat 0)) SA.nil))))))
                      (SA.i (SI.v 1) SA.nil)))
                  (SA.i (SI.add (SI.v 1) (SI.c (Int.ofNat 1))) SA.nil))))
            (SI.c (Int.ofNat 0)),
          SB.le
            (SI.len
              (SL.app 125
                (SA.l
                  (SL.app 125
                    (SA.l
                      (SL.app 110
                        (SA.l
                          (SL.app 110
                            (SA.l (SL.lit [])
                              (SA.i (SI.v 2)
                                (SA.i (SI.add (SI.v 0) (SI.c (Int.ofNat 1)))
                                  (SA.i (SI.c (Int.ofNat 0)) (SA.i (SI.c (Int.ofNat 0)) SA.nil))))))
                          (SA.i (SI.v 2)
                            (SA.i (SI.add (SI.v 1) (SI.c (Int.ofNat 1)))
                              (SA.i (SI.c (Int.ofNat 0)) (SA.i (SI.c (Int.ofNat 0)) SA.nil))))))
                      (SA.i (SI.v 1) SA.nil)))
                  (SA.i (SI.add (SI.v 1) (SI.c (Int.ofNat 1))) SA.nil))))
            (SI.len
              (SL.app 125
                (SA.l
                  (SL.app 110
                    (SA.l
                      (SL.app 110
                        (SA.l (SL.lit [])
                          (SA.i (SI.v 2)
                            (SA.i (SI.add (SI.v 0) (SI.c (Int.ofNat 1)))
                              (SA.i (SI.c (Int.ofNat 0)) (SA.i (SI.c (Int.ofNat 0)) SA.nil))))))
                      (SA.i (SI.v 2)
                        (SA.i (SI.add (SI.v 1) (SI.c (Int.ofNat 1)))
                          (SA.i (SI.c (Int.ofNat 0)) (SA.i (SI.c (Int.ofNat 0)) SA.nil))))))
                  (SA.i (SI.v 1) SA.nil)))),
          SB.lt
            (SI.len
              (SL.app 124
                (SA.l
                  (SL.app 125
                    (SA.l
                      (SL.app 110
                        (SA.l
                          (SL.app 110
                            (SA.l (SL.lit [])
                              (SA.i (SI.v 2)
                                (SA.i (SI.add (SI.v 0) (SI.c (Int.ofNat 1)))
                                  (SA.i (SI.c (Int.ofNat 0)) (SA.i (SI.c (Int.ofNat 0)) SA.nil))))))
                          (SA.i (SI.v 2)
                            (SA.i (SI.add (SI.v 1) (SI.c (Int.ofNat 1)))
                              (SA.i (SI.c (Int.ofNat 0)) (SA.i (SI.c (Int.ofNat 0)) SA.nil))))))
                      (SA.i (SI.v 1) SA.nil)))
                  (SA.i (SI.add (SI.v 1) (SI.c (Int.ofNat 1))) SA.nil))))
            (SI.c (Int.ofNat 80000)),
          SB.le
            (SI.len
              (SL.app 125
                (SA.l
                  (SL.app 110
                    (SA.l
                      (SL.app 110
                        (SA.l (SL.lit [])
                          (SA.i (SI.v 2)
                            (SA.i (SI.add (SI.v 0) (SI.c (Int.ofNat 1)))
                              (SA.i (SI.c (Int.ofNat 0)) (SA.i (SI.c (Int.ofNat 0)) SA.nil))))))
                      (SA.i (SI.v 2)
                        (SA.i (SI.add (SI.v 1) (SI.c (Int.ofNat 1)))
                          (SA.i (SI.c (Int.ofNat 0)) (SA.i (SI.c (Int.ofNat 0)) SA.nil))))))
                  (SA.i (SI.v 1) SA.nil))))
            (SI.len
              (SL.app 110
                (SA.l
                  (SL.app 110
                    (SA.l (SL.lit [])
                      (SA.i (SI.v 2)
                        (SA.i (SI.add (SI.v 0) (SI.c (Int.ofNat 1)))
                          (SA.i (SI.c (Int.ofNat 0)) (SA.i (SI.c (Int.ofNat 0)) SA.nil))))))
                  (SA.i (SI.v 2)
                    (SA.i (SI.add (SI.v 1) (SI.c (Int.ofNat 1)))
                      (SA.i (SI.c (Int.ofNat 0)) (SA.i (SI.c (Int.ofNat 0)) SA.nil))))))),
          SB.lt
            (SI.len
              (SL.app 124
                (SA.l
                  (SL.app 110
                    (SA.l
                      (SL.app 110
                        (SA.l (SL.lit [])
                          (SA.i (SI.v 2)
                            (SA.i (SI.add (SI.v 0) (SI.c (Int.ofNat 1)))
                              (SA.i (SI.c (Int.ofNat 0)) (SA.i (SI.c (Int.ofNat 0)) SA.nil))))))
                      (SA.i (SI.v 2)
                        (SA.i (SI.add (SI.v 1) (SI.c (Int.ofNat 1)))
                          (SA.i (SI.c (Int.ofNat 0)) (SA.i (SI.c (Int.ofNat 0)) SA.nil))))))
                  (SA.i (SI.v 1) SA.nil))))
            (SI.c (Int.ofNat 80000)),
          SB.not
            (SB.eq
              (SI.len
                (SL.app 110
                  (SA.l
                    (SL.app 110
                      (SA.l (SL.lit [])
                        (SA.i (SI.v 2)
                          (SA.i (SI.add (SI.v 0) (SI.c (Int.ofNat 1)))
                            (SA.i (SI.c (Int.ofNat 0)) (SA.i (SI.c (Int.ofNat 0)) SA.nil))))))
                    (SA.i (SI.v 2)
                      (SA.i (SI.add (SI.v 1) (SI.c (Int.ofNat 1)))
                        (SA.i (SI.c (Int.ofNat 0)) (SA.i (SI.c (Int.ofNat 0)) SA.nil)))))))
              (SI.c (Int.ofNat 0))),
          SB.eq
            (SI.app 110
              (SA.i (SI.v 2)
                (SA.i (SI.add (SI.v 1) (SI.c (Int.ofNat 1)))
                  (SA.i (SI.c (Int.ofNat 0)) (SA.i (SI.c (Int.ofNat 0)) SA.nil)))))
            (SI.c (Int.ofNat 0)),
          SB.le
            (SI.len
              (SL.app 110
                (SA.l
                  (SL.app 110
                    (SA.l (SL.lit [])
                      (SA.i (SI.v 2)
                        (SA.i (SI.add (SI.v 0) (SI.c (Int.ofNat 1)))
                          (SA.i (SI.c (Int.ofNat 0)) (SA.i (SI.c (Int.ofNat 0)) SA.nil))))))
                  (SA.i (SI.v 2)
                    (SA.i (SI.add (SI.v 1) (SI.c (Int.ofNat 1)))
                      (SA.i (SI.c (Int.ofNat 0)) (SA.i (SI.c (Int.ofNat 0)) SA.nil)))))))
            (SI.add
              (SI.len
                (SL.app 110
                  (SA.l (SL.lit [])
                    (SA.i (SI.v 2)
                      (SA.i (SI.add (SI.v 0) (SI.c (Int.ofNat 1)))
                        (SA.i (SI.c (Int.ofNat 0)) (SA.i (SI.c (Int.ofNat 0)) SA.nil)))))))
              (SI.c (Int.ofNat 1))),
          SB.eq
            (SI.app 110
              (SA.i (SI.v 2)
                (SA.i (SI.add (SI.v 0) (SI.c (Int.ofNat 1)))
                  (SA.i (SI.c (Int.ofNat 0)) (SA.i (SI.c (Int.ofNat 0)) SA.nil)))))
            (SI.c (Int.ofNat 0)),
          SB.le
            (SI.len
              (SL.app 110
                (SA.l (SL.lit [])
                  (SA.i (SI.v 2)
                    (SA.i (SI.add (SI.v 0) (SI.c (Int.ofNat 1)))
                      (SA.i (SI.c (Int.ofNat 0)) (SA.i (SI.c (Int.ofNat 0)) SA.nil)))))))
            (SI.c (Int.ofNat 1)),
          SB.le (SI.c (Int.ofNat 0)) (SI.v 0), SB.le (SI.v 0) (SI.c (Int.ofNat 65535)),
          SB.le (SI.c (Int.ofNat 0)) (SI.v 1), SB.le (SI.v 1) (SI.c (Int.ofNat 65535)),
          SB.le (SI.c (Int.ofNat 0)) (SI.v 2), SB.le (SI.v 2) (SI.c (Int.ofNat 255))],
      eqs := [Eqn.T (SB.app 199 SA.nil)] },
    {
      pc :=
        [SB.eq
            (SI.sel
              (SL.app 124
                (SA.l
                  (SL.app 125
                    (SA.l
                      (SL.app 110
                        (SA.l
                          (SL.app 110
                            (SA.l (SL.lit [])
                              (SA.i (SI.v 2)
                                (SA.i (SI.add (SI.v 0) (SI.c (Int.ofNat 1)))
                                  (SA.i (SI.c (Int.ofNat 0)) (SA.i (SI.c (Int.ofNat 0)) SA.nil))))))
                          (SA.i (SI.v 2)
                            (SA.i (SI.add (SI.v 1) (SI.c (Int.ofNat 1)))
                              (SA.i (SI.c (Int.ofNat 0)) (SA.i (SI.c (Int.ofNat 0)) SA.nil))))))
                      (SA.i (SI.v 1) SA.nil)))
                  (SA.i (SI.add (SI.v 1) (SI.c (Int.ofNat 1))) SA.nil)))
              (SI.c (Int.ofNat 0)) 2)
            (SI.c (Int.ofNat 1)),
          SB.eq
            (SI.sel
              (SL.app 124
                (SA.l
                  (SL.app 125
                    (SA.l
                      (SL.app 110
                        (SA.l
                          (SL.app 110
                            (SA.l (SL.lit [])
                              (SA.i (SI.v 2)
                                (SA.i (SI.add (SI.v 0) (SI.c (Int.ofNat 1)))
                                  (SA.i (SI.c (Int.ofNat 0)) (SA.i (SI.c (Int.ofNat 0)) SA.nil))))))
                          (SA.i (SI.v 2)
                            (SA.i (SI.add (SI.v 1) (SI.c (Int.ofNat 1)))
                              (SA.i (SI.c (Int.ofNat 0)) (SA.i (SI.c (Int.ofNat 0)) SA.nil))))))
                      (SA.i (SI.v 1) SA.nil)))
                  (SA.i (SI.add (SI.v 1) (SI.c (Int.ofNat 1))) SA.nil)))
              (SI.c (Int.ofNat 0)) 1)
            (SI.add (SI.v 1) (SI.c (Int.ofNat 1))),
          SB.eq
            (SI.sel
              (SL.app 124
                (SA.l
                  (SL.app 125
                    (SA.l
                      (SL.app 110
                        (SA.l
                          (SL.app 110
                            (SA.l (SL.lit [])
                              (SA.i (SI.v 2)
                                (SA.i (SI.add (SI.v 0) (SI.c (Int.ofNat 1)))
                                  (SA.i (SI.c (Int.ofNat 0)) (SA.i (SI.c (Int.ofNat 0)) SA.nil))))))
                          (SA.i (SI.v 2)
                            (SA.i (SI.add (SI.v 1) (SI.c (Int.ofNat 1)))
                              (SA.i (SI.c (Int.ofNat 0)) (SA.i (SI.c (Int.ofNat 0)) SA.nil))))))
                      (SA.i (SI.v 1) SA.nil)))
                  (SA.i (SI.add (SI.v 1) (SI.c (Int.ofNat 1))) SA.nil)))
              (SI.c (Int.ofNat 0)) 0)
            (SI.v 2),
          SB.eq
            (SI.len
              (SL.app 124
                (SA.l
                  (SL.app 125
                    (SA.l
                      (SL.app 110
                        (SA.l
                          (SL.app 110
                            (SA.l (SL.lit [])
                              (SA.i (SI.v 2)
                                (SA.i (SI.add (SI.v 0) (SI.c (Int.ofNat 1)))
                                  (SA.i (SI.c (Int.ofNat 0)) (SA.i (SI.c (Int.ofNat 0)) SA.nil))))))
                          (SA.i (SI.v 2)
                            (SA.i (SI.add (SI.v 1) (SI.c (Int.ofNat 1)))
                              (SA.i (SI.c (Int.ofNat 0)) (SA.i (SI.c (Int.ofNat 0)) SA.nil))))))
                      (SA.i (SI.v 1) SA.nil)))
                  (SA.i (SI.add (SI.v 1) (SI.c (Int.ofNat 1))) SA.nil))))
            (SI.c (Int.ofNat 1)),
          SB.eq
            (SI.len
              (SL.app 124
                (SA.l
                  (SL.app 110
                    (SA.l
                      (SL.app 110
                        (SA.l (SL.lit [])
                          (SA.i (SI.v 2)
                            (SA.i (SI.add (SI.v 0) (SI.c (Int.ofNat 1)))
                              (SA.i (SI.c (Int.ofNat 0)) (SA.i (SI.c (Int.ofNat 0)) SA.nil))))))
                      (SA.i (SI.v 2)
                        (SA.i (SI.add (SI.v 1) (SI.c (Int.ofNat 1)))
                          (SA.i (SI.c (Int.ofNat 0)) (SA.i (SI.c (Int.ofNat 0)) SA.nil))))))
                  (SA.i (SI.v 1) SA.nil))))
            (SI.c (Int.ofNat 0)),
          SB.eq
            (SI.app 112
              (SA.l
                (SL.app 110
                  (SA.l
                    (SL.app 110
                      (SA.l (SL.lit [])
                        (SA.i (SI.v 2)
                          (SA.i (SI.add (SI.v 0) (SI.c (Int.ofNat 1)))
                            (SA.i (SI.c (Int.ofNat 0)) (SA.i (SI.c (Int.ofNat 0)) SA.nil))))))
                    (SA.i (SI.v 2)
                      (SA.i (SI.add (SI.v 1) (SI.c (Int.ofNat 1)))
                        (SA.i (SI.c (Int.ofNat 0)) (SA.i (SI.c (Int.ofNat 0)) SA.nil))))))
                SA.nil))
            (SI.add (SI.v 1) (SI.c (Int.ofNat 1))),
          SB.not
            (SB.eq
              (SI.len
                (SL.app 125
                  (SA.l
                    (SL.app 125
                      (SA.l
                        (SL.app 110
                          (SA.l
                            (SL.app 110
                              (SA.l (SL.lit [])
                                (SA.i (SI.v 2)
                                  (SA.i (SI.add (SI.v 0) (SI.c (Int.ofNat 1)))
                                    (SA.i (SI.c (Int.ofNat 0)) (SA.i (SI.c (Int.ofNat 0)) SA.nil))))))
                            (SA.i (SI.v 2)
                              (SA.i (SI.add (SI.v 1) (SI.c (Int.ofNat 1)))
                                (SA.i (SI.c (Int.ofNat 0)) (SA.i (SI.c (Int.ofNat 0)) SA.nil))))))
                        (SA.i (SI.v 1) SA.nil)))
                    (SA.i (SI.add (SI.v 1) (SI.c (Int.ofNat 1))) SA.nil))))
              (SI.c (Int.ofNat 0))),
          SB.le
            (SI.len
              (SL.app 125
                (SA.l
                  (SL.app 125
                    (SA.l
                      (SL.app 110
                        (SA.l
                          (SL.app 110
                            (SA.l (SL.lit [])
                              (SA.i (SI.v 2)
                                (SA.i (SI.add (SI.v 0) (SI.c (Int.ofNat 1)))
                                  (SA.i (SI.c (Int.ofNat 0)) (SA.i (SI.c (Int.ofNat 0)) SA.nil))))))
                          (SA.i (SI.v 2)
                            (SA.i (SI.add (SI.v 1) (SI.c (Int.ofNat 1)))
                              (SA.i (SI.c (Int.ofNat 0)) (SA.i (SI.c (Int.ofNat 0)) SA.nil))))))
                      (SA.i (SI.v 1) SA.nil)))
                  (SA.i (SI.add (SI.v 1) (SI.c (Int.ofNat 1))) SA.nil))))
            (SI.len
              (SL.app 125
                (SA.l
                  (SL.app 110
                    (SA.l
                      (SL.app 110
                        (SA.l (SL.lit [])
                          (SA.i (SI.v 2)
                            (SA.i (SI.add (SI.v 0) (SI.c (Int.ofNat 1)))
                              (SA.i (SI.c (Int.ofNat 0)) (SA.i (SI.c (Int.ofNat 0)) SA.nil))))))
                      (SA.i (SI.v 2)
                        (SA.i (SI.add (SI.v 1) (SI.c (Int.ofNat 1)))
                          (SA.i (SI.c (Int.ofNat 0)) (SA.i (SI.c (Int.ofNat 0)) SA.nil))))))
                  (SA.i (SI.v 1) SA.nil)))),
          SB.lt
            (SI.len
              (SL.app 124
                (SA.l
                  (SL.app 125
                    (SA.l
                      (SL.app 110
                        (SA.l
                          (SL.app 110
                            (SA.l (SL.lit [])
                              (SA.i (SI.v 2)
                                (SA.i (SI.add (SI.v 0) (SI.c (Int.ofNat 1)))
                                  (SA.i (SI.c (Int.ofNat 0)) (SA.i (SI.c (Int.ofNat 0)) SA.nil))))))
                          (SA.i (SI.v 2)
                            (SA.i (SI.add (SI.v 1) (SI.c (Int.ofNat 1)))
                              (SA.i (SI.c (Int.ofNat 0)) (SA.i (SI.c (Int.ofNat 0)) SA.nil))))))
                      (SA.i (SI.v 1) SA.nil)))
                  (SA.i (SI.add (SI.v 1) (SI.c (Int.ofNat 1))) SA.nil))))
            (SI.c (Int.ofNat 80000)),
          SB.le
            (SI.len
              (SL.app 125
                (SA.l
                  (SL.app 110
                    (SA.l
                      (SL.app 110
                        (SA.l (SL.lit [])
                          (SA.i (SI.v 2)
                            (SA.i (SI.add (SI.v 0) (SI.c (Int.ofNat 1)))
                              (SA.i (SI.c (Int.ofNat 0)) (SA.i (SI.c (Int.ofNat 0)) SA.nil))))))
                      (SA.i (SI.v 2)
                        (SA.i (SI.add (SI.v 1) (SI.c (Int.ofNat 1)))
                          (SA.i (SI.c (Int.ofNat 0)) (SA.i (SI.c (Int.ofNat 0)) SA.nil))))))
                  (SA.i (SI.v 1) SA.nil))))
            (SI.len
              (SL.app 110
                (SA.l
                  (SL.app 110
                    (SA.l (SL.lit [])
                      (SA.i (SI.v 2)
                        (SA.i (SI.add (SI.v 0) (SI.c (Int.ofNat 1)))
                          (SA.i (SI.c (Int.ofNat 0)) (SA.i (SI.c (Int.ofNat 0)) SA.nil))))))
                  (SA.i (SI.v 2)
                    (SA.i (SI.add (SI.v 1) (SI.c (Int.ofNat 1)))
                      (SA.i (SI.c (Int.ofNat 0)) (SA.i (SI.c (Int.ofNat 0)) SA.nil))))))),
          SB.lt
            (SI.len
              (SL.app 124
                (SA.l
                  (SL.app 110
                    (SA.l
                      (SL.app 110
                        (SA.l (SL.lit [])
                          (SA.i (SI.v 2)
                            (SA.i (SI.add (SI.v 0) (SI.c (Int.ofNat 1)))
                              (SA.i (SI.c (Int.ofNat 0)) (SA.i (SI.c (Int.ofNat 0)) SA.nil))))))
                      (SA.i (SI.v 2)
                        (SA.i (SI.add (SI.v 1) (SI.c (Int.ofNat 1)))
                          (SA.i (SI.c (Int.ofNat 0)) (SA.i (SI.c (Int.ofNat 0)) SA.nil))))))
                  (SA.i (SI.v 1) SA.nil))))
            (SI.c (Int.ofNat 80000)),
          SB.not
            (SB.eq
              (SI.len
                (SL.app 110
                  (SA.l
                    (SL.app 110
                      (SA.l (SL.lit [])
                        (SA.i (SI.v 2)
                          (SA.i (SI.add (SI.v 0) (SI.c (Int.ofNat 1)))
                            (SA.i (SI.c (Int.ofNat 0)) (SA.i (SI.c (Int.ofNat 0)) SA.nil))))))
                    (SA.i (SI.v 2)
                      (SA.i (SI.add (SI.v 1) (SI.c (Int.ofNat 1)))
                        (SA.i (SI.c (Int.ofNat 0)) (SA.i (SI.c (Int.ofNat 0)) SA.nil)))))))
              (SI.c (Int.ofNat 0))),
          SB.eq
            (SI.app 110
              (SA.i (SI.v 2)
                (SA.i (SI.add (SI.v 1) (SI.c (Int.ofNat 1)))
                  (SA.i (SI.c (Int.ofNat 0)) (SA.i (SI.c (Int.ofNat 0)) SA.nil)))))
            (SI.c (Int.ofNat 0)),
          SB.le
            (SI.len
              (SL.app 110
                (SA.l
                  (SL.app 110
                    (SA.l (SL.lit [])
                      (SA.i (SI.v 2)
                        (SA.i (SI.add (SI.v 0) (SI.c (Int.ofNat 1)))
                          (SA.i (SI.c (Int.ofNat 0)) (SA.i (SI.c (Int.ofNat 0)) SA.nil))))))
                  (SA.i (SI.v 2)
                    (SA.i (SI.add (SI.v 1) (SI.c (Int.ofNat 1)))
                      (SA.i (SI.c (Int.ofNat 0)) (SA.i (SI.c (Int.ofNat 0)) SA.nil)))))))
            (SI.add
              (SI.len
                (SL.app 110
                  (SA.l (SL.lit [])
                    (SA.i (SI.v 2)
                      (SA.i (SI.add (SI.v 0) (SI.c (Int.ofNat 1)))
                        (SA.i (SI.c (Int.ofNat 0)) (SA.i (SI.c (Int.ofNat 0)) SA.nil)))))))
              (SI.c (Int.ofNat 1))),
          SB.eq
            (SI.app 110
              (SA.i (SI.v 2)
                (SA.i (SI.add (SI.v 0) (SI.c (Int.ofNat 1)))
                  (SA.i (SI.c (Int.ofNat 0)) (SA.i (SI.c (Int.ofNat 0)) SA.nil)))))
            (SI.c (Int.ofNat 0)),
          SB.le
            (SI.len
              (SL.app 110
                (SA.l (SL.lit [])
                  (SA.i (SI.v 2)
                    (SA.i (SI.add (SI.v 0) (SI.c (Int.ofNat 1)))
                      (SA.i (SI.c (Int.ofNat 0)) (SA.i (SI.c (Int.ofNat 0)) SA.nil)))))))
            (SI.c (Int.ofNat 1)),
          SB.le (SI.c (Int.ofNat 0)) (SI.v 0), SB.le (SI.v 0) (SI.c (Int.ofNat 65535)),
          SB.le (SI.c (Int.ofNat 0)) (SI.v 1), SB.le (SI.v 1) (SI.c (Int.ofNat 65535)),
          SB.le (SI.c (Int.ofNat 0)) (SI.v 2), SB.le (SI.v 2) (SI.c (Int.ofNat 255))],
      eqs := [Eqn.T (SB.app 199 SA.nil)] },
    {
      pc :=
        [SB.not
            (SB.eq
              (SI.sel
                (SL.app 124
                  (SA.l
                    (SL.app 125
                      (SA.l
                        (SL.app 110
                          (SA.l
                            (SL.app 110
                              (SA.l (SL.lit [])
                                (SA.i (SI.v 2)
                                  (SA.i (SI.add (SI.v 0) (SI.c (Int.ofNat 1)))
                                    (SA.i (SI.c (Int.ofNat 0)) (SA.i (SI.c (Int.ofNat 0)) SA.nil))))))
                            (SA.i (SI.v 2)
                              (SA.i (SI.add (SI.v 1) (SI.c (Int.ofNat 1)))
                                (SA.i (SI.c (Int.ofNat 0)) (SA.i (SI.c (Int.ofNat 0)) SA.nil))))))
                        (SA.i (SI.v 1) SA.nil)))
                    (SA.i (SI.add (SI.v 1) (SI.c (Int.ofNat 1))) SA.nil)))
                (SI.c (Int.ofNat 0)) 2)
              (SI.c (Int.ofNat 1))),
          SB.eq
            (SI.sel
              (SL.app 124
                (SA.l
                  (SL.app 125
                    (SA.l
                      (SL.app 110
                        (SA.l
                          (SL.app 110
                            (SA.l (SL.lit [])
                              (SA.i (SI.v 2)
                                (SA.i (SI.add (SI.v 0) (SI.c (Int.ofNat 1)))
                                  (SA.i (SI.c (Int.ofNat 0)) (SA.i (SI.c (Int.ofNat 0)) SA.nil))))))
                          (SA.i (SI.v 2)
                            (SA.i (SI.add (SI.v 1) (SI.c (Int.ofNat 1)))
                              (SA.i (SI.c (Int.ofNat 0)) (SA.i (SI.c (Int.ofNat 0)) SA.nil))))))
                      (SA.i (SI.v 1) SA.nil)))
                  (SA.i (SI.add (SI.v 1) (SI.c (Int.ofNat 1))) SA.nil)))
              (SI.c (Int.ofNat 0)) 1)
            (SI.add (SI.v 1) (SI.c (Int.ofNat 1))),
          SB.eq
            (SI.sel
              (SL.app 124
                (SA.l
                  (SL.app 125
                    (SA.l
                      (SL.app 110
                        (SA.l
                          (SL.app 110
                            (SA.l (SL.lit [])
                              (SA.i (SI.v 2)
                                (SA.i (SI.add (SI.v 0) (SI.c (Int.ofNat 1)))
                                  (SA.i (SI.c (Int.ofNat 0)) (SA.i (SI.c (Int.ofNat 0)) SA.nil))))))
                          (SA.i (SI.v 2)
                            (SA.i (SI.add (SI.v 1) (SI.c (Int.ofNat 1)))
                              (SA.i (SI.c (Int.ofNat 0)) (SA.i (SI.c (Int.ofNat 0)) SA.nil))))))
                      (SA.i (SI.v 1) SA.nil)))
                  (SA.i (SI.add (SI.v 1) (SI.c (Int.ofNat 1))) SA.nil)))
              (SI.c (Int.ofNat 0)) 0)
            (SI.v 2),
          SB.eq
            (SI.len
              (SL.app 124
                (SA.l
                  (SL.app 125
                    (SA.l
                      (SL.app 110
                        (SA.l
                          (SL.app 110
                            (SA.l (SL.lit [])
                              (SA.i (SI.v 2)
                                (SA.i (SI.add (SI.v 0) (SI.c (Int.ofNat 1)))
                                  (SA.i (SI.c (Int.ofNat 0)) (SA.i (SI.c (Int.ofNat 0)) SA.nil))))))
                          (SA.i (SI.v 2)
                            (SA.i (SI.add (SI.v 1) (SI.c (Int.ofNat 1)))
                              (SA.i (SI.c (Int.ofNat 0)) (SA.i (SI.c (Int.ofNat 0)) SA.nil))))))
                      (SA.i (SI.v 1) SA.nil)))
                  (SA.i (SI.add (SI.v 1) (SI.c (Int.ofNat 1))) SA.nil))))
            (SI.c (Int.ofNat 1)),
          SB.eq
            (SI.len
              (SL.app 124
                (SA.l
                  (SL.app 110
                    (SA.l
                      (SL.app 110
                        (SA.l (SL.lit [])
                          (SA.i (SI.v 2)
                            (SA.i (SI.add (SI.v 0) (SI.c (Int.ofNat 1)))
                              (SA.i (SI.c (Int.ofNat 0)) (SA.i (SI.c (Int.ofNat 0)) SA.nil))))))
                      (SA.i (SI.v 2)
                        (SA.i (SI.add (SI.v 1) (SI.c (Int.ofNat 1)))
                          (SA.i (SI.c (Int.ofNat 0)) (SA.i (SI.c (Int.ofNat 0)) SA.nil))))))
                  (SA.i (SI.v 1) SA.nil))))
            (SI.c (Int.ofNat 0)),
          SB.eq
            (SI.app 112
              (SA.l
                (SL.app 110
                  (SA.l
                    (SL.app 110
                      (SA.l (SL.lit [])
                        (SA.i (SI.v 2)
                          (SA.i (SI.add (SI.v 0) (SI.c (Int.ofNat 1)))
                            (SA.i (SI.c (Int.ofNat 0)) (SA.i (SI.c (Int.ofNat 0)) SA.nil))))))
                    (SA.i (SI.v 2)
                      (SA.i (SI.add (SI.v 1) (SI.c (Int.ofNat 1)))
                        (SA.i (SI.c (Int.ofNat 0)) (SA.i (SI.c (Int.ofNat 0)) SA.nil))))))
                SA.nil))
            (SI.add (SI.v 1) (SI.c (Int.ofNat 1))),
          SB.not
            (SB.eq
              (SI.len
                (SL.app 125
                  (SA.l
                    (SL.app 125
                      (SA.l
                        (SL.app 110
                          (SA.l
                            (SL.app 110
                              (SA.l (SL.lit [])
                                (SA.i (SI.v 2)
                                  (SA.i (SI.add (SI.v 0) (SI.c (Int.ofNat 1)))
                                    (SA.i (SI.c (Int.ofNat 0)) (SA.i (SI.c (Int.ofNat 0)) SA.nil))))))
                            (SA.i (SI.v 2)
                              (SA.i (SI.add (SI.v 1) (SI.c (Int.ofNat 1)))
                                (SA.i (SI.c (Int.ofNat 0)) (SA.i (SI.c (Int.ofNat 0)) SA.nil))))))
                        (SA.i (SI.v 1) SA.nil)))
                    (SA.i (SI.add (SI.v 1) (SI.c (Int.ofNat 1))) SA.nil))))
              (SI.c (Int.ofNat 0))),
          SB.le
            (SI.len
              (SL.app 125
                (SA.l
                  (SL.app 125
                    (SA.l
                      (SL.app 110
                        (SA.l
                          (SL.app 110
                            (SA.l (SL.lit [])
                              (SA.i (SI.v 2)
                                (SA.i (SI.add (SI.v 0) (SI.c (Int.ofNat 1)))
                                  (SA.i (SI.c (Int.ofNat 0)) (SA.i (SI.c (Int.ofNat 0)) SA.nil))))))
                          (SA.i (SI.v 2)
                            (SA.i (SI.add (SI.v 1) (SI.c (Int.ofNat 1)))
                              (SA.i (SI.c (Int.ofNat 0)) (SA.i (SI.c (Int.ofNat 0)) SA.nil))))))
                      (SA.i (SI.v 1) SA.nil)))
                  (SA.i (SI.add (SI.v 1) (SI.c (Int.ofNat 1))) SA.nil))))
            (SI.len
              (SL.app 125
                (SA.l
                  (SL.app 110
                    (SA.l
                      (SL.app 110
                        (SA.l (SL.lit [])
                          (SA.i (SI.v 2)
                            (SA.i (SI.add (SI.v 0) (SI.c (Int.ofNat 1)))
                              (SA.i (SI.c (Int.ofNat 0)) (SA.i (SI.c (Int.ofNat 0)) SA.nil))))))
                      (SA.i (SI.v 2)
                        (SA.i (SI.add (SI.v 1) (SI.c (Int.ofNat 1)))
                          (SA.i (SI.c (Int.ofNat 0)) (SA.i (SI.c (Int.ofNat 0)) SA.nil))))))
                  (SA.i (SI.v 1) SA.nil)))),
          SB.lt
            (SI.len
              (SL.app 124
                (SA.l
                  (SL.app 125
                    (SA.l
                      (SL.app 110
                        (SA.l
                          (SL.app 110
                            (SA.l (SL.lit [])
                              (SA.i (SI.v 2)
                                (SA.i (SI.add (SI.v 0) (SI.c (Int.ofNat 1)))
                                  (SA.i (SI.c (Int.ofNat 0)) (SA.i (SI.c (Int.ofNat 0)) SA.nil))))))
                          (SA.i (SI.v 2)
                            (SA.i (SI.add (SI.v 1) (SI.c (Int.ofNat 1)))
                              (SA.i (SI.c (Int.ofNat 0)) (SA.i (SI.c (Int.ofNat 0)) SA.nil))))))
                      (SA.i (SI.v 1) SA.nil)))
                  (SA.i (SI.add (SI.v 1) (SI.c (Int.ofNat 1))) SA.nil))))
            (SI.c (Int.ofNat 80000)),
          SB.le
            (SI.len
              (SL.app 125
                (SA.l
                  (SL.app 110
                    (SA.l
                      (SL.app 110
                        (SA.l (SL.lit [])
                          (SA.i (SI.v 2)
                            (SA.i (SI.add (SI.v 0) (SI.c (Int.ofNat 1)))
                              (SA.i (SI.c (Int.ofNat 0)) (SA.i (SI.c (Int.ofNat 0)) SA.nil))))))
                      (SA.i (SI.v 2)
                        (SA.i (SI.add (SI.v 1) (SI.c (Int.ofNat 1)))
                          (SA.i (SI.c (Int.ofNat 0)) (SA.i (SI.c (Int.ofNat 0)) SA.nil))))))
                  (SA.i (SI.v 1) SA.nil))))
            (SI.len
              (SL.app 110
                (SA.l
                  (SL.app 110
                    (SA.l (SL.lit [])
                      (SA.i (SI.v 2)
                        (SA.i (SI.add (SI.v 0) (SI.c (Int.ofNat 1)))
                          (SA.i (SI.c (Int.ofNat 0)) (SA.i (SI.c (Int.ofNat 0)) SA.nil))))))
                  (SA.i (SI.v 2)
                    (SA.i (SI.add (SI.v 1) (SI.c (Int.ofNat 1)))
                      (SA.i (SI.c (Int.ofNat 0)) (SA.i (SI.c (Int.ofNat 0)) SA.nil))))))),
          SB.lt
            (SI.len
              (SL.app 124
                (SA.l
                  (SL.app 110
                    (SA.l
                      (SL.app 110
                        (SA.l (SL.lit [])
                          (SA.i (SI.v 2)
                            (SA.i (SI.add (SI.v 0) (SI.c (Int.ofNat 1)))
                              (SA.i (SI.c (Int.ofNat 0)) (SA.i (SI.c (Int.ofNat 0)) SA.nil))))))
                      (SA.i (SI.v 2)
                        (SA.i (SI.add (SI.v 1) (SI.c (Int.ofNat 1)))
                          (SA.i (SI.c (Int.ofNat 0)) (SA.i (SI.c (Int.ofNat 0)) SA.nil))))))
                  (SA.i (SI.v 1) SA.nil))))
            (SI.c (Int.ofNat 80000)),
          SB.not
            (SB.eq
              (SI.len
                (SL.app 110
                  (SA.l
                    (SL.app 110
                      (SA.l (SL.lit [])
                        (SA.i (SI.v 2)
                          (SA.i (SI.add (SI.v 0) (SI.c (Int.ofNat 1)))
                            (SA.i (SI.c (Int.ofNat 0)) (SA.i (SI.c (Int.ofNat 0)) SA.nil))))))
                    (SA.i (SI.v 2)
                      (SA.i (SI.add (SI.v 1) (SI.c (Int.ofNat 1)))
                        (SA.i (SI.c (Int.ofNat 0)) (SA.i (SI.c (Int.ofNat 0)) SA.nil)))))))
              (SI.c (Int.ofNat 0))),
          SB.eq
            (SI.app 110
              (SA.i (SI.v 2)
                (SA.i (SI.add (SI.v 1) (SI.c (Int.ofNat 1)))
                  (SA.i (SI.c (Int.ofNat 0)) (SA.i (SI.c (Int.ofNat 0)) SA.nil)))))
            (SI.c (Int.ofNat 0)),
          SB.le
            (SI.len
              (SL.app 110
                (SA.l
                  (SL.app 110
                    (SA.l (SL.lit [])
                      (SA.i (SI.v 2)
                        (SA.i (SI.add (SI.v 0) (SI.c (Int.ofNat 1)))
                          (SA.i (SI.c (Int.ofNat 0)) (SA.i (SI.c (Int.ofNat 0)) SA.nil))))))
                  (SA.i (SI.v 2)
                    (SA.i (SI.add (SI.v 1) (SI.c (Int.ofNat 1)))
                      (SA.i (SI.c (Int.ofNat 0)) (SA.i (SI.c (Int.ofNat 0)) SA.nil)))))))
            (SI.add
              (SI.len
                (SL.app 110
                  (SA.l (SL.lit [])
                    (SA.i (SI.v 2)
                      (SA.i (SI.add (SI.v 0) (SI.c (Int.ofNat 1)))
                        (SA.i (SI.c (Int.ofNat 0)) (SA.i (SI.c (Int.ofNat 0)) SA.nil)))))))
              (SI.c (Int.ofNat 1))),
          SB.eq
            (SI.app 110
              (SA.i (SI.v 2)
                (SA.i (SI.add (SI.v 0) (SI.c (Int.ofNat 1)))
                  (SA.i (SI.c (Int.ofNat 0)) (SA.i (SI.c (Int.ofNat 0)) SA.nil)))))
            (SI.c (Int.ofNat 0)),
          SB.le
            (SI.len
              (SL.app 110
                (SA.l (SL.lit [])
                  (SA.i (SI.v 2)
                    (SA.i (SI.add (SI.v 0) (SI.c (Int.ofNat 1)))
                      (SA.i (SI.c (Int.ofNat 0)) (SA.i (SI.c (Int.ofNat 0)) SA.nil)))))))
            (SI.c (Int.ofNat 1)),
          SB.le (SI.c (Int.ofNat 0)) (SI.v 0), SB.le (SI.v 0) (SI.c (Int.ofNat 65535)),
          SB.le (SI.c (Int.ofNat 0)) (SI.v 1), SB.le (SI.v 1) (SI.c (Int.ofNat 65535)),
          SB.le (SI.c (Int.ofNat 0)) (SI.v 2), SB.le (SI.v 2) (SI.c (Int.ofNat 255))],
      eqs := [Eqn.T (SB.app 199 SA.nil)] },
    {
      pc :=
        [SB.not
            (SB.eq
              (SI.sel
                (SL.app 124
                  (SA.l
                    (SL.app 125
                      (SA.l
                        (SL.app 110
                          (SA.l
                            (SL.app 110
                              (SA.l (SL.lit [])
                                (SA.i (SI.v 2)
                                  (SA.i (SI.add (SI.v 0) (SI.c (Int.ofNat 1)))
                                    (SA.i (SI.c (Int.ofNat 0)) (SA.i (SI.c (Int.ofNat 0)) SA.nil))))))
                            (SA.i (SI.v 2)
                              (SA.i (SI.add (SI.v 1) (SI.c (Int.ofNat 1)))
                                (SA.i (SI.c (Int.ofNat 0)) (SA.i (SI.c (Int.ofNat 0)) SA.nil))))))
                        (SA.i (SI.v 1) SA.nil)))
                    (SA.i (SI.add (SI.v 1) (SI.c (Int.ofNat 1))) SA.nil)))
                (SI.c (Int.ofNat 0)) 1)
              (SI.add (SI.v 1) (SI.c (Int.ofNat 1)))),
          SB.eq
            (SI.sel
              (SL.app 124
                (SA.l
                  (SL.app 125
                    (SA.l
                      (SL.app 110
                        (SA.l
                          (SL.app 110
                            (SA.l (SL.lit [])
                              (SA.i (SI.v 2)
                                (SA.i (SI.add (SI.v 0) (SI.c (Int.ofNat 1)))
                                  (SA.i (SI.c (Int.ofNat 0)) (SA.i (SI.c (Int.ofNat 0)) SA.nil))))))
                          (SA.i (SI.v 2)
                            (SA.i (SI.add (SI.v 1) (SI.c (Int.ofNat 1)))
                              (SA.i (SI.c (Int.ofNat 0)) (SA.i (SI.c (Int.ofNat 0)) SA.nil))))))
                      (SA.i (SI.v 1) SA.nil)))
                  (SA.i (SI.add (SI.v 1) (SI.c (Int.ofNat 1))) SA.nil)))
              (SI.c (Int.ofNat 0)) 0)
            (SI.v 2),
          SB.eq
            (SI.len
              (SL.app 124
                (SA.l
                  (SL.app 125
                    (SA.l
                      (SL.app 110
                        (SA.l
                          (SL.app 110
                            (SA.l (SL.lit [])
                              (SA.i (SI.v 2)
                                (SA.i (SI.add (SI.v 0) (SI.c (Int.ofNat 1)))
                                  (SA.i (SI.c (Int.ofNat 0)) (SA.i (SI.c (Int.ofNat 0)) SA.nil))))))
                          (SA.i (SI.v 2)
                            (SA.i (SI.add (SI.v 1) (SI.c (Int.ofNat 1)))
                              (SA.i (SI.c (Int.ofNat 0)) (SA.i (SI.c (Int.ofNat 0)) SA.nil))))))
                      (SA.i (SI.v 1) SA.nil)))
                  (SA.i (SI.add (SI.v 1) (SI.c (Int.ofNat 1))) SA.nil))))
            (SI.c (Int.ofNat 1)),
          SB.eq
            (SI.len
              (SL.app 124
                (SA.l
                  (SL.app 110
                    (SA.l
                      (SL.app 110
                        (SA.l (SL.lit [])
                          (SA.i (SI.v 2)
                            (SA.i (SI.add (SI.v 0) (SI.c (Int.ofNat 1)))
                              (SA.i (SI.c (Int.ofNat 0)) (SA.i (SI.c (Int.ofNat 0)) SA.nil))))))
                      (SA.i (SI.v 2)
                        (SA.i (SI.add (SI.v 1) (SI.c (Int.ofNat 1)))
                          (SA.i (SI.c (Int.ofNat 0)) (SA.i (SI.c (Int.ofNat 0)) SA.nil))))))
                  (SA.i (SI.v 1) SA.nil))))
            (SI.c (Int.ofNat 0)),
          SB.eq
            (SI.app 112
              (SA.l
                (SL.app 110
                  (SA.l
                    (SL.app 110
                      (SA.l (SL.lit [])
                        (SA.i (SI.v 2)
                          (SA.i (SI.add (SI.v 0) (SI.c (Int.ofNat 1)))
                            (SA.i (SI.c (Int.ofNat 0)) (SA.i (SI.c (Int.ofNat 0)) SA.nil))))))
                    (SA.i (SI.v 2)
                      (SA.i (SI.add (SI.v 1) (SI.c (Int.ofNat 1)))
                        (SA.i (SI.c (Int.ofNat 0)) (SA.i (SI.c (Int.ofNat 0)) SA.nil))))))
                SA.nil))
            (SI.add (SI.v 1) (SI.c (Int.ofNat 1))),
          SB.not
            (SB.eq
              (SI.len
                (SL.app 125
                  (SA.l
                    (SL.app 125
                      (SA.l
                        (SL.app 110
                          (SA.l
                            (SL.app 110
                              (SA.l (SL.lit [])
                                (SA.i (SI.v 2)
                                  (SA.i (SI.add (SI.v 0) (SI.c (Int.ofNat 1)))
                                    (SA.i (SI.c (Int.ofNat 0)) (SA.i (SI.c (Int.ofNat 0)) SA.nil))))))
                            (SA.i (SI.v 2)
                              (SA.i (SI.add (SI.v 1) (SI.c (Int.ofNat 1)))
                                (SA.i (SI.c (Int.ofNat 0)) (SA.i (SI.c (Int.ofNat 0)) SA.nil))))))
                        (SA.i (SI.v 1) SA.nil)))
                    (SA.i (SI.add (SI.v 1) (SI.c (Int.ofNat 1))) SA.nil))))
              (SI.c (Int.ofNat 0))),
          SB.le
            (SI.len
              (SL.app 125
                (SA.l
                  (SL.app 125
                    (SA.l
                      (SL.app 110
                        (SA.l
                          (SL.app 110
                            (SA.l (SL.lit [])
                              (SA.i (SI.v 2)
                                (SA.i (SI.add (SI.v 0) (SI.c (Int.ofNat 1)))
                                  (SA.i (SI.c (Int.ofNat 0)) (SA.i (SI.c (Int.ofNat 0)) SA.nil))))))
                          (SA.i (SI.v 2)
                            (SA.i (SI.add (SI.v 1) (SI.c (Int.ofNat 1)))
                              (SA.i (SI.c (Int.ofNat 0)) (SA.i (SI.c (Int.ofNat 0)) SA.nil))))))
                      (SA.i (SI.v 1) SA.nil)))
                  (SA.i (SI.add (SI.v 1) (SI.c (Int.ofNat 1))) SA.nil))))
            (SI.len
              (SL.app 125
                (SA.l
                  (SL.app 110
                    (SA.l
                      (SL.app 110
                        (SA.l (SL.lit [])
                          (SA.i (SI.v 2)
                            (SA.i (SI.add (SI.v 0) (SI.c (Int.ofNat 1)))
                              (SA.i (SI.c (Int.ofNat 0)) (SA.i (SI.c (Int.ofNat 0)) SA.nil))))))
                      (SA.i (SI.v 2)
                        (SA.i (SI.add (SI.v 1) (SI.c (Int.ofNat 1)))
                          (SA.i (SI.c (Int.ofNat 0)) (SA.i (SI.c (Int.ofNat 0)) SA.nil))))))
                  (SA.i (SI.v 1) SA.nil)))),
          SB.lt
            (SI.len
              (SL.app 124
                (SA.l
                  (SL.app 125
                    (SA.l
                      (SL.app 110
                        (SA.l
                          (SL.app 110
                            (SA.l (SL.lit [])
                              (SA.i (SI.v 2)
                                (SA.i (SI.add (SI.v 0) (SI.c (Int.ofNat 1)))
                                  (SA.i (SI.c (Int.ofNat 0)) (SA.i (SI.c (Int.ofNat 0)) SA.nil))))))
                          (SA.i (SI.v 2)
                            (SA.i (SI.add (SI.v 1) (SI.c (Int.ofNat 1)))
                              (SA.i (SI.c (Int.ofNat 0)) (SA.i (SI.c (Int.ofNat 0)) SA.nil))))))
                      (SA.i (SI.v 1) SA.nil)))
                  (SA.i (SI.add (SI.v 1) (SI.c (Int.ofNat 1))) SA.nil))))
            (SI.c (Int.ofNat 80000)),
          SB.le
            (SI.len
              (SL.app 125
                (SA.l
                  (SL.app 110
                    (SA.l
                      (SL.app 110
                        (SA.l (SL.lit [])
                          (SA.i (SI.v 2)
                            (SA.i (SI.add (SI.v 0) (SI.c (Int.ofNat 1)))
                              (SA.i (SI.c (Int.ofNat 0)) (SA.i (SI.c (Int.ofNat 0)) SA.nil))))))
                      (SA.i (SI.v 2)
                        (SA.i (SI.add (SI.v 1) (SI.c (Int.ofNat 1)))
                          (SA.i (SI.c (Int.ofNat 0)) (SA.i (SI.c (Int.ofNat 0)) SA.nil))))))
                  (SA.i (SI.v 1) SA.nil))))
            (SI.len
              (SL.app 110
                (SA.l
                  (SL.app 110
                    (SA.l (SL.lit [])
                      (SA.i (SI.v 2)
                        (SA.i (SI.add (SI.v 0) (SI.c (Int.ofNat 1)))
                          (SA.i (SI.c (Int.ofNat 0)) (SA.i (SI.c (Int.ofNat 0)) SA.nil))))))
                  (SA.i (SI.v 2)
                    (SA.i (SI.add (SI.v 1) (SI.c (Int.ofNat 1)))
                      (SA.i (SI.c (Int.ofNat 0)) (SA.i (SI.c (Int.ofNat 0)) SA.nil))))))),
          SB.lt
            (SI.len
              (SL.app 124
                (SA.l
                  (SL.app 110
                    (SA.l
                      (SL.app 110
                        (SA.l (SL.lit [])
                          (SA.i (SI.v 2)
                            (SA.i (SI.add (SI.v 0) (SI.c (Int.ofNat 1)))
                              (SA.i (SI.c (Int.ofNat 0)) (SA.i (SI.c (Int.ofNat 0)) SA.nil))))))
                      (SA.i (SI.v 2)
                        (SA.i (SI.add (SI.v 1) (SI.c (Int.ofNat 1)))
                          (SA.i (SI.c (Int.ofNat 0)) (SA.i (SI.c (Int.ofNat 0)) SA.nil))))))
                  (SA.i (SI.v 1) SA.nil))))
            (SI.c (Int.ofNat 80000)),
          SB.not
            (SB.eq
              (SI.len
                (SL.app 110
                  (SA.l
                    (SL.app 110
                      (SA.l (SL.lit [])
                        (SA.i (SI.v 2)
                          (SA.i (SI.add (SI.v 0) (SI.c (Int.ofNat 1)))
                            (SA.i (SI.c (Int.ofNat 0)) (SA.i (SI.c (Int.ofNat 0)) SA.nil))))))
                    (SA.i (SI.v 2)
                      (SA.i (SI.add (SI.v 1) (SI.c (Int.ofNat 1)))
                        (SA.i (SI.c (Int.ofNat 0)) (SA.i (SI.c (Int.ofNat 0)) SA.nil)))))))
              (SI.c (Int.ofNat 0))),
          SB.eq
            (SI.app 110
              (SA.i (SI.v 2)
                (SA.i (SI.add (SI.v 1) (SI.c (Int.ofNat 1)))
                  (SA.i (SI.c (Int.ofNat 0)) (SA.i (SI.c (Int.ofNat 0)) SA.nil)))))
            (SI.c (Int.ofNat 0)),
          SB.le
            (SI.len
              (SL.app 110
                (SA.l
                  (SL.app 110
                    (SA.l (SL.lit [])
                      (SA.i (SI.v 2)
                        (SA.i (SI.add (SI.v 0) (SI.c (Int.ofNat 1)))
                          (SA.i (SI.c (Int.ofNat 0)) (SA.i (SI.c (Int.ofNat 0)) SA.nil))))))
                  (SA.i (SI.v 2)
                    (SA.i (SI.add (SI.v 1) (SI.c (Int.ofNat 1)))
                      (SA.i (SI.c (Int.ofNat 0)) (SA.i (SI.c (Int.ofNat 0)) SA.nil)))))))
            (SI.add
              (SI.len
                (SL.app 110
                  (SA.l (SL.lit [])
                    (SA.i (SI.v 2)
                      (SA.i (SI.add (SI.v 0) (SI.c (Int.ofNat 1)))
                        (SA.i (SI.c (Int.ofNat 0)) (SA.i (SI.c (Int.ofNat 0)) SA.nil)))))))
              (SI.c (Int.ofNat 1))),
          SB.eq
            (SI.app 110
              (SA.i (SI.v 2)
                (SA.i (SI.add (SI.v 0) (SI.c (Int.ofNat 1)))
                  (SA.i (SI.c (Int.ofNat 0)) (SA.i (SI.c (Int.ofNat 0)) SA.nil)))))
            (SI.c (Int.ofNat 0)),
          SB.le
            (SI.len
              (SL.app 110
                (SA.l (SL.lit [])
                  (SA.i (SI.v 2)
                    (SA.i (SI.add (SI.v 0) (SI.c (Int.ofNat 1)))
                      (SA.i (SI.c (Int.ofNat 0)) (SA.i (SI.c (Int.ofNat 0)) SA.nil)))))))
            (SI.c (Int.ofNat 1)),
          SB.le (SI.c (Int.ofNat 0)) (SI.v 0), SB.le (SI.v 0) (SI.c (Int.ofNat 65535)),
          SB.le (SI.c (Int.ofNat 0)) (SI.v 1), SB.le (SI.v 1) (SI.c (Int.ofNat 65535)),
          SB.le (SI.c (Int.ofNat 0)) (SI.v 2), SB.le (SI.v 2) (SI.c (Int.ofNat 255))],
      eqs := [Eqn.T (SB.app 199 SA.nil)] },
    {
      pc :=
        [SB.not
            (SB.eq
              (SI.sel
                (SL.app 124
                  (SA.l
                    (SL.app 125
                      (SA.l
                        (SL.app 110
                          (SA.l
                            (SL.app 110
                              (SA.l (SL.lit [])
                                (SA.i (SI.v 2)
                                  (SA.i (SI.add (SI.v 0) (SI.c (Int.ofNat 1)))
                                    (SA.i (SI.c (Int.ofNat 0)) (SA.i (SI.c (Int.ofNat 0)) SA.nil))))))
                            (SA.i (SI.v 2)
                              (SA.i (SI.add (SI.v 1) (SI.c (Int.ofNat 1)))
                                (SA.i (SI.c (Int.ofNat 0)) (SA.i (SI.c (Int.ofNat 0)) SA.nil))))))
                        (SA.i (SI.v 1) SA.nil)))
                    (SA.i (SI.add (SI.v 1) (SI.c (Int.ofNat 1))) SA.nil)))
                (SI.c (Int.ofNat 0)) 0)
              (SI.v 2)),
          SB.eq
            (SI.len
              (SL.app 124
                (SA.l
                  (SL.app 125
                    (SA.l
                      (SL.app 110
                        (SA.l
                          (SL.app 110
                            (SA.l (SL.lit [])
                              (SA.i (SI.v 2)
                                (SA.i (SI.add (SI.v 0) (SI.c (Int.ofNat 1)))
                                  (SA.i (SI.c (Int.ofNat 0)) (SA.i (SI.c (Int.ofNat 0)) SA.nil))))))
                          (SA.i (SI.v 2)
                            (SA.i (SI.add (SI.v 1) (SI.c (Int.ofNat 1)))
                              (SA.i (SI.c (Int.ofNat 0)) (SA.i (SI.c (Int.ofNat 0)) SA.nil))))))
                      (SA.i (SI.v 1) SA.nil)))
                  (SA.i (SI.add (SI.v 1) (SI.c (Int.ofNat 1))) SA.nil))))
            (SI.c (Int.ofNat 1)),
          SB.eq
            (SI.len
              (SL.app 124
                (SA.l
                  (SL.app 110
                    (SA.l
                      (SL.app 110
                        (SA.l (SL.lit [])
                          (SA.i (SI.v 2)
                            (SA.i (SI.add (SI.v 0) (SI.c (Int.ofNat 1)))
                              (SA.i (SI.c (Int.ofNat 0)) (SA.i (SI.c (Int.ofNat 0)) SA.nil))))))
                      (SA.i (SI.v 2)
                        (SA.i (SI.add (SI.v 1) (SI.c (Int.ofNat 1)))
                          (SA.i (SI.c (Int.ofNat 0)) (SA.i (SI.c (Int.ofNat 0)) SA.nil))))))
                  (SA.i (SI.v 1) SA.nil))))
            (SI.c (Int.ofNat 0)),
          SB.eq
            (SI.app 112
              (SA.l
                (SL.app 110
                  (SA.l
                    (SL.app 110
                      (SA.l (SL.lit [])
                        (SA.i (SI.v 2)
                          (SA.i (SI.add (SI.v 0) (SI.c (Int.ofNat 1)))
                            (SA.i (SI.c (Int.ofNat 0)) (SA.i (SI.c (Int.ofNat 0)) SA.nil))))))
                    (SA.i (SI.v 2)
                      (SA.i (SI.add (SI.v 1) (SI.c (Int.ofNat 1)))
                        (SA.i (SI.c (Int.ofNat 0)) (SA.i (SI.c (Int.ofNat 0)) SA.nil))))))
                SA.nil))
            (SI.add (SI.v 1) (SI.c (Int.ofNat 1))),
          SB.not
            (SB.eq
              (SI.len
                (SL.app 125
                  (SA.l
                    (SL.app 125
                      (SA.l
                        (SL.app 110
                          (SA.l
                            (SL.app 110
                              (SA.l (SL.lit [])
                                (SA.i (SI.v 2)
                                  (SA.i (SI.add (SI.v 0) (SI.c (Int.ofNat 1)))
                                    (SA.i (SI.c (Int.ofNat 0)) (SA.i (SI.c (Int.ofNat 0)) SA.nil))))))
                            (SA.i (SI.v 2)
                              (SA.i (SI.add (SI.v 1) (SI.c (Int.ofNat 1)))
                                (SA.i (SI.c (Int.ofNat 0)) (SA.i (SI.c (Int.ofNat 0)) SA.nil))))))
                        (SA.i (SI.v 1) SA.nil)))
                    (SA.i (SI.add (SI.v 1) (SI.c (Int.ofNat 1))) SA.nil))))
              (SI.c (Int.ofNat 0))),
          SB.le
            (SI.len
              (SL.app 125
                (SA.l
                  (SL.app 125
                    (SA.l
                      (SL.app 110
                        (SA.l
                          (SL.app 110
                            (SA.l (SL.lit [])
                              (SA.i (SI.v 2)
                                (SA.i (SI.add (SI.v 0) (SI.c (Int.ofNat 1)))
                                  (SA.i (SI.c (Int.ofNat 0)) (SA.i (SI.c (Int.ofNat 0)) SA.nil))))))
                          (SA.i (SI.v 2)
                            (SA.i (SI.add (SI.v 1) (SI.c (Int.ofNat 1)))
                              (SA.i (SI.c (Int.ofNat 0)) (SA.i (SI.c (Int.ofNat 0)) SA.nil))))))
                      (SA.i (SI.v 1) SA.nil)))
                  (SA.i (SI.add (SI.v 1) (SI.c (Int.ofNat 1))) SA.nil))))
            (SI.len
              (SL.app 125
                (SA.l
                  (SL.app 110
                    (SA.l
                      (SL.app 110
                        (SA.l (SL.lit [])
                          (SA.i (SI.v 2)
                            (SA.i (SI.add (SI.v 0) (SI.c (Int.ofNat 1)))
                              (SA.i (SI.c (Int.ofNat 0)) (SA.i (SI.c (Int.ofNat 0)) SA.nil))))))
                      (SA.i (SI.v 2)
                        (SA.i (SI.add (SI.v 1) (SI.c (Int.ofNat 1)))
                          (SA.i (SI.c (Int.ofNat 0)) (SA.i (SI.c (Int.ofNat 0)) SA.nil))))))
                  (SA.i (SI.v 1) SA.nil)))),
          SB.lt
            (SI.len
              (SL.app 124
                (SA.l
                  (SL.app 125
                    (SA.l
                      (SL.app 110
                        (SA.l
                          (SL.app 110
                            (SA.l (SL.lit [])
                              (SA.i (SI.v 2)
                                (SA.i (SI.add (SI.v 0) (SI.c (Int.ofNat 1)))
                                  (SA.i (SI.c (Int.ofNat 0)) (SA.i (SI.c (Int.ofNat 0)) SA.nil))))))
                          (SA.i (SI.v 2)
                            (SA.i (SI.add (SI.v 1) (SI.c (Int.ofNat 1)))
                              (SA.i (SI.c (Int.ofNat 0)) (SA.i (SI.c (Int.ofNat 0)) SA.nil))))))
                      (SA.i (SI.v 1) SA.nil)))
                  (SA.i (SI.add (SI.v 1) (SI.c (Int.ofNat 1))) SA.nil))))
            (SI.c (Int.ofNat 80000)),
          SB.le
            (SI.len
              (SL.app 125
                (SA.l
                  (SL.app 110
                    (SA.l
                      (SL.app 110
                        (SA.l (SL.lit [])
                          (SA.i (SI.v 2)
                            (SA.i (SI.add (SI.v 0) (SI.c (Int.ofNat 1)))
                              (SA.i (SI.c (Int.ofNat 0)) (SA.i (SI.c (Int.ofNat 0)) SA.nil))))))
                      (SA.i (SI.v 2)
                        (SA.i (SI.add (SI.v 1) (SI.c (Int.ofNat 1)))
                          (SA.i (SI.c (Int.ofNat 0)) (SA.i (SI.c (Int.ofNat 0)) SA.nil))))))
                  (SA.i (SI.v 1) SA.nil))))
            (SI.len
              (SL.app 110
                (SA.l
                  (SL.app 110
                    (SA.l (SL.lit [])
                      (SA.i (SI.v 2)
                        (SA.i (SI.add (SI.v 0) (SI.c (Int.ofNat 1)))
                          (SA.i (SI.c (Int.ofNat 0)) (SA.i (SI.c (Int.ofNat 0)) SA.nil))))))
                  (SA.i (SI.v 2)
                    (SA.i (SI.add (SI.v 1) (SI.c (Int.ofNat 1)))
                      (SA.i (SI.c (Int.ofNat 0)) (SA.i (SI.c (Int.ofNat 0)) SA.nil))))))),
          SB.lt
            (SI.len
              (SL.app 124
                (SA.l
                  (SL.app 110
                    (SA.l
                      (SL.app 110
                        (SA.l (SL.lit [])
                          (SA.i (SI.v 2)
                            (SA.i (SI.add (SI.v 0) (SI.c (Int.ofNat 1)))
                              (SA.i (SI.c (Int.ofNat 0)) (SA.i (SI.c (Int.ofNat 0)) SA.nil))))))
                      (SA.i (SI.v 2)
                        (SA.i (SI.add (SI.v 1) (SI.c (Int.ofNat 1)))
                          (SA.i (SI.c (Int.ofNat 0)) (SA.i (SI.c (Int.ofNat 0)) SA.nil))))))
                  (SA.i (SI.v 1) SA.nil))))
            (SI.c (Int.ofNat 80000)),
          SB.not
            (SB.eq
              (SI.len
                (SL.app 110
                  (SA.l
                    (SL.app 110
                      (SA.l (SL.lit [])
                        (SA.i (SI.v 2)
                          (SA.i (SI.add (SI.v 0) (SI.c (Int.ofNat 1)))
                            (SA.i (SI.c (Int.ofNat 0)) (SA.i (SI.c (Int.ofNat 0)) SA.nil))))))
                    (SA.i (SI.v 2)
                      (SA.i (SI.add (SI.v 1) (SI.c (Int.ofNat 1)))
                        (SA.i (SI.c (Int.ofNat 0)) (SA.i (SI.c (Int.ofNat 0)) SA.nil)))))))
              (SI.c (Int.ofNat 0))),
          SB.eq
            (SI.app 110
              (SA.i (SI.v 2)
                (SA.i (SI.add (SI.v 1) (SI.c (Int.ofNat 1)))
                  (SA.i (SI.c (Int.ofNat 0)) (SA.i (SI.c (Int.ofNat 0)) SA.nil)))))
            (SI.c (Int.ofNat 0)),
          SB.le
            (SI.len
              (SL.app 110
                (SA.l
                  (SL.app 110
                    (SA.l (SL.lit [])
                      (SA.i (SI.v 2)
                        (SA.i (SI.add (SI.v 0) (SI.c (Int.ofNat 1)))
                          (SA.i (SI.c (Int.ofNat 0)) (SA.i (SI.c (Int.ofNat 0)) SA.nil))))))
                  (SA.i (SI.v 2)
                    (SA.i (SI.add (SI.v 1) (SI.c (Int.ofNat 1)))
                      (SA.i (SI.c (Int.ofNat 0)) (SA.i (SI.c (Int.ofNat 0)) SA.nil)))))))
            (SI.add
              (SI.len
                (SL.app 110
                  (SA.l (SL.lit [])
                    (SA.i (SI.v 2)
                      (SA.i (SI.add (SI.v 0) (SI.c (Int.ofNat 1)))
                        (SA.i (SI.c (Int.ofNat 0)) (SA.i (SI.c (Int.ofNat 0)) SA.nil)))))))
              (SI.c (Int.ofNat 1))),
          SB.eq
            (SI.app 110
              (SA.i (SI.v 2)
                (SA.i (SI.add (SI.v 0) (SI.c (Int.ofNat 1)))
                  (SA.i (SI.c (Int.ofNat 0)) (SA.i (SI.c (Int.ofNat 0)) SA.nil)))))
            (SI.c (Int.ofNat 0)),
          SB.le
            (SI.len
              (SL.app 110
                (SA.l (SL.lit [])
                  (SA.i (SI.v 2)
                    (SA.i (SI.add (SI.v 0) (SI.c (Int.ofNat 1)))
                      (SA.i (SI.c (Int.ofNat 0)) (SA.i (SI.c (Int.ofNat 0)) SA.nil)))))))
            (SI.c (Int.ofNat 1)),
          SB.le (SI.c (Int.ofNat 0)) (SI.v 0), SB.le (SI.v 0) (SI.c (Int.ofNat 65535)),
          SB.le (SI.c (Int.ofNat 0)) (SI.v 1), SB.le (SI.v 1) (SI.c (Int.ofNat 65535)),
          SB.le (SI.c (Int.ofNat 0)) (SI.v 2), SB.le (SI.v 2) (SI.c (Int.ofNat 255))],
      eqs := [Eqn.T (SB.app 199 SA.nil)] },
    {
      pc :=
        [SB.not
            (SB.eq
              (SI.len
                (SL.app 124
                  (SA.l
                    (SL.app 125
                      (SA.l
                        (SL.app 110
                          (SA.l
                            (SL.app 110
                              (SA.l (SL.lit [])
                                (SA.i (SI.v 2)
                                  (SA.i (SI.add (SI.v 0) (SI.c (Int.ofNat 1)))
                                    (SA.i (SI.c (Int.ofNat 0)) (SA.i (SI.c (Int.ofNat 0)) SA.nil))))))
                            (SA.i (SI.v 2)
                              (SA.i (SI.add (SI.v 1) (SI.c (Int.ofNat 1)))
                                (SA.i (SI.c (Int.ofNat 0)) (SA.i (SI.c (Int.ofNat 0)) SA.nil))))))
                        (SA.i (SI.v 1) SA.nil)))
                    (SA.i (SI.add (SI.v 1) (SI.c (Int.ofNat 1))) SA.nil))))
              (SI.c (Int.ofNat 1))),
          SB.eq
            (SI.len
              (SL.app 124
                (SA.l
                  (SL.app 110
                    (SA.l
                      (SL.app 110
                        (SA.l (SL.lit [])
                          (SA.i (SI.v 2)
                            (SA.i (SI.add (SI.v 0) (SI.c (Int.ofNat 1)))
                              (SA.i (SI.c (Int.ofNat 0)) (SA.i (SI.c (Int.ofNat 0)) SA.nil))))))
                      (SA.i (SI.v 2)
                        (SA.i (SI.add (SI.v 1) (SI.c (Int.ofNat 1)))
                          (SA.i (SI.c (Int.ofNat 0)) (SA.i (SI.c (Int.ofNat 0)) SA.nil))))))
                  (SA.i (SI.v 1) SA.nil))))
            (SI.c (Int.ofNat 0)),
          SB.eq
            (SI.app 112
              (SA.l
                (SL.app 110
                  (SA.l
                    (SL.app 110
                      (SA.l (SL.lit [])
                        (SA.i (SI.v 2)
                          (SA.i (SI.add (SI.v 0) (SI.c (Int.ofNat 1)))
                            (SA.i (SI.c (Int.ofNat 0)) (SA.i (SI.c (Int.ofNat 0)) SA.nil))))))
                    (SA.i (SI.v 2)
                      (SA.i (SI.add (SI.v 1) (SI.c (Int.ofNat 1)))
                        (SA.i (SI.c (Int.ofNat 0)) (SA.i (SI.c (Int.ofNat 0)) SA.nil))))))
                SA.nil))
            (SI.add (SI.v 1) (SI.c (Int.ofNat 1))),
          SB.not
            (SB.eq
              (SI.len
                (SL.app 125
                  (SA.l
                    (SL.app 125
                      (SA.l
                        (SL.app 110
                          (SA.l
                            (SL.app 110
                              (SA.l (SL.lit [])
                                (SA.i (SI.v 2)
                                  (SA.i (SI.add (SI.v 0) (SI.c (Int.ofNat 1)))
                                    (SA.i (SI.c (Int.ofNat 0)) (SA.i (SI.c (Int.ofNat 0)) SA.nil))))))
                            (SA.i (SI.v 2)
                              (SA.i (SI.add (SI.v 1) (SI.c (Int.ofNat 1)))
                                (SA.i (SI.c (Int.ofNat 0)) (SA.i (SI.c (Int.ofNat 0)) SA.nil))))))
                        (SA.i (SI.v 1) SA.nil)))
                    (SA.i (SI.add (SI.v 1) (SI.c (Int.ofNat 1))) SA.nil))))
              (SI.c (Int.ofNat 0))),
          SB.le
            (SI.len
              (SL.app 125
                (SA.l
                  (SL.app 125
                    (SA.l
                      (SL.app 110
                        (SA.l
                          (SL.app 110
                            (SA.l (SL.lit [])
                              (SA.i (SI.v 2)
                                (SA.i (SI.add (SI.v 0) (SI.c (Int.ofNat 1)))
                                  (SA.i (SI.c (Int.ofNat 0)) (SA.i (SI.c (Int.ofNat 0)) SA.nil))))))
                          (SA.i (SI.v 2)
                            (SA.i (SI.add (SI.v 1) (SI.c (Int.ofNat 1)))
                              (SA.i (SI.c (Int.ofNat 0)) (SA.i (SI.c (Int.ofNat 0)) SA.nil))))))
                      (SA.i (SI.v 1) SA.nil)))
                  (SA.i (SI.add (SI.v 1) (SI.c (Int.ofNat 1))) SA.nil))))
            (SI.len
              (SL.app 125
                (SA.l
                  (SL.app 110
                    (SA.l
                      (SL.app 110
                        (SA.l (SL.lit [])
                          (SA.i (SI.v 2)
                            (SA.i (SI.add (SI.v 0) (SI.c (Int.ofNat 1)))
                              (SA.i (SI.c (Int.ofNat 0)) (SA.i (SI.c (Int.ofNat 0)) SA.nil))))))
                      (SA.i (SI.v 2)
                        (SA.i (SI.add (SI.v 1) (SI.c (Int.ofNat 1)))
                          (SA.i (SI.c (Int.ofNat 0)) (SA.i (SI.c (Int.ofNat 0)) SA.nil))))))
                  (SA.i (SI.v 1) SA.nil)))),
          SB.lt
            (SI.len
              (SL.app 124
                (SA.l
                  (SL.app 125
                    (SA.l
                      (SL.app 110
                        (SA.l
                          (SL.app 110
                            (SA.l (SL.lit [])
                              (SA.i (SI.v 2)
                                (SA.i (SI.add (SI.v 0) (SI.c (Int.ofNat 1)))
                                  (SA.i (SI.c (Int.ofNat 0)) (SA.i (SI.c (Int.ofNat 0)) SA.nil))))))
                          (SA.i (SI.v 2)
                            (SA.i (SI.add (SI.v 1) (SI.c (Int.ofNat 1)))
                              (SA.i (SI.c (Int.ofNat 0)) (SA.i (SI.c (Int.ofNat 0)) SA.nil))))))
                      (SA.i (SI.v 1) SA.nil)))
                  (SA.i (SI.add (SI.v 1) (SI.c (Int.ofNat 1))) SA.nil))))
            (SI.c (Int.ofNat 80000)),
          SB.le
            (SI.len
              (SL.app 125
                (SA.l
                  (SL.app 110
                    (SA.l
                      (SL.app 110
                        (SA.l (SL.lit [])
                          (SA.i (SI.v 2)
                            (SA.i (SI.add (SI.v 0) (SI.c (Int.ofNat 1)))
                              (SA.i (SI.c (Int.ofNat 0)) (SA.i (SI.c (Int.ofNat 0)) SA.nil))))))
                      (SA.i (SI.v 2)
                        (SA.i (SI.add (SI.v 1) (SI.c (Int.ofNat 1)))
                          (SA.i (SI.c (Int.ofNat 0)) (SA.i (SI.c (Int.ofNat 0)) SA.nil))))))
                  (SA.i (SI.v 1) SA.nil))))
            (SI.len
              (SL.app 110
                (SA.l
                  (SL.app 110
                    (SA.l (SL.lit [])
                      (SA.i (SI.v 2)
                        (SA.i (SI.add (SI.v 0) (SI.c (Int.ofNat 1)))
                          (SA.i (SI.c (Int.ofNat 0)) (SA.i (SI.c (Int.ofNat 0)) SA.nil))))))
                  (SA.i (SI.v 2)
                    (SA.i (SI.add (SI.v 1) (SI.c (Int.ofNat 1)))
                      (SA.i (SI.c (Int.ofNat 0)) (SA.i (SI.c (Int.ofNat 0)) SA.nil))))))),
          SB.lt
            (SI.len
              (SL.app 124
                (SA.l
                  (SL.app 110
                    (SA.l
                      (SL.app 110
                        (SA.l (SL.lit [])
                          (SA.i (SI.v 2)
                            (SA.i (SI.add (SI.v 0) (SI.c (Int.ofNat 1)))
                              (SA.i (SI.c (Int.ofNat 0)) (SA.i (SI.c (Int.ofNat 0)) SA.nil))))))
                      (SA.i (SI.v 2)
                        (SA.i (SI.add (SI.v 1) (SI.c (Int.ofNat 1)))
                          (SA.i (SI.c (Int.ofNat 0)) (SA.i (SI.c (Int.ofNat 0)) SA.nil))))))
                  (SA.i (SI.v 1) SA.nil))))
            (SI.c (Int.ofNat 80000)),
          SB.not
            (SB.eq
              (SI.len
                (SL.app 110
                  (SA.l
                    (SL.app 110
                      (SA.l (SL.lit [])
                        (SA.i (SI.v 2)
                          (SA.i (SI.add (SI.v 0) (SI.c (Int.ofNat 1)))
                            (SA.i (SI.c (Int.ofNat 0)) (SA.i (SI.c (Int.ofNat 0)) SA.nil))))))
                    (SA.i (SI.v 2)
                      (SA.i (SI.add (SI.v 1) (SI.c (Int.ofNat 1)))
                        (SA.i (SI.c (Int.ofNat 0)) (SA.i (SI.c (Int.ofNat 0)) SA.nil)))))))
              (SI.c (Int.ofNat 0))),
          SB.eq
            (SI.app 110
              (SA.i (SI.v 2)
                (SA.i (SI.add (SI.v 1) (SI.c (Int.ofNat 1)))
                  (SA.i (SI.c (Int.ofNat 0)) (SA.i (SI.c (Int.ofNat 0)) SA.nil)))))
            (SI.c (Int.ofNat 0)),
          SB.le
            (SI.len
              (SL.app 110
                (SA.l
                  (SL.app 110
                    (SA.l (SL.lit [])
                      (SA.i (SI.v 2)
                        (SA.i (SI.add (SI.v 0) (SI.c (Int.ofNat 1)))
                          (SA.i (SI.c (Int.ofNat 0)) (SA.i (SI.c (Int.ofNat 0)) SA.nil))))))
                  (SA.i (SI.v 2)
                    (SA.i (SI.add (SI.v 1) (SI.c (Int.ofNat 1)))
                      (SA.i (SI.c (Int.ofNat 0)) (SA.i (SI.c (Int.ofNat 0)) SA.nil)))))))
            (SI.add
              (SI.len
                (SL.app 110
                  (SA.l (SL.lit [])
                    (SA.i (SI.v 2)
                      (SA.i (SI.add (SI.v 0) (SI.c (Int.ofNat 1)))
                        (SA.i (SI.c (Int.ofNat 0)) (SA.i (SI.c (Int.ofNat 0)) SA.nil)))))))
              (SI.c (Int.ofNat 1))),
          SB.eq
            (SI.app 110
              (SA.i (SI.v 2)
                (SA.i (SI.add (SI.v 0) (SI.c (Int.ofNat 1)))
                  (SA.i (SI.c (Int.ofNat 0)) (SA.i (SI.c (Int.ofNat 0)) SA.nil)))))
            (SI.c (Int.ofNat 0)),
          SB.le
            (SI.len
              (SL.app 110
                (SA.l (SL.lit [])
                  (SA.i (SI.v 2)
                    (SA.i (SI.add (SI.v 0) (SI.c (Int.ofNat 1)))
                      (SA.i (SI.c (Int.ofNat 0)) (SA.i (SI.c (Int.ofNat 0)) SA.nil)))))))
            (SI.c (Int.ofNat 1)),
          SB.le (SI.c (Int.ofNat 0)) (SI.v 0), SB.le (SI.v 0) (SI.c (Int.ofNat 65535)),
          SB.le (SI.c (Int.ofNat 0)) (SI.v 1), SB.le (SI.v 1) (SI.c (Int.ofNat 65535)),
          SB.le (SI.c (Int.ofNat 0)) (SI.v 2), SB.le (SI.v 2) (SI.c (Int.ofNat 255))],
      eqs := [Eqn.T (SB.app 199 SA.nil)] },
    {
      pc :=
        [SB.not
            (SB.eq
              (SI.len
                (SL.app 124
                  (SA.l
                    (SL.app 110
                      (SA.l
                        (SL.app 110
                          (SA.l (SL.lit [])
                            (SA.i (SI.v 2)
                              (SA.i (SI.add (SI.v 0) (SI.c (Int.ofNat 1)))
                                (SA.i (SI.c (Int.ofNat 0)) (SA.i (SI.c (Int.ofNat 0)) SA.nil))))))
                        (SA.i (SI.v 2)
                          (SA.i (SI.add (SI.v 1) (SI.c (Int.ofNat 1)))
                            (SA.i (SI.c (Int.ofNat 0)) (SA.i (SI.c (Int.ofNat 0)) SA.nil))))))
                    (SA.i (SI.v 1) SA.nil))))
              (SI.c (Int.ofNat 0))),
          SB.eq
            (SI.app 112
              (SA.l
                (SL.app 110
                  (SA.l
                    (SL.app 110
                      (SA.l (SL.lit [])
                        (SA.i (SI.v 2)
                          (SA.i (SI.add (SI.v 0) (SI.c (Int.ofNat 1)))
                            (SA.i (SI.c (Int.ofNat 0)) (SA.i (SI.c (Int.ofNat 0)) SA.nil))))))
                    (SA.i (SI.v 2)
                      (SA.i (SI.add (SI.v 1) (SI.c (Int.ofNat 1)))
                        (SA.i (SI.c (Int.ofNat 0)) (SA.i (SI.c (Int.ofNat 0)) SA.nil))))))
                SA.nil))
            (SI.add (SI.v 1) (SI.c (Int.ofNat 1))),
          SB.not
            (SB.eq
              (SI.len
                (SL.app 125
                  (SA.l
                    (SL.app 125
                      (SA.l
                        (SL.app 110
                          (SA.l
                            (SL.app 110
                              (SA.l (SL.lit [])
                                (SA.i (SI.v 2)
                                  (SA.i (SI.add (SI.v 0) (SI.c (Int.ofNat 1)))
                                    (SA.i (SI.c (Int.ofNat 0)) (SA.i (SI.c (Int.ofNat 0)) SA.nil))))))
                            (SA.i (SI.v 2)
                              (SA.i (SI.add (SI.v 1) (SI.c (Int.ofNat 1)))
                                (SA.i (SI.c (Int.ofNat 0)) (SA.i (SI.c (Int.ofNat 0)) SA.nil))))))
                        (SA.i (SI.v 1) SA.nil)))
                    (SA.i (SI.add (SI.v 1) (SI.c (Int.ofNat 1))) SA.nil))))
              (SI.c (Int.ofNat 0))),
          SB.le
            (SI.len
              (SL.app 125
                (SA.l
                  (SL.app 125
                    (SA.l
                      (SL.app 110
                        (SA.l
                          (SL.app 110
                            (SA.l (SL.lit [])
                              (SA.i (SI.v 2)
                                (SA.i (SI.add (SI.v 0) (SI.c (Int.ofNat 1)))
                                  (SA.i (SI.c (Int.ofNat 0)) (SA.i (SI.c (Int.ofNat 0)) SA.nil))))))
                          (SA.i (SI.v 2)
                            (SA.i (SI.add (SI.v 1) (SI.c (Int.ofNat 1)))
                              (SA.i (SI.c (Int.ofNat 0)) (SA.i (SI.c (Int.ofNat 0)) SA.nil))))))
                      (SA.i (SI.v 1) SA.nil)))
                  (SA.i (SI.add (SI.v 1) (SI.c (Int.ofNat 1))) SA.nil))))
            (SI.len
              (SL.app 125
                (SA.l
                  (SL.app 110
                    (SA.l
                      (SL.app 110
                        (SA.l (SL.lit [])
                          (SA.i (SI.v 2)
                            (SA.i (SI.add (SI.v 0) (SI.c (Int.ofNat 1)))
                              (SA.i (SI.c (Int.ofNat 0)) (SA.i (SI.c (Int.ofNat 0)) SA.nil))))))
                      (SA.i (SI.v 2)
                        (SA.i (SI.add (SI.v 1) (SI.c (Int.ofNat 1)))
                          (SA.i (SI.c (Int.ofNat 0)) (SA.i (SI.c (Int.ofNat 0)) SA.nil))))))
                  (SA.i (SI.v 1) SA.nil)))),
          SB.lt
            (SI.len
              (SL.app 124
                (SA.l
                  (SL.app 125
                    (SA.l
                      (SL.app 110
                        (SA.l
                          (SL.app 110
                            (SA.l (SL.lit [])
                              (SA.i (SI.v 2)
                                (SA.i (SI.add (SI.v 0) (SI.c (Int.ofNat 1)))
                                  (SA.i (SI.c (Int.ofNat 0)) (SA.i (SI.c (Int.ofNat 0)) SA.nil))))))
                          (SA.i (SI.v 2)
                            (SA.i (SI.add (SI.v 1) (SI.c (Int.ofNat 1)))
                              (SA.i (SI.c (Int.ofNat 0)) (SA.i (SI.c (Int.ofNat 0)) SA.nil))))))
                      (SA.i (SI.v 1) SA.nil)))
                  (SA.i (SI.add (SI.v 1) (SI.c (Int.ofNat 1))) SA.nil))))
            (SI.c (Int.ofNat 80000)),
          SB.le
            (SI.len
              (SL.app 125
                (SA.l
                  (SL.app 110
                    (SA.l
                      (SL.app 110
                        (SA.l (SL.lit [])
                          (SA.i (SI.v 2)
                            (SA.i (SI.add (SI.v 0) (SI.c (Int.ofNat 1)))
                              (SA.i (SI.c (Int.ofNat 0)) (SA.i (SI.c (Int.ofNat 0)) SA.nil))))))
                      (SA.i (SI.v 2)
                        (SA.i (SI.add (SI.v 1) (SI.c (Int.ofNat 1)))
                          (SA.i (SI.c (Int.ofNat 0)) (SA.i (SI.c (Int.ofNat 0)) SA.nil))))))
                  (SA.i (SI.v 1) SA.nil))))
            (SI.len
              (SL.app 110
                (SA.l
                  (SL.app 110
                    (SA.l (SL.lit [])
                      (SA.i (SI.v 2)
                        (SA.i (SI.add (SI.v 0) (SI.c (Int.ofNat 1)))
                          (SA.i (SI.c (Int.ofNat 0)) (SA.i (SI.c (Int.ofNat 0)) SA.nil))))))
                  (SA.i (SI.v 2)
                    (SA.i (SI.add (SI.v 1) (SI.c (Int.ofNat 1)))
                      (SA.i (SI.c (Int.ofNat 0)) (SA.i (SI.c (Int.ofNat 0)) SA.nil))))))),
          SB.lt
            (SI.len
              (SL.app 124
                (SA.l
                  (SL.app 110
                    (SA.l
                      (SL.app 110
                        (SA.l (SL.lit [])
                          (SA.i (SI.v 2)
                            (SA.i (SI.add (SI.v 0) (SI.c (Int.ofNat 1)))
                              (SA.i (SI.c (Int.ofNat 0)) (SA.i (SI.c (Int.ofNat 0)) SA.nil))))))
                      (SA.i (SI.v 2)
                        (SA.i (SI.add (SI.v 1) (SI.c (Int.ofNat 1)))
                          (SA.i (SI.c (Int.ofNat 0)) (SA.i (SI.c (Int.ofNat 0)) SA.nil))))))
                  (SA.i (SI.v 1) SA.nil))))
            (SI.c (Int.ofNat 80000)),
          SB.not
            (SB.eq
              (SI.len
                (SL.app 110
                  (SA.l
                    (SL.app 110
                      (SA.l (SL.lit [])
                        (SA.i (SI.v 2)
                          (SA.i (SI.add (SI.v 0) (SI.c (Int.ofNat 1)))
                            (SA.i (SI.c (Int.ofNat 0)) (SA.i (SI.c (Int.ofNat 0)) SA.nil))))))
                    (SA.i (SI.v 2)
                      (SA.i (SI.add (SI.v 1) (SI.c (Int.ofNat 1)))
                        (SA.i (SI.c (Int.ofNat 0)) (SA.i (SI.c (Int.ofNat 0)) SA.nil)))))))
              (SI.c (Int.ofNat 0))),
          SB.eq
            (SI.app 110
              (SA.i (SI.v 2)
                (SA.i (SI.add (SI.v 1) (SI.c (Int.ofNat 1)))
                  (SA.i (SI.c (Int.ofNat 0)) (SA.i (SI.c (Int.ofNat 0)) SA.nil)))))
            (SI.c (Int.ofNat 0)),
          SB.le
            (SI.len
              (SL.app 110
                (SA.l
                  (SL.app 110
                    (SA.l (SL.lit [])
                      (SA.i (SI.v 2)
                        (SA.i (SI.add (SI.v 0) (SI.c (Int.ofNat 1)))
                          (SA.i (SI.c (Int.ofNat 0)) (SA.i (SI.c (Int.ofNat 0)) SA.nil))))))
                  (SA.i (SI.v 2)
                    (SA.i (SI.add (SI.v 1) (SI.c (Int.ofNat 1)))
                      (SA.i (SI.c (Int.ofNat 0)) (SA.i (SI.c (Int.ofNat 0)) SA.nil)))))))
            (SI.add
              (SI.len
                (SL.app 110
                  (SA.l (SL.lit [])
                    (SA.i (SI.v 2)
                      (SA.i (SI.add (SI.v 0) (SI.c (Int.ofNat 1)))
                        (SA.i (SI.c (Int.ofNat 0)) (SA.i (SI.c (Int.ofNat 0)) SA.nil)))))))
              (SI.c (Int.ofNat 1))),
          SB.eq
            (SI.app 110
              (SA.i (SI.v 2)
                (SA.i (SI.add (SI.v 0) (SI.c (Int.ofNat 1)))
                  (SA.i (SI.c (Int.ofNat 0)) (SA.i (SI.c (Int.ofNat 0)) SA.nil)))))
            (SI.c (Int.ofNat 0)),
          SB.le
            (SI.len
              (SL.app 110
                (SA.l (SL.lit [])
                  (SA.i (SI.v 2)
                    (SA.i (SI.add (SI.v 0) (SI.c (Int.ofNat 1)))
                      (SA.i (SI.c (Int.ofNat 0)) (SA.i (SI.c (Int.ofNat 0)) SA.nil)))))))
            (SI.c (Int.ofNat 1)),
          SB.le (SI.c (Int.ofNat 0)) (SI.v 0), SB.le (SI.v 0) (SI.c (Int.ofNat 65535)),
          SB.le (SI.c (Int.ofNat 0)) (SI.v 1), SB.le (SI.v 1) (SI.c (Int.ofNat 65535)),
          SB.le (SI.c (Int.ofNat 0)) (SI.v 2), SB.le (SI.v 2) (SI.c (Int.ofNat 255))],
      eqs := [Eqn.T (SB.app 199 SA.nil)] },
    {
      pc :=
        [SB.not
            (SB.eq
              (SI.app 112
                (SA.l
                  (SL.app 110
                    (SA.l
                      (SL.app 110
                        (SA.l (SL.lit [])
                          (SA.i (SI.v 2)
                            (SA.i (SI.add (SI.v 0) (SI.c (Int.ofNat 1)))
                              (SA.i (SI.c (Int.ofNat 0)) (SA.i (SI.c (Int.ofNat 0)) SA.nil))))))
                      (SA.i (SI.v 2)
                        (SA.i (SI.add (SI.v 1) (SI.c (Int.ofNat 1)))
                          (SA.i (SI.c (Int.ofNat 0)) (SA.i (SI.c (Int.ofNat 0)) SA.nil))))))
                  SA.nil))
              (SI.add (SI.v 1) (SI.c (Int.ofNat 1)))),
          SB.not
            (SB.eq
              (SI.len
                (SL.app 125
                  (SA.l
                    (SL.app 125
                      (SA.l
                        (SL.app 110
                          (SA.l
                            (SL.app 110
                              (SA.l (SL.lit [])
                                (SA.i (SI.v 2)
                                  (SA.i (SI.add (SI.v 0) (SI.c (Int.ofNat 1)))
                                    (SA.i (SI.c (Int.ofNat 0)) (SA.i (SI.c (Int.ofNat 0)) SA.nil))))))
                            (SA.i (SI.v 2)
                              (SA.i (SI.add (SI.v 1) (SI.c (Int.ofNat 1)))
                                (SA.i (SI.c (Int.ofNat 0)) (SA.i (SI.c (Int.ofNat 0)) SA.nil))))))
                        (SA.i (SI.v 1) SA.nil)))
                    (SA.i (SI.add (SI.v 1) (SI.c (Int.ofNat 1))) SA.nil))))
              (SI.c (Int.ofNat 0))),
          SB.le
            (SI.len
              (SL.app 125
                (SA.l
                  (SL.app 125
                    (SA.l
                      (SL.app 110
                        (SA.l
                          (SL.app 110
                            (SA.l (SL.lit [])
                              (SA.i (SI.v 2)
                                (SA.i (SI.add (SI.v 0) (SI.c (Int.ofNat 1)))
                                  (SA.i (SI.c (Int.ofNat 0)) (SA.i (SI.c (Int.ofNat 0)) SA.nil))))))
                          (SA.i (SI.v 2)
                            (SA.i (SI.add (SI.v 1) (SI.c (Int.ofNat 1)))
                              (SA.i (SI.c (Int.ofNat 0)) (SA.i (SI.c (Int.ofNat 0)) SA.nil))))))
                      (SA.i (SI.v 1) SA.nil)))
                  (SA.i (SI.add (SI.v 1) (SI.c (Int.ofNat 1))) SA.nil))))
            (SI.len
              (SL.app 125
                (SA.l
                  (SL.app 110
                    (SA.l
                      (SL.app 110
                        (SA.l (SL.lit [])
                          (SA.i (SI.v 2)
                            (SA.i (SI.add (SI.v 0) (SI.c (Int.ofNat 1)))
                              (SA.i (SI.c (Int.ofNat 0)) (SA.i (SI.c (Int.ofNat 0)) SA.nil))))))
                      (SA.i (SI.v 2)
                        (SA.i (SI.add (SI.v 1) (SI.c (Int.ofNat 1)))
                          (SA.i (SI.c (Int.ofNat 0)) (SA.i (SI.c (Int.ofNat 0)) SA.nil))))))
                  (SA.i (SI.v 1) SA.nil)))),
          SB.lt
            (SI.len
              (SL.app 124
                (SA.l
                  (SL.app 125
                    (SA.l
                      (SL.app 110
                        (SA.l
                          (SL.app 110
                            (SA.l (SL.lit [])
                              (SA.i (SI.v 2)
                                (SA.i (SI.add (SI.v 0) (SI.c (Int.ofNat 1)))
                                  (SA.i (SI.c (Int.ofNat 0)) (SA.i (SI.c (Int.ofNat 0)) SA.nil))))))
                          (SA.i (SI.v 2)
                            (SA.i (SI.add (SI.v 1) (SI.c (Int.ofNat 1)))
                              (SA.i (SI.c (Int.ofNat 0)) (SA.i (SI.c (Int.ofNat 0)) SA.nil))))))
                      (SA.i (SI.v 1) SA.nil)))
                  (SA.i (SI.add (SI.v 1) (SI.c (Int.ofNat 1))) SA.nil))))
            (SI.c (Int.ofNat 80000)),
          SB.le
            (SI.len
              (SL.app 125
                (SA.l
                  (SL.app 110
                    (SA.l
                      (SL.app 110
                        (SA.l (SL.lit [])
                          (SA.i (SI.v 2)
                            (SA.i (SI.add (SI.v 0) (SI.c (Int.ofNat 1)))
                              (SA.i (SI.c (Int.ofNat 0)) (SA.i (SI.c (Int.ofNat 0)) SA.nil))))))
                      (SA.i (SI.v 2)
                        (SA.i (SI.add (SI.v 1) (SI.c (Int.ofNat 1)))
                          (SA.i (SI.c (Int.ofNat 0)) (SA.i (SI.c (Int.ofNat 0)) SA.nil))))))
                  (SA.i (SI.v 1) SA.nil))))
            (SI.len
              (SL.app 110
                (SA.l
                  (SL.app 110
                    (SA.l (SL.lit [])
                      (SA.i (SI.v 2)
                        (SA.i (SI.add (SI.v 0) (SI.c (Int.ofNat 1)))
                          (SA.i (SI.c (Int.ofNat 0)) (SA.i (SI.c (Int.ofNat 0)) SA.nil))))))
                  (SA.i (SI.v 2)
                    (SA.i (SI.add (SI.v 1) (SI.c (Int.ofNat 1)))
                      (SA.i (SI.c (Int.ofNat 0)) (SA.i (SI.c (Int.ofNat 0)) SA.nil))))))),
          SB.lt
            (SI.len
              (SL.app 124
                (SA.l
                  (SL.app 110
                    (SA.l
                      (SL.app 110
                        (SA.l (SL.lit [])
                          (SA.i (SI.v 2)
                            (SA.i (SI.add (SI.v 0) (SI.c (Int.ofNat 1)))
                              (SA.i (SI.c (Int.ofNat 0)) (SA.i (SI.c (Int.ofNat 0)) SA.nil))))))
                      (SA.i (SI.v 2)
                        (SA.i (SI.add (SI.v 1) (SI.c (Int.ofNat 1)))
                          (SA.i (SI.c (Int.ofNat 0)) (SA.i (SI.c (Int.ofNat 0)) SA.nil))))))
                  (SA.i (SI.v 1) SA.nil))))
            (SI.c (Int.ofNat 80000)),
          SB.not
            (SB.eq
              (SI.len
                (SL.app 110
                  (SA.l
                    (SL.app 110
                      (SA.l (SL.lit [])
                        (SA.i (SI.v 2)
                          (SA.i (SI.add (SI.v 0) (SI.c (Int.ofNat 1)))
                            (SA.i (SI.c (Int.ofNat 0)) (SA.i (SI.c (Int.ofNat 0)) SA.nil))))))
                    (SA.i (SI.v 2)
                      (SA.i (SI.add (SI.v 1) (SI.c (Int.ofNat 1)))
                        (SA.i (SI.c (Int.ofNat 0)) (SA.i (SI.c (Int.ofNat 0)) SA.nil)))))))
              (SI.c (Int.ofNat 0))),
          SB.eq
            (SI.app 110
              (SA.i (SI.v 2)
                (SA.i (SI.add (SI.v 1) (SI.c (Int.ofNat 1)))
                  (SA.i (SI.c (Int.ofNat 0)) (SA.i (SI.c (Int.ofNat 0)) SA.nil)))))
            (SI.c (Int.ofNat 0)),
          SB.le
            (SI.len
              (SL.app 110
                (SA.l
                  (SL.app 110
                    (SA.l (SL.lit [])
                      (SA.i (SI.v 2)
                        (SA.i (SI.add (SI.v 0) (SI.c (Int.ofNat 1)))
                          (SA.i (SI.c (Int.ofNat 0)) (SA.i (SI.c (Int.ofNat 0)) SA.nil))))))
                  (SA.i (SI.v 2)
                    (SA.i (SI.add (SI.v 1) (SI.c (Int.ofNat 1)))
                      (SA.i (SI.c (Int.ofNat 0)) (SA.i (SI.c (Int.ofNat 0)) SA.nil)))))))
            (SI.add
              (SI.len
                (SL.app 110
                  (SA.l (SL.lit [])
                    (SA.i (SI.v 2)
                      (SA.i (SI.add (SI.v 0) (SI.c (Int.ofNat 1)))
                        (SA.i (SI.c (Int.ofNat 0)) (SA.i (SI.c (Int.ofNat 0)) SA.nil)))))))
              (SI.c (Int.ofNat 1))),
          SB.eq
            (SI.app 110
              (SA.i (SI.v 2)
                (SA.i (SI.add (SI.v 0) (SI.c (Int.ofNat 1)))
                  (SA.i (SI.c (Int.ofNat 0)) (SA.i (SI.c (Int.ofNat 0)) SA.nil)))))
            (SI.c (Int.ofNat 0)),
          SB.le
            (SI.len
              (SL.app 110
                (SA.l (SL.lit [])
                  (SA.i (SI.v 2)
                    (SA.i (SI.add (SI.v 0) (SI.c (Int.ofNat 1)))
                      (SA.i (SI.c (Int.ofNat 0)) (SA.i (SI.c (Int.ofNat 0)) SA.nil)))))))
            (SI.c (Int.ofNat 1)),
          SB.le (SI.c (Int.ofNat 0)) (SI.v 0), SB.le (SI.v 0) (SI.c (Int.ofNat 65535)),
          SB.le (SI.c (Int.ofNat 0)) (SI.v 1), SB.le (SI.v 1) (SI.c (Int.ofNat 65535)),
          SB.le (SI.c (Int.ofNat 0)) (SI.v 2), SB.le (SI.v 2) (SI.c (Int.ofNat 255))],
      eqs := [Eqn.T (SB.app 199 SA.nil)] },
    {
      pc :=
        [SB.not
            (SB.eq
              (SI.app 110
                (SA.i (SI.v 2)
                  (SA.i (SI.add (SI.v 1) (SI.c (Int.ofNat 1)))
                    (SA.i (SI.c (Int.ofNat 0)) (SA.i (SI.c (Int.ofNat 0)) SA.nil)))))
              (SI.c (Int.ofNat 0))),
          SB.le
            (SI.len
              (SL.app 110
                (SA.l
                  (SL.app 110
                    (SA.l (SL.lit [])
                      (SA.i (SI.v 2)
                        (SA.i (SI.add (SI.v 0) (SI.c (Int.ofNat 1)))
                          (SA.i (SI.c (Int.ofNat 0)) (SA.i (SI.c (Int.ofNat 0)) SA.nil))))))
                  (SA.i (SI.v 2)
                    (SA.i (SI.add (SI.v 1) (SI.c (Int.ofNat 1)))
                      (SA.i (SI.c (Int.ofNat 0)) (SA.i (SI.c (Int.ofNat 0)) SA.nil)))))))
            (SI.add
              (SI.len
                (SL.app 110
                  (SA.l (SL.lit [])
                    (SA.i (SI.v 2)
                      (SA.i (SI.add (SI.v 0) (SI.c (Int.ofNat 1)))
                        (SA.i (SI.c (Int.ofNat 0)) (SA.i (SI.c (Int.ofNat 0)) SA.nil)))))))
              (SI.c (Int.ofNat 1))),
          SB.eq
            (SI.app 110
              (SA.i (SI.v 2)
                (SA.i (SI.add (SI.v 0) (SI.c (Int.ofNat 1)))
                  (SA.i (SI.c (Int.ofNat 0)) (SA.i (SI.c (Int.ofNat 0)) SA.nil)))))
            (SI.c (Int.ofNat 0)),
          SB.le
            (SI.len
              (SL.app 110
                (SA.l (SL.lit [])
                  (SA.i (SI.v 2)
                    (SA.i (SI.add (SI.v 0) (SI.c (Int.ofNat 1)))
                      (SA.i (SI.c (Int.ofNat 0)) (SA.i (SI.c (Int.ofNat 0)) SA.nil)))))))
            (SI.c (Int.ofNat 1)),
          SB.le (SI.c (Int.ofNat 0)) (SI.v 0), SB.le (SI.v 0) (SI.c (Int.ofNat 65535)),
          SB.le (SI.c (Int.ofNat 0)) (SI.v 1), SB.le (SI.v 1) (SI.c (Int.ofNat 65535)),
          SB.le (SI.c (Int.ofNat 0)) (SI.v 2), SB.le (SI.v 2) (SI.c (Int.ofNat 255))],
      eqs := [Eqn.T (SB.app 199 SA.nil)] },
    {
      pc :=
        [SB.not
            (SB.eq
              (SI.app 110
                (SA.i (SI.v 2)
                  (SA.i (SI.add (SI.v 0) (SI.c (Int.ofNat 1)))
                    (SA.i (SI.c (Int.ofNat 0)) (SA.i (SI.c (Int.ofNat 0)) SA.nil)))))
              (SI.c (Int.ofNat 0))),
          SB.le
            (SI.len
              (SL.app 110
                (SA.l (SL.lit [])
                  (SA.i (SI.v 2)
                    (SA.i (SI.add (SI.v 0) (SI.c (Int.ofNat 1)))
                      (SA.i (SI.c (Int.ofNat 0)) (SA.i (SI.c (Int.ofNat 0)) SA.nil)))))))
            (SI.c (Int.ofNat 1)),
          SB.le (SI.c (Int.ofNat 0)) (SI.v 0), SB.le (SI.v 0) (SI.c (Int.ofNat 65535)),
          SB.le (SI.c (Int.ofNat 0)) (SI.v 1), SB.le (SI.v 1) (SI.c (Int.ofNat 65535)),
          SB.le (SI.c (Int.ofNat 0)) (SI.v 2), SB.le (SI.v 2) (SI.c (Int.ofNat 255))],
      eqs := [Eqn.T (SB.app 199 SA.nil)] }] := by kernel_rfl
theorem lOnce0_ok : lOnce0.ok Φ Try.prog := by
  refine call_rule (fun ρ => t10_ok ρ) lOnce0_obs ?_
  simp only [and_imp, List.forall_mem_cons, List.not_mem_nil, false_implies, implies_true, and_true, Ob.ok, holds, Eqn.ok, evB_eq, evB_lt, evB_le, evB_not, evB_and, evB_or, evB_eqL, evB_app, evB_v, evB_c, ev_sel, ev_len, ev_v, ev_c, ev_add, ev_sub, ev_mul, ev_quo, ev_rem, ev_bits, ev_wrap, evL_v, evL_lit, evL_app, ev_app, evA_l, evA_i, evA_nil, std_min, std_max, std_cat, std_take, std_drop, std_row, std_set, std_rep, std_find, std_put, std_del, std_flag, std_unflag, std_clr, std_left, std_copy, ints_cons, ints_nil, ofNat_lit, negSucc_lit, decide_eq_true_eq, Bool.and_eq_true, Bool.or_eq_true, Bool.not_eq_true', Bool.and_eq_false_iff, Bool.or_eq_false_iff, decide_eq_false_iff_not, aI110, aI111, aI112, aI113, aI114, aI115, aI120, aI121, aI122, aL110, aL116, aL120, aL122, aL123, aL124, aL125, aB130, aB132, aB140, aB141, aB142, aL126, aL127, aL128, aB199]
  repeat' apply And.intro
  all_goals intro ρ hR
  all_goals intros
  all_goals first
    | (exfalso
       have h := once_T (k := ρ.i 2) (x := ρ.i 0) (y := ρ.i 1) (by omega) (by omega) (by omega) (by omega) (by omega)
       exact absurd h.1 (by with_reducible assumption))
    | (exfalso
       have h := once_T (k := ρ.i 2) (x := ρ.i 0) (y := ρ.i 1) (by omega) (by omega) (by omega) (by omega) (by omega)
       exact absurd h.2.1 (by with_reducible assumption))
    | (exfalso
       have h := once_T (k := ρ.i 2) (x := ρ.i 0) (y := ρ.i 1) (by omega) (by omega) (by omega) (by omega) (by omega)
       have e1 := once_not (k := ρ.i 2) (y := ρ.i 1)
       have e2 := once_now (k := ρ.i 2) (y := ρ.i 1)
       have e3 := once_least (k := ρ.i 2) (y := ρ.i 1) (by omega)
       simp only [h.2.2, e1.1, e1.2, e2.1, e2.2, e3] at *
       simp_all [findK]
       done)
theorem lOnce_ok : lOnce.ok Φ Try.prog := drop_never rfl lOnce0_ok
set_option maxRecDepth 100000 in
theorem cr0_obs : loopObs Φ Try.prog t10 1000 cr0.f (loopAt Try.prog cr0.f cr0.id) cr0.n cr0.T i6 cr0.outs = some
  [{
      pc :=
        [SB.lt (SI.wrap IntKind.i64 (SI.mul (SI.v 8) (SI.c (Int.ofNat 1000))))
            (SI.app 114
              (SA.l (SL.v 1)
                (SA.i (SI.c (Int.ofNat 5))
                  (SA.i (SI.v 8)
                    (SA.i (SI.wrap IntKind.u16 (SI.quo (SI.sel (SL.v 9) (SI.v 0) 0) (SI.c (Int.ofNat 2)))) SA.nil))))),
          SB.eq (SI.bits BinOp.and IntKind.u16 (SI.sel (SL.v 9) (SI.v 0) 0) (SI.c (Int.ofNat 1))) (SI.c (Int.ofNat 0)),
          SB.le (SI.c (Int.ofNat 0)) (SI.sel (SL.v 9) (SI.v 0) 0),
          SB.le (SI.sel (SL.v 9) (SI.v 0) 0) (SI.c (Int.ofNat 65535)), SB.lt (SI.v 0) (SI.len (SL.v 9)),
          SB.le (SI.c (Int.ofNat 0)) (SI.v 0), SB.le (SI.v 0) (SI.len (SL.v 9)),
          SB.le (SI.len (SL.v 9)) (SI.c (Int.ofNat 100)), SB.le (SI.c (Int.ofNat 1)) (SI.v 8),
          SB.le (SI.v 8) (SI.c (Int.ofNat 256)), SB.app 132 (SA.l (SL.v 1) (SA.i (SI.v 0) (SA.i (SI.v 8) SA.nil)))],
      eqs := [Eqn.T (SB.app 199 SA.nil)] },
    {
      pc :=
        [SB.le (SI.sel (SL.app 6 (SA.l (SL.v 1) (SA.i (SI.c (Int.ofNat 5)) SA.nil))) (SI.c (Int.ofNat 0)) 1)
            (SI.wrap IntKind.i64
              (SI.mul (SI.v 8)
                (SI.app 1
                  (SA.i (SI.c (Int.ofNat 1))
                    (SA.i
                      (SI.app 0
                        (SA.i (SI.wrap IntKind.u16 (SI.quo (SI.sel (SL.v 9) (SI.v 0) 0) (SI.c (Int.ofNat 2))))
                          (SA.i (SI.c (Int.ofNat 1000)) SA.nil)))
                      SA.nil))))),
          SB.lt
            (SI.app 114
              (SA.l (SL.v 1)
                (SA.i (SI.c (Int.ofNat 5))
                  (SA.i (SI.v 8)
                    (SA.i (SI.wrap IntKind.u16 (SI.quo (SI.sel (SL.v 9) (SI.v 0) 0) (SI.c (Int.ofNat 2)))) SA.nil)))))
            (SI.sel (SL.app 6 (SA.l (SL.v 1) (SA.i (SI.c (Int.ofNat 5)) SA.nil))) (SI.c (Int.ofNat 0)) 1),
          SB.not
            (SB.lt (SI.wrap IntKind.i64 (SI.mul (SI.v 8) (SI.c (Int.ofNat 1000))))
              (SI.app 114
                (SA.l (SL.v 1)
                  (SA.i (SI.c (Int.ofNat 5))
                    (SA.i (SI.v 8)
                      (SA.i (SI.wrap IntKind.u16 (SI.quo (SI.sel (SL.v 9) (SI.v 0) 0) (SI.c (Int.ofNat 2))))
                        SA.nil)))))),
          SB.eq (SI.bits BinOp.and IntKind.u16 (SI.sel (SL.v 9) (SI.v 0) 0) (SI.c (Int.ofNat 1))) (SI.c (Int.ofNat 0)),
          SB.le (SI.c (Int.ofNat 0)) (SI.sel (SL.v 9) (SI.v 0) 0),
          SB.le (SI.sel (SL.v 9) (SI.v 0) 0) (SI.c (Int.ofNat 65535)), SB.lt (SI.v 0) (SI.len (SL.v 9)),
          SB.le (SI.c (Int.ofNat 0)) (SI.v 0), SB.le (SI.v 0) (SI.len (SL.v 9)),
          SB.le (SI.len (SL.v 9)) (SI.c (Int.ofNat 100)), SB.le (SI.c (Int.ofNat 1)) (SI.v 8),
          SB.le (SI.v 8) (SI.c (Int.ofNat 256)), SB.app 132 (SA.l (SL.v 1) (SA.i (SI.v 0) (SA.i (SI.v 8) SA.nil)))],
      eqs := [Eqn.T (SB.app 199 SA.nil)] },
    {
      pc :=
        [SB.not
            (SB.le (SI.sel (SL.app 6 (SA.l (SL.v 1) (SA.i (SI.c (Int.ofNat 5)) SA.nil))) (SI.c (Int.ofNat 0)) 1)
              (SI.wrap IntKind.i64
                (SI.mul (SI.v 8)
                  (SI.app 1
                    (SA.i (SI.c (Int.ofNat 1))
                      (SA.i
                        (SI.app 0
                          (SA.i (SI.wrap IntKind.u16 (SI.quo (SI.sel (SL.v 9) (SI.v 0) 0) (SI.c (Int.ofNat 2))))
                            (SA.i (SI.c (Int.ofNat 1000)) SA.nil)))
                        SA.nil)))))),
          SB.lt
            (SI.app 114
              (SA.l (SL.v 1)
                (SA.i (SI.c (Int.ofNat 5))
                  (SA.i (SI.v 8)
                    (SA.i (SI.wrap IntKind.u16 (SI.quo (SI.sel (SL.v 9) (SI.v 0) 0) (SI.c (Int.ofNat 2)))) SA.nil)))))
            (SI.sel (SL.app 6 (SA.l (SL.v 1) (SA.i (SI.c (Int.ofNat 5)) SA.nil))) (SI.c (Int.ofNat 0)) 1),
          SB.not
            (SB.lt (SI.wrap IntKind.i64 (SI.mul (SI.v 8) (SI.c (Int.ofNat 1000))))
              (SI.app 114
                (SA.l (SL.v 1)
                  (SA.i (SI.c (Int.ofNat 5))
                    (SA.i (SI.v 8)
                      (SA.i (SI.wrap IntKind.u16 (SI.quo (SI.sel (SL.v 9) (SI.v 0) 0) (SI.c (Int.ofNat 2))))
                        SA.nil)))))),
          SB.eq (SI.bits BinOp.and IntKind.u16 (SI.sel (SL.v 9) (SI.v 0) 0) (SI.c (Int.ofNat 1))) (SI.c (Int.ofNat 0)),
          SB.le (SI.c (Int.ofNat 0)) (SI.sel (SL.v 9) (SI.v 0) 0),
          SB.le (SI.sel (SL.v 9) (SI.v 0) 0) (SI.c (Int.ofNat 65535)), SB.lt (SI.v 0) (SI.len (SL.v 9)),
          SB.le (SI.c (Int.ofNat 0)) (SI.v 0), SB.le (SI.v 0) (SI.len (SL.v 9)),
          SB.le (SI.len (SL.v 9)) (SI.c (Int.ofNat 100)), SB.le (SI.c (Int.ofNat 1)) (SI.v 8),
          SB.le (SI.v 8) (SI.c (Int.ofNat 256)), SB.app 132 (SA.l (SL.v 1) (SA.i (SI.v 0) (SA.i (SI.v 8) SA.nil)))],
      eqs :=
        [Eqn.T
            (SB.lt (SI.sub (SI.len (SL.v 9)) (SI.add (SI.v 0) (SI.c (Int.ofNat 1))))
              (SI.sub (SI.len (SL.v 9)) (SI.v 0))),
          Eqn.T (SB.lt (SI.c (Int.ofNat 0)) (SI.sub (SI.len (SL.v 9)) (SI.v 0))),
          Eqn.T
            (SB.app 132
              (SA.l
                (SL.app 7
                  (SA.l (SL.v 1)
                    (SA.i (SI.c (Int.ofNat 5))
                      (SA.i
                        (SI.app 114
                          (SA.l (SL.v 1)
                            (SA.i (SI.c (Int.ofNat 5))
                              (SA.i (SI.v 8)
                                (SA.i (SI.wrap IntKind.u16 (SI.quo (SI.sel (SL.v 9) (SI.v 0) 0) (SI.c (Int.ofNat 2))))
                                  SA.nil)))))
                        SA.nil))))
                (SA.i (SI.add (SI.v 0) (SI.c (Int.ofNat 1))) (SA.i (SI.v 8) SA.nil))))] },
    {
      pc :=
        [SB.not
            (SB.lt
              (SI.app 114
                (SA.l (SL.v 1)
                  (SA.i (SI.c (Int.ofNat 5))
                    (SA.i (SI.v 8)
                      (SA.i (SI.wrap IntKind.u16 (SI.quo (SI.sel (SL.v 9) (SI.v 0) 0) (SI.c (Int.ofNat 2)))) SA.nil)))))
              (SI.sel (SL.app 6 (SA.l (SL.v 1) (SA.i (SI.c (Int.ofNat 5)) SA.nil))) (SI.c (Int.ofNat 0)) 1)),
          SB.not
            (SB.lt (SI.wrap IntKind.i64 (SI.mul (SI.v 8) (SI.c (Int.ofNat 1000))))
              (SI.app 114
                (SA.l (SL.v 1)
                  (SA.i (SI.c (Int.ofNat 5))
                    (SA.i (SI.v 8)
                      (SA.i (SI.wrap IntKind.u16 (SI.quo (SI.sel (SL.v 9) (SI.v 0) 0) (SI.c (Int.ofNat 2))))
                        SA.nil)))))),
          SB.eq (SI.bits BinOp.and IntKind.u16 (SI.sel (SL.v 9) (SI.v 0) 0) (SI.c (Int.ofNat 1))) (SI.c (Int.ofNat 0)),
          SB.le (SI.c (Int.ofNat 0)) (SI.sel (SL.v 9) (SI.v 0) 0),
          SB.le (SI.sel (SL.v 9) (SI.v 0) 0) (SI.c (Int.ofNat 65535)), SB.lt (SI.v 0) (SI.len (SL.v 9)),
          SB.le (SI.c (Int.ofNat 0)) (SI.v 0), SB.le (SI.v 0) (SI.len (SL.v 9)),
          SB.le (SI.len (SL.v 9)) (SI.c (Int.ofNat 100)), SB.le (SI.c (Int.ofNat 1)) (SI.v 8),
          SB.le (SI.v 8) (SI.c (Int.ofNat 256)), SB.app 132 (SA.l (SL.v 1) (SA.i (SI.v 0) (SA.i (SI.v 8) SA.nil)))],
      eqs :=
        [Eqn.T
            (SB.lt (SI.sub (SI.len (SL.v 9)) (SI.add (SI.v 0) (SI.c (Int.ofNat 1))))
              (SI.sub (SI.len (SL.v 9)) (SI.v 0))),
          Eqn.T (SB.lt (SI.c (Int.ofNat 0)) (SI.sub (SI.len (SL.v 9)) (SI.v 0))),
          Eqn.T
            (SB.app 132
              (SA.l
                (SL.app 7
                  (SA.l (SL.v 1)
                    (SA.i (SI.c (Int.ofNat 5))
                      (SA.i
                        (SI.app 114
                          (SA.l (SL.v 1)
                            (SA.i (SI.c (Int.ofNat 5))
                              (SA.i (SI.v 8)
                                (SA.i (SI.wrap IntKind.u16 (SI.quo (SI.sel (SL.v 9) (SI.v 0) 0) (SI.c (Int.ofNat 2))))
                                  SA.nil)))))
                        SA.nil))))
                (SA.i (SI.add (SI.v 0) (SI.c (Int.ofNat 1))) (SA.i (SI.v 8) SA.nil))))] },
    {
      pc :=
        [SB.eq
            (SI.app 113
              (SA.l (SL.v 1)
                (SA.i (SI.c (Int.ofNat 5))
                  (SA.i (SI.wrap IntKind.u16 (SI.quo (SI.sel (SL.v 9) (SI.v 0) 0) (SI.c (Int.ofNat 2)))) SA.nil))))
            (SI.wrap IntKind.i64
              (SI.sub (SI.sel (SL.app 6 (SA.l (SL.v 1) (SA.i (SI.c (Int.ofNat 5)) SA.nil))) (SI.c (Int.ofNat 0)) 1)
                (SI.wrap IntKind.u16 (SI.quo (SI.sel (SL.v 9) (SI.v 0) 0) (SI.c (Int.ofNat 2)))))),
          SB.not
            (SB.eq (SI.bits BinOp.and IntKind.u16 (SI.sel (SL.v 9) (SI.v 0) 0) (SI.c (Int.ofNat 1)))
              (SI.c (Int.ofNat 0))),
          SB.le (SI.c (Int.ofNat 0)) (SI.sel (SL.v 9) (SI.v 0) 0),
          SB.le (SI.sel (SL.v 9) (SI.v 0) 0) (SI.c (Int.ofNat 65535)), SB.lt (SI.v 0) (SI.len (SL.v 9)),
          SB.le (SI.c (Int.ofNat 0)) (SI.v 0), SB.le (SI.v 0) (SI.len (SL.v 9)),
          SB.le (SI.len (SL.v 9)) (SI.c (Int.ofNat 100)), SB.le (SI.c (Int.ofNat 1)) (SI.v 8),
          SB.le (SI.v 8) (SI.c (Int.ofNat 256)), SB.app 132 (SA.l (SL.v 1) (SA.i (SI.v 0) (SA.i (SI.v 8) SA.nil)))],
      eqs :=
        [Eqn.T
            (SB.lt (SI.sub (SI.len (SL.v 9)) (SI.add (SI.v 0) (SI.c (Int.ofNat 1))))
              (SI.sub (SI.len (SL.v 9)) (SI.v 0))),
          Eqn.T (SB.lt (SI.c (Int.ofNat 0)) (SI.sub (SI.len (SL.v 9)) (SI.v 0))),
          Eqn.T
            (SB.app 132
              (SA.l
                (SL.app 7
                  (SA.l (SL.v 1)
                    (SA.i (SI.c (Int.ofNat 5))
                      (SA.i
                        (SI.app 113
                          (SA.l (SL.v 1)
                            (SA.i (SI.c (Int.ofNat 5))
                              (SA.i (SI.wrap IntKind.u16 (SI.quo (SI.sel (SL.v 9) (SI.v 0) 0) (SI.c (Int.ofNat 2))))
                                SA.nil))))
                        SA.nil))))
                (SA.i (SI.add (SI.v 0) (SI.c (Int.ofNat 1))) (SA.i (SI.v 8) SA.nil))))] },
    {
      pc :=
        [SB.not
            (SB.eq
              (SI.app 113
                (SA.l (SL.v 1)
                  (SA.i (SI.c (Int.ofNat 5))
                    (SA.i (SI.wrap IntKind.u16 (SI.quo (SI.sel (SL.v 9) (SI.v 0) 0) (SI.c (Int.ofNat 2)))) SA.nil))))
              (SI.wrap IntKind.i64
                (SI.sub (SI.sel (SL.app 6 (SA.l (SL.v 1) (SA.i (SI.c (Int.ofNat 5)) SA.nil))) (SI.c (Int.ofNat 0)) 1)
                  (SI.wrap IntKind.u16 (SI.quo (SI.sel (SL.v 9) (SI.v 0) 0) (SI.c (Int.ofNat 2))))))),
          SB.not
            (SB.eq (SI.bits BinOp.and IntKind.u16 (SI.sel (SL.v 9) (SI.v 0) 0) (SI.c (Int.ofNat 1)))
              (SI.c (Int.ofNat 0))),
          SB.le (SI.c (Int.ofNat 0)) (SI.sel (SL.v 9) (SI.v 0) 0),
          SB.le (SI.sel (SL.v 9) (SI.v 0) 0) (SI.c (Int.ofNat 65535)), SB.lt (SI.v 0) (SI.len (SL.v 9)),
          SB.le (SI.c (Int.ofNat 0)) (SI.v 0), SB.le (SI.v 0) (SI.len (SL.v 9)),
          SB.le (SI.len (SL.v 9)) (SI.c (Int.ofNat 100)), SB.le (SI.c (Int.ofNat 1)) (SI.v 8),
          SB.le (SI.v 8) (SI.c (Int.ofNat 256)), SB.app 132 (SA.l (SL.v 1) (SA.i (SI.v 0) (SA.i (SI.v 8) SA.nil)))],
      eqs := [Eqn.T (SB.app 199 SA.nil)] },
    {
      pc :=
        [SB.not (SB.lt (SI.v 0) (SI.len (SL.v 9))), SB.le (SI.c (Int.ofNat 0)) (SI.v 0),
          SB.le (SI.v 0) (SI.len (SL.v 9)), SB.le (SI.len (SL.v 9)) (SI.c (Int.ofNat 100)),
          SB.le (SI.c (Int.ofNat 1)) (SI.v 8), SB.le (SI.v 8) (SI.c (Int.ofNat 256)),
          SB.app 132 (SA.l (SL.v 1) (SA.i (SI.v 0) (SA.i (SI.v 8) SA.nil)))],
      eqs := [Eqn.T (SB.app 132 (SA.l (SL.v 1) (SA.i (SI.c (Int.ofNat 100)) (SA.i (SI.v 8) SA.nil))))] }] := by kernel_rfl
theorem cr0_ok : cr0.ok Φ Try.prog := by
  refine ⟨by kernel_rfl, loop_rule (fun ρ => t10_ok ρ) (loopAt_sub (by kernel_rfl)) cr0_obs ?_⟩
  simp only [and_imp, List.forall_mem_cons, List.not_mem_nil, false_implies, implies_true, and_true, Ob.ok, holds, Eqn.ok, evB_eq, evB_lt, evB_le, evB_not, evB_and, evB_or, evB_eqL, evB_app, evB_v, evB_c, ev_sel, ev_len, ev_v, ev_c, ev_add, ev_sub, ev_mul, ev_quo, ev_rem, ev_bits, ev_wrap, evL_v, evL_lit, evL_app, ev_app, evA_l, evA_i, evA_nil, std_min, std_max, std_cat, std_take, std_drop, std_row, std_set, std_rep, std_find, std_put, std_del, std_flag, std_unflag, std_clr, std_left, std_copy, ints_cons, ints_nil, ofNat_lit, negSucc_lit, decide_eq_true_eq, Bool.and_eq_true, Bool.or_eq_true, Bool.not_eq_true', Bool.and_eq_false_iff, Bool.or_eq_false_iff, decide_eq_false_iff_not, aI110, aI111, aI112, aI113, aI114, aI115, aI120, aI121, aI122, aL110, aL116, aL120, aL122, aL123, aL124, aL125, aB130, aB132, aB140, aB141, aB142, aL126, aL127, aL128, aB199]
  repeat' apply And.intro
  all_goals intro ρ hR
  all_goals intros
  all_goals first
    | (exact bound_100 (i := ρ.i 0) (by with_reducible assumption) (by omega))
    | (exact ⟨bound_100 (by with_reducible assumption) (by omega), rfl⟩)
    | (exact ⟨bound_100 (by with_reducible assumption) (by omega), rfl, rfl⟩)
    | (have hb : boundB (ρ.l 1) (ρ.i 0) (ρ.i 8) = true := by with_reducible assumption
       have hcr : crI (ρ.l 1) 5 = ((findK (ρ.l 1) 5).getD (Int.toNat 0) []).getD 1 0 := rfl
       have hw := w16 (x := (((ρ.l 9).getD (ρ.i 0).toNat []).getD 0 0)) (by omega) (by omega)
       have hq : IntKind.i64.wrap (ρ.i 8 * 1000) = ρ.i 8 * 1000 := wrap_in (by simp only [kmin]; omega) (by simp only [kmax]; omega)
       have hm := more_eq (q := ρ.i 8) (w := (IntKind.u16.wrap ((((ρ.l 9).getD (ρ.i 0).toNat []).getD 0 0).tdiv 2))) (by omega) (by omega)
       have hmm : moreI (ρ.i 8) (IntKind.u16.wrap ((((ρ.l 9).getD (ρ.i 0).toNat []).getD 0 0).tdiv 2)) = IntKind.i64.wrap (ρ.i 8 * max 1 (min (IntKind.u16.wrap ((((ρ.l 9).getD (ρ.i 0).toNat []).getD 0 0).tdiv 2)) 1000)) := rfl
       have hf := rf_eq (w := (IntKind.u16.wrap ((((ρ.l 9).getD (ρ.i 0).toNat []).getD 0 0).tdiv 2))) (by omega) (by omega) hb (by omega) (by omega)
       have hc := ch_eq (t := (IntKind.u16.wrap ((((ρ.l 9).getD (ρ.i 0).toNat []).getD 0 0).tdiv 2))) (by omega) (by omega) hb (by omega) (by omega) (by omega) (by omega)
       have h2 := bound_at hb
       have hc3 : IntKind.i64.wrap (((findK (ρ.l 1) 5).getD (Int.toNat 0) []).getD 1 0 - (IntKind.u16.wrap ((((ρ.l 9).getD (ρ.i 0).toNat []).getD 0 0).tdiv 2))) = crI (ρ.l 1) 5 - (IntKind.u16.wrap ((((ρ.l 9).getD (ρ.i 0).toNat []).getD 0 0).tdiv 2)) := hc.2
       exfalso
       omega)
    | (have hb : boundB (ρ.l 1) (ρ.i 0) (ρ.i 8) = true := by with_reducible assumption
       have hcr : crI (ρ.l 1) 5 = ((findK (ρ.l 1) 5).getD (Int.toNat 0) []).getD 1 0 := rfl
       have hw := w16 (x := (((ρ.l 9).getD (ρ.i 0).toNat []).getD 0 0)) (by omega) (by omega)
       have hq : IntKind.i64.wrap (ρ.i 8 * 1000) = ρ.i 8 * 1000 := wrap_in (by simp only [kmin]; omega) (by simp only [kmax]; omega)
       have hm := more_eq (q := ρ.i 8) (w := (IntKind.u16.wrap ((((ρ.l 9).getD (ρ.i 0).toNat []).getD 0 0).tdiv 2))) (by omega) (by omega)
       have hmm : moreI (ρ.i 8) (IntKind.u16.wrap ((((ρ.l 9).getD (ρ.i 0).toNat []).getD 0 0).tdiv 2)) = IntKind.i64.wrap (ρ.i 8 * max 1 (min (IntKind.u16.wrap ((((ρ.l 9).getD (ρ.i 0).toNat []).getD 0 0).tdiv 2)) 1000)) := rfl
       have hf := rf_eq (w := (IntKind.u16.wrap ((((ρ.l 9).getD (ρ.i 0).toNat []).getD 0 0).tdiv 2))) (by omega) (by omega) hb (by omega) (by omega)
       have hc := ch_eq (t := (IntKind.u16.wrap ((((ρ.l 9).getD (ρ.i 0).toNat []).getD 0 0).tdiv 2))) (by omega) (by omega) hb (by omega) (by omega) (by omega) (by omega)
       have h2 := bound_at hb
       have hc3 : IntKind.i64.wrap (((findK (ρ.l 1) 5).getD (Int.toNat 0) []).getD 1 0 - (IntKind.u16.wrap ((((ρ.l 9).getD (ρ.i 0).toNat []).getD 0 0).tdiv 2))) = crI (ρ.l 1) 5 - (IntKind.u16.wrap ((((ρ.l 9).getD (ρ.i 0).toNat []).getD 0 0).tdiv 2)) := hc.2
       exact ⟨by omega, by omega, bound_put (by omega) (by omega)⟩)
theorem t11_ok (ρ : Env) : TblOK Φ ρ Try.prog t11 := addLp_ok (t10_ok ρ) cr0_ok
set_option maxRecDepth 100000 in
theorem lCredit0_obs : callObs Φ Try.prog t11 1000 lCredit0.f lCredit0.vs lCredit0.o lCredit0.pc lCredit0.outs = some
  [{
      pc :=
        [SB.not
            (SB.eq
              (SI.app 113
                (SA.l (SL.v 1000)
                  (SA.i (SI.c (Int.ofNat 5))
                    (SA.i
                      (SI.sel (SL.app 6 (SA.l (SL.v 1000) (SA.i (SI.c (Int.ofNat 5)) SA.nil))) (SI.c (Int.ofNat 0)) 1)
                      SA.nil))))
              (SI.c (Int.ofNat 0))),
          SB.lt (SI.c (Int.ofNat 0))
            (SI.sel (SL.app 6 (SA.l (SL.v 1000) (SA.i (SI.c (Int.ofNat 5)) SA.nil))) (SI.c (Int.ofNat 0)) 1),
          SB.app 132
            (SA.l (SL.v 1000) (SA.i (SI.c (Int.ofNat 100)) (SA.i (SI.add (SI.v 0) (SI.c (Int.ofNat 1))) SA.nil))),
          SB.app 132
            (SA.l (SL.lit []) (SA.i (SI.c (Int.ofNat 0)) (SA.i (SI.add (SI.v 0) (SI.c (Int.ofNat 1))) SA.nil))),
          SB.not (SB.lt (SI.c (Int.ofNat 100)) (SI.len (SL.v 9))), SB.le (SI.c (Int.ofNat 0)) (SI.v 0),
          SB.le (SI.v 0) (SI.c (Int.ofNat 255))],
      eqs := [Eqn.T (SB.app 199 SA.nil)] },
    {
      pc :=
        [SB.not
            (SB.app 132
              (SA.l (SL.lit []) (SA.i (SI.c (Int.ofNat 0)) (SA.i (SI.add (SI.v 0) (SI.c (Int.ofNat 1))) SA.nil)))),
          SB.not (SB.lt (SI.c (Int.ofNat 100)) (SI.len (SL.v 9))), SB.le (SI.c (Int.ofNat 0)) (SI.v 0),
          SB.le (SI.v 0) (SI.c (Int.ofNat 255))],
      eqs := [Eqn.T (SB.c false)] }] := by kernel_rfl
theorem lCredit0_ok : lCredit0.ok Φ Try.prog := by
  refine call_rule (fun ρ => t11_ok ρ) lCredit0_obs ?_
  simp only [and_imp, List.forall_mem_cons, List.not_mem_nil, false_implies, implies_true, and_true, Ob.ok, holds, Eqn.ok, evB_eq, evB_lt, evB_le, evB_not, evB_and, evB_or, evB_eqL, evB_app, evB_v, evB_c, ev_sel, ev_len, ev_v, ev_c, ev_add, ev_sub, ev_mul, ev_quo, ev_rem, ev_bits, ev_wrap, evL_v, evL_lit, evL_app, ev_app, evA_l, evA_i, evA_nil, std_min, std_max, std_cat, std_take, std_drop, std_row, std_set, std_rep, std_find, std_put, std_del, std_flag, std_unflag, std_clr, std_left, std_copy, ints_cons, ints_nil, ofNat_lit, negSucc_lit, decide_eq_true_eq, Bool.and_eq_true, Bool.or_eq_true, Bool.not_eq_true', Bool.and_eq_false_iff, Bool.or_eq_false_iff, decide_eq_false_iff_not, aI110, aI111, aI112, aI113, aI114, aI115, aI120, aI121, aI122, aL110, aL116, aL120, aL122, aL123, aL124, aL125, aB130, aB132, aB140, aB141, aB142, aL126, aL127, aL128, aB199]
  repeat' apply And.intro
  all_goals intro ρ hR
  all_goals intros
  all_goals first
    | (exfalso
       exact Bool.false_ne_true (‹boundB [] 0 _ = false›.symm.trans (bound_nil (by omega))))
    | (exfalso
       have hb : boundB (ρ.l 1000) 100 (ρ.i 0 + 1) = true := by with_reducible assumption
       have hcr : crI (ρ.l 1000) 5 = ((findK (ρ.l 1000) 5).getD (Int.toNat 0) []).getD 1 0 := rfl
       have h2 := bound_at hb
       have hc := ch_eq (t := ((findK (ρ.l 1000) 5).getD (Int.toNat 0) []).getD 1 0) (by omega) (by omega) hb (by omega) (by omega) (by omega) (by omega)
       omega)
theorem lCredit_ok : lCredit.ok Φ Try.prog := drop_never rfl lCredit0_ok
end Go.SF.C18
