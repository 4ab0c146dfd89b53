/- Proofs of Pin, Unpin, Retire, Pinned; the fixed calls; the law of epochs that are not there. -/
import Derived.Test.YtfcakaakdeakpaaQ3
import Derived.Test.YtfcakaakdeakpaaQ5
import Derived.Test.YtfcakaakdeakpaaP2
import Derived.Test.YtfcakaakdeakpaaC2
import Derived.KernelRfl
namespace Go.SF.C10
open Go Go.SF Go.Proofs
set_option linter.unusedVariables false
set_option linter.unusedSimpArgs false

theorem t5_ok (ρ : Env) : TblOK Φ ρ Try.prog t5 := addLp_ok (addFn_ok (t4_ok ρ) cFree_ok) ad0_ok
set_option maxRecDepth 100000 in
theorem cAdvance_obs : callObs Φ Try.prog t5 1000 cAdvance.f cAdvance.vs cAdvance.o cAdvance.pc cAdvance.outs = some
  [] := by kernel_rfl
theorem cAdvance_ok : cAdvance.ok Φ Try.prog := by
  refine call_rule (fun ρ => t5_ok ρ) cAdvance_obs ?_
  intro ob h; cases h
theorem t6_ok (ρ : Env) : TblOK Φ ρ Try.prog t6 := addLp_ok (addLp_ok (addFn_ok (t5_ok ρ) cAdvance_ok) it0_ok) nw0_ok
set_option maxRecDepth 100000 in
theorem cInts_obs : callObs Φ Try.prog t6 1000 cInts.f cInts.vs cInts.o cInts.pc cInts.outs = some
  [{
      pc :=
        [SB.not
            (SB.eqL (SL.app 2 (SA.l (SL.v 0) (SA.i (SI.c (Int.ofNat 0)) SA.nil)))
              (SL.app 2 (SA.l (SL.v 1) (SA.i (SI.c (Int.ofNat 0)) SA.nil)))),
          SB.eq (SI.len (SL.v 0)) (SI.len (SL.v 1)), SB.lt (SI.len (SL.v 0)) (SI.c (Int.ofNat 100000))],
      eqs := [Eqn.B (SB.eqL (SL.v 0) (SL.v 1)) (SB.c false)] },
    {
      pc :=
        [SB.eqL (SL.app 2 (SA.l (SL.v 0) (SA.i (SI.c (Int.ofNat 0)) SA.nil)))
            (SL.app 2 (SA.l (SL.v 1) (SA.i (SI.c (Int.ofNat 0)) SA.nil))),
          SB.eq (SI.len (SL.v 0)) (SI.len (SL.v 1)), SB.lt (SI.len (SL.v 0)) (SI.c (Int.ofNat 100000))],
      eqs := [Eqn.B (SB.eqL (SL.v 0) (SL.v 1)) (SB.c true)] },
    { pc := [SB.not (SB.eq (SI.len (SL.v 0)) (SI.len (SL.v 1))), SB.lt (SI.len (SL.v 0)) (SI.c (Int.ofNat 100000))],
      eqs := [Eqn.B (SB.eqL (SL.v 0) (SL.v 1)) (SB.c false)] }] := by kernel_rfl
theorem cInts_ok : cInts.ok Φ Try.prog := by
  refine call_rule (fun ρ => t6_ok ρ) cInts_obs ?_
  simp only [and_imp, List.forall_mem_cons, List.not_mem_nil, false_implies, implies_true, and_true, Ob.ok, holds, Eqn.ok, evB_eq, evB_lt, evB_le, evB_not, evB_and, evB_or, evB_eqL, evB_app, evB_v, evB_c, ev_sel, ev_len, ev_v, ev_c, ev_add, ev_sub, ev_mul, ev_quo, ev_rem, ev_bits, ev_wrap, evL_v, evL_lit, evL_app, ev_app, evA_l, evA_i, evA_nil, std_min, std_max, std_cat, std_take, std_drop, std_row, std_set, std_rep, std_find, std_put, std_del, std_flag, std_unflag, std_clr, std_left, std_copy, ints_cons, ints_nil, ofNat_lit, negSucc_lit, decide_eq_true_eq, Bool.and_eq_true, Bool.or_eq_true, Bool.not_eq_true', Bool.and_eq_false_iff, Bool.or_eq_false_iff, decide_eq_false_iff_not, aI100, aL100, aL110, aL111, aL112, aL113, aL114, aL120, aL121, aL131, aB130, aB199, aI140, aI141, aI142, aI143, aL115, aL140, aL141, aL142, aB150, aB151, aB152, aB153, aB154, aB155]
  repeat' apply And.intro
  all_goals intro ρ hR
  all_goals intros
  all_goals first
    | (have h : ¬ ((ρ.l 0).length : Int) = (ρ.l 1).length := by assumption
       have : ¬ ρ.l 0 = ρ.l 1 := fun e => h (by rw [e])
       simpa using this)
    | (simp_all)
set_option maxRecDepth 100000 in
theorem cNew_obs : callObs Φ Try.prog t6 1000 cNew.f cNew.vs cNew.o cNew.pc cNew.outs = some
  [{ pc := [SB.not (SB.lt (SI.c (Int.ofNat 8)) (SI.v 0)), SB.not (SB.lt (SI.v 0) (SI.c (Int.ofNat 1)))],
      eqs :=
        [Eqn.T
            (SB.eq (SI.len (SL.app 131 (SA.l (SL.lit []) (SA.i (SI.c (Int.ofNat 0)) (SA.i (SI.v 0) SA.nil)))))
              (SI.v 0))] }] := by kernel_rfl
theorem cNew_ok : cNew.ok Φ Try.prog := by
  refine call_rule (fun ρ => t6_ok ρ) cNew_obs ?_
  simp only [and_imp, List.forall_mem_cons, List.not_mem_nil, false_implies, implies_true, and_true, Ob.ok, holds, Eqn.ok, evB_eq, evB_lt, evB_le, evB_not, evB_and, evB_or, evB_eqL, evB_app, evB_v, evB_c, ev_sel, ev_len, ev_v, ev_c, ev_add, ev_sub, ev_mul, ev_quo, ev_rem, ev_bits, ev_wrap, evL_v, evL_lit, evL_app, ev_app, evA_l, evA_i, evA_nil, std_min, std_max, std_cat, std_take, std_drop, std_row, std_set, std_rep, std_find, std_put, std_del, std_flag, std_unflag, std_clr, std_left, std_copy, ints_cons, ints_nil, ofNat_lit, negSucc_lit, decide_eq_true_eq, Bool.and_eq_true, Bool.or_eq_true, Bool.not_eq_true', Bool.and_eq_false_iff, Bool.or_eq_false_iff, decide_eq_false_iff_not, aI100, aL100, aL110, aL111, aL112, aL113, aL114, aL120, aL121, aL131, aB130, aB199, aI140, aI141, aI142, aI143, aL115, aL140, aL141, aL142, aB150, aB151, aB152, aB153, aB154, aB155]
  repeat' apply And.intro
  all_goals intro ρ hR
  all_goals intros
  all_goals first
    | (simp only [List.nil_append, List.length_replicate]
       omega)
theorem t7_ok (ρ : Env) : TblOK Φ ρ Try.prog t7 := addFn_ok (addFn_ok (t6_ok ρ) cInts_ok) cNew_ok
set_option maxRecDepth 100000 in
theorem cPin_obs : callObs Φ Try.prog t7 1000 cPin.f cPin.vs cPin.o cPin.pc cPin.outs = some
  [{
      pc :=
        [SB.lt (SI.v 0) (SI.c (Int.ofNat 0)), SB.lt (SI.len (SL.v 9)) (SI.c (Int.ofNat 100000)),
          SB.le (SI.c (Int.ofNat 0)) (SI.v 9), SB.lt (SI.v 9) (SI.c (Int.ofNat 100000))],
      eqs :=
        [Eqn.T (SB.eq (SI.len (SL.app 140 (SA.l (SL.v 9) (SA.i (SI.v 0) (SA.i (SI.v 9) SA.nil))))) (SI.len (SL.v 9))),
          Eqn.I (SI.app 140 (SA.l (SL.v 9) (SA.i (SI.v 0) SA.nil))) (SI.c (Int.ofNat 2)),
          Eqn.I (SI.len (SL.app 140 (SA.l (SL.v 9) (SA.i (SI.v 0) (SA.i (SI.v 9) SA.nil))))) (SI.len (SL.v 9)),
          Eqn.L (SL.app 140 (SA.l (SL.v 9) (SA.i (SI.v 0) (SA.i (SI.v 9) SA.nil)))) (SL.v 9)] },
    {
      pc :=
        [SB.le (SI.len (SL.v 9)) (SI.v 0), SB.not (SB.lt (SI.v 0) (SI.c (Int.ofNat 0))),
          SB.lt (SI.len (SL.v 9)) (SI.c (Int.ofNat 100000)), SB.le (SI.c (Int.ofNat 0)) (SI.v 9),
          SB.lt (SI.v 9) (SI.c (Int.ofNat 100000))],
      eqs :=
        [Eqn.T (SB.eq (SI.len (SL.app 140 (SA.l (SL.v 9) (SA.i (SI.v 0) (SA.i (SI.v 9) SA.nil))))) (SI.len (SL.v 9))),
          Eqn.I (SI.app 140 (SA.l (SL.v 9) (SA.i (SI.v 0) SA.nil))) (SI.c (Int.ofNat 2)),
          Eqn.I (SI.len (SL.app 140 (SA.l (SL.v 9) (SA.i (SI.v 0) (SA.i (SI.v 9) SA.nil))))) (SI.len (SL.v 9)),
          Eqn.L (SL.app 140 (SA.l (SL.v 9) (SA.i (SI.v 0) (SA.i (SI.v 9) SA.nil)))) (SL.v 9)] },
    {
      pc :=
        [SB.eq (SI.sel (SL.v 9) (SI.v 0) 0) (SI.c (Int.negSucc 0)), SB.not (SB.le (SI.len (SL.v 9)) (SI.v 0)),
          SB.not (SB.lt (SI.v 0) (SI.c (Int.ofNat 0))), SB.lt (SI.len (SL.v 9)) (SI.c (Int.ofNat 100000)),
          SB.le (SI.c (Int.ofNat 0)) (SI.v 9), SB.lt (SI.v 9) (SI.c (Int.ofNat 100000))],
      eqs :=
        [Eqn.T (SB.eq (SI.len (SL.app 140 (SA.l (SL.v 9) (SA.i (SI.v 0) (SA.i (SI.v 9) SA.nil))))) (SI.len (SL.v 9))),
          Eqn.I (SI.app 140 (SA.l (SL.v 9) (SA.i (SI.v 0) SA.nil))) (SI.c (Int.ofNat 0)),
          Eqn.I (SI.len (SL.app 140 (SA.l (SL.v 9) (SA.i (SI.v 0) (SA.i (SI.v 9) SA.nil))))) (SI.len (SL.v 9)),
          Eqn.L (SL.app 140 (SA.l (SL.v 9) (SA.i (SI.v 0) (SA.i (SI.v 9) SA.nil))))
            (SL.app 4 (SA.l (SL.v 9) (SA.i (SI.v 0) (SA.i (SI.c (Int.ofNat 0)) (SA.i (SI.v 9) SA.nil)))))] },
    {
      pc :=
        [SB.not (SB.eq (SI.sel (SL.v 9) (SI.v 0) 0) (SI.c (Int.negSucc 0))), SB.not (SB.le (SI.len (SL.v 9)) (SI.v 0)),
          SB.not (SB.lt (SI.v 0) (SI.c (Int.ofNat 0))), SB.lt (SI.len (SL.v 9)) (SI.c (Int.ofNat 100000)),
          SB.le (SI.c (Int.ofNat 0)) (SI.v 9), SB.lt (SI.v 9) (SI.c (Int.ofNat 100000))],
      eqs :=
        [Eqn.T (SB.eq (SI.len (SL.app 140 (SA.l (SL.v 9) (SA.i (SI.v 0) (SA.i (SI.v 9) SA.nil))))) (SI.len (SL.v 9))),
          Eqn.I (SI.app 140 (SA.l (SL.v 9) (SA.i (SI.v 0) SA.nil))) (SI.c (Int.ofNat 6)),
          Eqn.I (SI.len (SL.app 140 (SA.l (SL.v 9) (SA.i (SI.v 0) (SA.i (SI.v 9) SA.nil))))) (SI.len (SL.v 9)),
          Eqn.L (SL.app 140 (SA.l (SL.v 9) (SA.i (SI.v 0) (SA.i (SI.v 9) SA.nil)))) (SL.v 9)] }] := by kernel_rfl
theorem cPin_ok : cPin.ok Φ Try.prog := by
  refine call_rule (fun ρ => t7_ok ρ) cPin_obs ?_
  simp only [and_imp, List.forall_mem_cons, List.not_mem_nil, false_implies, implies_true, and_true, Ob.ok, holds, Eqn.ok, evB_eq, evB_lt, evB_le, evB_not, evB_and, evB_or, evB_eqL, evB_app, evB_v, evB_c, ev_sel, ev_len, ev_v, ev_c, ev_add, ev_sub, ev_mul, ev_quo, ev_rem, ev_bits, ev_wrap, evL_v, evL_lit, evL_app, ev_app, evA_l, evA_i, evA_nil, std_min, std_max, std_cat, std_take, std_drop, std_row, std_set, std_rep, std_find, std_put, std_del, std_flag, std_unflag, std_clr, std_left, std_copy, ints_cons, ints_nil, ofNat_lit, negSucc_lit, decide_eq_true_eq, Bool.and_eq_true, Bool.or_eq_true, Bool.not_eq_true', Bool.and_eq_false_iff, Bool.or_eq_false_iff, decide_eq_false_iff_not, aI100, aL100, aL110, aL111, aL112, aL113, aL114, aL120, aL121, aL131, aB130, aB199, aI140, aI141, aI142, aI143, aL115, aL140, aL141, aL142, aB150, aB151, aB152, aB153, aB154, aB155]
  repeat' apply And.intro
  all_goals intro ρ hR
  all_goals intros
  all_goals first
    | (have hn := pinL_len (ρ.l 9) (ρ.i 0) (ρ.i 9)
       have e := pin_range (P := ρ.l 9) (c := ρ.i 0) (ρ.i 9) (by omega)
       exact ⟨by omega, e.1, by omega, e.2⟩)
    | (have hn := pinL_len (ρ.l 9) (ρ.i 0) (ρ.i 9)
       have e := pin_ok (P := ρ.l 9) (c := ρ.i 0) (ρ.i 9) (by omega) (by omega) (by omega)
       exact ⟨by omega, e.1, by omega, e.2⟩)
    | (have hn := pinL_len (ρ.l 9) (ρ.i 0) (ρ.i 9)
       have e := pin_state (P := ρ.l 9) (c := ρ.i 0) (ρ.i 9) (by omega) (by omega) (by omega)
       exact ⟨by omega, e.1, by omega, e.2⟩)
set_option maxRecDepth 100000 in
theorem cUnpin_obs : callObs Φ Try.prog t7 1000 cUnpin.f cUnpin.vs cUnpin.o cUnpin.pc cUnpin.outs = some
  [{
      pc :=
        [SB.lt (SI.v 0) (SI.c (Int.ofNat 0)), SB.lt (SI.len (SL.v 9)) (SI.c (Int.ofNat 100000)),
          SB.le (SI.c (Int.ofNat 0)) (SI.v 9), SB.lt (SI.v 9) (SI.c (Int.ofNat 100000))],
      eqs :=
        [Eqn.T (SB.eq (SI.len (SL.app 141 (SA.l (SL.v 9) (SA.i (SI.v 0) SA.nil)))) (SI.len (SL.v 9))),
          Eqn.I (SI.app 141 (SA.l (SL.v 9) (SA.i (SI.v 0) SA.nil))) (SI.c (Int.ofNat 2)),
          Eqn.I (SI.len (SL.app 141 (SA.l (SL.v 9) (SA.i (SI.v 0) SA.nil)))) (SI.len (SL.v 9)),
          Eqn.L (SL.app 141 (SA.l (SL.v 9) (SA.i (SI.v 0) SA.nil))) (SL.v 9)] },
    {
      pc :=
        [SB.le (SI.len (SL.v 9)) (SI.v 0), SB.not (SB.lt (SI.v 0) (SI.c (Int.ofNat 0))),
          SB.lt (SI.len (SL.v 9)) (SI.c (Int.ofNat 100000)), SB.le (SI.c (Int.ofNat 0)) (SI.v 9),
          SB.lt (SI.v 9) (SI.c (Int.ofNat 100000))],
      eqs :=
        [Eqn.T (SB.eq (SI.len (SL.app 141 (SA.l (SL.v 9) (SA.i (SI.v 0) SA.nil)))) (SI.len (SL.v 9))),
          Eqn.I (SI.app 141 (SA.l (SL.v 9) (SA.i (SI.v 0) SA.nil))) (SI.c (Int.ofNat 2)),
          Eqn.I (SI.len (SL.app 141 (SA.l (SL.v 9) (SA.i (SI.v 0) SA.nil)))) (SI.len (SL.v 9)),
          Eqn.L (SL.app 141 (SA.l (SL.v 9) (SA.i (SI.v 0) SA.nil))) (SL.v 9)] },
    {
      pc :=
        [SB.eq (SI.sel (SL.v 9) (SI.v 0) 0) (SI.c (Int.negSucc 0)), SB.not (SB.le (SI.len (SL.v 9)) (SI.v 0)),
          SB.not (SB.lt (SI.v 0) (SI.c (Int.ofNat 0))), SB.lt (SI.len (SL.v 9)) (SI.c (Int.ofNat 100000)),
          SB.le (SI.c (Int.ofNat 0)) (SI.v 9), SB.lt (SI.v 9) (SI.c (Int.ofNat 100000))],
      eqs :=
        [Eqn.T (SB.eq (SI.len (SL.app 141 (SA.l (SL.v 9) (SA.i (SI.v 0) SA.nil)))) (SI.len (SL.v 9))),
          Eqn.I (SI.app 141 (SA.l (SL.v 9) (SA.i (SI.v 0) SA.nil))) (SI.c (Int.ofNat 6)),
          Eqn.I (SI.len (SL.app 141 (SA.l (SL.v 9) (SA.i (SI.v 0) SA.nil)))) (SI.len (SL.v 9)),
          Eqn.L (SL.app 141 (SA.l (SL.v 9) (SA.i (SI.v 0) SA.nil))) (SL.v 9)] },
    {
      pc :=
        [SB.not (SB.eq (SI.sel (SL.v 9) (SI.v 0) 0) (SI.c (Int.negSucc 0))), SB.not (SB.le (SI.len (SL.v 9)) (SI.v 0)),
          SB.not (SB.lt (SI.v 0) (SI.c (Int.ofNat 0))), SB.lt (SI.len (SL.v 9)) (SI.c (Int.ofNat 100000)),
          SB.le (SI.c (Int.ofNat 0)) (SI.v 9), SB.lt (SI.v 9) (SI.c (Int.ofNat 100000))],
      eqs :=
        [Eqn.T (SB.eq (SI.len (SL.app 141 (SA.l (SL.v 9) (SA.i (SI.v 0) SA.nil)))) (SI.len (SL.v 9))),
          Eqn.I (SI.app 141 (SA.l (SL.v 9) (SA.i (SI.v 0) SA.nil))) (SI.c (Int.ofNat 0)),
          Eqn.I (SI.len (SL.app 141 (SA.l (SL.v 9) (SA.i (SI.v 0) SA.nil)))) (SI.len (SL.v 9)),
          Eqn.L (SL.app 141 (SA.l (SL.v 9) (SA.i (SI.v 0) SA.nil)))
            (SL.app 4
              (SA.l (SL.v 9) (SA.i (SI.v 0) (SA.i (SI.c (Int.ofNat 0)) (SA.i (SI.c (Int.negSucc 0)) SA.nil)))))] }] := by kernel_rfl
theorem cUnpin_ok : cUnpin.ok Φ Try.prog := by
  refine call_rule (fun ρ => t7_ok ρ) cUnpin_obs ?_
  simp only [and_imp, List.forall_mem_cons, List.not_mem_nil, false_implies, implies_true, and_true, Ob.ok, holds, Eqn.ok, evB_eq, evB_lt, evB_le, evB_not, evB_and, evB_or, evB_eqL, evB_app, evB_v, evB_c, ev_sel, ev_len, ev_v, ev_c, ev_add, ev_sub, ev_mul, ev_quo, ev_rem, ev_bits, ev_wrap, evL_v, evL_lit, evL_app, ev_app, evA_l, evA_i, evA_nil, std_min, std_max, std_cat, std_take, std_drop, std_row, std_set, std_rep, std_find, std_put, std_del, std_flag, std_unflag, std_clr, std_left, std_copy, ints_cons, ints_nil, ofNat_lit, negSucc_lit, decide_eq_true_eq, Bool.and_eq_true, Bool.or_eq_true, Bool.not_eq_true', Bool.and_eq_false_iff, Bool.or_eq_false_iff, decide_eq_false_iff_not, aI100, aL100, aL110, aL111, aL112, aL113, aL114, aL120, aL121, aL131, aB130, aB199, aI140, aI141, aI142, aI143, aL115, aL140, aL141, aL142, aB150, aB151, aB152, aB153, aB154, aB155]
  repeat' apply And.intro
  all_goals intro ρ hR
  all_goals intros
  all_goals first
    | (have hn := unpL_len (ρ.l 9) (ρ.i 0)
       have e := unp_range (P := ρ.l 9) (c := ρ.i 0) (by omega)
       exact ⟨by omega, e.1, by omega, e.2⟩)
    | (have hn := unpL_len (ρ.l 9) (ρ.i 0)
       have e := unp_ok (P := ρ.l 9) (c := ρ.i 0) (by omega) (by omega) (by omega)
       exact ⟨by omega, e.1, by omega, e.2⟩)
    | (have hn := unpL_len (ρ.l 9) (ρ.i 0)
       have e := unp_state (P := ρ.l 9) (c := ρ.i 0) (by omega) (by omega) (by omega)
       exact ⟨by omega, e.1, by omega, e.2⟩)
set_option maxRecDepth 100000 in
theorem cRetire_obs : callObs Φ Try.prog t7 1000 cRetire.f cRetire.vs cRetire.o cRetire.pc cRetire.outs = some
  [{ pc := [SB.lt (SI.v 0) (SI.c (Int.ofNat 0)), SB.lt (SI.len (SL.v 0)) (SI.c (Int.ofNat 90000))],
      eqs :=
        [Eqn.T
            (SB.le (SI.len (SL.app 142 (SA.l (SL.v 0) (SA.i (SI.v 0) (SA.i (SI.v 9) SA.nil)))))
              (SI.add (SI.len (SL.v 0)) (SI.c (Int.ofNat 1)))),
          Eqn.I (SI.app 142 (SA.l (SL.v 0) (SA.i (SI.v 0) SA.nil))) (SI.c (Int.ofNat 1)),
          Eqn.L (SL.app 142 (SA.l (SL.v 0) (SA.i (SI.v 0) (SA.i (SI.v 9) SA.nil)))) (SL.v 0)] },
    {
      pc :=
        [SB.lt (SI.c (Int.ofNat 0)) (SI.len (SL.app 6 (SA.l (SL.v 0) (SA.i (SI.v 0) SA.nil)))),
          SB.not (SB.lt (SI.v 0) (SI.c (Int.ofNat 0))), SB.lt (SI.len (SL.v 0)) (SI.c (Int.ofNat 90000))],
      eqs :=
        [Eqn.T
            (SB.le (SI.len (SL.app 142 (SA.l (SL.v 0) (SA.i (SI.v 0) (SA.i (SI.v 9) SA.nil)))))
              (SI.add (SI.len (SL.v 0)) (SI.c (Int.ofNat 1)))),
          Eqn.I (SI.app 142 (SA.l (SL.v 0) (SA.i (SI.v 0) SA.nil))) (SI.c (Int.ofNat 5)),
          Eqn.L (SL.app 142 (SA.l (SL.v 0) (SA.i (SI.v 0) (SA.i (SI.v 9) SA.nil)))) (SL.v 0)] },
    {
      pc :=
        [SB.not (SB.lt (SI.c (Int.ofNat 0)) (SI.len (SL.app 6 (SA.l (SL.v 0) (SA.i (SI.v 0) SA.nil))))),
          SB.not (SB.lt (SI.v 0) (SI.c (Int.ofNat 0))), SB.lt (SI.len (SL.v 0)) (SI.c (Int.ofNat 90000))],
      eqs :=
        [Eqn.T
            (SB.le (SI.len (SL.app 142 (SA.l (SL.v 0) (SA.i (SI.v 0) (SA.i (SI.v 9) SA.nil)))))
              (SI.add (SI.len (SL.v 0)) (SI.c (Int.ofNat 1)))),
          Eqn.I (SI.app 142 (SA.l (SL.v 0) (SA.i (SI.v 0) SA.nil))) (SI.c (Int.ofNat 0)),
          Eqn.L (SL.app 142 (SA.l (SL.v 0) (SA.i (SI.v 0) (SA.i (SI.v 9) SA.nil))))
            (SL.app 7 (SA.l (SL.v 0) (SA.i (SI.v 0) (SA.i (SI.v 9) SA.nil))))] }] := by kernel_rfl
theorem cRetire_ok : cRetire.ok Φ Try.prog := by
  refine call_rule (fun ρ => t7_ok ρ) cRetire_obs ?_
  simp only [and_imp, List.forall_mem_cons, List.not_mem_nil, false_implies, implies_true, and_true, Ob.ok, holds, Eqn.ok, evB_eq, evB_lt, evB_le, evB_not, evB_and, evB_or, evB_eqL, evB_app, evB_v, evB_c, ev_sel, ev_len, ev_v, ev_c, ev_add, ev_sub, ev_mul, ev_quo, ev_rem, ev_bits, ev_wrap, evL_v, evL_lit, evL_app, ev_app, evA_l, evA_i, evA_nil, std_min, std_max, std_cat, std_take, std_drop, std_row, std_set, std_rep, std_find, std_put, std_del, std_flag, std_unflag, std_clr, std_left, std_copy, ints_cons, ints_nil, ofNat_lit, negSucc_lit, decide_eq_true_eq, Bool.and_eq_true, Bool.or_eq_true, Bool.not_eq_true', Bool.and_eq_false_iff, Bool.or_eq_false_iff, decide_eq_false_iff_not, aI100, aL100, aL110, aL111, aL112, aL113, aL114, aL120, aL121, aL131, aB130, aB199, aI140, aI141, aI142, aI143, aL115, aL140, aL141, aL142, aB150, aB151, aB152, aB153, aB154, aB155]
  repeat' apply And.intro
  all_goals intro ρ hR
  all_goals intros
  all_goals first
    | (have hn := retL_len (ρ.l 0) (ρ.i 0) (ρ.i 9)
       have e := ret_arg (A := ρ.l 0) (f := ρ.i 0) (ρ.i 9) (by omega)
       exact ⟨by omega, e.1, e.2⟩)
    | (have hn := retL_len (ρ.l 0) (ρ.i 0) (ρ.i 9)
       have e := ret_twice (A := ρ.l 0) (f := ρ.i 0) (ρ.i 9) (by omega) (by omega)
       exact ⟨by omega, e.1, e.2⟩)
    | (have hn := retL_len (ρ.l 0) (ρ.i 0) (ρ.i 9)
       have e := ret_ok (A := ρ.l 0) (f := ρ.i 0) (ρ.i 9) (by omega) (by omega)
       exact ⟨by omega, e.1, e.2⟩)
set_option maxRecDepth 100000 in
theorem cPinned_obs : callObs Φ Try.prog t7 1000 cPinned.f cPinned.vs cPinned.o cPinned.pc cPinned.outs = some
  [] := by kernel_rfl
theorem cPinned_ok : cPinned.ok Φ Try.prog := by
  refine call_rule (fun ρ => t7_ok ρ) cPinned_obs ?_
  intro ob h; cases h
set_option maxRecDepth 100000 in
theorem cNow_obs : callObs Φ Try.prog t7 1000 cNow.f cNow.vs cNow.o cNow.pc cNow.outs = some
  [] := by kernel_rfl
theorem cNow_ok : cNow.ok Φ Try.prog := by
  refine call_rule (fun ρ => t7_ok ρ) cNow_obs ?_
  intro ob h; cases h
theorem t8_ok (ρ : Env) : TblOK Φ ρ Try.prog t8 := addFn_ok (addFn_ok (addFn_ok (addFn_ok (addFn_ok (t7_ok ρ) cPin_ok) cUnpin_ok) cRetire_ok) cPinned_ok) cNow_ok
set_option maxRecDepth 100000 in
theorem cKnown_obs : callObs Φ Try.prog t8 1000 cKnown.f cKnown.vs cKnown.o cKnown.pc cKnown.outs = some
  [] := by kernel_rfl
theorem cKnown_ok : cKnown.ok Φ Try.prog := by
  refine call_rule (fun ρ => t8_ok ρ) cKnown_obs ?_
  intro ob h; cases h
theorem t9_ok (ρ : Env) : TblOK Φ ρ Try.prog t9 := addFn_ok noTbl_ok cKnown_ok
theorem t10_ok (ρ : Env) : TblOK Φ ρ Try.prog t10 := addFn_ok (t8_ok ρ) cKnown_ok
set_option maxRecDepth 100000 in
theorem lNil_obs : callObs Φ Try.prog t9 1000 lNil.f lNil.vs lNil.o lNil.pc lNil.outs = some
  [] := by kernel_rfl
theorem lNil_ok : lNil.ok Φ Try.prog := by
  refine call_rule (fun ρ => t9_ok ρ) lNil_obs ?_
  intro ob h; cases h
end Go.SF.C10
