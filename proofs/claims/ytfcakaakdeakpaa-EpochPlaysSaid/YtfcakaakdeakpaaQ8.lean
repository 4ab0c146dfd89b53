/- The document's answer, and Copy, shown. -/
import Derived.Test.YtfcakaakdeakpaaQ6
import Derived.Test.YtfcakaakdeakpaaC4
import Derived.KernelRfl
namespace Go.SF.C10
open Go Go.SF Go.Proofs
set_option linter.unusedVariables false
set_option linter.unusedSimpArgs false

set_option maxRecDepth 100000 in
theorem dn0_obs : loopObs Φ Try.prog t10 1000 dn0.f (loopAt Try.prog dn0.f dn0.id) dn0.n dn0.T j0 dn0.outs = some
  [{
      pc :=
        [SB.lt (SI.v 1) (SI.v 0), SB.le (SI.c (Int.ofNat 0)) (SI.v 1), SB.le (SI.v 1) (SI.v 0),
          SB.le (SI.v 0) (SI.c (Int.ofNat 8)), SB.le (SI.len (SL.v 1)) (SI.v 1)],
      eqs :=
        [Eqn.T (SB.lt (SI.sub (SI.v 0) (SI.add (SI.v 1) (SI.c (Int.ofNat 1)))) (SI.sub (SI.v 0) (SI.v 1))),
          Eqn.T (SB.lt (SI.c (Int.ofNat 0)) (SI.sub (SI.v 0) (SI.v 1)))] },
    {
      pc :=
        [SB.lt (SI.v 1) (SI.v 0), SB.le (SI.c (Int.ofNat 0)) (SI.v 1), SB.le (SI.v 1) (SI.v 0),
          SB.le (SI.v 0) (SI.c (Int.ofNat 8)), SB.le (SI.len (SL.v 1)) (SI.v 1)],
      eqs :=
        [Eqn.I (SI.len (SL.app 131 (SA.l (SL.v 1) (SA.i (SI.v 1) (SA.i (SI.v 0) SA.nil)))))
            (SI.len
              (SL.app 131
                (SA.l (SL.app 0 (SA.l (SL.v 1) (SA.l (SL.lit [[Int.negSucc 0]]) SA.nil)))
                  (SA.i (SI.add (SI.v 1) (SI.c (Int.ofNat 1))) (SA.i (SI.v 0) SA.nil))))),
          Eqn.L (SL.app 131 (SA.l (SL.v 1) (SA.i (SI.v 1) (SA.i (SI.v 0) SA.nil))))
            (SL.app 131
              (SA.l (SL.app 0 (SA.l (SL.v 1) (SA.l (SL.lit [[Int.negSucc 0]]) SA.nil)))
                (SA.i (SI.add (SI.v 1) (SI.c (Int.ofNat 1))) (SA.i (SI.v 0) SA.nil))))] },
    {
      pc :=
        [SB.not (SB.lt (SI.v 1) (SI.v 0)), SB.le (SI.c (Int.ofNat 0)) (SI.v 1), SB.le (SI.v 1) (SI.v 0),
          SB.le (SI.v 0) (SI.c (Int.ofNat 8)), SB.le (SI.len (SL.v 1)) (SI.v 1)],
      eqs :=
        [Eqn.I (SI.len (SL.app 131 (SA.l (SL.v 1) (SA.i (SI.v 1) (SA.i (SI.v 0) SA.nil))))) (SI.len (SL.v 1)),
          Eqn.L (SL.app 131 (SA.l (SL.v 1) (SA.i (SI.v 1) (SA.i (SI.v 0) SA.nil)))) (SL.v 1)] }] := by kernel_rfl
theorem dn0_ok : dn0.ok Φ Try.prog := by
  refine ⟨by kernel_rfl, loop_rule (fun ρ => t10_ok ρ) (loopAt_sub (by kernel_rfl)) dn0_obs ?_⟩
  simp only [and_imp, List.forall_mem_cons, List.not_mem_nil, false_implies, implies_true, and_true, Ob.ok, holds, Eqn.ok, evB_eq, evB_lt, evB_le, evB_not, evB_and, evB_or, evB_eqL, evB_app, evB_v, evB_c, ev_sel, ev_len, ev_v, ev_c, ev_add, ev_sub, ev_mul, ev_quo, ev_rem, ev_bits, ev_wrap, evL_v, evL_lit, evL_app, ev_app, evA_l, evA_i, evA_nil, std_min, std_max, std_cat, std_take, std_drop, std_row, std_set, std_rep, std_find, std_put, std_del, std_flag, std_unflag, std_clr, std_left, ints_cons, ints_nil, ofNat_lit, negSucc_lit, decide_eq_true_eq, Bool.and_eq_true, Bool.or_eq_true, Bool.not_eq_true', Bool.and_eq_false_iff, Bool.or_eq_false_iff, decide_eq_false_iff_not, aI100, aL100, aL110, aL111, aL112, aL113, aL114, aL120, aL121, aL131, aB130, aB199, aI140, aI141, aI142, aI143, aL115, aL140, aL141, aL142, aB150, aB151, aB152, aB153, aB154, aB155]
  repeat' apply And.intro
  all_goals intro ρ hR
  all_goals intros
  all_goals first
    | (omega)
    | (rw [pad_step (by omega)]
       simp
       done)
    | (rw [show (ρ.i 0 - ρ.i 1).toNat = 0 by omega]
       simp
       done)
theorem u0_ok (ρ : Env) : TblOK Φ ρ Try.prog u0 := addLp_ok (t10_ok ρ) dn0_ok
set_option maxRecDepth 100000 in
theorem dNew_obs : callObs Φ Try.prog u0 1000 dNew.f dNew.vs dNew.o dNew.pc dNew.outs = some
  [{ pc := [SB.not (SB.lt (SI.c (Int.ofNat 8)) (SI.v 0)), SB.not (SB.lt (SI.v 0) (SI.c (Int.ofNat 1)))],
      eqs :=
        [Eqn.T
            (SB.eq (SI.len (SL.app 131 (SA.l (SL.lit []) (SA.i (SI.c (Int.ofNat 0)) (SA.i (SI.v 0) SA.nil)))))
              (SI.v 0))] }] := by kernel_rfl
theorem dNew_ok : dNew.ok Φ Try.prog := by
  refine call_rule (fun ρ => u0_ok ρ) dNew_obs ?_
  simp only [and_imp, List.forall_mem_cons, List.not_mem_nil, false_implies, implies_true, and_true, Ob.ok, holds, Eqn.ok, evB_eq, evB_lt, evB_le, evB_not, evB_and, evB_or, evB_eqL, evB_app, evB_v, evB_c, ev_sel, ev_len, ev_v, ev_c, ev_add, ev_sub, ev_mul, ev_quo, ev_rem, ev_bits, ev_wrap, evL_v, evL_lit, evL_app, ev_app, evA_l, evA_i, evA_nil, std_min, std_max, std_cat, std_take, std_drop, std_row, std_set, std_rep, std_find, std_put, std_del, std_flag, std_unflag, std_clr, std_left, ints_cons, ints_nil, ofNat_lit, negSucc_lit, decide_eq_true_eq, Bool.and_eq_true, Bool.or_eq_true, Bool.not_eq_true', Bool.and_eq_false_iff, Bool.or_eq_false_iff, decide_eq_false_iff_not, aI100, aL100, aL110, aL111, aL112, aL113, aL114, aL120, aL121, aL131, aB130, aB199, aI140, aI141, aI142, aI143, aL115, aL140, aL141, aL142, aB150, aB151, aB152, aB153, aB154, aB155]
  repeat' apply And.intro
  all_goals intro ρ hR
  all_goals intros
  all_goals first
    | (simp only [List.nil_append, List.length_replicate]
       omega)
set_option maxRecDepth 100000 in
theorem dPin_obs : callObs Φ Try.prog u0 1000 dPin.f dPin.vs dPin.o dPin.pc dPin.outs = some
  [{
      pc :=
        [SB.lt (SI.v 0) (SI.c (Int.ofNat 0)), SB.lt (SI.len (SL.v 9)) (SI.c (Int.ofNat 100000)),
          SB.le (SI.c (Int.ofNat 0)) (SI.v 9), SB.lt (SI.v 9) (SI.c (Int.ofNat 100000)), SB.c true,
          SB.app 150 (SA.l (SL.v 9) (SA.i (SI.v 9) SA.nil))],
      eqs :=
        [Eqn.T (SB.eq (SI.len (SL.app 140 (SA.l (SL.v 9) (SA.i (SI.v 0) (SA.i (SI.v 9) SA.nil))))) (SI.len (SL.v 9))),
          Eqn.I (SI.app 140 (SA.l (SL.v 9) (SA.i (SI.v 0) SA.nil))) (SI.c (Int.ofNat 2)),
          Eqn.I (SI.len (SL.app 140 (SA.l (SL.v 9) (SA.i (SI.v 0) (SA.i (SI.v 9) SA.nil))))) (SI.len (SL.v 9)),
          Eqn.L (SL.app 140 (SA.l (SL.v 9) (SA.i (SI.v 0) (SA.i (SI.v 9) SA.nil)))) (SL.v 9)] },
    {
      pc :=
        [SB.le (SI.len (SL.v 9)) (SI.v 0), SB.not (SB.lt (SI.v 0) (SI.c (Int.ofNat 0))),
          SB.lt (SI.len (SL.v 9)) (SI.c (Int.ofNat 100000)), SB.le (SI.c (Int.ofNat 0)) (SI.v 9),
          SB.lt (SI.v 9) (SI.c (Int.ofNat 100000)), SB.c true, SB.app 150 (SA.l (SL.v 9) (SA.i (SI.v 9) SA.nil))],
      eqs :=
        [Eqn.T (SB.eq (SI.len (SL.app 140 (SA.l (SL.v 9) (SA.i (SI.v 0) (SA.i (SI.v 9) SA.nil))))) (SI.len (SL.v 9))),
          Eqn.I (SI.app 140 (SA.l (SL.v 9) (SA.i (SI.v 0) SA.nil))) (SI.c (Int.ofNat 2)),
          Eqn.I (SI.len (SL.app 140 (SA.l (SL.v 9) (SA.i (SI.v 0) (SA.i (SI.v 9) SA.nil))))) (SI.len (SL.v 9)),
          Eqn.L (SL.app 140 (SA.l (SL.v 9) (SA.i (SI.v 0) (SA.i (SI.v 9) SA.nil)))) (SL.v 9)] },
    {
      pc :=
        [SB.le (SI.c (Int.ofNat 0)) (SI.sel (SL.v 9) (SI.v 0) 0), SB.not (SB.le (SI.len (SL.v 9)) (SI.v 0)),
          SB.not (SB.lt (SI.v 0) (SI.c (Int.ofNat 0))), SB.lt (SI.len (SL.v 9)) (SI.c (Int.ofNat 100000)),
          SB.le (SI.c (Int.ofNat 0)) (SI.v 9), SB.lt (SI.v 9) (SI.c (Int.ofNat 100000)), SB.c true,
          SB.app 150 (SA.l (SL.v 9) (SA.i (SI.v 9) SA.nil))],
      eqs :=
        [Eqn.T (SB.eq (SI.len (SL.app 140 (SA.l (SL.v 9) (SA.i (SI.v 0) (SA.i (SI.v 9) SA.nil))))) (SI.len (SL.v 9))),
          Eqn.I (SI.app 140 (SA.l (SL.v 9) (SA.i (SI.v 0) SA.nil))) (SI.c (Int.ofNat 6)),
          Eqn.I (SI.len (SL.app 140 (SA.l (SL.v 9) (SA.i (SI.v 0) (SA.i (SI.v 9) SA.nil))))) (SI.len (SL.v 9)),
          Eqn.L (SL.app 140 (SA.l (SL.v 9) (SA.i (SI.v 0) (SA.i (SI.v 9) SA.nil)))) (SL.v 9)] },
    {
      pc :=
        [SB.not (SB.le (SI.c (Int.ofNat 0)) (SI.sel (SL.v 9) (SI.v 0) 0)), SB.not (SB.le (SI.len (SL.v 9)) (SI.v 0)),
          SB.not (SB.lt (SI.v 0) (SI.c (Int.ofNat 0))), SB.lt (SI.len (SL.v 9)) (SI.c (Int.ofNat 100000)),
          SB.le (SI.c (Int.ofNat 0)) (SI.v 9), SB.lt (SI.v 9) (SI.c (Int.ofNat 100000)), SB.c true,
          SB.app 150 (SA.l (SL.v 9) (SA.i (SI.v 9) SA.nil))],
      eqs :=
        [Eqn.T (SB.eq (SI.len (SL.app 140 (SA.l (SL.v 9) (SA.i (SI.v 0) (SA.i (SI.v 9) SA.nil))))) (SI.len (SL.v 9))),
          Eqn.I (SI.app 140 (SA.l (SL.v 9) (SA.i (SI.v 0) SA.nil))) (SI.c (Int.ofNat 0)),
          Eqn.I (SI.len (SL.app 140 (SA.l (SL.v 9) (SA.i (SI.v 0) (SA.i (SI.v 9) SA.nil))))) (SI.len (SL.v 9)),
          Eqn.L (SL.app 140 (SA.l (SL.v 9) (SA.i (SI.v 0) (SA.i (SI.v 9) SA.nil))))
            (SL.app 4 (SA.l (SL.v 9) (SA.i (SI.v 0) (SA.i (SI.c (Int.ofNat 0)) (SA.i (SI.v 9) SA.nil)))))] }] := by kernel_rfl
theorem dPin_ok : dPin.ok Φ Try.prog := by
  refine call_rule (fun ρ => u0_ok ρ) dPin_obs ?_
  simp only [and_imp, List.forall_mem_cons, List.not_mem_nil, false_implies, implies_true, and_true, Ob.ok, holds, Eqn.ok, evB_eq, evB_lt, evB_le, evB_not, evB_and, evB_or, evB_eqL, evB_app, evB_v, evB_c, ev_sel, ev_len, ev_v, ev_c, ev_add, ev_sub, ev_mul, ev_quo, ev_rem, ev_bits, ev_wrap, evL_v, evL_lit, evL_app, ev_app, evA_l, evA_i, evA_nil, std_min, std_max, std_cat, std_take, std_drop, std_row, std_set, std_rep, std_find, std_put, std_del, std_flag, std_unflag, std_clr, std_left, ints_cons, ints_nil, ofNat_lit, negSucc_lit, decide_eq_true_eq, Bool.and_eq_true, Bool.or_eq_true, Bool.not_eq_true', Bool.and_eq_false_iff, Bool.or_eq_false_iff, decide_eq_false_iff_not, aI100, aL100, aL110, aL111, aL112, aL113, aL114, aL120, aL121, aL131, aB130, aB199, aI140, aI141, aI142, aI143, aL115, aL140, aL141, aL142, aB150, aB151, aB152, aB153, aB154, aB155]
  repeat' apply And.intro
  all_goals intro ρ hR
  all_goals intros
  all_goals first
    | (have hn := pinL_len (ρ.l 9) (ρ.i 0) (ρ.i 9)
       have e := pin_range (P := ρ.l 9) (c := ρ.i 0) (ρ.i 9) (by omega)
       exact ⟨by omega, e.1, by omega, e.2⟩)
    | (have hn := pinL_len (ρ.l 9) (ρ.i 0) (ρ.i 9)
       have hp := pins_at (P := ρ.l 9) (now := ρ.i 9) (c := ρ.i 0) (by with_reducible assumption) (by omega) (by omega)
       have e := pin_ok (P := ρ.l 9) (c := ρ.i 0) (ρ.i 9) (by omega) (by omega) (by omega)
       exact ⟨by omega, e.1, by omega, e.2⟩)
    | (have hn := pinL_len (ρ.l 9) (ρ.i 0) (ρ.i 9)
       have hp := pins_at (P := ρ.l 9) (now := ρ.i 9) (c := ρ.i 0) (by with_reducible assumption) (by omega) (by omega)
       have e := pin_state (P := ρ.l 9) (c := ρ.i 0) (ρ.i 9) (by omega) (by omega) (by omega)
       exact ⟨by omega, e.1, by omega, e.2⟩)
set_option maxRecDepth 100000 in
theorem dUnpin_obs : callObs Φ Try.prog u0 1000 dUnpin.f dUnpin.vs dUnpin.o dUnpin.pc dUnpin.outs = some
  [{
      pc :=
        [SB.lt (SI.v 0) (SI.c (Int.ofNat 0)), SB.lt (SI.len (SL.v 9)) (SI.c (Int.ofNat 100000)),
          SB.le (SI.c (Int.ofNat 0)) (SI.v 9), SB.lt (SI.v 9) (SI.c (Int.ofNat 100000)), SB.c true,
          SB.app 150 (SA.l (SL.v 9) (SA.i (SI.v 9) SA.nil))],
      eqs :=
        [Eqn.T (SB.eq (SI.len (SL.app 141 (SA.l (SL.v 9) (SA.i (SI.v 0) SA.nil)))) (SI.len (SL.v 9))),
          Eqn.I (SI.app 141 (SA.l (SL.v 9) (SA.i (SI.v 0) SA.nil))) (SI.c (Int.ofNat 2)),
          Eqn.I (SI.len (SL.app 141 (SA.l (SL.v 9) (SA.i (SI.v 0) SA.nil)))) (SI.len (SL.v 9)),
          Eqn.L (SL.app 141 (SA.l (SL.v 9) (SA.i (SI.v 0) SA.nil))) (SL.v 9)] },
    {
      pc :=
        [SB.le (SI.len (SL.v 9)) (SI.v 0), SB.not (SB.lt (SI.v 0) (SI.c (Int.ofNat 0))),
          SB.lt (SI.len (SL.v 9)) (SI.c (Int.ofNat 100000)), SB.le (SI.c (Int.ofNat 0)) (SI.v 9),
          SB.lt (SI.v 9) (SI.c (Int.ofNat 100000)), SB.c true, SB.app 150 (SA.l (SL.v 9) (SA.i (SI.v 9) SA.nil))],
      eqs :=
        [Eqn.T (SB.eq (SI.len (SL.app 141 (SA.l (SL.v 9) (SA.i (SI.v 0) SA.nil)))) (SI.len (SL.v 9))),
          Eqn.I (SI.app 141 (SA.l (SL.v 9) (SA.i (SI.v 0) SA.nil))) (SI.c (Int.ofNat 2)),
          Eqn.I (SI.len (SL.app 141 (SA.l (SL.v 9) (SA.i (SI.v 0) SA.nil)))) (SI.len (SL.v 9)),
          Eqn.L (SL.app 141 (SA.l (SL.v 9) (SA.i (SI.v 0) SA.nil))) (SL.v 9)] },
    {
      pc :=
        [SB.lt (SI.sel (SL.v 9) (SI.v 0) 0) (SI.c (Int.ofNat 0)), SB.not (SB.le (SI.len (SL.v 9)) (SI.v 0)),
          SB.not (SB.lt (SI.v 0) (SI.c (Int.ofNat 0))), SB.lt (SI.len (SL.v 9)) (SI.c (Int.ofNat 100000)),
          SB.le (SI.c (Int.ofNat 0)) (SI.v 9), SB.lt (SI.v 9) (SI.c (Int.ofNat 100000)), SB.c true,
          SB.app 150 (SA.l (SL.v 9) (SA.i (SI.v 9) SA.nil))],
      eqs :=
        [Eqn.T (SB.eq (SI.len (SL.app 141 (SA.l (SL.v 9) (SA.i (SI.v 0) SA.nil)))) (SI.len (SL.v 9))),
          Eqn.I (SI.app 141 (SA.l (SL.v 9) (SA.i (SI.v 0) SA.nil))) (SI.c (Int.ofNat 6)),
          Eqn.I (SI.len (SL.app 141 (SA.l (SL.v 9) (SA.i (SI.v 0) SA.nil)))) (SI.len (SL.v 9)),
          Eqn.L (SL.app 141 (SA.l (SL.v 9) (SA.i (SI.v 0) SA.nil))) (SL.v 9)] },
    {
      pc :=
        [SB.not (SB.lt (SI.sel (SL.v 9) (SI.v 0) 0) (SI.c (Int.ofNat 0))), SB.not (SB.le (SI.len (SL.v 9)) (SI.v 0)),
          SB.not (SB.lt (SI.v 0) (SI.c (Int.ofNat 0))), SB.lt (SI.len (SL.v 9)) (SI.c (Int.ofNat 100000)),
          SB.le (SI.c (Int.ofNat 0)) (SI.v 9), SB.lt (SI.v 9) (SI.c (Int.ofNat 100000)), SB.c true,
          SB.app 150 (SA.l (SL.v 9) (SA.i (SI.v 9) SA.nil))],
      eqs :=
        [Eqn.T (SB.eq (SI.len (SL.app 141 (SA.l (SL.v 9) (SA.i (SI.v 0) SA.nil)))) (SI.len (SL.v 9))),
          Eqn.I (SI.app 141 (SA.l (SL.v 9) (SA.i (SI.v 0) SA.nil))) (SI.c (Int.ofNat 0)),
          Eqn.I (SI.len (SL.app 141 (SA.l (SL.v 9) (SA.i (SI.v 0) SA.nil)))) (SI.len (SL.v 9)),
          Eqn.L (SL.app 141 (SA.l (SL.v 9) (SA.i (SI.v 0) SA.nil)))
            (SL.app 4
              (SA.l (SL.v 9) (SA.i (SI.v 0) (SA.i (SI.c (Int.ofNat 0)) (SA.i (SI.c (Int.negSucc 0)) SA.nil)))))] }] := by kernel_rfl
theorem dUnpin_ok : dUnpin.ok Φ Try.prog := by
  refine call_rule (fun ρ => u0_ok ρ) dUnpin_obs ?_
  simp only [and_imp, List.forall_mem_cons, List.not_mem_nil, false_implies, implies_true, and_true, Ob.ok, holds, Eqn.ok, evB_eq, evB_lt, evB_le, evB_not, evB_and, evB_or, evB_eqL, evB_app, evB_v, evB_c, ev_sel, ev_len, ev_v, ev_c, ev_add, ev_sub, ev_mul, ev_quo, ev_rem, ev_bits, ev_wrap, evL_v, evL_lit, evL_app, ev_app, evA_l, evA_i, evA_nil, std_min, std_max, std_cat, std_take, std_drop, std_row, std_set, std_rep, std_find, std_put, std_del, std_flag, std_unflag, std_clr, std_left, ints_cons, ints_nil, ofNat_lit, negSucc_lit, decide_eq_true_eq, Bool.and_eq_true, Bool.or_eq_true, Bool.not_eq_true', Bool.and_eq_false_iff, Bool.or_eq_false_iff, decide_eq_false_iff_not, aI100, aL100, aL110, aL111, aL112, aL113, aL114, aL120, aL121, aL131, aB130, aB199, aI140, aI141, aI142, aI143, aL115, aL140, aL141, aL142, aB150, aB151, aB152, aB153, aB154, aB155]
  repeat' apply And.intro
  all_goals intro ρ hR
  all_goals intros
  all_goals first
    | (have hn := unpL_len (ρ.l 9) (ρ.i 0)
       have e := unp_range (P := ρ.l 9) (c := ρ.i 0) (by omega)
       exact ⟨by omega, e.1, by omega, e.2⟩)
    | (have hn := unpL_len (ρ.l 9) (ρ.i 0)
       have hp := pins_at (P := ρ.l 9) (now := ρ.i 9) (c := ρ.i 0) (by with_reducible assumption) (by omega) (by omega)
       have e := unp_ok (P := ρ.l 9) (c := ρ.i 0) (by omega) (by omega) (by omega)
       exact ⟨by omega, e.1, by omega, e.2⟩)
    | (have hn := unpL_len (ρ.l 9) (ρ.i 0)
       have hp := pins_at (P := ρ.l 9) (now := ρ.i 9) (c := ρ.i 0) (by with_reducible assumption) (by omega) (by omega)
       have e := unp_state (P := ρ.l 9) (c := ρ.i 0) (by omega) (by omega) (by omega)
       exact ⟨by omega, e.1, by omega, e.2⟩)
set_option maxRecDepth 100000 in
theorem dr0_obs : loopObs Φ Try.prog u0 1000 dr0.f (loopAt Try.prog dr0.f dr0.id) dr0.n dr0.T j1 dr0.outs = some
  [{
      pc :=
        [SB.lt (SI.sel (SL.v 0) (SI.v 1) 0) (SI.v 0), SB.lt (SI.v 1) (SI.len (SL.v 0)),
          SB.le (SI.c (Int.ofNat 0)) (SI.v 1), SB.le (SI.v 1) (SI.len (SL.v 0)),
          SB.lt (SI.len (SL.v 0)) (SI.c (Int.ofNat 100000)), SB.le (SI.len (SL.v 1)) (SI.len (SL.v 0)), SB.c true,
          SB.eqL (SL.v 1) (SL.app 1 (SA.l (SL.v 0) (SA.i (SI.v 1) SA.nil)))],
      eqs :=
        [Eqn.T
            (SB.lt (SI.sub (SI.len (SL.v 0)) (SI.add (SI.v 1) (SI.c (Int.ofNat 1))))
              (SI.sub (SI.len (SL.v 0)) (SI.v 1))),
          Eqn.T (SB.lt (SI.c (Int.ofNat 0)) (SI.sub (SI.len (SL.v 0)) (SI.v 1))),
          Eqn.T (SB.le (SI.add (SI.len (SL.v 1)) (SI.c (Int.ofNat 1))) (SI.len (SL.v 0))),
          Eqn.T
            (SB.eqL
              (SL.app 0
                (SA.l (SL.v 1)
                  (SA.l (SL.app 3 (SA.i (SI.sel (SL.v 0) (SI.v 1) 0) (SA.i (SI.sel (SL.v 0) (SI.v 1) 1) SA.nil)))
                    SA.nil)))
              (SL.app 1 (SA.l (SL.v 0) (SA.i (SI.add (SI.v 1) (SI.c (Int.ofNat 1))) SA.nil))))] },
    {
      pc :=
        [SB.eq
            (SI.len
              (SL.app 1
                (SA.l (SL.v 0)
                  (SA.i
                    (SI.app 143 (SA.l (SL.v 0) (SA.i (SI.v 0) (SA.i (SI.add (SI.v 1) (SI.c (Int.ofNat 1))) SA.nil))))
                    SA.nil))))
            (SI.app 143 (SA.l (SL.v 0) (SA.i (SI.v 0) (SA.i (SI.add (SI.v 1) (SI.c (Int.ofNat 1))) SA.nil)))),
          SB.le (SI.app 143 (SA.l (SL.v 0) (SA.i (SI.v 0) (SA.i (SI.add (SI.v 1) (SI.c (Int.ofNat 1))) SA.nil))))
            (SI.len (SL.v 0)),
          SB.le (SI.c (Int.ofNat 0))
            (SI.app 143 (SA.l (SL.v 0) (SA.i (SI.v 0) (SA.i (SI.add (SI.v 1) (SI.c (Int.ofNat 1))) SA.nil)))),
          SB.lt (SI.sel (SL.v 0) (SI.v 1) 0) (SI.v 0), SB.lt (SI.v 1) (SI.len (SL.v 0)),
          SB.le (SI.c (Int.ofNat 0)) (SI.v 1), SB.le (SI.v 1) (SI.len (SL.v 0)),
          SB.lt (SI.len (SL.v 0)) (SI.c (Int.ofNat 100000)), SB.le (SI.len (SL.v 1)) (SI.len (SL.v 0)), SB.c true,
          SB.eqL (SL.v 1) (SL.app 1 (SA.l (SL.v 0) (SA.i (SI.v 1) SA.nil)))],
      eqs :=
        [Eqn.T (SB.le (SI.c (Int.ofNat 0)) (SI.app 143 (SA.l (SL.v 0) (SA.i (SI.v 0) (SA.i (SI.v 1) SA.nil))))),
          Eqn.T (SB.le (SI.app 143 (SA.l (SL.v 0) (SA.i (SI.v 0) (SA.i (SI.v 1) SA.nil)))) (SI.len (SL.v 0))),
          Eqn.T
            (SB.eq
              (SI.len
                (SL.app 1
                  (SA.l (SL.v 0) (SA.i (SI.app 143 (SA.l (SL.v 0) (SA.i (SI.v 0) (SA.i (SI.v 1) SA.nil)))) SA.nil))))
              (SI.app 143 (SA.l (SL.v 0) (SA.i (SI.v 0) (SA.i (SI.v 1) SA.nil))))),
          Eqn.I
            (SI.len
              (SL.app 1
                (SA.l (SL.v 0) (SA.i (SI.app 143 (SA.l (SL.v 0) (SA.i (SI.v 0) (SA.i (SI.v 1) SA.nil)))) SA.nil))))
            (SI.len
              (SL.app 1
                (SA.l (SL.v 0)
                  (SA.i
                    (SI.app 143 (SA.l (SL.v 0) (SA.i (SI.v 0) (SA.i (SI.add (SI.v 1) (SI.c (Int.ofNat 1))) SA.nil))))
                    SA.nil)))),
          Eqn.I (SI.app 143 (SA.l (SL.v 0) (SA.i (SI.v 0) (SA.i (SI.v 1) SA.nil))))
            (SI.app 143 (SA.l (SL.v 0) (SA.i (SI.v 0) (SA.i (SI.add (SI.v 1) (SI.c (Int.ofNat 1))) SA.nil)))),
          Eqn.L
            (SL.app 1 (SA.l (SL.v 0) (SA.i (SI.app 143 (SA.l (SL.v 0) (SA.i (SI.v 0) (SA.i (SI.v 1) SA.nil)))) SA.nil)))
            (SL.app 1
              (SA.l (SL.v 0)
                (SA.i (SI.app 143 (SA.l (SL.v 0) (SA.i (SI.v 0) (SA.i (SI.add (SI.v 1) (SI.c (Int.ofNat 1))) SA.nil))))
                  SA.nil)))] },
    {
      pc :=
        [SB.not (SB.lt (SI.sel (SL.v 0) (SI.v 1) 0) (SI.v 0)), SB.lt (SI.v 1) (SI.len (SL.v 0)),
          SB.le (SI.c (Int.ofNat 0)) (SI.v 1), SB.le (SI.v 1) (SI.len (SL.v 0)),
          SB.lt (SI.len (SL.v 0)) (SI.c (Int.ofNat 100000)), SB.le (SI.len (SL.v 1)) (SI.len (SL.v 0)), SB.c true,
          SB.eqL (SL.v 1) (SL.app 1 (SA.l (SL.v 0) (SA.i (SI.v 1) SA.nil)))],
      eqs :=
        [Eqn.T (SB.le (SI.c (Int.ofNat 0)) (SI.app 143 (SA.l (SL.v 0) (SA.i (SI.v 0) (SA.i (SI.v 1) SA.nil))))),
          Eqn.T (SB.le (SI.app 143 (SA.l (SL.v 0) (SA.i (SI.v 0) (SA.i (SI.v 1) SA.nil)))) (SI.len (SL.v 0))),
          Eqn.T
            (SB.eq
              (SI.len
                (SL.app 1
                  (SA.l (SL.v 0) (SA.i (SI.app 143 (SA.l (SL.v 0) (SA.i (SI.v 0) (SA.i (SI.v 1) SA.nil)))) SA.nil))))
              (SI.app 143 (SA.l (SL.v 0) (SA.i (SI.v 0) (SA.i (SI.v 1) SA.nil))))),
          Eqn.I
            (SI.len
              (SL.app 1
                (SA.l (SL.v 0) (SA.i (SI.app 143 (SA.l (SL.v 0) (SA.i (SI.v 0) (SA.i (SI.v 1) SA.nil)))) SA.nil))))
            (SI.len (SL.v 1)),
          Eqn.I (SI.app 143 (SA.l (SL.v 0) (SA.i (SI.v 0) (SA.i (SI.v 1) SA.nil)))) (SI.v 1),
          Eqn.L
            (SL.app 1 (SA.l (SL.v 0) (SA.i (SI.app 143 (SA.l (SL.v 0) (SA.i (SI.v 0) (SA.i (SI.v 1) SA.nil)))) SA.nil)))
            (SL.v 1)] },
    {
      pc :=
        [SB.not (SB.lt (SI.v 1) (SI.len (SL.v 0))), SB.le (SI.c (Int.ofNat 0)) (SI.v 1),
          SB.le (SI.v 1) (SI.len (SL.v 0)), SB.lt (SI.len (SL.v 0)) (SI.c (Int.ofNat 100000)),
          SB.le (SI.len (SL.v 1)) (SI.len (SL.v 0)), SB.c true,
          SB.eqL (SL.v 1) (SL.app 1 (SA.l (SL.v 0) (SA.i (SI.v 1) SA.nil)))],
      eqs :=
        [Eqn.T (SB.le (SI.c (Int.ofNat 0)) (SI.app 143 (SA.l (SL.v 0) (SA.i (SI.v 0) (SA.i (SI.v 1) SA.nil))))),
          Eqn.T (SB.le (SI.app 143 (SA.l (SL.v 0) (SA.i (SI.v 0) (SA.i (SI.v 1) SA.nil)))) (SI.len (SL.v 0))),
          Eqn.T
            (SB.eq
              (SI.len
                (SL.app 1
                  (SA.l (SL.v 0) (SA.i (SI.app 143 (SA.l (SL.v 0) (SA.i (SI.v 0) (SA.i (SI.v 1) SA.nil)))) SA.nil))))
              (SI.app 143 (SA.l (SL.v 0) (SA.i (SI.v 0) (SA.i (SI.v 1) SA.nil))))),
          Eqn.I
            (SI.len
              (SL.app 1
                (SA.l (SL.v 0) (SA.i (SI.app 143 (SA.l (SL.v 0) (SA.i (SI.v 0) (SA.i (SI.v 1) SA.nil)))) SA.nil))))
            (SI.len (SL.v 1)),
          Eqn.I (SI.app 143 (SA.l (SL.v 0) (SA.i (SI.v 0) (SA.i (SI.v 1) SA.nil)))) (SI.v 1),
          Eqn.L
            (SL.app 1 (SA.l (SL.v 0) (SA.i (SI.app 143 (SA.l (SL.v 0) (SA.i (SI.v 0) (SA.i (SI.v 1) SA.nil)))) SA.nil)))
            (SL.v 1)] }] := by kernel_rfl
theorem dr0_ok : dr0.ok Φ Try.prog := by
  refine ⟨by kernel_rfl, loop_rule (fun ρ => u0_ok ρ) (loopAt_sub (by kernel_rfl)) dr0_obs ?_⟩
  simp only [and_imp, List.forall_mem_cons, List.not_mem_nil, false_implies, implies_true, and_true, Ob.ok, holds, Eqn.ok, evB_eq, evB_lt, evB_le, evB_not, evB_and, evB_or, evB_eqL, evB_app, evB_v, evB_c, ev_sel, ev_len, ev_v, ev_c, ev_add, ev_sub, ev_mul, ev_quo, ev_rem, ev_bits, ev_wrap, evL_v, evL_lit, evL_app, ev_app, evA_l, evA_i, evA_nil, std_min, std_max, std_cat, std_take, std_drop, std_row, std_set, std_rep, std_find, std_put, std_del, std_flag, std_unflag, std_clr, std_left, ints_cons, ints_nil, ofNat_lit, negSucc_lit, decide_eq_true_eq, Bool.and_eq_true, Bool.or_eq_true, Bool.not_eq_true', Bool.and_eq_false_iff, Bool.or_eq_false_iff, decide_eq_false_iff_not, aI100, aL100, aL110, aL111, aL112, aL113, aL114, aL120, aL121, aL131, aB130, aB199, aI140, aI141, aI142, aI143, aL115, aL140, aL141, aL142, aB150, aB151, aB152, aB153, aB154, aB155]
  repeat' apply And.intro
  all_goals intro ρ hR
  all_goals intros
  all_goals first
    | (omega)
    | (have e0 : ρ.l 1 = List.take (ρ.i 1).toNat (ρ.l 0) := by with_reducible assumption
       have hl := congrArg List.length e0
       rw [List.length_take] at hl
       refine ⟨by omega, by omega, by omega, ?_⟩
       rw [e0, take_step (by omega) (by omega), row2 (show okRow K2 ((ρ.l 0).getD (ρ.i 1).toNat []) from hR.row 2 rfl rfl _ (getD_mem (A := ρ.l 0) (by omega) (by omega)))])
    | (have e := rank_step (A := ρ.l 0) (f := ρ.i 0) (i := ρ.i 1) (by omega) (by omega) (by with_reducible assumption)
       rw [e]
       exact ⟨by omega, by omega, by omega, rfl, rfl, rfl, rfl⟩)
    | (have e := rank_step (A := ρ.l 0) (f := ρ.i 0) (i := ρ.i 1) (by omega) (by omega) (by with_reducible assumption)
       rw [e]
       exact ⟨by omega, by omega, by omega, rfl, rfl, rfl⟩)
    | (have e := rank_stop (A := ρ.l 0) (f := ρ.i 0) (i := ρ.i 1) (by omega) (by first | exact .inl (by omega) | exact .inr (by with_reducible assumption))
       have e0 : ρ.l 1 = List.take (ρ.i 1).toNat (ρ.l 0) := by with_reducible assumption
       rw [e, ← e0]
       have hl := congrArg List.length e0
       rw [List.length_take] at hl
       exact ⟨by omega, by omega, by omega, rfl, rfl, rfl⟩)
    | (have e := rank_stop (A := ρ.l 0) (f := ρ.i 0) (i := ρ.i 1) (by omega) (by first | exact .inl (by omega) | exact .inr (by with_reducible assumption))
       have e0 : ρ.l 1 = List.take (ρ.i 1).toNat (ρ.l 0) := by with_reducible assumption
       rw [e, ← e0]
       have hl := congrArg List.length e0
       rw [List.length_take] at hl
       simp
       omega)
theorem u1_ok (ρ : Env) : TblOK Φ ρ Try.prog u1 := addLp_ok (addFn_ok (addFn_ok (addFn_ok (u0_ok ρ) dNew_ok) dPin_ok) dUnpin_ok) dr0_ok
set_option maxRecDepth 100000 in
theorem dRetire_obs : callObs Φ Try.prog u1 1000 dRetire.f dRetire.vs dRetire.o dRetire.pc dRetire.outs = some
  [{
      pc :=
        [SB.lt (SI.v 0) (SI.c (Int.ofNat 0)), SB.lt (SI.len (SL.v 0)) (SI.c (Int.ofNat 100000)), SB.c true,
          SB.app 154 (SA.l (SL.v 0) SA.nil)],
      eqs :=
        [Eqn.T
            (SB.le (SI.len (SL.app 142 (SA.l (SL.v 0) (SA.i (SI.v 0) (SA.i (SI.v 9) SA.nil)))))
              (SI.add (SI.len (SL.v 0)) (SI.c (Int.ofNat 1)))),
          Eqn.I (SI.app 142 (SA.l (SL.v 0) (SA.i (SI.v 0) SA.nil))) (SI.c (Int.ofNat 1)),
          Eqn.I (SI.len (SL.app 142 (SA.l (SL.v 0) (SA.i (SI.v 0) (SA.i (SI.v 9) SA.nil))))) (SI.len (SL.v 0)),
          Eqn.L (SL.app 142 (SA.l (SL.v 0) (SA.i (SI.v 0) (SA.i (SI.v 9) SA.nil)))) (SL.v 0)] },
    {
      pc :=
        [SB.eq (SI.sel (SL.v 0) (SI.app 143 (SA.l (SL.v 0) (SA.i (SI.v 0) (SA.i (SI.c (Int.ofNat 0)) SA.nil)))) 0)
            (SI.v 0),
          SB.lt (SI.app 143 (SA.l (SL.v 0) (SA.i (SI.v 0) (SA.i (SI.c (Int.ofNat 0)) SA.nil)))) (SI.len (SL.v 0)),
          SB.eq
            (SI.len
              (SL.app 1
                (SA.l (SL.v 0)
                  (SA.i (SI.app 143 (SA.l (SL.v 0) (SA.i (SI.v 0) (SA.i (SI.c (Int.ofNat 0)) SA.nil)))) SA.nil))))
            (SI.app 143 (SA.l (SL.v 0) (SA.i (SI.v 0) (SA.i (SI.c (Int.ofNat 0)) SA.nil)))),
          SB.le (SI.app 143 (SA.l (SL.v 0) (SA.i (SI.v 0) (SA.i (SI.c (Int.ofNat 0)) SA.nil)))) (SI.len (SL.v 0)),
          SB.le (SI.c (Int.ofNat 0)) (SI.app 143 (SA.l (SL.v 0) (SA.i (SI.v 0) (SA.i (SI.c (Int.ofNat 0)) SA.nil)))),
          SB.eqL (SL.lit []) (SL.app 1 (SA.l (SL.v 0) (SA.i (SI.c (Int.ofNat 0)) SA.nil))),
          SB.not (SB.lt (SI.v 0) (SI.c (Int.ofNat 0))), SB.lt (SI.len (SL.v 0)) (SI.c (Int.ofNat 100000)), SB.c true,
          SB.app 154 (SA.l (SL.v 0) SA.nil)],
      eqs :=
        [Eqn.T
            (SB.le (SI.len (SL.app 142 (SA.l (SL.v 0) (SA.i (SI.v 0) (SA.i (SI.v 9) SA.nil)))))
              (SI.add (SI.len (SL.v 0)) (SI.c (Int.ofNat 1)))),
          Eqn.I (SI.app 142 (SA.l (SL.v 0) (SA.i (SI.v 0) SA.nil))) (SI.c (Int.ofNat 5)),
          Eqn.I (SI.len (SL.app 142 (SA.l (SL.v 0) (SA.i (SI.v 0) (SA.i (SI.v 9) SA.nil))))) (SI.len (SL.v 0)),
          Eqn.L (SL.app 142 (SA.l (SL.v 0) (SA.i (SI.v 0) (SA.i (SI.v 9) SA.nil)))) (SL.v 0)] },
    {
      pc :=
        [SB.not
            (SB.eq (SI.sel (SL.v 0) (SI.app 143 (SA.l (SL.v 0) (SA.i (SI.v 0) (SA.i (SI.c (Int.ofNat 0)) SA.nil)))) 0)
              (SI.v 0)),
          SB.lt (SI.app 143 (SA.l (SL.v 0) (SA.i (SI.v 0) (SA.i (SI.c (Int.ofNat 0)) SA.nil)))) (SI.len (SL.v 0)),
          SB.eq
            (SI.len
              (SL.app 1
                (SA.l (SL.v 0)
                  (SA.i (SI.app 143 (SA.l (SL.v 0) (SA.i (SI.v 0) (SA.i (SI.c (Int.ofNat 0)) SA.nil)))) SA.nil))))
            (SI.app 143 (SA.l (SL.v 0) (SA.i (SI.v 0) (SA.i (SI.c (Int.ofNat 0)) SA.nil)))),
          SB.le (SI.app 143 (SA.l (SL.v 0) (SA.i (SI.v 0) (SA.i (SI.c (Int.ofNat 0)) SA.nil)))) (SI.len (SL.v 0)),
          SB.le (SI.c (Int.ofNat 0)) (SI.app 143 (SA.l (SL.v 0) (SA.i (SI.v 0) (SA.i (SI.c (Int.ofNat 0)) SA.nil)))),
          SB.eqL (SL.lit []) (SL.app 1 (SA.l (SL.v 0) (SA.i (SI.c (Int.ofNat 0)) SA.nil))),
          SB.not (SB.lt (SI.v 0) (SI.c (Int.ofNat 0))), SB.lt (SI.len (SL.v 0)) (SI.c (Int.ofNat 100000)), SB.c true,
          SB.app 154 (SA.l (SL.v 0) SA.nil)],
      eqs :=
        [Eqn.T
            (SB.le (SI.len (SL.app 142 (SA.l (SL.v 0) (SA.i (SI.v 0) (SA.i (SI.v 9) SA.nil)))))
              (SI.add (SI.len (SL.v 0)) (SI.c (Int.ofNat 1)))),
          Eqn.I (SI.app 142 (SA.l (SL.v 0) (SA.i (SI.v 0) SA.nil))) (SI.c (Int.ofNat 0)),
          Eqn.I (SI.len (SL.app 142 (SA.l (SL.v 0) (SA.i (SI.v 0) (SA.i (SI.v 9) SA.nil)))))
            (SI.add
              (SI.add
                (SI.len
                  (SL.app 1
                    (SA.l (SL.v 0)
                      (SA.i (SI.app 143 (SA.l (SL.v 0) (SA.i (SI.v 0) (SA.i (SI.c (Int.ofNat 0)) SA.nil)))) SA.nil))))
                (SI.c (Int.ofNat 1)))
              (SI.len
                (SL.app 2
                  (SA.l (SL.v 0)
                    (SA.i (SI.app 143 (SA.l (SL.v 0) (SA.i (SI.v 0) (SA.i (SI.c (Int.ofNat 0)) SA.nil)))) SA.nil))))),
          Eqn.L (SL.app 142 (SA.l (SL.v 0) (SA.i (SI.v 0) (SA.i (SI.v 9) SA.nil))))
            (SL.app 0
              (SA.l
                (SL.app 0
                  (SA.l
                    (SL.app 1
                      (SA.l (SL.v 0)
                        (SA.i (SI.app 143 (SA.l (SL.v 0) (SA.i (SI.v 0) (SA.i (SI.c (Int.ofNat 0)) SA.nil)))) SA.nil)))
                    (SA.l (SL.app 3 (SA.i (SI.v 0) (SA.i (SI.v 9) SA.nil))) SA.nil)))
                (SA.l
                  (SL.app 2
                    (SA.l (SL.v 0)
                      (SA.i (SI.app 143 (SA.l (SL.v 0) (SA.i (SI.v 0) (SA.i (SI.c (Int.ofNat 0)) SA.nil)))) SA.nil)))
                  SA.nil)))] },
    {
      pc :=
        [SB.not
            (SB.lt (SI.app 143 (SA.l (SL.v 0) (SA.i (SI.v 0) (SA.i (SI.c (Int.ofNat 0)) SA.nil)))) (SI.len (SL.v 0))),
          SB.eq
            (SI.len
              (SL.app 1
                (SA.l (SL.v 0)
                  (SA.i (SI.app 143 (SA.l (SL.v 0) (SA.i (SI.v 0) (SA.i (SI.c (Int.ofNat 0)) SA.nil)))) SA.nil))))
            (SI.app 143 (SA.l (SL.v 0) (SA.i (SI.v 0) (SA.i (SI.c (Int.ofNat 0)) SA.nil)))),
          SB.le (SI.app 143 (SA.l (SL.v 0) (SA.i (SI.v 0) (SA.i (SI.c (Int.ofNat 0)) SA.nil)))) (SI.len (SL.v 0)),
          SB.le (SI.c (Int.ofNat 0)) (SI.app 143 (SA.l (SL.v 0) (SA.i (SI.v 0) (SA.i (SI.c (Int.ofNat 0)) SA.nil)))),
          SB.eqL (SL.lit []) (SL.app 1 (SA.l (SL.v 0) (SA.i (SI.c (Int.ofNat 0)) SA.nil))),
          SB.not (SB.lt (SI.v 0) (SI.c (Int.ofNat 0))), SB.lt (SI.len (SL.v 0)) (SI.c (Int.ofNat 100000)), SB.c true,
          SB.app 154 (SA.l (SL.v 0) SA.nil)],
      eqs :=
        [Eqn.T
            (SB.le (SI.len (SL.app 142 (SA.l (SL.v 0) (SA.i (SI.v 0) (SA.i (SI.v 9) SA.nil)))))
              (SI.add (SI.len (SL.v 0)) (SI.c (Int.ofNat 1)))),
          Eqn.I (SI.app 142 (SA.l (SL.v 0) (SA.i (SI.v 0) SA.nil))) (SI.c (Int.ofNat 0)),
          Eqn.I (SI.len (SL.app 142 (SA.l (SL.v 0) (SA.i (SI.v 0) (SA.i (SI.v 9) SA.nil)))))
            (SI.add
              (SI.add
                (SI.len
                  (SL.app 1
                    (SA.l (SL.v 0)
                      (SA.i (SI.app 143 (SA.l (SL.v 0) (SA.i (SI.v 0) (SA.i (SI.c (Int.ofNat 0)) SA.nil)))) SA.nil))))
                (SI.c (Int.ofNat 1)))
              (SI.len
                (SL.app 2
                  (SA.l (SL.v 0)
                    (SA.i (SI.app 143 (SA.l (SL.v 0) (SA.i (SI.v 0) (SA.i (SI.c (Int.ofNat 0)) SA.nil)))) SA.nil))))),
          Eqn.L (SL.app 142 (SA.l (SL.v 0) (SA.i (SI.v 0) (SA.i (SI.v 9) SA.nil))))
            (SL.app 0
              (SA.l
                (SL.app 0
                  (SA.l
                    (SL.app 1
                      (SA.l (SL.v 0)
                        (SA.i (SI.app 143 (SA.l (SL.v 0) (SA.i (SI.v 0) (SA.i (SI.c (Int.ofNat 0)) SA.nil)))) SA.nil)))
                    (SA.l (SL.app 3 (SA.i (SI.v 0) (SA.i (SI.v 9) SA.nil))) SA.nil)))
                (SA.l
                  (SL.app 2
                    (SA.l (SL.v 0)
                      (SA.i (SI.app 143 (SA.l (SL.v 0) (SA.i (SI.v 0) (SA.i (SI.c (Int.ofNat 0)) SA.nil)))) SA.nil)))
                  SA.nil)))] },
    {
      pc :=
        [SB.not (SB.eqL (SL.lit []) (SL.app 1 (SA.l (SL.v 0) (SA.i (SI.c (Int.ofNat 0)) SA.nil)))),
          SB.not (SB.lt (SI.v 0) (SI.c (Int.ofNat 0))), SB.lt (SI.len (SL.v 0)) (SI.c (Int.ofNat 100000)), SB.c true,
          SB.app 154 (SA.l (SL.v 0) SA.nil)],
      eqs := [Eqn.T (SB.c false)] }] := by kernel_rfl
theorem dRetire_ok : dRetire.ok Φ Try.prog := by
  refine call_rule (fun ρ => u1_ok ρ) dRetire_obs ?_
  simp only [and_imp, List.forall_mem_cons, List.not_mem_nil, false_implies, implies_true, and_true, Ob.ok, holds, Eqn.ok, evB_eq, evB_lt, evB_le, evB_not, evB_and, evB_or, evB_eqL, evB_app, evB_v, evB_c, ev_sel, ev_len, ev_v, ev_c, ev_add, ev_sub, ev_mul, ev_quo, ev_rem, ev_bits, ev_wrap, evL_v, evL_lit, evL_app, ev_app, evA_l, evA_i, evA_nil, std_min, std_max, std_cat, std_take, std_drop, std_row, std_set, std_rep, std_find, std_put, std_del, std_flag, std_unflag, std_clr, std_left, ints_cons, ints_nil, ofNat_lit, negSucc_lit, decide_eq_true_eq, Bool.and_eq_true, Bool.or_eq_true, Bool.not_eq_true', Bool.and_eq_false_iff, Bool.or_eq_false_iff, decide_eq_false_iff_not, aI100, aL100, aL110, aL111, aL112, aL113, aL114, aL120, aL121, aL131, aB130, aB199, aI140, aI141, aI142, aI143, aL115, aL140, aL141, aL142, aB150, aB151, aB152, aB153, aB154, aB155]
  repeat' apply And.intro
  all_goals intro ρ hR
  all_goals intros
  all_goals first
    | (have hn := retL_len (ρ.l 0) (ρ.i 0) (ρ.i 9)
       have e := ret_arg (A := ρ.l 0) (f := ρ.i 0) (ρ.i 9) (by omega)
       exact ⟨by omega, e.1, congrArg (fun x : Tab => (x.length : Int)) e.2, e.2⟩)
    | (have hn := retL_len (ρ.l 0) (ρ.i 0) (ρ.i 9)
       have e := ret_twice (A := ρ.l 0) (f := ρ.i 0) (ρ.i 9) (by omega) (doc_found (by omega) (by omega) (by with_reducible assumption))
       exact ⟨by omega, e.1, congrArg (fun x : Tab => (x.length : Int)) e.2, e.2⟩)
    | (have hn := retL_len (ρ.l 0) (ρ.i 0) (ρ.i 9)
       have d := doc_none (A := ρ.l 0) (f := ρ.i 0) (ρ.i 9) (by with_reducible assumption) (by first | exact .inr (by with_reducible assumption) | exact .inl (by omega))
       have e := ret_ok (A := ρ.l 0) (f := ρ.i 0) (ρ.i 9) (by omega) d.1
       have e2 := e.2.trans d.2
       first | exact ⟨by omega, e.1, by rw [e2]; simp; omega, by rw [e2]; simp⟩ | (rw [e2]; rw [e2] at hn; simp at hn ⊢; exact ⟨by omega, e.1, by omega⟩))
    | (exact absurd rfl (by assumption))
set_option maxRecDepth 100000 in
theorem da0_obs : loopObs Φ Try.prog u1 1000 da0.f (loopAt Try.prog da0.f da0.id) da0.n da0.T j2 da0.outs = some
  [{
      pc :=
        [SB.eq (SI.sel (SL.v 9) (SI.v 1) 0) (SI.v 9), SB.le (SI.c (Int.ofNat 0)) (SI.sel (SL.v 9) (SI.v 1) 0),
          SB.lt (SI.v 1) (SI.len (SL.v 9)), SB.le (SI.c (Int.ofNat 0)) (SI.v 1), SB.le (SI.v 1) (SI.len (SL.v 9)),
          SB.lt (SI.len (SL.v 9)) (SI.c (Int.ofNat 100000)), SB.c true,
          SB.app 150 (SA.l (SL.v 9) (SA.i (SI.v 9) SA.nil))],
      eqs :=
        [Eqn.T
            (SB.lt (SI.sub (SI.len (SL.v 9)) (SI.add (SI.v 1) (SI.c (Int.ofNat 1))))
              (SI.sub (SI.len (SL.v 9)) (SI.v 1))),
          Eqn.T (SB.lt (SI.c (Int.ofNat 0)) (SI.sub (SI.len (SL.v 9)) (SI.v 1)))] },
    {
      pc :=
        [SB.app 130 (SA.l (SL.v 9) (SA.i (SI.add (SI.v 1) (SI.c (Int.ofNat 1))) (SA.i (SI.v 9) SA.nil))),
          SB.eq (SI.sel (SL.v 9) (SI.v 1) 0) (SI.v 9), SB.le (SI.c (Int.ofNat 0)) (SI.sel (SL.v 9) (SI.v 1) 0),
          SB.lt (SI.v 1) (SI.len (SL.v 9)), SB.le (SI.c (Int.ofNat 0)) (SI.v 1), SB.le (SI.v 1) (SI.len (SL.v 9)),
          SB.lt (SI.len (SL.v 9)) (SI.c (Int.ofNat 100000)), SB.c true,
          SB.app 150 (SA.l (SL.v 9) (SA.i (SI.v 9) SA.nil))],
      eqs := [Eqn.T (SB.app 130 (SA.l (SL.v 9) (SA.i (SI.v 1) (SA.i (SI.v 9) SA.nil))))] },
    {
      pc :=
        [SB.not (SB.app 130 (SA.l (SL.v 9) (SA.i (SI.add (SI.v 1) (SI.c (Int.ofNat 1))) (SA.i (SI.v 9) SA.nil)))),
          SB.eq (SI.sel (SL.v 9) (SI.v 1) 0) (SI.v 9), SB.le (SI.c (Int.ofNat 0)) (SI.sel (SL.v 9) (SI.v 1) 0),
          SB.lt (SI.v 1) (SI.len (SL.v 9)), SB.le (SI.c (Int.ofNat 0)) (SI.v 1), SB.le (SI.v 1) (SI.len (SL.v 9)),
          SB.lt (SI.len (SL.v 9)) (SI.c (Int.ofNat 100000)), SB.c true,
          SB.app 150 (SA.l (SL.v 9) (SA.i (SI.v 9) SA.nil))],
      eqs := [Eqn.T (SB.not (SB.app 130 (SA.l (SL.v 9) (SA.i (SI.v 1) (SA.i (SI.v 9) SA.nil)))))] },
    {
      pc :=
        [SB.not (SB.eq (SI.sel (SL.v 9) (SI.v 1) 0) (SI.v 9)), SB.le (SI.c (Int.ofNat 0)) (SI.sel (SL.v 9) (SI.v 1) 0),
          SB.lt (SI.v 1) (SI.len (SL.v 9)), SB.le (SI.c (Int.ofNat 0)) (SI.v 1), SB.le (SI.v 1) (SI.len (SL.v 9)),
          SB.lt (SI.len (SL.v 9)) (SI.c (Int.ofNat 100000)), SB.c true,
          SB.app 150 (SA.l (SL.v 9) (SA.i (SI.v 9) SA.nil))],
      eqs := [Eqn.T (SB.app 130 (SA.l (SL.v 9) (SA.i (SI.v 1) (SA.i (SI.v 9) SA.nil))))] },
    {
      pc :=
        [SB.not (SB.le (SI.c (Int.ofNat 0)) (SI.sel (SL.v 9) (SI.v 1) 0)), SB.lt (SI.v 1) (SI.len (SL.v 9)),
          SB.le (SI.c (Int.ofNat 0)) (SI.v 1), SB.le (SI.v 1) (SI.len (SL.v 9)),
          SB.lt (SI.len (SL.v 9)) (SI.c (Int.ofNat 100000)), SB.c true,
          SB.app 150 (SA.l (SL.v 9) (SA.i (SI.v 9) SA.nil))],
      eqs :=
        [Eqn.T
            (SB.lt (SI.sub (SI.len (SL.v 9)) (SI.add (SI.v 1) (SI.c (Int.ofNat 1))))
              (SI.sub (SI.len (SL.v 9)) (SI.v 1))),
          Eqn.T (SB.lt (SI.c (Int.ofNat 0)) (SI.sub (SI.len (SL.v 9)) (SI.v 1)))] },
    {
      pc :=
        [SB.app 130 (SA.l (SL.v 9) (SA.i (SI.add (SI.v 1) (SI.c (Int.ofNat 1))) (SA.i (SI.v 9) SA.nil))),
          SB.not (SB.le (SI.c (Int.ofNat 0)) (SI.sel (SL.v 9) (SI.v 1) 0)), SB.lt (SI.v 1) (SI.len (SL.v 9)),
          SB.le (SI.c (Int.ofNat 0)) (SI.v 1), SB.le (SI.v 1) (SI.len (SL.v 9)),
          SB.lt (SI.len (SL.v 9)) (SI.c (Int.ofNat 100000)), SB.c true,
          SB.app 150 (SA.l (SL.v 9) (SA.i (SI.v 9) SA.nil))],
      eqs := [Eqn.T (SB.app 130 (SA.l (SL.v 9) (SA.i (SI.v 1) (SA.i (SI.v 9) SA.nil))))] },
    {
      pc :=
        [SB.not (SB.app 130 (SA.l (SL.v 9) (SA.i (SI.add (SI.v 1) (SI.c (Int.ofNat 1))) (SA.i (SI.v 9) SA.nil)))),
          SB.not (SB.le (SI.c (Int.ofNat 0)) (SI.sel (SL.v 9) (SI.v 1) 0)), SB.lt (SI.v 1) (SI.len (SL.v 9)),
          SB.le (SI.c (Int.ofNat 0)) (SI.v 1), SB.le (SI.v 1) (SI.len (SL.v 9)),
          SB.lt (SI.len (SL.v 9)) (SI.c (Int.ofNat 100000)), SB.c true,
          SB.app 150 (SA.l (SL.v 9) (SA.i (SI.v 9) SA.nil))],
      eqs := [Eqn.T (SB.not (SB.app 130 (SA.l (SL.v 9) (SA.i (SI.v 1) (SA.i (SI.v 9) SA.nil)))))] },
    {
      pc :=
        [SB.not (SB.lt (SI.v 1) (SI.len (SL.v 9))), SB.le (SI.c (Int.ofNat 0)) (SI.v 1),
          SB.le (SI.v 1) (SI.len (SL.v 9)), SB.lt (SI.len (SL.v 9)) (SI.c (Int.ofNat 100000)), SB.c true,
          SB.app 150 (SA.l (SL.v 9) (SA.i (SI.v 9) SA.nil))],
      eqs := [Eqn.T (SB.not (SB.app 130 (SA.l (SL.v 9) (SA.i (SI.v 1) (SA.i (SI.v 9) SA.nil)))))] }] := by kernel_rfl
theorem da0_ok : da0.ok Φ Try.prog := by
  refine ⟨by kernel_rfl, loop_rule (fun ρ => u1_ok ρ) (loopAt_sub (by kernel_rfl)) da0_obs ?_⟩
  simp only [and_imp, List.forall_mem_cons, List.not_mem_nil, false_implies, implies_true, and_true, Ob.ok, holds, Eqn.ok, evB_eq, evB_lt, evB_le, evB_not, evB_and, evB_or, evB_eqL, evB_app, evB_v, evB_c, ev_sel, ev_len, ev_v, ev_c, ev_add, ev_sub, ev_mul, ev_quo, ev_rem, ev_bits, ev_wrap, evL_v, evL_lit, evL_app, ev_app, evA_l, evA_i, evA_nil, std_min, std_max, std_cat, std_take, std_drop, std_row, std_set, std_rep, std_find, std_put, std_del, std_flag, std_unflag, std_clr, std_left, ints_cons, ints_nil, ofNat_lit, negSucc_lit, decide_eq_true_eq, Bool.and_eq_true, Bool.or_eq_true, Bool.not_eq_true', Bool.and_eq_false_iff, Bool.or_eq_false_iff, decide_eq_false_iff_not, aI100, aL100, aL110, aL111, aL112, aL113, aL114, aL120, aL121, aL131, aB130, aB199, aI140, aI141, aI142, aI143, aL115, aL140, aL141, aL142, aB150, aB151, aB152, aB153, aB154, aB155]
  repeat' apply And.intro
  all_goals intro ρ hR
  all_goals intros
  all_goals first
    | (omega)
    | (have hp := pins_at (P := ρ.l 9) (now := ρ.i 9) (c := ρ.i 1) (by with_reducible assumption) (by omega) (by omega)
       have hx : ¬ (List.getD (ρ.l 9) (ρ.i 1).toNat []).getD 0 0 = -1 ∨ (List.getD (ρ.l 9) (ρ.i 1).toNat []).getD 0 0 = -1 := by omega
       rw [late_step (by omega) (by omega)]
       rcases hx with hx | hx
       · simp_all
         done
       · rw [hx]
         simp_all
         done)
    | (have hp := pins_at (P := ρ.l 9) (now := ρ.i 9) (c := ρ.i 1) (by with_reducible assumption) (by omega) (by omega)
       have hx : ¬ (List.getD (ρ.l 9) (ρ.i 1).toNat []).getD 0 0 = -1 := by omega
       rw [late_step (by omega) (by omega)]
       simp_all
       done)
    | (have hp := pins_at (P := ρ.l 9) (now := ρ.i 9) (c := ρ.i 1) (by with_reducible assumption) (by omega) (by omega)
       have hx : (List.getD (ρ.l 9) (ρ.i 1).toNat []).getD 0 0 = -1 := by omega
       rw [late_step (by omega) (by omega), hx]
       simp_all
       done)
    | (rw [late_end (by omega)])
theorem u2_ok (ρ : Env) : TblOK Φ ρ Try.prog u2 := addLp_ok (addFn_ok (u1_ok ρ) dRetire_ok) da0_ok
set_option maxRecDepth 100000 in
theorem dAdvance_obs : callObs Φ Try.prog u2 1000 dAdvance.f dAdvance.vs dAdvance.o dAdvance.pc dAdvance.outs = some
  [] := by kernel_rfl
theorem dAdvance_ok : dAdvance.ok Φ Try.prog := by
  refine call_rule (fun ρ => u2_ok ρ) dAdvance_obs ?_
  intro ob h; cases h
set_option maxRecDepth 100000 in
theorem df0_obs : loopObs Φ Try.prog u2 1000 df0.f (loopAt Try.prog df0.f df0.id) df0.n df0.T j1 df0.outs = some
  [{
      pc :=
        [SB.le (SI.wrap IntKind.i64 (SI.add (SI.sel (SL.v 0) (SI.v 1) 1) (SI.c (Int.ofNat 2)))) (SI.v 9),
          SB.lt (SI.v 1) (SI.len (SL.v 0)), SB.le (SI.c (Int.ofNat 0)) (SI.v 1), SB.le (SI.v 1) (SI.len (SL.v 0)),
          SB.lt (SI.len (SL.v 0)) (SI.c (Int.ofNat 100000)), SB.le (SI.len (SL.v 1)) (SI.v 1),
          SB.le (SI.len (SL.v 2)) (SI.v 1), SB.c true,
          SB.eqL (SL.v 1) (SL.app 111 (SA.l (SL.app 1 (SA.l (SL.v 0) (SA.i (SI.v 1) SA.nil))) (SA.i (SI.v 9) SA.nil))),
          SB.eqL (SL.v 2) (SL.app 121 (SA.l (SL.app 1 (SA.l (SL.v 0) (SA.i (SI.v 1) SA.nil))) (SA.i (SI.v 9) SA.nil)))],
      eqs :=
        [Eqn.T
            (SB.lt (SI.sub (SI.len (SL.v 0)) (SI.add (SI.v 1) (SI.c (Int.ofNat 1))))
              (SI.sub (SI.len (SL.v 0)) (SI.v 1))),
          Eqn.T (SB.lt (SI.c (Int.ofNat 0)) (SI.sub (SI.len (SL.v 0)) (SI.v 1))),
          Eqn.T
            (SB.eqL (SL.app 0 (SA.l (SL.v 1) (SA.l (SL.app 3 (SA.i (SI.sel (SL.v 0) (SI.v 1) 0) SA.nil)) SA.nil)))
              (SL.app 111
                (SA.l (SL.app 1 (SA.l (SL.v 0) (SA.i (SI.add (SI.v 1) (SI.c (Int.ofNat 1))) SA.nil)))
                  (SA.i (SI.v 9) SA.nil)))),
          Eqn.T
            (SB.eqL (SL.v 2)
              (SL.app 121
                (SA.l (SL.app 1 (SA.l (SL.v 0) (SA.i (SI.add (SI.v 1) (SI.c (Int.ofNat 1))) SA.nil)))
                  (SA.i (SI.v 9) SA.nil))))] },
    {
      pc :=
        [SB.not (SB.le (SI.wrap IntKind.i64 (SI.add (SI.sel (SL.v 0) (SI.v 1) 1) (SI.c (Int.ofNat 2)))) (SI.v 9)),
          SB.lt (SI.v 1) (SI.len (SL.v 0)), SB.le (SI.c (Int.ofNat 0)) (SI.v 1), SB.le (SI.v 1) (SI.len (SL.v 0)),
          SB.lt (SI.len (SL.v 0)) (SI.c (Int.ofNat 100000)), SB.le (SI.len (SL.v 1)) (SI.v 1),
          SB.le (SI.len (SL.v 2)) (SI.v 1), SB.c true,
          SB.eqL (SL.v 1) (SL.app 111 (SA.l (SL.app 1 (SA.l (SL.v 0) (SA.i (SI.v 1) SA.nil))) (SA.i (SI.v 9) SA.nil))),
          SB.eqL (SL.v 2) (SL.app 121 (SA.l (SL.app 1 (SA.l (SL.v 0) (SA.i (SI.v 1) SA.nil))) (SA.i (SI.v 9) SA.nil)))],
      eqs :=
        [Eqn.T
            (SB.lt (SI.sub (SI.len (SL.v 0)) (SI.add (SI.v 1) (SI.c (Int.ofNat 1))))
              (SI.sub (SI.len (SL.v 0)) (SI.v 1))),
          Eqn.T (SB.lt (SI.c (Int.ofNat 0)) (SI.sub (SI.len (SL.v 0)) (SI.v 1))),
          Eqn.T
            (SB.eqL (SL.v 1)
              (SL.app 111
                (SA.l (SL.app 1 (SA.l (SL.v 0) (SA.i (SI.add (SI.v 1) (SI.c (Int.ofNat 1))) SA.nil)))
                  (SA.i (SI.v 9) SA.nil)))),
          Eqn.T
            (SB.eqL
              (SL.app 0
                (SA.l (SL.v 2)
                  (SA.l (SL.app 3 (SA.i (SI.sel (SL.v 0) (SI.v 1) 0) (SA.i (SI.sel (SL.v 0) (SI.v 1) 1) SA.nil)))
                    SA.nil)))
              (SL.app 121
                (SA.l (SL.app 1 (SA.l (SL.v 0) (SA.i (SI.add (SI.v 1) (SI.c (Int.ofNat 1))) SA.nil)))
                  (SA.i (SI.v 9) SA.nil))))] },
    {
      pc :=
        [SB.not (SB.lt (SI.v 1) (SI.len (SL.v 0))), SB.le (SI.c (Int.ofNat 0)) (SI.v 1),
          SB.le (SI.v 1) (SI.len (SL.v 0)), SB.lt (SI.len (SL.v 0)) (SI.c (Int.ofNat 100000)),
          SB.le (SI.len (SL.v 1)) (SI.v 1), SB.le (SI.len (SL.v 2)) (SI.v 1), SB.c true,
          SB.eqL (SL.v 1) (SL.app 111 (SA.l (SL.app 1 (SA.l (SL.v 0) (SA.i (SI.v 1) SA.nil))) (SA.i (SI.v 9) SA.nil))),
          SB.eqL (SL.v 2) (SL.app 121 (SA.l (SL.app 1 (SA.l (SL.v 0) (SA.i (SI.v 1) SA.nil))) (SA.i (SI.v 9) SA.nil)))],
      eqs :=
        [Eqn.T (SB.le (SI.len (SL.app 111 (SA.l (SL.v 0) (SA.i (SI.v 9) SA.nil)))) (SI.len (SL.v 0))),
          Eqn.T (SB.le (SI.len (SL.app 121 (SA.l (SL.v 0) (SA.i (SI.v 9) SA.nil)))) (SI.len (SL.v 0))),
          Eqn.I (SI.len (SL.app 111 (SA.l (SL.v 0) (SA.i (SI.v 9) SA.nil)))) (SI.len (SL.v 1)),
          Eqn.I (SI.len (SL.app 121 (SA.l (SL.v 0) (SA.i (SI.v 9) SA.nil)))) (SI.len (SL.v 2)),
          Eqn.L (SL.app 111 (SA.l (SL.v 0) (SA.i (SI.v 9) SA.nil))) (SL.v 1),
          Eqn.L (SL.app 121 (SA.l (SL.v 0) (SA.i (SI.v 9) SA.nil))) (SL.v 2)] }] := by kernel_rfl
theorem df0_ok : df0.ok Φ Try.prog := by
  refine ⟨by kernel_rfl, loop_rule (fun ρ => u2_ok ρ) (loopAt_sub (by kernel_rfl)) df0_obs ?_⟩
  simp only [and_imp, List.forall_mem_cons, List.not_mem_nil, false_implies, implies_true, and_true, Ob.ok, holds, Eqn.ok, evB_eq, evB_lt, evB_le, evB_not, evB_and, evB_or, evB_eqL, evB_app, evB_v, evB_c, ev_sel, ev_len, ev_v, ev_c, ev_add, ev_sub, ev_mul, ev_quo, ev_rem, ev_bits, ev_wrap, evL_v, evL_lit, evL_app, ev_app, evA_l, evA_i, evA_nil, std_min, std_max, std_cat, std_take, std_drop, std_row, std_set, std_rep, std_find, std_put, std_del, std_flag, std_unflag, std_clr, std_left, ints_cons, ints_nil, ofNat_lit, negSucc_lit, decide_eq_true_eq, Bool.and_eq_true, Bool.or_eq_true, Bool.not_eq_true', Bool.and_eq_false_iff, Bool.or_eq_false_iff, decide_eq_false_iff_not, aI100, aL100, aL110, aL111, aL112, aL113, aL114, aL120, aL121, aL131, aB130, aB199, aI140, aI141, aI142, aI143, aL115, aL140, aL141, aL142, aB150, aB151, aB152, aB153, aB154, aB155]
  repeat' apply And.intro
  all_goals intro ρ hR
  all_goals intros
  all_goals first
    | (omega)
    | (have e1 : ρ.l 1 = keyT (oldP (ρ.i 9)) (List.take (ρ.i 1).toNat (ρ.l 0)) := by with_reducible assumption
       have e2 : ρ.l 2 = keepT (oldP (ρ.i 9)) (List.take (ρ.i 1).toNat (ρ.l 0)) := by with_reducible assumption
       have hp : oldP (ρ.i 9) ((ρ.l 0).getD (ρ.i 1).toNat []) = true := decide_eq_true (by with_reducible assumption)
       refine ⟨by omega, by omega, ?_, ?_⟩
       · rw [e1]; exact key_one (by omega) (by omega) hp
       · rw [e2]; exact keep_not (by omega) (by omega) hp)
    | (have e1 : ρ.l 1 = keyT (oldP (ρ.i 9)) (List.take (ρ.i 1).toNat (ρ.l 0)) := by with_reducible assumption
       have e2 : ρ.l 2 = keepT (oldP (ρ.i 9)) (List.take (ρ.i 1).toNat (ρ.l 0)) := by with_reducible assumption
       have hp : oldP (ρ.i 9) ((ρ.l 0).getD (ρ.i 1).toNat []) = false := decide_eq_false (by with_reducible assumption)
       refine ⟨by omega, by omega, ?_, ?_⟩
       · rw [e1]; exact key_not (by omega) (by omega) hp
       · rw [e2]; exact keep_one (hR.row 2 rfl rfl) (by omega) (by omega) hp)
    | (have e1 : ρ.l 1 = keyT (oldP (ρ.i 9)) (List.take (ρ.i 1).toNat (ρ.l 0)) := by with_reducible assumption
       have e2 : ρ.l 2 = keepT (oldP (ρ.i 9)) (List.take (ρ.i 1).toNat (ρ.l 0)) := by with_reducible assumption
       rw [take_end (by omega)] at e1 e2
       have h1 := keyT_len (oldP (ρ.i 9)) (ρ.l 0)
       have h2 := keepT_len (oldP (ρ.i 9)) (ρ.l 0)
       rw [← e1, ← e2]
       rw [← e1] at h1
       rw [← e2] at h2
       exact ⟨by omega, by omega, rfl, rfl, rfl, rfl⟩)
set_option maxRecDepth 100000 in
theorem dw0_obs : loopObs Φ Try.prog u2 1000 dw0.f (loopAt Try.prog dw0.f dw0.id) dw0.n dw0.T j1 dw0.outs = some
  [{
      pc :=
        [SB.lt (SI.v 1) (SI.len (SL.v 0)), SB.le (SI.c (Int.ofNat 0)) (SI.v 1), SB.le (SI.v 1) (SI.len (SL.v 0)),
          SB.lt (SI.len (SL.v 0)) (SI.c (Int.ofNat 100000)), SB.le (SI.len (SL.v 1)) (SI.v 1), SB.c true,
          SB.eqL (SL.v 1) (SL.app 110 (SA.l (SL.app 1 (SA.l (SL.v 0) (SA.i (SI.v 1) SA.nil))) SA.nil))],
      eqs :=
        [Eqn.T
            (SB.lt (SI.sub (SI.len (SL.v 0)) (SI.add (SI.v 1) (SI.c (Int.ofNat 1))))
              (SI.sub (SI.len (SL.v 0)) (SI.v 1))),
          Eqn.T (SB.lt (SI.c (Int.ofNat 0)) (SI.sub (SI.len (SL.v 0)) (SI.v 1))),
          Eqn.T
            (SB.eqL (SL.app 0 (SA.l (SL.v 1) (SA.l (SL.app 3 (SA.i (SI.sel (SL.v 0) (SI.v 1) 0) SA.nil)) SA.nil)))
              (SL.app 110
                (SA.l (SL.app 1 (SA.l (SL.v 0) (SA.i (SI.add (SI.v 1) (SI.c (Int.ofNat 1))) SA.nil))) SA.nil)))] },
    {
      pc :=
        [SB.not (SB.lt (SI.v 1) (SI.len (SL.v 0))), SB.le (SI.c (Int.ofNat 0)) (SI.v 1),
          SB.le (SI.v 1) (SI.len (SL.v 0)), SB.lt (SI.len (SL.v 0)) (SI.c (Int.ofNat 100000)),
          SB.le (SI.len (SL.v 1)) (SI.v 1), SB.c true,
          SB.eqL (SL.v 1) (SL.app 110 (SA.l (SL.app 1 (SA.l (SL.v 0) (SA.i (SI.v 1) SA.nil))) SA.nil))],
      eqs :=
        [Eqn.T (SB.le (SI.len (SL.app 110 (SA.l (SL.v 0) SA.nil))) (SI.len (SL.v 0))),
          Eqn.I (SI.len (SL.app 110 (SA.l (SL.v 0) SA.nil))) (SI.len (SL.v 1)),
          Eqn.L (SL.app 110 (SA.l (SL.v 0) SA.nil)) (SL.v 1)] }] := by kernel_rfl
theorem dw0_ok : dw0.ok Φ Try.prog := by
  refine ⟨by kernel_rfl, loop_rule (fun ρ => u2_ok ρ) (loopAt_sub (by kernel_rfl)) dw0_obs ?_⟩
  simp only [and_imp, List.forall_mem_cons, List.not_mem_nil, false_implies, implies_true, and_true, Ob.ok, holds, Eqn.ok, evB_eq, evB_lt, evB_le, evB_not, evB_and, evB_or, evB_eqL, evB_app, evB_v, evB_c, ev_sel, ev_len, ev_v, ev_c, ev_add, ev_sub, ev_mul, ev_quo, ev_rem, ev_bits, ev_wrap, evL_v, evL_lit, evL_app, ev_app, evA_l, evA_i, evA_nil, std_min, std_max, std_cat, std_take, std_drop, std_row, std_set, std_rep, std_find, std_put, std_del, std_flag, std_unflag, std_clr, std_left, ints_cons, ints_nil, ofNat_lit, negSucc_lit, decide_eq_true_eq, Bool.and_eq_true, Bool.or_eq_true, Bool.not_eq_true', Bool.and_eq_false_iff, Bool.or_eq_false_iff, decide_eq_false_iff_not, aI100, aL100, aL110, aL111, aL112, aL113, aL114, aL120, aL121, aL131, aB130, aB199, aI140, aI141, aI142, aI143, aL115, aL140, aL141, aL142, aB150, aB151, aB152, aB153, aB154, aB155]
  repeat' apply And.intro
  all_goals intro ρ hR
  all_goals intros
  all_goals first
    | (omega)
    | (have e1 : ρ.l 1 = keyT allP (List.take (ρ.i 1).toNat (ρ.l 0)) := by with_reducible assumption
       refine ⟨by omega, by omega, ?_⟩
       rw [e1]; exact key_one (by omega) (by omega) rfl)
    | (have e1 : ρ.l 1 = keyT allP (List.take (ρ.i 1).toNat (ρ.l 0)) := by with_reducible assumption
       rw [take_end (by omega)] at e1
       have h1 := keyT_len allP (ρ.l 0)
       rw [← e1] at h1 ⊢
       exact ⟨by omega, rfl, rfl⟩)
theorem u3_ok (ρ : Env) : TblOK Φ ρ Try.prog u3 := addLp_ok (addLp_ok (addFn_ok (u2_ok ρ) dAdvance_ok) df0_ok) dw0_ok
set_option maxRecDepth 100000 in
theorem dFree_obs : callObs Φ Try.prog u3 1000 dFree.f dFree.vs dFree.o dFree.pc dFree.outs = some
  [{
      pc :=
        [SB.not
            (SB.eqL (SL.lit [])
              (SL.app 111 (SA.l (SL.app 1 (SA.l (SL.v 0) (SA.i (SI.c (Int.ofNat 0)) SA.nil))) (SA.i (SI.v 9) SA.nil)))),
          SB.lt (SI.len (SL.v 0)) (SI.c (Int.ofNat 100000))],
      eqs := [Eqn.T (SB.c false)] },
    {
      pc :=
        [SB.not
            (SB.eqL (SL.lit [])
              (SL.app 121 (SA.l (SL.app 1 (SA.l (SL.v 0) (SA.i (SI.c (Int.ofNat 0)) SA.nil))) (SA.i (SI.v 9) SA.nil)))),
          SB.lt (SI.len (SL.v 0)) (SI.c (Int.ofNat 100000))],
      eqs := [Eqn.T (SB.c false)] }] := by kernel_rfl
theorem dFree_ok : dFree.ok Φ Try.prog := by
  refine call_rule (fun ρ => u3_ok ρ) dFree_obs ?_
  simp only [and_imp, List.forall_mem_cons, List.not_mem_nil, false_implies, implies_true, and_true, Ob.ok, holds, Eqn.ok, evB_eq, evB_lt, evB_le, evB_not, evB_and, evB_or, evB_eqL, evB_app, evB_v, evB_c, ev_sel, ev_len, ev_v, ev_c, ev_add, ev_sub, ev_mul, ev_quo, ev_rem, ev_bits, ev_wrap, evL_v, evL_lit, evL_app, ev_app, evA_l, evA_i, evA_nil, std_min, std_max, std_cat, std_take, std_drop, std_row, std_set, std_rep, std_find, std_put, std_del, std_flag, std_unflag, std_clr, std_left, ints_cons, ints_nil, ofNat_lit, negSucc_lit, decide_eq_true_eq, Bool.and_eq_true, Bool.or_eq_true, Bool.not_eq_true', Bool.and_eq_false_iff, Bool.or_eq_false_iff, decide_eq_false_iff_not, aI100, aL100, aL110, aL111, aL112, aL113, aL114, aL120, aL121, aL131, aB130, aB199, aI140, aI141, aI142, aI143, aL115, aL140, aL141, aL142, aB150, aB151, aB152, aB153, aB154, aB155]
  repeat' apply And.intro
  all_goals intro ρ hR
  all_goals intros
  all_goals first
    | (exfalso
       exact absurd rfl (by assumption))
set_option maxRecDepth 100000 in
theorem dWaiting_obs : callObs Φ Try.prog u3 1000 dWaiting.f dWaiting.vs dWaiting.o dWaiting.pc dWaiting.outs = some
  [{
      pc :=
        [SB.not
            (SB.eqL (SL.lit [])
              (SL.app 110 (SA.l (SL.app 1 (SA.l (SL.v 0) (SA.i (SI.c (Int.ofNat 0)) SA.nil))) SA.nil))),
          SB.lt (SI.len (SL.v 0)) (SI.c (Int.ofNat 100000))],
      eqs := [Eqn.T (SB.c false)] }] := by kernel_rfl
theorem dWaiting_ok : dWaiting.ok Φ Try.prog := by
  refine call_rule (fun ρ => u3_ok ρ) dWaiting_obs ?_
  simp only [and_imp, List.forall_mem_cons, List.not_mem_nil, false_implies, implies_true, and_true, Ob.ok, holds, Eqn.ok, evB_eq, evB_lt, evB_le, evB_not, evB_and, evB_or, evB_eqL, evB_app, evB_v, evB_c, ev_sel, ev_len, ev_v, ev_c, ev_add, ev_sub, ev_mul, ev_quo, ev_rem, ev_bits, ev_wrap, evL_v, evL_lit, evL_app, ev_app, evA_l, evA_i, evA_nil, std_min, std_max, std_cat, std_take, std_drop, std_row, std_set, std_rep, std_find, std_put, std_del, std_flag, std_unflag, std_clr, std_left, ints_cons, ints_nil, ofNat_lit, negSucc_lit, decide_eq_true_eq, Bool.and_eq_true, Bool.or_eq_true, Bool.not_eq_true', Bool.and_eq_false_iff, Bool.or_eq_false_iff, decide_eq_false_iff_not, aI100, aL100, aL110, aL111, aL112, aL113, aL114, aL120, aL121, aL131, aB130, aB199, aI140, aI141, aI142, aI143, aL115, aL140, aL141, aL142, aB150, aB151, aB152, aB153, aB154, aB155]
  repeat' apply And.intro
  all_goals intro ρ hR
  all_goals intros
  all_goals first
    | (exfalso
       exact absurd rfl (by assumption))
set_option maxRecDepth 100000 in
theorem co0_obs : loopObs Φ Try.prog u3 1000 co0.f (loopAt Try.prog co0.f co0.id) co0.n co0.T left co0.outs = some
  [{
      pc :=
        [SB.not (SB.lt (SI.c (Int.ofNat 0)) (SI.len (SL.app 12 (SA.l (SL.v 0) SA.nil)))), SB.c true,
          SB.lt (SI.len (SL.v 0)) (SI.c (Int.ofNat 90000)), SB.eqL (SL.v 1) (SL.app 115 (SA.l (SL.v 0) SA.nil)),
          SB.le (SI.len (SL.v 1)) (SI.len (SL.v 0))],
      eqs :=
        [Eqn.T (SB.eq (SI.len (SL.app 10 (SA.l (SL.app 114 (SA.l (SL.v 0) SA.nil)) SA.nil))) (SI.len (SL.v 0))),
          Eqn.L (SL.app 10 (SA.l (SL.app 114 (SA.l (SL.v 0) SA.nil)) SA.nil)) (SL.v 1),
          Eqn.L (SL.app 114 (SA.l (SL.v 0) SA.nil)) (SL.v 0)] },
    {
      pc :=
        [SB.eq (SI.sel (SL.app 6 (SA.l (SL.v 0) (SA.i (SI.v 1000) SA.nil))) (SI.c (Int.ofNat 0)) 2)
            (SI.c (Int.ofNat 1)),
          SB.eq (SI.len (SL.app 6 (SA.l (SL.v 0) (SA.i (SI.v 1000) SA.nil)))) (SI.c (Int.ofNat 1)),
          SB.lt (SI.c (Int.ofNat 0)) (SI.len (SL.app 12 (SA.l (SL.v 0) SA.nil))), SB.c true,
          SB.lt (SI.len (SL.v 0)) (SI.c (Int.ofNat 90000)), SB.eqL (SL.v 1) (SL.app 115 (SA.l (SL.v 0) SA.nil)),
          SB.le (SI.len (SL.v 1)) (SI.len (SL.v 0))],
      eqs :=
        [Eqn.T
            (SB.lt
              (SI.add (SI.len (SL.app 12 (SA.l (SL.app 11 (SA.l (SL.v 0) (SA.i (SI.v 1000) SA.nil))) SA.nil)))
                (SI.c (Int.ofNat 1)))
              (SI.add (SI.len (SL.app 12 (SA.l (SL.v 0) SA.nil))) (SI.c (Int.ofNat 1)))),
          Eqn.T (SB.lt (SI.len (SL.app 11 (SA.l (SL.v 0) (SA.i (SI.v 1000) SA.nil)))) (SI.c (Int.ofNat 90000))),
          Eqn.T
            (SB.eqL
              (SL.app 7
                (SA.l (SL.v 1)
                  (SA.i (SI.v 1000)
                    (SA.i
                      (SI.sel
                        (SL.app 6
                          (SA.l (SL.app 11 (SA.l (SL.v 0) (SA.i (SI.v 1000) SA.nil))) (SA.i (SI.v 1000) SA.nil)))
                        (SI.c (Int.ofNat 0)) 1)
                      SA.nil))))
              (SL.app 115 (SA.l (SL.app 11 (SA.l (SL.v 0) (SA.i (SI.v 1000) SA.nil))) SA.nil))),
          Eqn.T
            (SB.le
              (SI.len
                (SL.app 7
                  (SA.l (SL.v 1)
                    (SA.i (SI.v 1000)
                      (SA.i
                        (SI.sel
                          (SL.app 6
                            (SA.l (SL.app 11 (SA.l (SL.v 0) (SA.i (SI.v 1000) SA.nil))) (SA.i (SI.v 1000) SA.nil)))
                          (SI.c (Int.ofNat 0)) 1)
                        SA.nil)))))
              (SI.len (SL.app 11 (SA.l (SL.v 0) (SA.i (SI.v 1000) SA.nil)))))] },
    {
      pc :=
        [SB.eq
            (SI.len
              (SL.app 10
                (SA.l (SL.app 114 (SA.l (SL.app 11 (SA.l (SL.v 0) (SA.i (SI.v 1000) SA.nil))) SA.nil)) SA.nil)))
            (SI.len (SL.app 11 (SA.l (SL.v 0) (SA.i (SI.v 1000) SA.nil)))),
          SB.eq (SI.sel (SL.app 6 (SA.l (SL.v 0) (SA.i (SI.v 1000) SA.nil))) (SI.c (Int.ofNat 0)) 2)
            (SI.c (Int.ofNat 1)),
          SB.eq (SI.len (SL.app 6 (SA.l (SL.v 0) (SA.i (SI.v 1000) SA.nil)))) (SI.c (Int.ofNat 1)),
          SB.lt (SI.c (Int.ofNat 0)) (SI.len (SL.app 12 (SA.l (SL.v 0) SA.nil))), SB.c true,
          SB.lt (SI.len (SL.v 0)) (SI.c (Int.ofNat 90000)), SB.eqL (SL.v 1) (SL.app 115 (SA.l (SL.v 0) SA.nil)),
          SB.le (SI.len (SL.v 1)) (SI.len (SL.v 0))],
      eqs :=
        [Eqn.T (SB.eq (SI.len (SL.app 10 (SA.l (SL.app 114 (SA.l (SL.v 0) SA.nil)) SA.nil))) (SI.len (SL.v 0))),
          Eqn.L (SL.app 10 (SA.l (SL.app 114 (SA.l (SL.v 0) SA.nil)) SA.nil))
            (SL.app 10 (SA.l (SL.app 114 (SA.l (SL.app 11 (SA.l (SL.v 0) (SA.i (SI.v 1000) SA.nil))) SA.nil)) SA.nil)),
          Eqn.L (SL.app 114 (SA.l (SL.v 0) SA.nil))
            (SL.app 114 (SA.l (SL.app 11 (SA.l (SL.v 0) (SA.i (SI.v 1000) SA.nil))) SA.nil))] }] := by kernel_rfl
theorem co0_ok : co0.ok Φ Try.prog := by
  refine ⟨by kernel_rfl, loop_rule (fun ρ => u3_ok ρ) (loopAt_sub (by kernel_rfl)) co0_obs ?_⟩
  simp only [and_imp, List.forall_mem_cons, List.not_mem_nil, false_implies, implies_true, and_true, Ob.ok, holds, Eqn.ok, evB_eq, evB_lt, evB_le, evB_not, evB_and, evB_or, evB_eqL, evB_app, evB_v, evB_c, ev_sel, ev_len, ev_v, ev_c, ev_add, ev_sub, ev_mul, ev_quo, ev_rem, ev_bits, ev_wrap, evL_v, evL_lit, evL_app, ev_app, evA_l, evA_i, evA_nil, std_min, std_max, std_cat, std_take, std_drop, std_row, std_set, std_rep, std_find, std_put, std_del, std_flag, std_unflag, std_clr, std_left, ints_cons, ints_nil, ofNat_lit, negSucc_lit, decide_eq_true_eq, Bool.and_eq_true, Bool.or_eq_true, Bool.not_eq_true', Bool.and_eq_false_iff, Bool.or_eq_false_iff, decide_eq_false_iff_not, aI100, aL100, aL110, aL111, aL112, aL113, aL114, aL120, aL121, aL131, aB130, aB199, aI140, aI141, aI142, aI143, aL115, aL140, aL141, aL142, aB150, aB151, aB152, aB153, aB154, aB155]
  repeat' apply And.intro
  all_goals intro ρ hR
  all_goals intros
  all_goals first
    | (have hr : ∀ r ∈ ρ.l 0, okRow K3 r := hR.row 6 rfl rfl
       have e := out_end (p := allP) hr (by with_reducible assumption) rfl
       have v := vis_end hr (by with_reducible assumption)
       have e1 : ρ.l 1 = visT (ρ.l 0) := by with_reducible assumption
       rw [e.1, unflag_len, e1, v]
       exact ⟨rfl, rfl, rfl⟩)
    | (have hk : (ρ.l 0).Pairwise (fun a b => hdK a < hdK b) := hR.keys 6 rfl rfl
       have hr : ∀ r ∈ ρ.l 0, okRow K3 r := hR.row 6 rfl rfl
       have e := out_rem hk hr (x := ρ.i 1000) (by with_reducible assumption) (by with_reducible assumption)
       have m := vis_step hk hr (x := ρ.i 1000) (by with_reducible assumption) (by with_reducible assumption) (L := ρ.l 1) (by with_reducible assumption)
       have hl := clrT_len (ρ.l 0) (ρ.i 1000)
       have h2 := vis_len (clrT (ρ.l 0) (ρ.i 1000))
       have h3 := congrArg List.length m
       exact ⟨by omega, by omega, m, by omega⟩)
    | (have hl := clrT_len (ρ.l 0) (ρ.i 1000)
       rw [clrAll_clr]
       rw [unflag_len, clrAll_len]
       exact ⟨rfl, rfl, rfl⟩)
    | (have hl := clrT_len (ρ.l 0) (ρ.i 1000)
       rw [clrAll_clr]
       rw [unflag_len, clrAll_len]
       done)
theorem u4_ok (ρ : Env) : TblOK Φ ρ Try.prog u4 := addLp_ok (addFn_ok (addFn_ok (u3_ok ρ) dFree_ok) dWaiting_ok) co0_ok
set_option maxRecDepth 100000 in
theorem cCopy_obs : callObs Φ Try.prog u4 1000 cCopy.f cCopy.vs cCopy.o cCopy.pc cCopy.outs = some
  [{
      pc :=
        [SB.eq (SI.len (SL.app 10 (SA.l (SL.app 114 (SA.l (SL.app 9 (SA.l (SL.v 0) SA.nil)) SA.nil)) SA.nil)))
            (SI.len (SL.app 9 (SA.l (SL.v 0) SA.nil))),
          SB.lt (SI.len (SL.app 9 (SA.l (SL.v 0) SA.nil))) (SI.c (Int.ofNat 90000)),
          SB.eqL (SL.lit []) (SL.app 115 (SA.l (SL.app 9 (SA.l (SL.v 0) SA.nil)) SA.nil)),
          SB.lt (SI.len (SL.v 9)) (SI.c (Int.ofNat 100000)), SB.lt (SI.len (SL.v 0)) (SI.c (Int.ofNat 90000))],
      eqs :=
        [Eqn.L (SL.v 0) (SL.app 10 (SA.l (SL.app 114 (SA.l (SL.app 9 (SA.l (SL.v 0) SA.nil)) SA.nil)) SA.nil)),
          Eqn.L (SL.v 0) (SL.app 10 (SA.l (SL.app 114 (SA.l (SL.app 9 (SA.l (SL.v 0) SA.nil)) SA.nil)) SA.nil))] },
    {
      pc :=
        [SB.not (SB.lt (SI.len (SL.app 9 (SA.l (SL.v 0) SA.nil))) (SI.c (Int.ofNat 90000))),
          SB.lt (SI.len (SL.v 9)) (SI.c (Int.ofNat 100000)), SB.lt (SI.len (SL.v 0)) (SI.c (Int.ofNat 90000))],
      eqs := [Eqn.T (SB.c false)] },
    {
      pc :=
        [SB.not (SB.eqL (SL.lit []) (SL.app 115 (SA.l (SL.app 9 (SA.l (SL.v 0) SA.nil)) SA.nil))),
          SB.lt (SI.len (SL.v 9)) (SI.c (Int.ofNat 100000)), SB.lt (SI.len (SL.v 0)) (SI.c (Int.ofNat 90000))],
      eqs := [Eqn.T (SB.c false)] }] := by kernel_rfl
theorem cCopy_ok : cCopy.ok Φ Try.prog := by
  refine call_rule (fun ρ => u4_ok ρ) cCopy_obs ?_
  simp only [and_imp, List.forall_mem_cons, List.not_mem_nil, false_implies, implies_true, and_true, Ob.ok, holds, Eqn.ok, evB_eq, evB_lt, evB_le, evB_not, evB_and, evB_or, evB_eqL, evB_app, evB_v, evB_c, ev_sel, ev_len, ev_v, ev_c, ev_add, ev_sub, ev_mul, ev_quo, ev_rem, ev_bits, ev_wrap, evL_v, evL_lit, evL_app, ev_app, evA_l, evA_i, evA_nil, std_min, std_max, std_cat, std_take, std_drop, std_row, std_set, std_rep, std_find, std_put, std_del, std_flag, std_unflag, std_clr, std_left, ints_cons, ints_nil, ofNat_lit, negSucc_lit, decide_eq_true_eq, Bool.and_eq_true, Bool.or_eq_true, Bool.not_eq_true', Bool.and_eq_false_iff, Bool.or_eq_false_iff, decide_eq_false_iff_not, aI100, aL100, aL110, aL111, aL112, aL113, aL114, aL120, aL121, aL131, aB130, aB199, aI140, aI141, aI142, aI143, aL115, aL140, aL141, aL142, aB150, aB151, aB152, aB153, aB154, aB155]
  repeat' apply And.intro
  all_goals intro ρ hR
  all_goals intros
  all_goals first
    | (have h := flagT_len (ρ.l 0)
       omega)
    | (have h := (unflag_clr_flag (ρ.l 0)).symm
       exact ⟨h, h⟩)
    | (have h := (unflag_clr_flag (ρ.l 0)).symm
       exact h)
    | (exfalso
       exact absurd (vis_flag _).symm (by assumption))
theorem u5_ok (ρ : Env) : TblOK Φ ρ Try.prog u5 := addFn_ok (u4_ok ρ) cCopy_ok
end Go.SF.C10
