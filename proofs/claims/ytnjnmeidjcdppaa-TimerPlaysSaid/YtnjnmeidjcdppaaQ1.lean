/- The package timer, shown. -/
import Derived.Test.YtnjnmeidjcdppaaC1
import Derived.Test.YtnjnmeidjcdppaaP2
import Derived.KernelRfl
namespace Go.SF.C18
open Go Go.SF Go.Proofs
set_option linter.unusedVariables false
set_option linter.unusedSimpArgs false

set_option maxRecDepth 100000 in
theorem nx0_obs : loopObs Φ Try.prog noTbl 1000 nx0.f (loopAt Try.prog nx0.f nx0.id) nx0.n nx0.T left nx0.outs = some
  [{ pc := [SB.not (SB.lt (SI.c (Int.ofNat 0)) (SI.len (SL.app 12 (SA.l (SL.v 0) SA.nil))))],
      eqs :=
        [Eqn.I (SI.app 111 (SA.l (SL.v 0) (SA.i (SI.v 0) SA.nil))) (SI.v 0),
          Eqn.L (SL.app 116 (SA.l (SL.v 0) SA.nil)) (SL.v 0)] },
    {
      pc :=
        [SB.eq (SI.sel (SL.app 6 (SA.l (SL.v 0) (SA.i (SI.v 1000) SA.nil))) (SI.c (Int.ofNat 0)) 3)
            (SI.c (Int.ofNat 1)),
          SB.eq (SI.len (SL.app 6 (SA.l (SL.v 0) (SA.i (SI.v 1000) SA.nil)))) (SI.c (Int.ofNat 1)),
          SB.eq
            (SI.len (SL.app 6 (SA.l (SL.app 11 (SA.l (SL.v 0) (SA.i (SI.v 1000) SA.nil))) (SA.i (SI.v 1000) SA.nil))))
            (SI.c (Int.ofNat 1)),
          SB.lt (SI.c (Int.ofNat 0)) (SI.len (SL.app 12 (SA.l (SL.v 0) SA.nil)))],
      eqs :=
        [Eqn.T
            (SB.lt
              (SI.add (SI.len (SL.app 12 (SA.l (SL.app 11 (SA.l (SL.v 0) (SA.i (SI.v 1000) SA.nil))) SA.nil)))
                (SI.c (Int.ofNat 1)))
              (SI.add (SI.len (SL.app 12 (SA.l (SL.v 0) SA.nil))) (SI.c (Int.ofNat 1))))] },
    {
      pc :=
        [SB.eq (SI.sel (SL.app 6 (SA.l (SL.v 0) (SA.i (SI.v 1000) SA.nil))) (SI.c (Int.ofNat 0)) 3)
            (SI.c (Int.ofNat 1)),
          SB.eq (SI.len (SL.app 6 (SA.l (SL.v 0) (SA.i (SI.v 1000) SA.nil)))) (SI.c (Int.ofNat 1)),
          SB.eq
            (SI.len (SL.app 6 (SA.l (SL.app 11 (SA.l (SL.v 0) (SA.i (SI.v 1000) SA.nil))) (SA.i (SI.v 1000) SA.nil))))
            (SI.c (Int.ofNat 1)),
          SB.lt (SI.c (Int.ofNat 0)) (SI.len (SL.app 12 (SA.l (SL.v 0) SA.nil)))],
      eqs :=
        [Eqn.I (SI.app 111 (SA.l (SL.v 0) (SA.i (SI.v 0) SA.nil)))
            (SI.app 111
              (SA.l (SL.app 11 (SA.l (SL.v 0) (SA.i (SI.v 1000) SA.nil)))
                (SA.i
                  (SI.app 0
                    (SA.i (SI.v 0)
                      (SA.i
                        (SI.sel
                          (SL.app 6
                            (SA.l (SL.app 11 (SA.l (SL.v 0) (SA.i (SI.v 1000) SA.nil))) (SA.i (SI.v 1000) SA.nil)))
                          (SI.c (Int.ofNat 0)) 1)
                        SA.nil)))
                  SA.nil))),
          Eqn.L (SL.app 116 (SA.l (SL.v 0) SA.nil))
            (SL.app 116 (SA.l (SL.app 11 (SA.l (SL.v 0) (SA.i (SI.v 1000) SA.nil))) SA.nil))] }] := by kernel_rfl
theorem nx0_ok : nx0.ok Φ Try.prog := by
  refine ⟨by kernel_rfl, loop_rule (fun ρ => noTbl_ok) (loopAt_sub (by kernel_rfl)) nx0_obs ?_⟩
  simp only [and_imp, List.forall_mem_cons, List.not_mem_nil, false_implies, implies_true, and_true, Ob.ok, holds, Eqn.ok, evB_eq, evB_lt, evB_le, evB_not, evB_and, evB_or, evB_eqL, evB_app, evB_v, evB_c, ev_sel, ev_len, ev_v, ev_c, ev_add, ev_sub, ev_mul, ev_quo, ev_rem, ev_bits, ev_wrap, evL_v, evL_lit, evL_app, ev_app, evA_l, evA_i, evA_nil, std_min, std_max, std_cat, std_take, std_drop, std_row, std_set, std_rep, std_find, std_put, std_del, std_flag, std_unflag, std_clr, std_left, std_copy, ints_cons, ints_nil, ofNat_lit, negSucc_lit, decide_eq_true_eq, Bool.and_eq_true, Bool.or_eq_true, Bool.not_eq_true', Bool.and_eq_false_iff, Bool.or_eq_false_iff, decide_eq_false_iff_not, aI110, aI111, aI112, aI113, aI114, aI115, aI120, aI121, aI122, aL110, aL116, aL120, aL122, aL123, aL124, aL125, aB130, aB132, aB140, aB141, aB142, aL126, aL127, aL128, aB199]
  repeat' apply And.intro
  all_goals intro ρ hR
  all_goals intros
  all_goals first
    | (obtain ⟨h0, hz⟩ := rem_none (M := ρ.l 0) (hR.row 3 rfl rfl) (by with_reducible assumption)
       exact ⟨by unfold leastR; rw [h0]; rfl, clrAll_id hz⟩)
    | (obtain ⟨A, a, e, B, hM, hA, hB, hc, hf⟩ := at_key (M := ρ.l 0) (x := ρ.i 1000) (hR.keys 3 rfl rfl) (hR.row 3 rfl rfl) (by with_reducible assumption) (by with_reducible assumption)
       have l1 := rem_1 (A := A) (B := B) (x := ρ.i 1000) (a := a) (e := e)
       have l0 := rem_0 (A := A) (B := B) (x := ρ.i 1000) (a := a) (e := e)
       have n1 : (remT (ρ.l 0)).length = (remT A).length + (remT B).length + 1 := by rw [hM, l1]; simp; omega
       have n0 : (remT (clrT (ρ.l 0) (ρ.i 1000))).length = (remT A).length + (remT B).length := by rw [hc, l0]; simp
       omega)
    | (obtain ⟨A, a, e, B, hM, hA, hB, hc, hf⟩ := at_key (M := ρ.l 0) (x := ρ.i 1000) (hR.keys 3 rfl rfl) (hR.row 3 rfl rfl) (by with_reducible assumption) (by with_reducible assumption)
       have l1 := rem_1 (A := A) (B := B) (x := ρ.i 1000) (a := a) (e := e)
       have l0 := rem_0 (A := A) (B := B) (x := ρ.i 1000) (a := a) (e := e)
       have n1 : (remT (ρ.l 0)).length = (remT A).length + (remT B).length + 1 := by rw [hM, l1]; simp; omega
       have n0 : (remT (clrT (ρ.l 0) (ρ.i 1000))).length = (remT A).length + (remT B).length := by rw [hc, l0]; simp
       rw [hf, hc, hM]
       exact ⟨least_mid, clrAll_mid _ _ _ _ _ _ _⟩)
theorem t1_ok (ρ : Env) : TblOK Φ ρ Try.prog t1 := addLp_ok noTbl_ok nx0_ok
set_option maxRecDepth 100000 in
theorem cNext_obs : callObs Φ Try.prog t1 1000 cNext.f cNext.vs cNext.o cNext.pc cNext.outs = some
  [{
      pc :=
        [SB.not (SB.eq (SI.len (SL.v 0)) (SI.c (Int.ofNat 0))), SB.le (SI.c (Int.ofNat 1)) (SI.v 8),
          SB.le (SI.v 8) (SI.c (Int.ofNat 10000))],
      eqs :=
        [Eqn.I (SI.app 112 (SA.l (SL.v 0) SA.nil))
            (SI.app 111 (SA.l (SL.app 9 (SA.l (SL.v 0) SA.nil)) (SA.i (SI.c (Int.ofNat 1099511627776)) SA.nil))),
          Eqn.L (SL.v 0) (SL.app 10 (SA.l (SL.app 116 (SA.l (SL.app 9 (SA.l (SL.v 0) SA.nil)) SA.nil)) SA.nil))] }] := by kernel_rfl
theorem cNext_ok : cNext.ok Φ Try.prog := by
  refine call_rule (fun ρ => t1_ok ρ) cNext_obs ?_
  simp only [and_imp, List.forall_mem_cons, List.not_mem_nil, false_implies, implies_true, and_true, Ob.ok, holds, Eqn.ok, evB_eq, evB_lt, evB_le, evB_not, evB_and, evB_or, evB_eqL, evB_app, evB_v, evB_c, ev_sel, ev_len, ev_v, ev_c, ev_add, ev_sub, ev_mul, ev_quo, ev_rem, ev_bits, ev_wrap, evL_v, evL_lit, evL_app, ev_app, evA_l, evA_i, evA_nil, std_min, std_max, std_cat, std_take, std_drop, std_row, std_set, std_rep, std_find, std_put, std_del, std_flag, std_unflag, std_clr, std_left, std_copy, ints_cons, ints_nil, ofNat_lit, negSucc_lit, decide_eq_true_eq, Bool.and_eq_true, Bool.or_eq_true, Bool.not_eq_true', Bool.and_eq_false_iff, Bool.or_eq_false_iff, decide_eq_false_iff_not, aI110, aI111, aI112, aI113, aI114, aI115, aI120, aI121, aI122, aL110, aL116, aL120, aL122, aL123, aL124, aL125, aB130, aB132, aB140, aB141, aB142, aL126, aL127, aL128, aB199]
  repeat' apply And.intro
  all_goals intro ρ hR
  all_goals intros
  all_goals first
    | (exact ⟨(least_flag (A := ρ.l 0) (hR.row 1 rfl rfl) _).symm, (unflag_clr _).symm⟩)
set_option maxRecDepth 100000 in
theorem cAhead_obs : callObs Φ Try.prog noTbl 1000 cAhead.f cAhead.vs cAhead.o cAhead.pc cAhead.outs = some
  [{ pc := [SB.lt (SI.v 1) (SI.v 4)],
      eqs := [Eqn.B (SB.app 130 (SA.i (SI.v 0) (SA.i (SI.v 1) (SA.i (SI.v 3) (SA.i (SI.v 4) SA.nil))))) (SB.c true)] },
    { pc := [SB.eq (SI.v 1) (SI.v 4), SB.not (SB.lt (SI.v 1) (SI.v 4))],
      eqs :=
        [Eqn.B (SB.app 130 (SA.i (SI.v 0) (SA.i (SI.v 1) (SA.i (SI.v 3) (SA.i (SI.v 4) SA.nil)))))
            (SB.lt (SI.v 0) (SI.v 3))] },
    { pc := [SB.not (SB.eq (SI.v 1) (SI.v 4)), SB.not (SB.lt (SI.v 1) (SI.v 4))],
      eqs := [Eqn.B (SB.app 130 (SA.i (SI.v 0) (SA.i (SI.v 1) (SA.i (SI.v 3) (SA.i (SI.v 4) SA.nil))))) (SB.c false)] }] := by kernel_rfl
theorem cAhead_ok : cAhead.ok Φ Try.prog := by
  refine call_rule (fun ρ => noTbl_ok) cAhead_obs ?_
  simp only [and_imp, List.forall_mem_cons, List.not_mem_nil, false_implies, implies_true, and_true, Ob.ok, holds, Eqn.ok, evB_eq, evB_lt, evB_le, evB_not, evB_and, evB_or, evB_eqL, evB_app, evB_v, evB_c, ev_sel, ev_len, ev_v, ev_c, ev_add, ev_sub, ev_mul, ev_quo, ev_rem, ev_bits, ev_wrap, evL_v, evL_lit, evL_app, ev_app, evA_l, evA_i, evA_nil, std_min, std_max, std_cat, std_take, std_drop, std_row, std_set, std_rep, std_find, std_put, std_del, std_flag, std_unflag, std_clr, std_left, std_copy, ints_cons, ints_nil, ofNat_lit, negSucc_lit, decide_eq_true_eq, Bool.and_eq_true, Bool.or_eq_true, Bool.not_eq_true', Bool.and_eq_false_iff, Bool.or_eq_false_iff, decide_eq_false_iff_not, aI110, aI111, aI112, aI113, aI114, aI115, aI120, aI121, aI122, aL110, aL116, aL120, aL122, aL123, aL124, aL125, aB130, aB132, aB140, aB141, aB142, aL126, aL127, aL128, aB199]
  repeat' apply And.intro
  all_goals intro ρ hR
  all_goals intros
  all_goals first
    | (rw [Bool.eq_iff_iff]
       simp only [aheadB, Bool.or_eq_true, Bool.and_eq_true, decide_eq_true_eq]
       omega)
    | (rw [Bool.eq_false_iff]
       simp only [aheadB, ne_eq, Bool.or_eq_true, Bool.and_eq_true, decide_eq_true_eq]
       omega)
    | (simp only [aheadB, Bool.or_eq_true, Bool.and_eq_true, decide_eq_true_eq]
       omega)
theorem t2_ok (ρ : Env) : TblOK Φ ρ Try.prog t2 := addFn_ok (addFn_ok (t1_ok ρ) cNext_ok) cAhead_ok
set_option maxRecDepth 100000 in
theorem in0_obs : loopObs Φ Try.prog t2 1000 in0.f (loopAt Try.prog in0.f in0.id) in0.n in0.T i3 in0.outs = some
  [{
      pc :=
        [SB.app 130
            (SA.i (SI.sel (SL.v 2) (SI.v 3) 0)
              (SA.i (SI.sel (SL.v 2) (SI.v 3) 1) (SA.i (SI.v 0) (SA.i (SI.v 1) SA.nil)))),
          SB.lt (SI.v 3) (SI.len (SL.v 2)), SB.lt (SI.len (SL.v 2)) (SI.c (Int.ofNat 90000)),
          SB.le (SI.c (Int.ofNat 0)) (SI.v 3), SB.le (SI.v 3) (SI.len (SL.v 2))],
      eqs :=
        [Eqn.T
            (SB.lt (SI.sub (SI.len (SL.v 2)) (SI.add (SI.v 3) (SI.c (Int.ofNat 1))))
              (SI.sub (SI.len (SL.v 2)) (SI.v 3))),
          Eqn.T (SB.lt (SI.c (Int.ofNat 0)) (SI.sub (SI.len (SL.v 2)) (SI.v 3)))] },
    {
      pc :=
        [SB.le
            (SI.app 120
              (SA.l (SL.v 2) (SA.i (SI.v 0) (SA.i (SI.v 1) (SA.i (SI.add (SI.v 3) (SI.c (Int.ofNat 1))) SA.nil)))))
            (SI.len (SL.v 2)),
          SB.le (SI.c (Int.ofNat 0))
            (SI.app 120
              (SA.l (SL.v 2) (SA.i (SI.v 0) (SA.i (SI.v 1) (SA.i (SI.add (SI.v 3) (SI.c (Int.ofNat 1))) SA.nil))))),
          SB.app 130
            (SA.i (SI.sel (SL.v 2) (SI.v 3) 0)
              (SA.i (SI.sel (SL.v 2) (SI.v 3) 1) (SA.i (SI.v 0) (SA.i (SI.v 1) SA.nil)))),
          SB.lt (SI.v 3) (SI.len (SL.v 2)), SB.lt (SI.len (SL.v 2)) (SI.c (Int.ofNat 90000)),
          SB.le (SI.c (Int.ofNat 0)) (SI.v 3), SB.le (SI.v 3) (SI.len (SL.v 2))],
      eqs :=
        [Eqn.T
            (SB.le (SI.c (Int.ofNat 0))
              (SI.app 120 (SA.l (SL.v 2) (SA.i (SI.v 0) (SA.i (SI.v 1) (SA.i (SI.v 3) SA.nil)))))),
          Eqn.T
            (SB.le (SI.app 120 (SA.l (SL.v 2) (SA.i (SI.v 0) (SA.i (SI.v 1) (SA.i (SI.v 3) SA.nil)))))
              (SI.len (SL.v 2))),
          Eqn.I (SI.app 120 (SA.l (SL.v 2) (SA.i (SI.v 0) (SA.i (SI.v 1) (SA.i (SI.v 3) SA.nil)))))
            (SI.app 120
              (SA.l (SL.v 2) (SA.i (SI.v 0) (SA.i (SI.v 1) (SA.i (SI.add (SI.v 3) (SI.c (Int.ofNat 1))) SA.nil)))))] },
    {
      pc :=
        [SB.not
            (SB.app 130
              (SA.i (SI.sel (SL.v 2) (SI.v 3) 0)
                (SA.i (SI.sel (SL.v 2) (SI.v 3) 1) (SA.i (SI.v 0) (SA.i (SI.v 1) SA.nil))))),
          SB.lt (SI.v 3) (SI.len (SL.v 2)), SB.lt (SI.len (SL.v 2)) (SI.c (Int.ofNat 90000)),
          SB.le (SI.c (Int.ofNat 0)) (SI.v 3), SB.le (SI.v 3) (SI.len (SL.v 2))],
      eqs :=
        [Eqn.T
            (SB.le (SI.c (Int.ofNat 0))
              (SI.app 120 (SA.l (SL.v 2) (SA.i (SI.v 0) (SA.i (SI.v 1) (SA.i (SI.v 3) SA.nil)))))),
          Eqn.T
            (SB.le (SI.app 120 (SA.l (SL.v 2) (SA.i (SI.v 0) (SA.i (SI.v 1) (SA.i (SI.v 3) SA.nil)))))
              (SI.len (SL.v 2))),
          Eqn.I (SI.app 120 (SA.l (SL.v 2) (SA.i (SI.v 0) (SA.i (SI.v 1) (SA.i (SI.v 3) SA.nil))))) (SI.v 3)] },
    {
      pc :=
        [SB.not (SB.lt (SI.v 3) (SI.len (SL.v 2))), SB.lt (SI.len (SL.v 2)) (SI.c (Int.ofNat 90000)),
          SB.le (SI.c (Int.ofNat 0)) (SI.v 3), SB.le (SI.v 3) (SI.len (SL.v 2))],
      eqs :=
        [Eqn.T
            (SB.le (SI.c (Int.ofNat 0))
              (SI.app 120 (SA.l (SL.v 2) (SA.i (SI.v 0) (SA.i (SI.v 1) (SA.i (SI.v 3) SA.nil)))))),
          Eqn.T
            (SB.le (SI.app 120 (SA.l (SL.v 2) (SA.i (SI.v 0) (SA.i (SI.v 1) (SA.i (SI.v 3) SA.nil)))))
              (SI.len (SL.v 2))),
          Eqn.I (SI.app 120 (SA.l (SL.v 2) (SA.i (SI.v 0) (SA.i (SI.v 1) (SA.i (SI.v 3) SA.nil))))) (SI.v 3)] }] := by kernel_rfl
theorem in0_ok : in0.ok Φ Try.prog := by
  refine ⟨by kernel_rfl, loop_rule (fun ρ => t2_ok ρ) (loopAt_sub (by kernel_rfl)) in0_obs ?_⟩
  simp only [and_imp, List.forall_mem_cons, List.not_mem_nil, false_implies, implies_true, and_true, Ob.ok, holds, Eqn.ok, evB_eq, evB_lt, evB_le, evB_not, evB_and, evB_or, evB_eqL, evB_app, evB_v, evB_c, ev_sel, ev_len, ev_v, ev_c, ev_add, ev_sub, ev_mul, ev_quo, ev_rem, ev_bits, ev_wrap, evL_v, evL_lit, evL_app, ev_app, evA_l, evA_i, evA_nil, std_min, std_max, std_cat, std_take, std_drop, std_row, std_set, std_rep, std_find, std_put, std_del, std_flag, std_unflag, std_clr, std_left, std_copy, ints_cons, ints_nil, ofNat_lit, negSucc_lit, decide_eq_true_eq, Bool.and_eq_true, Bool.or_eq_true, Bool.not_eq_true', Bool.and_eq_false_iff, Bool.or_eq_false_iff, decide_eq_false_iff_not, aI110, aI111, aI112, aI113, aI114, aI115, aI120, aI121, aI122, aL110, aL116, aL120, aL122, aL123, aL124, aL125, aB130, aB132, aB140, aB141, aB142, aL126, aL127, aL128, aB199]
  repeat' apply And.intro
  all_goals intro ρ hR
  all_goals intros
  all_goals first
    | (omega)
    | (have e := rank_step (L := ρ.l 2) (id := ρ.i 0) (a := ρ.i 1) (i := ρ.i 3) (by omega) (by omega) (by with_reducible assumption)
       rw [e]
       exact ⟨by omega, by omega, rfl⟩)
    | (have e := rank_stop (L := ρ.l 2) (id := ρ.i 0) (a := ρ.i 1) (i := ρ.i 3) (by omega) (by first | exact .inl (by omega) | exact .inr (by with_reducible assumption))
       rw [e]
       exact ⟨by omega, by omega, rfl⟩)
theorem t3_ok (ρ : Env) : TblOK Φ ρ Try.prog t3 := addLp_ok (t2_ok ρ) in0_ok
set_option maxRecDepth 100000 in
theorem cIns_obs : callObs Φ Try.prog t3 1000 cIns.f cIns.vs cIns.o cIns.pc cIns.outs = some
  [{
      pc :=
        [SB.le (SI.app 120 (SA.l (SL.v 2) (SA.i (SI.v 0) (SA.i (SI.v 1) (SA.i (SI.c (Int.ofNat 0)) SA.nil)))))
            (SI.len (SL.v 2)),
          SB.le (SI.c (Int.ofNat 0))
            (SI.app 120 (SA.l (SL.v 2) (SA.i (SI.v 0) (SA.i (SI.v 1) (SA.i (SI.c (Int.ofNat 0)) SA.nil))))),
          SB.lt (SI.len (SL.v 2)) (SI.c (Int.ofNat 90000))],
      eqs :=
        [Eqn.T
            (SB.eq (SI.len (SL.app 120 (SA.l (SL.v 2) (SA.i (SI.v 0) (SA.i (SI.v 1) (SA.i (SI.v 2) SA.nil))))))
              (SI.add (SI.len (SL.v 2)) (SI.c (Int.ofNat 1)))),
          Eqn.I (SI.len (SL.app 120 (SA.l (SL.v 2) (SA.i (SI.v 0) (SA.i (SI.v 1) (SA.i (SI.v 2) SA.nil))))))
            (SI.add (SI.len (SL.v 2)) (SI.c (Int.ofNat 1))),
          Eqn.L (SL.app 120 (SA.l (SL.v 2) (SA.i (SI.v 0) (SA.i (SI.v 1) (SA.i (SI.v 2) SA.nil)))))
            (SL.app 4
              (SA.l
                (SL.app 4
                  (SA.l
                    (SL.app 4
                      (SA.l
                        (SL.app 13
                          (SA.l
                            (SL.app 0
                              (SA.l (SL.v 2)
                                (SA.l (SL.app 3 (SA.i (SI.v 0) (SA.i (SI.v 1) (SA.i (SI.v 2) SA.nil)))) SA.nil)))
                            (SA.i
                              (SI.add
                                (SI.app 120
                                  (SA.l (SL.v 2) (SA.i (SI.v 0) (SA.i (SI.v 1) (SA.i (SI.c (Int.ofNat 0)) SA.nil)))))
                                (SI.c (Int.ofNat 1)))
                              (SA.l
                                (SL.app 1
                                  (SA.l
                                    (SL.app 2
                                      (SA.l
                                        (SL.app 0
                                          (SA.l (SL.v 2)
                                            (SA.l (SL.app 3 (SA.i (SI.v 0) (SA.i (SI.v 1) (SA.i (SI.v 2) SA.nil))))
                                              SA.nil)))
                                        (SA.i
                                          (SI.app 120
                                            (SA.l (SL.v 2)
                                              (SA.i (SI.v 0) (SA.i (SI.v 1) (SA.i (SI.c (Int.ofNat 0)) SA.nil)))))
                                          SA.nil)))
                                    (SA.i
                                      (SI.sub (SI.add (SI.len (SL.v 2)) (SI.c (Int.ofNat 1)))
                                        (SI.add
                                          (SI.app 120
                                            (SA.l (SL.v 2)
                                              (SA.i (SI.v 0) (SA.i (SI.v 1) (SA.i (SI.c (Int.ofNat 0)) SA.nil)))))
                                          (SI.c (Int.ofNat 1))))
                                      SA.nil)))
                                SA.nil))))
                        (SA.i
                          (SI.app 120
                            (SA.l (SL.v 2) (SA.i (SI.v 0) (SA.i (SI.v 1) (SA.i (SI.c (Int.ofNat 0)) SA.nil)))))
                          (SA.i (SI.c (Int.ofNat 0)) (SA.i (SI.v 0) SA.nil)))))
                    (SA.i
                      (SI.app 120 (SA.l (SL.v 2) (SA.i (SI.v 0) (SA.i (SI.v 1) (SA.i (SI.c (Int.ofNat 0)) SA.nil)))))
                      (SA.i (SI.c (Int.ofNat 1)) (SA.i (SI.v 1) SA.nil)))))
                (SA.i (SI.app 120 (SA.l (SL.v 2) (SA.i (SI.v 0) (SA.i (SI.v 1) (SA.i (SI.c (Int.ofNat 0)) SA.nil)))))
                  (SA.i (SI.c (Int.ofNat 2)) (SA.i (SI.v 2) SA.nil)))))] }] := by kernel_rfl
theorem cIns_ok : cIns.ok Φ Try.prog := by
  refine call_rule (fun ρ => t3_ok ρ) cIns_obs ?_
  simp only [and_imp, List.forall_mem_cons, List.not_mem_nil, false_implies, implies_true, and_true, Ob.ok, holds, Eqn.ok, evB_eq, evB_lt, evB_le, evB_not, evB_and, evB_or, evB_eqL, evB_app, evB_v, evB_c, ev_sel, ev_len, ev_v, ev_c, ev_add, ev_sub, ev_mul, ev_quo, ev_rem, ev_bits, ev_wrap, evL_v, evL_lit, evL_app, ev_app, evA_l, evA_i, evA_nil, std_min, std_max, std_cat, std_take, std_drop, std_row, std_set, std_rep, std_find, std_put, std_del, std_flag, std_unflag, std_clr, std_left, std_copy, ints_cons, ints_nil, ofNat_lit, negSucc_lit, decide_eq_true_eq, Bool.and_eq_true, Bool.or_eq_true, Bool.not_eq_true', Bool.and_eq_false_iff, Bool.or_eq_false_iff, decide_eq_false_iff_not, aI110, aI111, aI112, aI113, aI114, aI115, aI120, aI121, aI122, aL110, aL116, aL120, aL122, aL123, aL124, aL125, aB130, aB132, aB140, aB141, aB142, aL126, aL127, aL128, aB199]
  repeat' apply And.intro
  all_goals intro ρ hR
  all_goals intros
  all_goals first
    | (have hl := insF_len (ρ.i 0) (ρ.i 1) (ρ.i 2) (ρ.l 2)
       refine ⟨by omega, by omega, ?_⟩
       rw [insF_eq]
       exact (ins_copy (L := ρ.l 2) (hR.row 0 rfl rfl) (by omega) (by omega)).symm)
set_option maxRecDepth 100000 in
theorem cFire_obs : callObs Φ Try.prog noTbl 1000 cFire.f cFire.vs cFire.o cFire.pc cFire.outs = some
  [{ pc := [SB.not (SB.eq (SI.v 1) (SI.c (Int.ofNat 0)))],
      eqs :=
        [Eqn.I (SI.app 121 (SA.i (SI.v 0) (SA.i (SI.v 1) (SA.i (SI.v 9) SA.nil))))
            (SI.wrap IntKind.i64
              (SI.add (SI.wrap IntKind.i64 (SI.quo (SI.wrap IntKind.i64 (SI.sub (SI.v 9) (SI.v 0))) (SI.v 1)))
                (SI.c (Int.ofNat 1)))),
          Eqn.I (SI.app 122 (SA.i (SI.v 0) (SA.i (SI.v 1) (SA.i (SI.v 9) SA.nil))))
            (SI.wrap IntKind.i64
              (SI.add (SI.v 0)
                (SI.wrap IntKind.i64
                  (SI.mul
                    (SI.wrap IntKind.i64
                      (SI.add (SI.wrap IntKind.i64 (SI.quo (SI.wrap IntKind.i64 (SI.sub (SI.v 9) (SI.v 0))) (SI.v 1)))
                        (SI.c (Int.ofNat 1))))
                    (SI.v 1)))))] }] := by kernel_rfl
theorem cFire_ok : cFire.ok Φ Try.prog := by
  refine call_rule (fun ρ => noTbl_ok) cFire_obs ?_
  simp only [and_imp, List.forall_mem_cons, List.not_mem_nil, false_implies, implies_true, and_true, Ob.ok, holds, Eqn.ok, evB_eq, evB_lt, evB_le, evB_not, evB_and, evB_or, evB_eqL, evB_app, evB_v, evB_c, ev_sel, ev_len, ev_v, ev_c, ev_add, ev_sub, ev_mul, ev_quo, ev_rem, ev_bits, ev_wrap, evL_v, evL_lit, evL_app, ev_app, evA_l, evA_i, evA_nil, std_min, std_max, std_cat, std_take, std_drop, std_row, std_set, std_rep, std_find, std_put, std_del, std_flag, std_unflag, std_clr, std_left, std_copy, ints_cons, ints_nil, ofNat_lit, negSucc_lit, decide_eq_true_eq, Bool.and_eq_true, Bool.or_eq_true, Bool.not_eq_true', Bool.and_eq_false_iff, Bool.or_eq_false_iff, decide_eq_false_iff_not, aI110, aI111, aI112, aI113, aI114, aI115, aI120, aI121, aI122, aL110, aL116, aL120, aL122, aL123, aL124, aL125, aB130, aB132, aB140, aB141, aB142, aL126, aL127, aL128, aB199]
  repeat' apply And.intro
  all_goals intro ρ hR
  all_goals intros
  all_goals first
    | (exact ⟨rfl, rfl⟩)
theorem t4_ok (ρ : Env) : TblOK Φ ρ Try.prog t4 := addFn_ok (addFn_ok (t3_ok ρ) cIns_ok) cFire_ok
set_option maxRecDepth 100000 in
theorem ti0_obs : loopObs Φ Try.prog t4 1000 ti0.f (loopAt Try.prog ti0.f ti0.id) ti0.n ti0.T left ti0.outs = some
  [{
      pc :=
        [SB.not (SB.lt (SI.c (Int.ofNat 0)) (SI.len (SL.app 12 (SA.l (SL.v 0) SA.nil)))),
          SB.lt (SI.len (SL.v 2)) (SI.c (Int.ofNat 80000)), SB.c true,
          SB.lt (SI.add (SI.len (SL.v 2)) (SI.len (SL.app 12 (SA.l (SL.v 0) SA.nil)))) (SI.c (Int.ofNat 80000))],
      eqs :=
        [Eqn.T
            (SB.lt (SI.len (SL.app 122 (SA.l (SL.v 2) (SA.l (SL.v 0) (SA.i (SI.v 0) SA.nil)))))
              (SI.c (Int.ofNat 80000))),
          Eqn.I (SI.len (SL.app 122 (SA.l (SL.v 2) (SA.l (SL.v 0) (SA.i (SI.v 0) SA.nil))))) (SI.len (SL.v 2)),
          Eqn.L (SL.app 123 (SA.l (SL.v 0) (SA.i (SI.v 0) SA.nil))) (SL.v 0),
          Eqn.L (SL.app 122 (SA.l (SL.v 2) (SA.l (SL.v 0) (SA.i (SI.v 0) SA.nil)))) (SL.v 2)] },
    {
      pc :=
        [SB.lt (SI.v 0)
            (SI.sel (SL.app 6 (SA.l (SL.app 11 (SA.l (SL.v 0) (SA.i (SI.v 1000) SA.nil))) (SA.i (SI.v 1000) SA.nil)))
              (SI.c (Int.ofNat 0)) 1),
          SB.eq (SI.sel (SL.app 6 (SA.l (SL.v 0) (SA.i (SI.v 1000) SA.nil))) (SI.c (Int.ofNat 0)) 3)
            (SI.c (Int.ofNat 1)),
          SB.eq (SI.len (SL.app 6 (SA.l (SL.v 0) (SA.i (SI.v 1000) SA.nil)))) (SI.c (Int.ofNat 1)),
          SB.eq
            (SI.len (SL.app 6 (SA.l (SL.app 11 (SA.l (SL.v 0) (SA.i (SI.v 1000) SA.nil))) (SA.i (SI.v 1000) SA.nil))))
            (SI.c (Int.ofNat 1)),
          SB.lt (SI.c (Int.ofNat 0)) (SI.len (SL.app 12 (SA.l (SL.v 0) SA.nil))),
          SB.lt (SI.len (SL.v 2)) (SI.c (Int.ofNat 80000)), SB.c true,
          SB.lt (SI.add (SI.len (SL.v 2)) (SI.len (SL.app 12 (SA.l (SL.v 0) SA.nil)))) (SI.c (Int.ofNat 80000))],
      eqs :=
        [Eqn.T
            (SB.lt
              (SI.add (SI.len (SL.app 12 (SA.l (SL.app 11 (SA.l (SL.v 0) (SA.i (SI.v 1000) SA.nil))) SA.nil)))
                (SI.c (Int.ofNat 1)))
              (SI.add (SI.len (SL.app 12 (SA.l (SL.v 0) SA.nil))) (SI.c (Int.ofNat 1)))),
          Eqn.T
            (SB.lt
              (SI.add (SI.len (SL.v 2))
                (SI.len (SL.app 12 (SA.l (SL.app 11 (SA.l (SL.v 0) (SA.i (SI.v 1000) SA.nil))) SA.nil))))
              (SI.c (Int.ofNat 80000)))] },
    {
      pc :=
        [SB.lt
            (SI.len
              (SL.app 122
                (SA.l (SL.v 2) (SA.l (SL.app 11 (SA.l (SL.v 0) (SA.i (SI.v 1000) SA.nil))) (SA.i (SI.v 0) SA.nil)))))
            (SI.c (Int.ofNat 80000)),
          SB.lt (SI.v 0)
            (SI.sel (SL.app 6 (SA.l (SL.app 11 (SA.l (SL.v 0) (SA.i (SI.v 1000) SA.nil))) (SA.i (SI.v 1000) SA.nil)))
              (SI.c (Int.ofNat 0)) 1),
          SB.eq (SI.sel (SL.app 6 (SA.l (SL.v 0) (SA.i (SI.v 1000) SA.nil))) (SI.c (Int.ofNat 0)) 3)
            (SI.c (Int.ofNat 1)),
          SB.eq (SI.len (SL.app 6 (SA.l (SL.v 0) (SA.i (SI.v 1000) SA.nil)))) (SI.c (Int.ofNat 1)),
          SB.eq
            (SI.len (SL.app 6 (SA.l (SL.app 11 (SA.l (SL.v 0) (SA.i (SI.v 1000) SA.nil))) (SA.i (SI.v 1000) SA.nil))))
            (SI.c (Int.ofNat 1)),
          SB.lt (SI.c (Int.ofNat 0)) (SI.len (SL.app 12 (SA.l (SL.v 0) SA.nil))),
          SB.lt (SI.len (SL.v 2)) (SI.c (Int.ofNat 80000)), SB.c true,
          SB.lt (SI.add (SI.len (SL.v 2)) (SI.len (SL.app 12 (SA.l (SL.v 0) SA.nil)))) (SI.c (Int.ofNat 80000))],
      eqs :=
        [Eqn.T
            (SB.lt (SI.len (SL.app 122 (SA.l (SL.v 2) (SA.l (SL.v 0) (SA.i (SI.v 0) SA.nil)))))
              (SI.c (Int.ofNat 80000))),
          Eqn.I (SI.len (SL.app 122 (SA.l (SL.v 2) (SA.l (SL.v 0) (SA.i (SI.v 0) SA.nil)))))
            (SI.len
              (SL.app 122
                (SA.l (SL.v 2) (SA.l (SL.app 11 (SA.l (SL.v 0) (SA.i (SI.v 1000) SA.nil))) (SA.i (SI.v 0) SA.nil))))),
          Eqn.L (SL.app 123 (SA.l (SL.v 0) (SA.i (SI.v 0) SA.nil)))
            (SL.app 123 (SA.l (SL.app 11 (SA.l (SL.v 0) (SA.i (SI.v 1000) SA.nil))) (SA.i (SI.v 0) SA.nil))),
          Eqn.L (SL.app 122 (SA.l (SL.v 2) (SA.l (SL.v 0) (SA.i (SI.v 0) SA.nil))))
            (SL.app 122
              (SA.l (SL.v 2) (SA.l (SL.app 11 (SA.l (SL.v 0) (SA.i (SI.v 1000) SA.nil))) (SA.i (SI.v 0) SA.nil))))] },
    {
      pc :=
        [SB.eq
            (SI.len
              (SL.app 120
                (SA.l (SL.v 2)
                  (SA.i (SI.v 1000)
                    (SA.i
                      (SI.sel
                        (SL.app 6
                          (SA.l (SL.app 11 (SA.l (SL.v 0) (SA.i (SI.v 1000) SA.nil))) (SA.i (SI.v 1000) SA.nil)))
                        (SI.c (Int.ofNat 0)) 1)
                      (SA.i (SI.c (Int.ofNat 1)) SA.nil))))))
            (SI.add (SI.len (SL.v 2)) (SI.c (Int.ofNat 1))),
          SB.eq
            (SI.sel (SL.app 6 (SA.l (SL.app 11 (SA.l (SL.v 0) (SA.i (SI.v 1000) SA.nil))) (SA.i (SI.v 1000) SA.nil)))
              (SI.c (Int.ofNat 0)) 2)
            (SI.c (Int.ofNat 0)),
          SB.not
            (SB.lt (SI.v 0)
              (SI.sel (SL.app 6 (SA.l (SL.app 11 (SA.l (SL.v 0) (SA.i (SI.v 1000) SA.nil))) (SA.i (SI.v 1000) SA.nil)))
                (SI.c (Int.ofNat 0)) 1)),
          SB.eq (SI.sel (SL.app 6 (SA.l (SL.v 0) (SA.i (SI.v 1000) SA.nil))) (SI.c (Int.ofNat 0)) 3)
            (SI.c (Int.ofNat 1)),
          SB.eq (SI.len (SL.app 6 (SA.l (SL.v 0) (SA.i (SI.v 1000) SA.nil)))) (SI.c (Int.ofNat 1)),
          SB.eq
            (SI.len (SL.app 6 (SA.l (SL.app 11 (SA.l (SL.v 0) (SA.i (SI.v 1000) SA.nil))) (SA.i (SI.v 1000) SA.nil))))
            (SI.c (Int.ofNat 1)),
          SB.lt (SI.c (Int.ofNat 0)) (SI.len (SL.app 12 (SA.l (SL.v 0) SA.nil))),
          SB.lt (SI.len (SL.v 2)) (SI.c (Int.ofNat 80000)), SB.c true,
          SB.lt (SI.add (SI.len (SL.v 2)) (SI.len (SL.app 12 (SA.l (SL.v 0) SA.nil)))) (SI.c (Int.ofNat 80000))],
      eqs :=
        [Eqn.T
            (SB.lt
              (SI.add
                (SI.len
                  (SL.app 12
                    (SA.l
                      (SL.app 8
                        (SA.l
                          (SL.app 7
                            (SA.l (SL.app 11 (SA.l (SL.v 0) (SA.i (SI.v 1000) SA.nil)))
                              (SA.i (SI.v 1000)
                                (SA.i (SI.c (Int.ofNat 0))
                                  (SA.i (SI.c (Int.ofNat 0))
                                    (SA.i
                                      (SI.sel
                                        (SL.app 6
                                          (SA.l (SL.app 11 (SA.l (SL.v 0) (SA.i (SI.v 1000) SA.nil)))
                                            (SA.i (SI.v 1000) SA.nil)))
                                        (SI.c (Int.ofNat 0)) 3)
                                      SA.nil))))))
                          (SA.i (SI.v 1000) SA.nil)))
                      SA.nil)))
                (SI.c (Int.ofNat 1)))
              (SI.add (SI.len (SL.app 12 (SA.l (SL.v 0) SA.nil))) (SI.c (Int.ofNat 1)))),
          Eqn.T
            (SB.lt
              (SI.len
                (SL.app 120
                  (SA.l (SL.v 2)
                    (SA.i (SI.v 1000)
                      (SA.i
                        (SI.sel
                          (SL.app 6
                            (SA.l (SL.app 11 (SA.l (SL.v 0) (SA.i (SI.v 1000) SA.nil))) (SA.i (SI.v 1000) SA.nil)))
                          (SI.c (Int.ofNat 0)) 1)
                        (SA.i (SI.c (Int.ofNat 1)) SA.nil))))))
              (SI.c (Int.ofNat 80000))),
          Eqn.T
            (SB.lt
              (SI.add
                (SI.len
                  (SL.app 120
                    (SA.l (SL.v 2)
                      (SA.i (SI.v 1000)
                        (SA.i
                          (SI.sel
                            (SL.app 6
                              (SA.l (SL.app 11 (SA.l (SL.v 0) (SA.i (SI.v 1000) SA.nil))) (SA.i (SI.v 1000) SA.nil)))
                            (SI.c (Int.ofNat 0)) 1)
                          (SA.i (SI.c (Int.ofNat 1)) SA.nil))))))
                (SI.len
                  (SL.app 12
                    (SA.l
                      (SL.app 8
                        (SA.l
                          (SL.app 7
                            (SA.l (SL.app 11 (SA.l (SL.v 0) (SA.i (SI.v 1000) SA.nil)))
                              (SA.i (SI.v 1000)
                                (SA.i (SI.c (Int.ofNat 0))
                                  (SA.i (SI.c (Int.ofNat 0))
                                    (SA.i
                                      (SI.sel
                                        (SL.app 6
                                          (SA.l (SL.app 11 (SA.l (SL.v 0) (SA.i (SI.v 1000) SA.nil)))
                                            (SA.i (SI.v 1000) SA.nil)))
                                        (SI.c (Int.ofNat 0)) 3)
                                      SA.nil))))))
                          (SA.i (SI.v 1000) SA.nil)))
                      SA.nil))))
              (SI.c (Int.ofNat 80000)))] },
    {
      pc :=
        [SB.lt
            (SI.len
              (SL.app 122
                (SA.l
                  (SL.app 120
                    (SA.l (SL.v 2)
                      (SA.i (SI.v 1000)
                        (SA.i
                          (SI.sel
                            (SL.app 6
                              (SA.l (SL.app 11 (SA.l (SL.v 0) (SA.i (SI.v 1000) SA.nil))) (SA.i (SI.v 1000) SA.nil)))
                            (SI.c (Int.ofNat 0)) 1)
                          (SA.i (SI.c (Int.ofNat 1)) SA.nil)))))
                  (SA.l
                    (SL.app 8
                      (SA.l
                        (SL.app 7
                          (SA.l (SL.app 11 (SA.l (SL.v 0) (SA.i (SI.v 1000) SA.nil)))
                            (SA.i (SI.v 1000)
                              (SA.i (SI.c (Int.ofNat 0))
                                (SA.i (SI.c (Int.ofNat 0))
                                  (SA.i
                                    (SI.sel
                                      (SL.app 6
                                        (SA.l (SL.app 11 (SA.l (SL.v 0) (SA.i (SI.v 1000) SA.nil)))
                                          (SA.i (SI.v 1000) SA.nil)))
                                      (SI.c (Int.ofNat 0)) 3)
                                    SA.nil))))))
                        (SA.i (SI.v 1000) SA.nil)))
                    (SA.i (SI.v 0) SA.nil)))))
            (SI.c (Int.ofNat 80000)),
          SB.eq
            (SI.len
              (SL.app 120
                (SA.l (SL.v 2)
                  (SA.i (SI.v 1000)
                    (SA.i
                      (SI.sel
                        (SL.app 6
                          (SA.l (SL.app 11 (SA.l (SL.v 0) (SA.i (SI.v 1000) SA.nil))) (SA.i (SI.v 1000) SA.nil)))
                        (SI.c (Int.ofNat 0)) 1)
                      (SA.i (SI.c (Int.ofNat 1)) SA.nil))))))
            (SI.add (SI.len (SL.v 2)) (SI.c (Int.ofNat 1))),
          SB.eq
            (SI.sel (SL.app 6 (SA.l (SL.app 11 (SA.l (SL.v 0) (SA.i (SI.v 1000) SA.nil))) (SA.i (SI.v 1000) SA.nil)))
              (SI.c (Int.ofNat 0)) 2)
            (SI.c (Int.ofNat 0)),
          SB.not
            (SB.lt (SI.v 0)
              (SI.sel (SL.app 6 (SA.l (SL.app 11 (SA.l (SL.v 0) (SA.i (SI.v 1000) SA.nil))) (SA.i (SI.v 1000) SA.nil)))
                (SI.c (Int.ofNat 0)) 1)),
          SB.eq (SI.sel (SL.app 6 (SA.l (SL.v 0) (SA.i (SI.v 1000) SA.nil))) (SI.c (Int.ofNat 0)) 3)
            (SI.c (Int.ofNat 1)),
          SB.eq (SI.len (SL.app 6 (SA.l (SL.v 0) (SA.i (SI.v 1000) SA.nil)))) (SI.c (Int.ofNat 1)),
          SB.eq
            (SI.len (SL.app 6 (SA.l (SL.app 11 (SA.l (SL.v 0) (SA.i (SI.v 1000) SA.nil))) (SA.i (SI.v 1000) SA.nil))))
            (SI.c (Int.ofNat 1)),
          SB.lt (SI.c (Int.ofNat 0)) (SI.len (SL.app 12 (SA.l (SL.v 0) SA.nil))),
          SB.lt (SI.len (SL.v 2)) (SI.c (Int.ofNat 80000)), SB.c true,
          SB.lt (SI.add (SI.len (SL.v 2)) (SI.len (SL.app 12 (SA.l (SL.v 0) SA.nil)))) (SI.c (Int.ofNat 80000))],
      eqs :=
        [Eqn.T
            (SB.lt (SI.len (SL.app 122 (SA.l (SL.v 2) (SA.l (SL.v 0) (SA.i (SI.v 0) SA.nil)))))
              (SI.c (Int.ofNat 80000))),
          Eqn.I (SI.len (SL.app 122 (SA.l (SL.v 2) (SA.l (SL.v 0) (SA.i (SI.v 0) SA.nil)))))
            (SI.len
              (SL.app 122
                (SA.l
                  (SL.app 120
                    (SA.l (SL.v 2)
                      (SA.i (SI.v 1000)
                        (SA.i
                          (SI.sel
                            (SL.app 6
                              (SA.l (SL.app 11 (SA.l (SL.v 0) (SA.i (SI.v 1000) SA.nil))) (SA.i (SI.v 1000) SA.nil)))
                            (SI.c (Int.ofNat 0)) 1)
                          (SA.i (SI.c (Int.ofNat 1)) SA.nil)))))
                  (SA.l
                    (SL.app 8
                      (SA.l
                        (SL.app 7
                          (SA.l (SL.app 11 (SA.l (SL.v 0) (SA.i (SI.v 1000) SA.nil)))
                            (SA.i (SI.v 1000)
                              (SA.i (SI.c (Int.ofNat 0))
                                (SA.i (SI.c (Int.ofNat 0))
                                  (SA.i
                                    (SI.sel
                                      (SL.app 6
                                        (SA.l (SL.app 11 (SA.l (SL.v 0) (SA.i (SI.v 1000) SA.nil)))
                                          (SA.i (SI.v 1000) SA.nil)))
                                      (SI.c (Int.ofNat 0)) 3)
                                    SA.nil))))))
                        (SA.i (SI.v 1000) SA.nil)))
                    (SA.i (SI.v 0) SA.nil))))),
          Eqn.L (SL.app 123 (SA.l (SL.v 0) (SA.i (SI.v 0) SA.nil)))
            (SL.app 123
              (SA.l
                (SL.app 8
                  (SA.l
                    (SL.app 7
                      (SA.l (SL.app 11 (SA.l (SL.v 0) (SA.i (SI.v 1000) SA.nil)))
                        (SA.i (SI.v 1000)
                          (SA.i (SI.c (Int.ofNat 0))
                            (SA.i (SI.c (Int.ofNat 0))
                              (SA.i
                                (SI.sel
                                  (SL.app 6
                                    (SA.l (SL.app 11 (SA.l (SL.v 0) (SA.i (SI.v 1000) SA.nil)))
                                      (SA.i (SI.v 1000) SA.nil)))
                                  (SI.c (Int.ofNat 0)) 3)
                                SA.nil))))))
                    (SA.i (SI.v 1000) SA.nil)))
                (SA.i (SI.v 0) SA.nil))),
          Eqn.L (SL.app 122 (SA.l (SL.v 2) (SA.l (SL.v 0) (SA.i (SI.v 0) SA.nil))))
            (SL.app 122
              (SA.l
                (SL.app 120
                  (SA.l (SL.v 2)
                    (SA.i (SI.v 1000)
                      (SA.i
                        (SI.sel
                          (SL.app 6
                            (SA.l (SL.app 11 (SA.l (SL.v 0) (SA.i (SI.v 1000) SA.nil))) (SA.i (SI.v 1000) SA.nil)))
                          (SI.c (Int.ofNat 0)) 1)
                        (SA.i (SI.c (Int.ofNat 1)) SA.nil)))))
                (SA.l
                  (SL.app 8
                    (SA.l
                      (SL.app 7
                        (SA.l (SL.app 11 (SA.l (SL.v 0) (SA.i (SI.v 1000) SA.nil)))
                          (SA.i (SI.v 1000)
                            (SA.i (SI.c (Int.ofNat 0))
                              (SA.i (SI.c (Int.ofNat 0))
                                (SA.i
                                  (SI.sel
                                    (SL.app 6
                                      (SA.l (SL.app 11 (SA.l (SL.v 0) (SA.i (SI.v 1000) SA.nil)))
                                        (SA.i (SI.v 1000) SA.nil)))
                                    (SI.c (Int.ofNat 0)) 3)
                                  SA.nil))))))
                      (SA.i (SI.v 1000) SA.nil)))
                  (SA.i (SI.v 0) SA.nil))))] },
    {
      pc :=
        [SB.eq
            (SI.len
              (SL.app 120
                (SA.l (SL.v 2)
                  (SA.i (SI.v 1000)
                    (SA.i
                      (SI.sel
                        (SL.app 6
                          (SA.l (SL.app 11 (SA.l (SL.v 0) (SA.i (SI.v 1000) SA.nil))) (SA.i (SI.v 1000) SA.nil)))
                        (SI.c (Int.ofNat 0)) 1)
                      (SA.i
                        (SI.app 121
                          (SA.i
                            (SI.sel
                              (SL.app 6
                                (SA.l (SL.app 11 (SA.l (SL.v 0) (SA.i (SI.v 1000) SA.nil))) (SA.i (SI.v 1000) SA.nil)))
                              (SI.c (Int.ofNat 0)) 1)
                            (SA.i
                              (SI.sel
                                (SL.app 6
                                  (SA.l (SL.app 11 (SA.l (SL.v 0) (SA.i (SI.v 1000) SA.nil)))
                                    (SA.i (SI.v 1000) SA.nil)))
                                (SI.c (Int.ofNat 0)) 2)
                              (SA.i (SI.v 0) SA.nil))))
                        SA.nil))))))
            (SI.add (SI.len (SL.v 2)) (SI.c (Int.ofNat 1))),
          SB.not
            (SB.eq
              (SI.sel (SL.app 6 (SA.l (SL.app 11 (SA.l (SL.v 0) (SA.i (SI.v 1000) SA.nil))) (SA.i (SI.v 1000) SA.nil)))
                (SI.c (Int.ofNat 0)) 2)
              (SI.c (Int.ofNat 0))),
          SB.not
            (SB.lt (SI.v 0)
              (SI.sel (SL.app 6 (SA.l (SL.app 11 (SA.l (SL.v 0) (SA.i (SI.v 1000) SA.nil))) (SA.i (SI.v 1000) SA.nil)))
                (SI.c (Int.ofNat 0)) 1)),
          SB.eq (SI.sel (SL.app 6 (SA.l (SL.v 0) (SA.i (SI.v 1000) SA.nil))) (SI.c (Int.ofNat 0)) 3)
            (SI.c (Int.ofNat 1)),
          SB.eq (SI.len (SL.app 6 (SA.l (SL.v 0) (SA.i (SI.v 1000) SA.nil)))) (SI.c (Int.ofNat 1)),
          SB.eq
            (SI.len (SL.app 6 (SA.l (SL.app 11 (SA.l (SL.v 0) (SA.i (SI.v 1000) SA.nil))) (SA.i (SI.v 1000) SA.nil))))
            (SI.c (Int.ofNat 1)),
          SB.lt (SI.c (Int.ofNat 0)) (SI.len (SL.app 12 (SA.l (SL.v 0) SA.nil))),
          SB.lt (SI.len (SL.v 2)) (SI.c (Int.ofNat 80000)), SB.c true,
          SB.lt (SI.add (SI.len (SL.v 2)) (SI.len (SL.app 12 (SA.l (SL.v 0) SA.nil)))) (SI.c (Int.ofNat 80000))],
      eqs :=
        [Eqn.T
            (SB.lt
              (SI.add
                (SI.len
                  (SL.app 12
                    (SA.l
                      (SL.app 7
                        (SA.l (SL.app 11 (SA.l (SL.v 0) (SA.i (SI.v 1000) SA.nil)))
                          (SA.i (SI.v 1000)
                            (SA.i
                              (SI.app 122
                                (SA.i
                                  (SI.sel
                                    (SL.app 6
                                      (SA.l (SL.app 11 (SA.l (SL.v 0) (SA.i (SI.v 1000) SA.nil)))
                                        (SA.i (SI.v 1000) SA.nil)))
                                    (SI.c (Int.ofNat 0)) 1)
                                  (SA.i
                                    (SI.sel
                                      (SL.app 6
                                        (SA.l (SL.app 11 (SA.l (SL.v 0) (SA.i (SI.v 1000) SA.nil)))
                                          (SA.i (SI.v 1000) SA.nil)))
                                      (SI.c (Int.ofNat 0)) 2)
                                    (SA.i (SI.v 0) SA.nil))))
                              (SA.i
                                (SI.sel
                                  (SL.app 6
                                    (SA.l (SL.app 11 (SA.l (SL.v 0) (SA.i (SI.v 1000) SA.nil)))
                                      (SA.i (SI.v 1000) SA.nil)))
                                  (SI.c (Int.ofNat 0)) 2)
                                (SA.i
                                  (SI.sel
                                    (SL.app 6
                                      (SA.l (SL.app 11 (SA.l (SL.v 0) (SA.i (SI.v 1000) SA.nil)))
                                        (SA.i (SI.v 1000) SA.nil)))
                                    (SI.c (Int.ofNat 0)) 3)
                                  SA.nil))))))
                      SA.nil)))
                (SI.c (Int.ofNat 1)))
              (SI.add (SI.len (SL.app 12 (SA.l (SL.v 0) SA.nil))) (SI.c (Int.ofNat 1)))),
          Eqn.T
            (SB.lt
              (SI.len
                (SL.app 120
                  (SA.l (SL.v 2)
                    (SA.i (SI.v 1000)
                      (SA.i
                        (SI.sel
                          (SL.app 6
                            (SA.l (SL.app 11 (SA.l (SL.v 0) (SA.i (SI.v 1000) SA.nil))) (SA.i (SI.v 1000) SA.nil)))
                          (SI.c (Int.ofNat 0)) 1)
                        (SA.i
                          (SI.app 121
                            (SA.i
                              (SI.sel
                                (SL.app 6
                                  (SA.l (SL.app 11 (SA.l (SL.v 0) (SA.i (SI.v 1000) SA.nil)))
                                    (SA.i (SI.v 1000) SA.nil)))
                                (SI.c (Int.ofNat 0)) 1)
                              (SA.i
                                (SI.sel
                                  (SL.app 6
                                    (SA.l (SL.app 11 (SA.l (SL.v 0) (SA.i (SI.v 1000) SA.nil)))
                                      (SA.i (SI.v 1000) SA.nil)))
                                  (SI.c (Int.ofNat 0)) 2)
                                (SA.i (SI.v 0) SA.nil))))
                          SA.nil))))))
              (SI.c (Int.ofNat 80000))),
          Eqn.T
            (SB.lt
              (SI.add
                (SI.len
                  (SL.app 120
                    (SA.l (SL.v 2)
                      (SA.i (SI.v 1000)
                        (SA.i
                          (SI.sel
                            (SL.app 6
                              (SA.l (SL.app 11 (SA.l (SL.v 0) (SA.i (SI.v 1000) SA.nil))) (SA.i (SI.v 1000) SA.nil)))
                            (SI.c (Int.ofNat 0)) 1)
                          (SA.i
                            (SI.app 121
                              (SA.i
                                (SI.sel
                                  (SL.app 6
                                    (SA.l (SL.app 11 (SA.l (SL.v 0) (SA.i (SI.v 1000) SA.nil)))
                                      (SA.i (SI.v 1000) SA.nil)))
                                  (SI.c (Int.ofNat 0)) 1)
                                (SA.i
                                  (SI.sel
                                    (SL.app 6
                                      (SA.l (SL.app 11 (SA.l (SL.v 0) (SA.i (SI.v 1000) SA.nil)))
                                        (SA.i (SI.v 1000) SA.nil)))
                                    (SI.c (Int.ofNat 0)) 2)
                                  (SA.i (SI.v 0) SA.nil))))
                            SA.nil))))))
                (SI.len
                  (SL.app 12
                    (SA.l
                      (SL.app 7
                        (SA.l (SL.app 11 (SA.l (SL.v 0) (SA.i (SI.v 1000) SA.nil)))
                          (SA.i (SI.v 1000)
                            (SA.i
                              (SI.app 122
                                (SA.i
                                  (SI.sel
                                    (SL.app 6
                                      (SA.l (SL.app 11 (SA.l (SL.v 0) (SA.i (SI.v 1000) SA.nil)))
                                        (SA.i (SI.v 1000) SA.nil)))
                                    (SI.c (Int.ofNat 0)) 1)
                                  (SA.i
                                    (SI.sel
                                      (SL.app 6
                                        (SA.l (SL.app 11 (SA.l (SL.v 0) (SA.i (SI.v 1000) SA.nil)))
                                          (SA.i (SI.v 1000) SA.nil)))
                                      (SI.c (Int.ofNat 0)) 2)
                                    (SA.i (SI.v 0) SA.nil))))
                              (SA.i
                                (SI.sel
                                  (SL.app 6
                                    (SA.l (SL.app 11 (SA.l (SL.v 0) (SA.i (SI.v 1000) SA.nil)))
                                      (SA.i (SI.v 1000) SA.nil)))
                                  (SI.c (Int.ofNat 0)) 2)
                                (SA.i
                                  (SI.sel
                                    (SL.app 6
                                      (SA.l (SL.app 11 (SA.l (SL.v 0) (SA.i (SI.v 1000) SA.nil)))
                                        (SA.i (SI.v 1000) SA.nil)))
                                    (SI.c (Int.ofNat 0)) 3)
                                  SA.nil))))))
                      SA.nil))))
              (SI.c (Int.ofNat 80000)))] },
    {
      pc :=
        [SB.lt
            (SI.len
              (SL.app 122
                (SA.l
                  (SL.app 120
                    (SA.l (SL.v 2)
                      (SA.i (SI.v 1000)
                        (SA.i
                          (SI.sel
                            (SL.app 6
                              (SA.l (SL.app 11 (SA.l (SL.v 0) (SA.i (SI.v 1000) SA.nil))) (SA.i (SI.v 1000) SA.nil)))
                            (SI.c (Int.ofNat 0)) 1)
                          (SA.i
                            (SI.app 121
                              (SA.i
                                (SI.sel
                                  (SL.app 6
                                    (SA.l (SL.app 11 (SA.l (SL.v 0) (SA.i (SI.v 1000) SA.nil)))
                                      (SA.i (SI.v 1000) SA.nil)))
                                  (SI.c (Int.ofNat 0)) 1)
                                (SA.i
                                  (SI.sel
                                    (SL.app 6
                                      (SA.l (SL.app 11 (SA.l (SL.v 0) (SA.i (SI.v 1000) SA.nil)))
                                        (SA.i (SI.v 1000) SA.nil)))
                                    (SI.c (Int.ofNat 0)) 2)
                                  (SA.i (SI.v 0) SA.nil))))
                            SA.nil)))))
                  (SA.l
                    (SL.app 7
                      (SA.l (SL.app 11 (SA.l (SL.v 0) (SA.i (SI.v 1000) SA.nil)))
                        (SA.i (SI.v 1000)
                          (SA.i
                            (SI.app 122
                              (SA.i
                                (SI.sel
                                  (SL.app 6
                                    (SA.l (SL.app 11 (SA.l (SL.v 0) (SA.i (SI.v 1000) SA.nil)))
                                      (SA.i (SI.v 1000) SA.nil)))
                                  (SI.c (Int.ofNat 0)) 1)
                                (SA.i
                                  (SI.sel
                                    (SL.app 6
                                      (SA.l (SL.app 11 (SA.l (SL.v 0) (SA.i (SI.v 1000) SA.nil)))
                                        (SA.i (SI.v 1000) SA.nil)))
                                    (SI.c (Int.ofNat 0)) 2)
                                  (SA.i (SI.v 0) SA.nil))))
                            (SA.i
                              (SI.sel
                                (SL.app 6
                                  (SA.l (SL.app 11 (SA.l (SL.v 0) (SA.i (SI.v 1000) SA.nil)))
                                    (SA.i (SI.v 1000) SA.nil)))
                                (SI.c (Int.ofNat 0)) 2)
                              (SA.i
                                (SI.sel
                                  (SL.app 6
                                    (SA.l (SL.app 11 (SA.l (SL.v 0) (SA.i (SI.v 1000) SA.nil)))
                                      (SA.i (SI.v 1000) SA.nil)))
                                  (SI.c (Int.ofNat 0)) 3)
                                SA.nil))))))
                    (SA.i (SI.v 0) SA.nil)))))
            (SI.c (Int.ofNat 80000)),
          SB.eq
            (SI.len
              (SL.app 120
                (SA.l (SL.v 2)
                  (SA.i (SI.v 1000)
                    (SA.i
                      (SI.sel
                        (SL.app 6
                          (SA.l (SL.app 11 (SA.l (SL.v 0) (SA.i (SI.v 1000) SA.nil))) (SA.i (SI.v 1000) SA.nil)))
                        (SI.c (Int.ofNat 0)) 1)
                      (SA.i
                        (SI.app 121
                          (SA.i
                            (SI.sel
                              (SL.app 6
                                (SA.l (SL.app 11 (SA.l (SL.v 0) (SA.i (SI.v 1000) SA.nil))) (SA.i (SI.v 1000) SA.nil)))
                              (SI.c (Int.ofNat 0)) 1)
                            (SA.i
                              (SI.sel
                                (SL.app 6
                                  (SA.l (SL.app 11 (SA.l (SL.v 0) (SA.i (SI.v 1000) SA.nil)))
                                    (SA.i (SI.v 1000) SA.nil)))
                                (SI.c (Int.ofNat 0)) 2)
                              (SA.i (SI.v 0) SA.nil))))
                        SA.nil))))))
            (SI.add (SI.len (SL.v 2)) (SI.c (Int.ofNat 1))),
          SB.not
            (SB.eq
              (SI.sel (SL.app 6 (SA.l (SL.app 11 (SA.l (SL.v 0) (SA.i (SI.v 1000) SA.nil))) (SA.i (SI.v 1000) SA.nil)))
                (SI.c (Int.ofNat 0)) 2)
              (SI.c (Int.ofNat 0))),
          SB.not
            (SB.lt (SI.v 0)
              (SI.sel (SL.app 6 (SA.l (SL.app 11 (SA.l (SL.v 0) (SA.i (SI.v 1000) SA.nil))) (SA.i (SI.v 1000) SA.nil)))
                (SI.c (Int.ofNat 0)) 1)),
          SB.eq (SI.sel (SL.app 6 (SA.l (SL.v 0) (SA.i (SI.v 1000) SA.nil))) (SI.c (Int.ofNat 0)) 3)
            (SI.c (Int.ofNat 1)),
          SB.eq (SI.len (SL.app 6 (SA.l (SL.v 0) (SA.i (SI.v 1000) SA.nil)))) (SI.c (Int.ofNat 1)),
          SB.eq
            (SI.len (SL.app 6 (SA.l (SL.app 11 (SA.l (SL.v 0) (SA.i (SI.v 1000) SA.nil))) (SA.i (SI.v 1000) SA.nil))))
            (SI.c (Int.ofNat 1)),
          SB.lt (SI.c (Int.ofNat 0)) (SI.len (SL.app 12 (SA.l (SL.v 0) SA.nil))),
          SB.lt (SI.len (SL.v 2)) (SI.c (Int.ofNat 80000)), SB.c true,
          SB.lt (SI.add (SI.len (SL.v 2)) (SI.len (SL.app 12 (SA.l (SL.v 0) SA.nil)))) (SI.c (Int.ofNat 80000))],
      eqs :=
        [Eqn.T
            (SB.lt (SI.len (SL.app 122 (SA.l (SL.v 2) (SA.l (SL.v 0) (SA.i (SI.v 0) SA.nil)))))
              (SI.c (Int.ofNat 80000))),
          Eqn.I (SI.len (SL.app 122 (SA.l (SL.v 2) (SA.l (SL.v 0) (SA.i (SI.v 0) SA.nil)))))
            (SI.len
              (SL.app 122
                (SA.l
                  (SL.app 120
                    (SA.l (SL.v 2)
                      (SA.i (SI.v 1000)
                        (SA.i
                          (SI.sel
                            (SL.app 6
                              (SA.l (SL.app 11 (SA.l (SL.v 0) (SA.i (SI.v 1000) SA.nil))) (SA.i (SI.v 1000) SA.nil)))
                            (SI.c (Int.ofNat 0)) 1)
                          (SA.i
                            (SI.app 121
                              (SA.i
                                (SI.sel
                                  (SL.app 6
                                    (SA.l (SL.app 11 (SA.l (SL.v 0) (SA.i (SI.v 1000) SA.nil)))
                                      (SA.i (SI.v 1000) SA.nil)))
                                  (SI.c (Int.ofNat 0)) 1)
                                (SA.i
                                  (SI.sel
                                    (SL.app 6
                                      (SA.l (SL.app 11 (SA.l (SL.v 0) (SA.i (SI.v 1000) SA.nil)))
                                        (SA.i (SI.v 1000) SA.nil)))
                                    (SI.c (Int.ofNat 0)) 2)
                                  (SA.i (SI.v 0) SA.nil))))
                            SA.nil)))))
                  (SA.l
                    (SL.app 7
                      (SA.l (SL.app 11 (SA.l (SL.v 0) (SA.i (SI.v 1000) SA.nil)))
                        (SA.i (SI.v 1000)
                          (SA.i
                            (SI.app 122
                              (SA.i
                                (SI.sel
                                  (SL.app 6
                                    (SA.l (SL.app 11 (SA.l (SL.v 0) (SA.i (SI.v 1000) SA.nil)))
                                      (SA.i (SI.v 1000) SA.nil)))
                                  (SI.c (Int.ofNat 0)) 1)
                                (SA.i
                                  (SI.sel
                                    (SL.app 6
                                      (SA.l (SL.app 11 (SA.l (SL.v 0) (SA.i (SI.v 1000) SA.nil)))
                                        (SA.i (SI.v 1000) SA.nil)))
                                    (SI.c (Int.ofNat 0)) 2)
                                  (SA.i (SI.v 0) SA.nil))))
                            (SA.i
                              (SI.sel
                                (SL.app 6
                                  (SA.l (SL.app 11 (SA.l (SL.v 0) (SA.i (SI.v 1000) SA.nil)))
                                    (SA.i (SI.v 1000) SA.nil)))
                                (SI.c (Int.ofNat 0)) 2)
                              (SA.i
                                (SI.sel
                                  (SL.app 6
                                    (SA.l (SL.app 11 (SA.l (SL.v 0) (SA.i (SI.v 1000) SA.nil)))
                                      (SA.i (SI.v 1000) SA.nil)))
                                  (SI.c (Int.ofNat 0)) 3)
                                SA.nil))))))
                    (SA.i (SI.v 0) SA.nil))))),
          Eqn.L (SL.app 123 (SA.l (SL.v 0) (SA.i (SI.v 0) SA.nil)))
            (SL.app 123
              (SA.l
                (SL.app 7
                  (SA.l (SL.app 11 (SA.l (SL.v 0) (SA.i (SI.v 1000) SA.nil)))
                    (SA.i (SI.v 1000)
                      (SA.i
                        (SI.app 122
                          (SA.i
                            (SI.sel
                              (SL.app 6
                                (SA.l (SL.app 11 (SA.l (SL.v 0) (SA.i (SI.v 1000) SA.nil))) (SA.i (SI.v 1000) SA.nil)))
                              (SI.c (Int.ofNat 0)) 1)
                            (SA.i
                              (SI.sel
                                (SL.app 6
                                  (SA.l (SL.app 11 (SA.l (SL.v 0) (SA.i (SI.v 1000) SA.nil)))
                                    (SA.i (SI.v 1000) SA.nil)))
                                (SI.c (Int.ofNat 0)) 2)
                              (SA.i (SI.v 0) SA.nil))))
                        (SA.i
                          (SI.sel
                            (SL.app 6
                              (SA.l (SL.app 11 (SA.l (SL.v 0) (SA.i (SI.v 1000) SA.nil))) (SA.i (SI.v 1000) SA.nil)))
                            (SI.c (Int.ofNat 0)) 2)
                          (SA.i
                            (SI.sel
                              (SL.app 6
                                (SA.l (SL.app 11 (SA.l (SL.v 0) (SA.i (SI.v 1000) SA.nil))) (SA.i (SI.v 1000) SA.nil)))
                              (SI.c (Int.ofNat 0)) 3)
                            SA.nil))))))
                (SA.i (SI.v 0) SA.nil))),
          Eqn.L (SL.app 122 (SA.l (SL.v 2) (SA.l (SL.v 0) (SA.i (SI.v 0) SA.nil))))
            (SL.app 122
              (SA.l
                (SL.app 120
                  (SA.l (SL.v 2)
                    (SA.i (SI.v 1000)
                      (SA.i
                        (SI.sel
                          (SL.app 6
                            (SA.l (SL.app 11 (SA.l (SL.v 0) (SA.i (SI.v 1000) SA.nil))) (SA.i (SI.v 1000) SA.nil)))
                          (SI.c (Int.ofNat 0)) 1)
                        (SA.i
                          (SI.app 121
                            (SA.i
                              (SI.sel
                                (SL.app 6
                                  (SA.l (SL.app 11 (SA.l (SL.v 0) (SA.i (SI.v 1000) SA.nil)))
                                    (SA.i (SI.v 1000) SA.nil)))
                                (SI.c (Int.ofNat 0)) 1)
                              (SA.i
                                (SI.sel
                                  (SL.app 6
                                    (SA.l (SL.app 11 (SA.l (SL.v 0) (SA.i (SI.v 1000) SA.nil)))
                                      (SA.i (SI.v 1000) SA.nil)))
                                  (SI.c (Int.ofNat 0)) 2)
                                (SA.i (SI.v 0) SA.nil))))
                          SA.nil)))))
                (SA.l
                  (SL.app 7
                    (SA.l (SL.app 11 (SA.l (SL.v 0) (SA.i (SI.v 1000) SA.nil)))
                      (SA.i (SI.v 1000)
                        (SA.i
                          (SI.app 122
                            (SA.i
                              (SI.sel
                                (SL.app 6
                                  (SA.l (SL.app 11 (SA.l (SL.v 0) (SA.i (SI.v 1000) SA.nil)))
                                    (SA.i (SI.v 1000) SA.nil)))
                                (SI.c (Int.ofNat 0)) 1)
                              (SA.i
                                (SI.sel
                                  (SL.app 6
                                    (SA.l (SL.app 11 (SA.l (SL.v 0) (SA.i (SI.v 1000) SA.nil)))
                                      (SA.i (SI.v 1000) SA.nil)))
                                  (SI.c (Int.ofNat 0)) 2)
                                (SA.i (SI.v 0) SA.nil))))
                          (SA.i
                            (SI.sel
                              (SL.app 6
                                (SA.l (SL.app 11 (SA.l (SL.v 0) (SA.i (SI.v 1000) SA.nil))) (SA.i (SI.v 1000) SA.nil)))
                              (SI.c (Int.ofNat 0)) 2)
                            (SA.i
                              (SI.sel
                                (SL.app 6
                                  (SA.l (SL.app 11 (SA.l (SL.v 0) (SA.i (SI.v 1000) SA.nil)))
                                    (SA.i (SI.v 1000) SA.nil)))
                                (SI.c (Int.ofNat 0)) 3)
                              SA.nil))))))
                  (SA.i (SI.v 0) SA.nil))))] }] := by kernel_rfl
theorem ti0_ok : ti0.ok Φ Try.prog := by
  refine ⟨by kernel_rfl, loop_rule (fun ρ => t4_ok ρ) (loopAt_sub (by kernel_rfl)) ti0_obs ?_⟩
  simp only [and_imp, List.forall_mem_cons, List.not_mem_nil, false_implies, implies_true, and_true, Ob.ok, holds, Eqn.ok, evB_eq, evB_lt, evB_le, evB_not, evB_and, evB_or, evB_eqL, evB_app, evB_v, evB_c, ev_sel, ev_len, ev_v, ev_c, ev_add, ev_sub, ev_mul, ev_quo, ev_rem, ev_bits, ev_wrap, evL_v, evL_lit, evL_app, ev_app, evA_l, evA_i, evA_nil, std_min, std_max, std_cat, std_take, std_drop, std_row, std_set, std_rep, std_find, std_put, std_del, std_flag, std_unflag, std_clr, std_left, std_copy, ints_cons, ints_nil, ofNat_lit, negSucc_lit, decide_eq_true_eq, Bool.and_eq_true, Bool.or_eq_true, Bool.not_eq_true', Bool.and_eq_false_iff, Bool.or_eq_false_iff, decide_eq_false_iff_not, aI110, aI111, aI112, aI113, aI114, aI115, aI120, aI121, aI122, aL110, aL116, aL120, aL122, aL123, aL124, aL125, aB130, aB132, aB140, aB141, aB142, aL126, aL127, aL128, aB199]
  repeat' apply And.intro
  all_goals intro ρ hR
  all_goals intros
  all_goals first
    | (obtain ⟨h0, hz⟩ := rem_none (M := ρ.l 0) (hR.row 3 rfl rfl) (by with_reducible assumption)
       rw [tickO_id h0]
       exact ⟨by omega, rfl, tickM_id hz, rfl⟩)
    | (obtain ⟨A, a, e, B, hM, hA, hB, hc, hf⟩ := at_key (M := ρ.l 0) (x := ρ.i 1000) (hR.keys 3 rfl rfl) (hR.row 3 rfl rfl) (by with_reducible assumption) (by with_reducible assumption)
       have l1 := rem_1 (A := A) (B := B) (x := ρ.i 1000) (a := a) (e := e)
       have l0 := rem_0 (A := A) (B := B) (x := ρ.i 1000) (a := a) (e := e)
       have n1 : (remT (ρ.l 0)).length = (remT A).length + (remT B).length + 1 := by rw [hM, l1]; simp; omega
       have n0 : (remT (clrT (ρ.l 0) (ρ.i 1000))).length = (remT A).length + (remT B).length := by rw [hc, l0]; simp
       have hi := insF_len (ρ.i 1000) a 1 (ρ.l 2)
       have hi2 := insF_len (ρ.i 1000) a (timesI a e (ρ.i 0)) (ρ.l 2)
       have g1 : (List.getD (findK (clrT (ρ.l 0) (ρ.i 1000)) (ρ.i 1000)) (Int.toNat 0) []).getD 1 0 = a := by rw [hf]; rfl
       have g2 : (List.getD (findK (clrT (ρ.l 0) (ρ.i 1000)) (ρ.i 1000)) (Int.toNat 0) []).getD 2 0 = e := by rw [hf]; rfl
       have g3 : (List.getD (findK (clrT (ρ.l 0) (ρ.i 1000)) (ρ.i 1000)) (Int.toNat 0) []).getD 3 0 = 0 := by rw [hf]; rfl
       have p : ∀ row, hdK row = ρ.i 1000 → putK (clrT (ρ.l 0) (ρ.i 1000)) row = A ++ row :: B := fun row h => by rw [hc]; exact put_mid h hA hB
       have d : ∀ row, hdK row = ρ.i 1000 → delK (A ++ row :: B) (ρ.i 1000) = A ++ B := fun row h => del_mid h hA hB
       simp only [g1, g2, g3] at *
       constructor <;> omega)
    | (obtain ⟨A, a, e, B, hM, hA, hB, hc, hf⟩ := at_key (M := ρ.l 0) (x := ρ.i 1000) (hR.keys 3 rfl rfl) (hR.row 3 rfl rfl) (by with_reducible assumption) (by with_reducible assumption)
       have l1 := rem_1 (A := A) (B := B) (x := ρ.i 1000) (a := a) (e := e)
       have l0 := rem_0 (A := A) (B := B) (x := ρ.i 1000) (a := a) (e := e)
       have n1 : (remT (ρ.l 0)).length = (remT A).length + (remT B).length + 1 := by rw [hM, l1]; simp; omega
       have n0 : (remT (clrT (ρ.l 0) (ρ.i 1000))).length = (remT A).length + (remT B).length := by rw [hc, l0]; simp
       have hi := insF_len (ρ.i 1000) a 1 (ρ.l 2)
       have hi2 := insF_len (ρ.i 1000) a (timesI a e (ρ.i 0)) (ρ.l 2)
       have g1 : (List.getD (findK (clrT (ρ.l 0) (ρ.i 1000)) (ρ.i 1000)) (Int.toNat 0) []).getD 1 0 = a := by rw [hf]; rfl
       have g2 : (List.getD (findK (clrT (ρ.l 0) (ρ.i 1000)) (ρ.i 1000)) (Int.toNat 0) []).getD 2 0 = e := by rw [hf]; rfl
       have g3 : (List.getD (findK (clrT (ρ.l 0) (ρ.i 1000)) (ρ.i 1000)) (Int.toNat 0) []).getD 3 0 = 0 := by rw [hf]; rfl
       have p : ∀ row, hdK row = ρ.i 1000 → putK (clrT (ρ.l 0) (ρ.i 1000)) row = A ++ row :: B := fun row h => by rw [hc]; exact put_mid h hA hB
       have d : ∀ row, hdK row = ρ.i 1000 → delK (A ++ row :: B) (ρ.i 1000) = A ++ B := fun row h => del_mid h hA hB
       simp only [g1, g2, g3] at *
       have E1 : tickO (ρ.i 0) (ρ.l 2) (ρ.l 0) = tickO (ρ.i 0) (ρ.l 2) (clrT (ρ.l 0) (ρ.i 1000)) := by rw [hc, hM]; exact tick_not (by omega)
       have E2 : tickM (ρ.i 0) (ρ.l 0) = tickM (ρ.i 0) (clrT (ρ.l 0) (ρ.i 1000)) := by rw [hc, hM]; exact tickM_not (by omega)
       rw [E1, E2]
       exact ⟨by with_reducible assumption, rfl, rfl, rfl⟩)
    | (obtain ⟨A, a, e, B, hM, hA, hB, hc, hf⟩ := at_key (M := ρ.l 0) (x := ρ.i 1000) (hR.keys 3 rfl rfl) (hR.row 3 rfl rfl) (by with_reducible assumption) (by with_reducible assumption)
       have l1 := rem_1 (A := A) (B := B) (x := ρ.i 1000) (a := a) (e := e)
       have l0 := rem_0 (A := A) (B := B) (x := ρ.i 1000) (a := a) (e := e)
       have n1 : (remT (ρ.l 0)).length = (remT A).length + (remT B).length + 1 := by rw [hM, l1]; simp; omega
       have n0 : (remT (clrT (ρ.l 0) (ρ.i 1000))).length = (remT A).length + (remT B).length := by rw [hc, l0]; simp
       have hi := insF_len (ρ.i 1000) a 1 (ρ.l 2)
       have hi2 := insF_len (ρ.i 1000) a (timesI a e (ρ.i 0)) (ρ.l 2)
       have g1 : (List.getD (findK (clrT (ρ.l 0) (ρ.i 1000)) (ρ.i 1000)) (Int.toNat 0) []).getD 1 0 = a := by rw [hf]; rfl
       have g2 : (List.getD (findK (clrT (ρ.l 0) (ρ.i 1000)) (ρ.i 1000)) (Int.toNat 0) []).getD 2 0 = e := by rw [hf]; rfl
       have g3 : (List.getD (findK (clrT (ρ.l 0) (ρ.i 1000)) (ρ.i 1000)) (Int.toNat 0) []).getD 3 0 = 0 := by rw [hf]; rfl
       have p : ∀ row, hdK row = ρ.i 1000 → putK (clrT (ρ.l 0) (ρ.i 1000)) row = A ++ row :: B := fun row h => by rw [hc]; exact put_mid h hA hB
       have d : ∀ row, hdK row = ρ.i 1000 → delK (A ++ row :: B) (ρ.i 1000) = A ++ B := fun row h => del_mid h hA hB
       simp only [g1, g2, g3] at *
       have he : e = 0 := (by with_reducible assumption)
       subst he
       have q1 := p [ρ.i 1000, 0, 0, 0] rfl
       have q2 := d [ρ.i 1000, 0, 0, 0] rfl
       have n3 : (remT (delK (putK (clrT (ρ.l 0) (ρ.i 1000)) [ρ.i 1000, 0, 0, 0]) (ρ.i 1000))).length = (remT A).length + (remT B).length := by rw [q1, q2, rem_2]; simp
       exact ⟨by omega, by omega, by omega⟩)
    | (obtain ⟨A, a, e, B, hM, hA, hB, hc, hf⟩ := at_key (M := ρ.l 0) (x := ρ.i 1000) (hR.keys 3 rfl rfl) (hR.row 3 rfl rfl) (by with_reducible assumption) (by with_reducible assumption)
       have l1 := rem_1 (A := A) (B := B) (x := ρ.i 1000) (a := a) (e := e)
       have l0 := rem_0 (A := A) (B := B) (x := ρ.i 1000) (a := a) (e := e)
       have n1 : (remT (ρ.l 0)).length = (remT A).length + (remT B).length + 1 := by rw [hM, l1]; simp; omega
       have n0 : (remT (clrT (ρ.l 0) (ρ.i 1000))).length = (remT A).length + (remT B).length := by rw [hc, l0]; simp
       have hi := insF_len (ρ.i 1000) a 1 (ρ.l 2)
       have hi2 := insF_len (ρ.i 1000) a (timesI a e (ρ.i 0)) (ρ.l 2)
       have g1 : (List.getD (findK (clrT (ρ.l 0) (ρ.i 1000)) (ρ.i 1000)) (Int.toNat 0) []).getD 1 0 = a := by rw [hf]; rfl
       have g2 : (List.getD (findK (clrT (ρ.l 0) (ρ.i 1000)) (ρ.i 1000)) (Int.toNat 0) []).getD 2 0 = e := by rw [hf]; rfl
       have g3 : (List.getD (findK (clrT (ρ.l 0) (ρ.i 1000)) (ρ.i 1000)) (Int.toNat 0) []).getD 3 0 = 0 := by rw [hf]; rfl
       have p : ∀ row, hdK row = ρ.i 1000 → putK (clrT (ρ.l 0) (ρ.i 1000)) row = A ++ row :: B := fun row h => by rw [hc]; exact put_mid h hA hB
       have d : ∀ row, hdK row = ρ.i 1000 → delK (A ++ row :: B) (ρ.i 1000) = A ++ B := fun row h => del_mid h hA hB
       simp only [g1, g2, g3] at *
       have he : ¬ e = 0 := (by with_reducible assumption)
       have q1 := p [ρ.i 1000, nextI a e (ρ.i 0), e, 0] rfl
       have n3 : (remT (putK (clrT (ρ.l 0) (ρ.i 1000)) [ρ.i 1000, nextI a e (ρ.i 0), e, 0])).length = (remT A).length + (remT B).length := by rw [q1, rem_0]; simp
       exact ⟨by omega, by omega, by omega⟩)
    | (obtain ⟨A, a, e, B, hM, hA, hB, hc, hf⟩ := at_key (M := ρ.l 0) (x := ρ.i 1000) (hR.keys 3 rfl rfl) (hR.row 3 rfl rfl) (by with_reducible assumption) (by with_reducible assumption)
       have l1 := rem_1 (A := A) (B := B) (x := ρ.i 1000) (a := a) (e := e)
       have l0 := rem_0 (A := A) (B := B) (x := ρ.i 1000) (a := a) (e := e)
       have n1 : (remT (ρ.l 0)).length = (remT A).length + (remT B).length + 1 := by rw [hM, l1]; simp; omega
       have n0 : (remT (clrT (ρ.l 0) (ρ.i 1000))).length = (remT A).length + (remT B).length := by rw [hc, l0]; simp
       have hi := insF_len (ρ.i 1000) a 1 (ρ.l 2)
       have hi2 := insF_len (ρ.i 1000) a (timesI a e (ρ.i 0)) (ρ.l 2)
       have g1 : (List.getD (findK (clrT (ρ.l 0) (ρ.i 1000)) (ρ.i 1000)) (Int.toNat 0) []).getD 1 0 = a := by rw [hf]; rfl
       have g2 : (List.getD (findK (clrT (ρ.l 0) (ρ.i 1000)) (ρ.i 1000)) (Int.toNat 0) []).getD 2 0 = e := by rw [hf]; rfl
       have g3 : (List.getD (findK (clrT (ρ.l 0) (ρ.i 1000)) (ρ.i 1000)) (Int.toNat 0) []).getD 3 0 = 0 := by rw [hf]; rfl
       have p : ∀ row, hdK row = ρ.i 1000 → putK (clrT (ρ.l 0) (ρ.i 1000)) row = A ++ row :: B := fun row h => by rw [hc]; exact put_mid h hA hB
       have d : ∀ row, hdK row = ρ.i 1000 → delK (A ++ row :: B) (ρ.i 1000) = A ++ B := fun row h => del_mid h hA hB
       simp only [g1, g2, g3] at *
       have he : e = 0 := (by with_reducible assumption)
       subst he
       have q1 := p [ρ.i 1000, 0, 0, 0] rfl
       have q2 := d [ρ.i 1000, 0, 0, 0] rfl
       have n3 : (remT (delK (putK (clrT (ρ.l 0) (ρ.i 1000)) [ρ.i 1000, 0, 0, 0]) (ρ.i 1000))).length = (remT A).length + (remT B).length := by rw [q1, q2, rem_2]; simp
       have E1 : tickO (ρ.i 0) (ρ.l 2) (ρ.l 0) = tickO (ρ.i 0) (insF (ρ.i 1000) a 1 (ρ.l 2)) (delK (putK (clrT (ρ.l 0) (ρ.i 1000)) [ρ.i 1000, 0, 0, 0]) (ρ.i 1000)) := by rw [q1, q2, hM]; exact tick_one (by omega) hB (by simp)
       have E2 : tickM (ρ.i 0) (ρ.l 0) = tickM (ρ.i 0) (delK (putK (clrT (ρ.l 0) (ρ.i 1000)) [ρ.i 1000, 0, 0, 0]) (ρ.i 1000)) := by rw [q1, q2, hM]; exact tickM_gone (by omega)
       rw [E1, E2]
       exact ⟨by with_reducible assumption, rfl, rfl, rfl⟩)
    | (obtain ⟨A, a, e, B, hM, hA, hB, hc, hf⟩ := at_key (M := ρ.l 0) (x := ρ.i 1000) (hR.keys 3 rfl rfl) (hR.row 3 rfl rfl) (by with_reducible assumption) (by with_reducible assumption)
       have l1 := rem_1 (A := A) (B := B) (x := ρ.i 1000) (a := a) (e := e)
       have l0 := rem_0 (A := A) (B := B) (x := ρ.i 1000) (a := a) (e := e)
       have n1 : (remT (ρ.l 0)).length = (remT A).length + (remT B).length + 1 := by rw [hM, l1]; simp; omega
       have n0 : (remT (clrT (ρ.l 0) (ρ.i 1000))).length = (remT A).length + (remT B).length := by rw [hc, l0]; simp
       have hi := insF_len (ρ.i 1000) a 1 (ρ.l 2)
       have hi2 := insF_len (ρ.i 1000) a (timesI a e (ρ.i 0)) (ρ.l 2)
       have g1 : (List.getD (findK (clrT (ρ.l 0) (ρ.i 1000)) (ρ.i 1000)) (Int.toNat 0) []).getD 1 0 = a := by rw [hf]; rfl
       have g2 : (List.getD (findK (clrT (ρ.l 0) (ρ.i 1000)) (ρ.i 1000)) (Int.toNat 0) []).getD 2 0 = e := by rw [hf]; rfl
       have g3 : (List.getD (findK (clrT (ρ.l 0) (ρ.i 1000)) (ρ.i 1000)) (Int.toNat 0) []).getD 3 0 = 0 := by rw [hf]; rfl
       have p : ∀ row, hdK row = ρ.i 1000 → putK (clrT (ρ.l 0) (ρ.i 1000)) row = A ++ row :: B := fun row h => by rw [hc]; exact put_mid h hA hB
       have d : ∀ row, hdK row = ρ.i 1000 → delK (A ++ row :: B) (ρ.i 1000) = A ++ B := fun row h => del_mid h hA hB
       simp only [g1, g2, g3] at *
       have he : ¬ e = 0 := (by with_reducible assumption)
       have q1 := p [ρ.i 1000, nextI a e (ρ.i 0), e, 0] rfl
       have n3 : (remT (putK (clrT (ρ.l 0) (ρ.i 1000)) [ρ.i 1000, nextI a e (ρ.i 0), e, 0])).length = (remT A).length + (remT B).length := by rw [q1, rem_0]; simp
       have E1 : tickO (ρ.i 0) (ρ.l 2) (ρ.l 0) = tickO (ρ.i 0) (insF (ρ.i 1000) a (timesI a e (ρ.i 0)) (ρ.l 2)) (putK (clrT (ρ.l 0) (ρ.i 1000)) [ρ.i 1000, nextI a e (ρ.i 0), e, 0]) := by rw [q1, hM, tick_mid]; exact tick_one (by omega) hB (by rw [if_neg he])
       have E2 : tickM (ρ.i 0) (ρ.l 0) = tickM (ρ.i 0) (putK (clrT (ρ.l 0) (ρ.i 1000)) [ρ.i 1000, nextI a e (ρ.i 0), e, 0]) := by rw [q1, hM]; exact tickM_next (by omega) he
       rw [E1, E2]
       exact ⟨by with_reducible assumption, rfl, rfl, rfl⟩)
theorem t5_ok (ρ : Env) : TblOK Φ ρ Try.prog t5 := addLp_ok (t4_ok ρ) ti0_ok
set_option maxRecDepth 100000 in
theorem cTick_obs : callObs Φ Try.prog t5 1000 cTick.f cTick.vs cTick.o cTick.pc cTick.outs = some
  [{
      pc :=
        [SB.lt (SI.len (SL.app 122 (SA.l (SL.lit []) (SA.l (SL.app 9 (SA.l (SL.v 0) SA.nil)) (SA.i (SI.v 0) SA.nil)))))
            (SI.c (Int.ofNat 80000)),
          SB.lt (SI.len (SL.app 12 (SA.l (SL.app 9 (SA.l (SL.v 0) SA.nil)) SA.nil))) (SI.c (Int.ofNat 80000)),
          SB.not (SB.lt (SI.c (Int.ofNat 549755813888)) (SI.v 0)), SB.not (SB.lt (SI.v 0) (SI.v 9)),
          SB.le (SI.c (Int.ofNat 1)) (SI.v 8), SB.le (SI.v 8) (SI.c (Int.ofNat 10000)),
          SB.lt (SI.len (SL.v 0)) (SI.c (Int.ofNat 80000))],
      eqs :=
        [Eqn.T (SB.lt (SI.len (SL.app 124 (SA.l (SL.v 0) (SA.i (SI.v 0) SA.nil)))) (SI.c (Int.ofNat 80000))),
          Eqn.T (SB.le (SI.len (SL.app 125 (SA.l (SL.v 0) (SA.i (SI.v 0) SA.nil)))) (SI.len (SL.v 0))),
          Eqn.I (SI.len (SL.app 124 (SA.l (SL.v 0) (SA.i (SI.v 0) SA.nil))))
            (SI.len (SL.app 122 (SA.l (SL.lit []) (SA.l (SL.app 9 (SA.l (SL.v 0) SA.nil)) (SA.i (SI.v 0) SA.nil))))),
          Eqn.L (SL.app 125 (SA.l (SL.v 0) (SA.i (SI.v 0) SA.nil)))
            (SL.app 10 (SA.l (SL.app 123 (SA.l (SL.app 9 (SA.l (SL.v 0) SA.nil)) (SA.i (SI.v 0) SA.nil))) SA.nil)),
          Eqn.L (SL.app 124 (SA.l (SL.v 0) (SA.i (SI.v 0) SA.nil)))
            (SL.app 122 (SA.l (SL.lit []) (SA.l (SL.app 9 (SA.l (SL.v 0) SA.nil)) (SA.i (SI.v 0) SA.nil))))] },
    {
      pc :=
        [SB.not (SB.lt (SI.len (SL.app 12 (SA.l (SL.app 9 (SA.l (SL.v 0) SA.nil)) SA.nil))) (SI.c (Int.ofNat 80000))),
          SB.not (SB.lt (SI.c (Int.ofNat 549755813888)) (SI.v 0)), SB.not (SB.lt (SI.v 0) (SI.v 9)),
          SB.le (SI.c (Int.ofNat 1)) (SI.v 8), SB.le (SI.v 8) (SI.c (Int.ofNat 10000)),
          SB.lt (SI.len (SL.v 0)) (SI.c (Int.ofNat 80000))],
      eqs := [Eqn.T (SB.c false)] }] := by kernel_rfl
theorem cTick_ok : cTick.ok Φ Try.prog := by
  refine call_rule (fun ρ => t5_ok ρ) cTick_obs ?_
  simp only [and_imp, List.forall_mem_cons, List.not_mem_nil, false_implies, implies_true, and_true, Ob.ok, holds, Eqn.ok, evB_eq, evB_lt, evB_le, evB_not, evB_and, evB_or, evB_eqL, evB_app, evB_v, evB_c, ev_sel, ev_len, ev_v, ev_c, ev_add, ev_sub, ev_mul, ev_quo, ev_rem, ev_bits, ev_wrap, evL_v, evL_lit, evL_app, ev_app, evA_l, evA_i, evA_nil, std_min, std_max, std_cat, std_take, std_drop, std_row, std_set, std_rep, std_find, std_put, std_del, std_flag, std_unflag, std_clr, std_left, std_copy, ints_cons, ints_nil, ofNat_lit, negSucc_lit, decide_eq_true_eq, Bool.and_eq_true, Bool.or_eq_true, Bool.not_eq_true', Bool.and_eq_false_iff, Bool.or_eq_false_iff, decide_eq_false_iff_not, aI110, aI111, aI112, aI113, aI114, aI115, aI120, aI121, aI122, aL110, aL116, aL120, aL122, aL123, aL124, aL125, aB130, aB132, aB140, aB141, aB142, aL126, aL127, aL128, aB199]
  repeat' apply And.intro
  all_goals intro ρ hR
  all_goals intros
  all_goals first
    | (have e := tickL_flag (A := ρ.l 0) (hR.row 1 rfl rfl) (ρ.i 0)
       have e2 := tickT_flag (A := ρ.l 0) (hR.row 1 rfl rfl) (ρ.i 0)
       have hl := tickT_len (ρ.l 0) (ρ.i 0)
       rw [e]
       exact ⟨by omega, by omega, rfl, e2, rfl⟩)
    | (have h1 := remT_len (flagT (ρ.l 0))
       have h2 := flagT_len (ρ.l 0)
       omega)
theorem t6_ok (ρ : Env) : TblOK Φ ρ Try.prog t6 := addFn_ok (t5_ok ρ) cTick_ok
set_option maxRecDepth 100000 in
theorem cNew_obs : callObs Φ Try.prog noTbl 1000 cNew.f cNew.vs cNew.o cNew.pc cNew.outs = some
  [] := by kernel_rfl
theorem cNew_ok : cNew.ok Φ Try.prog := by
  refine call_rule (fun ρ => noTbl_ok) cNew_obs ?_
  intro ob h; cases h
set_option maxRecDepth 100000 in
theorem cArm_obs : callObs Φ Try.prog noTbl 1000 cArm.f cArm.vs cArm.o cArm.pc cArm.outs = some
  [{
      pc :=
        [SB.lt (SI.v 0) (SI.c (Int.ofNat 0)), SB.le (SI.c (Int.ofNat 1)) (SI.v 8),
          SB.le (SI.v 8) (SI.c (Int.ofNat 10000))],
      eqs :=
        [Eqn.T
            (SB.le
              (SI.len
                (SL.app 110 (SA.l (SL.v 0) (SA.i (SI.v 0) (SA.i (SI.v 1) (SA.i (SI.v 2) (SA.i (SI.v 9) SA.nil)))))))
              (SI.add (SI.len (SL.v 0)) (SI.c (Int.ofNat 1)))),
          Eqn.I (SI.app 110 (SA.i (SI.v 0) (SA.i (SI.v 1) (SA.i (SI.v 2) (SA.i (SI.v 9) SA.nil)))))
            (SI.c (Int.ofNat 1)),
          Eqn.L (SL.app 110 (SA.l (SL.v 0) (SA.i (SI.v 0) (SA.i (SI.v 1) (SA.i (SI.v 2) (SA.i (SI.v 9) SA.nil))))))
            (SL.v 0)] },
    {
      pc :=
        [SB.lt (SI.v 2) (SI.c (Int.ofNat 0)), SB.not (SB.lt (SI.v 0) (SI.c (Int.ofNat 0))),
          SB.le (SI.c (Int.ofNat 1)) (SI.v 8), SB.le (SI.v 8) (SI.c (Int.ofNat 10000))],
      eqs :=
        [Eqn.T
            (SB.le
              (SI.len
                (SL.app 110 (SA.l (SL.v 0) (SA.i (SI.v 0) (SA.i (SI.v 1) (SA.i (SI.v 2) (SA.i (SI.v 9) SA.nil)))))))
              (SI.add (SI.len (SL.v 0)) (SI.c (Int.ofNat 1)))),
          Eqn.I (SI.app 110 (SA.i (SI.v 0) (SA.i (SI.v 1) (SA.i (SI.v 2) (SA.i (SI.v 9) SA.nil)))))
            (SI.c (Int.ofNat 1)),
          Eqn.L (SL.app 110 (SA.l (SL.v 0) (SA.i (SI.v 0) (SA.i (SI.v 1) (SA.i (SI.v 2) (SA.i (SI.v 9) SA.nil))))))
            (SL.v 0)] },
    {
      pc :=
        [SB.lt (SI.c (Int.ofNat 1073741824)) (SI.v 2), SB.not (SB.lt (SI.v 2) (SI.c (Int.ofNat 0))),
          SB.not (SB.lt (SI.v 0) (SI.c (Int.ofNat 0))), SB.le (SI.c (Int.ofNat 1)) (SI.v 8),
          SB.le (SI.v 8) (SI.c (Int.ofNat 10000))],
      eqs :=
        [Eqn.T
            (SB.le
              (SI.len
                (SL.app 110 (SA.l (SL.v 0) (SA.i (SI.v 0) (SA.i (SI.v 1) (SA.i (SI.v 2) (SA.i (SI.v 9) SA.nil)))))))
              (SI.add (SI.len (SL.v 0)) (SI.c (Int.ofNat 1)))),
          Eqn.I (SI.app 110 (SA.i (SI.v 0) (SA.i (SI.v 1) (SA.i (SI.v 2) (SA.i (SI.v 9) SA.nil)))))
            (SI.c (Int.ofNat 1)),
          Eqn.L (SL.app 110 (SA.l (SL.v 0) (SA.i (SI.v 0) (SA.i (SI.v 1) (SA.i (SI.v 2) (SA.i (SI.v 9) SA.nil))))))
            (SL.v 0)] },
    {
      pc :=
        [SB.le (SI.v 1) (SI.v 9), SB.not (SB.lt (SI.c (Int.ofNat 1073741824)) (SI.v 2)),
          SB.not (SB.lt (SI.v 2) (SI.c (Int.ofNat 0))), SB.not (SB.lt (SI.v 0) (SI.c (Int.ofNat 0))),
          SB.le (SI.c (Int.ofNat 1)) (SI.v 8), SB.le (SI.v 8) (SI.c (Int.ofNat 10000))],
      eqs :=
        [Eqn.T
            (SB.le
              (SI.len
                (SL.app 110 (SA.l (SL.v 0) (SA.i (SI.v 0) (SA.i (SI.v 1) (SA.i (SI.v 2) (SA.i (SI.v 9) SA.nil)))))))
              (SI.add (SI.len (SL.v 0)) (SI.c (Int.ofNat 1)))),
          Eqn.I (SI.app 110 (SA.i (SI.v 0) (SA.i (SI.v 1) (SA.i (SI.v 2) (SA.i (SI.v 9) SA.nil)))))
            (SI.c (Int.ofNat 1)),
          Eqn.L (SL.app 110 (SA.l (SL.v 0) (SA.i (SI.v 0) (SA.i (SI.v 1) (SA.i (SI.v 2) (SA.i (SI.v 9) SA.nil))))))
            (SL.v 0)] },
    {
      pc :=
        [SB.lt (SI.c (Int.ofNat 1099511627776)) (SI.v 1), SB.not (SB.le (SI.v 1) (SI.v 9)),
          SB.not (SB.lt (SI.c (Int.ofNat 1073741824)) (SI.v 2)), SB.not (SB.lt (SI.v 2) (SI.c (Int.ofNat 0))),
          SB.not (SB.lt (SI.v 0) (SI.c (Int.ofNat 0))), SB.le (SI.c (Int.ofNat 1)) (SI.v 8),
          SB.le (SI.v 8) (SI.c (Int.ofNat 10000))],
      eqs :=
        [Eqn.T
            (SB.le
              (SI.len
                (SL.app 110 (SA.l (SL.v 0) (SA.i (SI.v 0) (SA.i (SI.v 1) (SA.i (SI.v 2) (SA.i (SI.v 9) SA.nil)))))))
              (SI.add (SI.len (SL.v 0)) (SI.c (Int.ofNat 1)))),
          Eqn.I (SI.app 110 (SA.i (SI.v 0) (SA.i (SI.v 1) (SA.i (SI.v 2) (SA.i (SI.v 9) SA.nil)))))
            (SI.c (Int.ofNat 1)),
          Eqn.L (SL.app 110 (SA.l (SL.v 0) (SA.i (SI.v 0) (SA.i (SI.v 1) (SA.i (SI.v 2) (SA.i (SI.v 9) SA.nil))))))
            (SL.v 0)] },
    {
      pc :=
        [SB.not (SB.lt (SI.c (Int.ofNat 1099511627776)) (SI.v 1)), SB.not (SB.le (SI.v 1) (SI.v 9)),
          SB.not (SB.lt (SI.c (Int.ofNat 1073741824)) (SI.v 2)), SB.not (SB.lt (SI.v 2) (SI.c (Int.ofNat 0))),
          SB.not (SB.lt (SI.v 0) (SI.c (Int.ofNat 0))), SB.le (SI.c (Int.ofNat 1)) (SI.v 8),
          SB.le (SI.v 8) (SI.c (Int.ofNat 10000))],
      eqs :=
        [Eqn.T
            (SB.le
              (SI.len
                (SL.app 110 (SA.l (SL.v 0) (SA.i (SI.v 0) (SA.i (SI.v 1) (SA.i (SI.v 2) (SA.i (SI.v 9) SA.nil)))))))
              (SI.add (SI.len (SL.v 0)) (SI.c (Int.ofNat 1)))),
          Eqn.I (SI.app 110 (SA.i (SI.v 0) (SA.i (SI.v 1) (SA.i (SI.v 2) (SA.i (SI.v 9) SA.nil)))))
            (SI.c (Int.ofNat 0)),
          Eqn.L (SL.app 110 (SA.l (SL.v 0) (SA.i (SI.v 0) (SA.i (SI.v 1) (SA.i (SI.v 2) (SA.i (SI.v 9) SA.nil))))))
            (SL.app 7 (SA.l (SL.v 0) (SA.i (SI.v 0) (SA.i (SI.v 1) (SA.i (SI.v 2) SA.nil)))))] }] := by kernel_rfl
theorem cArm_ok : cArm.ok Φ Try.prog := by
  refine call_rule (fun ρ => noTbl_ok) cArm_obs ?_
  simp only [and_imp, List.forall_mem_cons, List.not_mem_nil, false_implies, implies_true, and_true, Ob.ok, holds, Eqn.ok, evB_eq, evB_lt, evB_le, evB_not, evB_and, evB_or, evB_eqL, evB_app, evB_v, evB_c, ev_sel, ev_len, ev_v, ev_c, ev_add, ev_sub, ev_mul, ev_quo, ev_rem, ev_bits, ev_wrap, evL_v, evL_lit, evL_app, ev_app, evA_l, evA_i, evA_nil, std_min, std_max, std_cat, std_take, std_drop, std_row, std_set, std_rep, std_find, std_put, std_del, std_flag, std_unflag, std_clr, std_left, std_copy, ints_cons, ints_nil, ofNat_lit, negSucc_lit, decide_eq_true_eq, Bool.and_eq_true, Bool.or_eq_true, Bool.not_eq_true', Bool.and_eq_false_iff, Bool.or_eq_false_iff, decide_eq_false_iff_not, aI110, aI111, aI112, aI113, aI114, aI115, aI120, aI121, aI122, aL110, aL116, aL120, aL122, aL123, aL124, aL125, aB130, aB132, aB140, aB141, aB142, aL126, aL127, aL128, aB199]
  repeat' apply And.intro
  all_goals intro ρ hR
  all_goals intros
  all_goals first
    | (have hl := armT_len (ρ.l 0) (ρ.i 0) (ρ.i 1) (ρ.i 2) (ρ.i 9)
       have e := arm_no (T := ρ.l 0) (id := ρ.i 0) (at' := ρ.i 1) (every := ρ.i 2) (now := ρ.i 9) (by omega)
       exact ⟨by omega, e.1, e.2⟩)
    | (have hl := armT_len (ρ.l 0) (ρ.i 0) (ρ.i 1) (ρ.i 2) (ρ.i 9)
       have e := arm_yes (T := ρ.l 0) (id := ρ.i 0) (at' := ρ.i 1) (every := ρ.i 2) (now := ρ.i 9) (by omega)
       exact ⟨by omega, e.1, e.2⟩)
set_option maxRecDepth 100000 in
theorem cDisarm_obs : callObs Φ Try.prog noTbl 1000 cDisarm.f cDisarm.vs cDisarm.o cDisarm.pc cDisarm.outs = some
  [] := by kernel_rfl
theorem cDisarm_ok : cDisarm.ok Φ Try.prog := by
  refine call_rule (fun ρ => noTbl_ok) cDisarm_obs ?_
  intro ob h; cases h
set_option maxRecDepth 100000 in
theorem cNow_obs : callObs Φ Try.prog noTbl 1000 cNow.f cNow.vs cNow.o cNow.pc cNow.outs = some
  [] := by kernel_rfl
theorem cNow_ok : cNow.ok Φ Try.prog := by
  refine call_rule (fun ρ => noTbl_ok) cNow_obs ?_
  intro ob h; cases h
set_option maxRecDepth 100000 in
theorem cCredit_obs : callObs Φ Try.prog noTbl 1000 cCredit.f cCredit.vs cCredit.o cCredit.pc cCredit.outs = some
  [] := by kernel_rfl
theorem cCredit_ok : cCredit.ok Φ Try.prog := by
  refine call_rule (fun ρ => noTbl_ok) cCredit_obs ?_
  intro ob h; cases h
set_option maxRecDepth 100000 in
theorem cCharge_obs : callObs Φ Try.prog noTbl 1000 cCharge.f cCharge.vs cCharge.o cCharge.pc cCharge.outs = some
  [{ pc := [SB.le (SI.c (Int.ofNat 1)) (SI.v 8), SB.le (SI.v 8) (SI.c (Int.ofNat 10000))],
      eqs :=
        [Eqn.I (SI.app 113 (SA.l (SL.v 1) (SA.i (SI.v 0) (SA.i (SI.v 1) SA.nil))))
            (SI.app 1
              (SA.i (SI.c (Int.negSucc 1073741823))
                (SA.i
                  (SI.wrap IntKind.i64
                    (SI.sub (SI.sel (SL.app 6 (SA.l (SL.v 1) (SA.i (SI.v 0) SA.nil))) (SI.c (Int.ofNat 0)) 1)
                      (SI.app 1
                        (SA.i (SI.c (Int.ofNat 0))
                          (SA.i (SI.app 0 (SA.i (SI.v 1) (SA.i (SI.c (Int.ofNat 1073741824)) SA.nil))) SA.nil)))))
                  SA.nil))),
          Eqn.B (SB.lt (SI.app 113 (SA.l (SL.v 1) (SA.i (SI.v 0) (SA.i (SI.v 1) SA.nil)))) (SI.c (Int.ofNat 1)))
            (SB.lt
              (SI.app 1
                (SA.i (SI.c (Int.negSucc 1073741823))
                  (SA.i
                    (SI.wrap IntKind.i64
                      (SI.sub (SI.sel (SL.app 6 (SA.l (SL.v 1) (SA.i (SI.v 0) SA.nil))) (SI.c (Int.ofNat 0)) 1)
                        (SI.app 1
                          (SA.i (SI.c (Int.ofNat 0))
                            (SA.i (SI.app 0 (SA.i (SI.v 1) (SA.i (SI.c (Int.ofNat 1073741824)) SA.nil))) SA.nil)))))
                    SA.nil)))
              (SI.c (Int.ofNat 1))),
          Eqn.L
            (SL.app 7
              (SA.l (SL.v 1)
                (SA.i (SI.v 0) (SA.i (SI.app 113 (SA.l (SL.v 1) (SA.i (SI.v 0) (SA.i (SI.v 1) SA.nil)))) SA.nil))))
            (SL.app 7
              (SA.l (SL.v 1)
                (SA.i (SI.v 0)
                  (SA.i
                    (SI.app 1
                      (SA.i (SI.c (Int.negSucc 1073741823))
                        (SA.i
                          (SI.wrap IntKind.i64
                            (SI.sub (SI.sel (SL.app 6 (SA.l (SL.v 1) (SA.i (SI.v 0) SA.nil))) (SI.c (Int.ofNat 0)) 1)
                              (SI.app 1
                                (SA.i (SI.c (Int.ofNat 0))
                                  (SA.i (SI.app 0 (SA.i (SI.v 1) (SA.i (SI.c (Int.ofNat 1073741824)) SA.nil)))
                                    SA.nil)))))
                          SA.nil)))
                    SA.nil))))] }] := by kernel_rfl
theorem cCharge_ok : cCharge.ok Φ Try.prog := by
  refine call_rule (fun ρ => noTbl_ok) cCharge_obs ?_
  simp only [and_imp, List.forall_mem_cons, List.not_mem_nil, false_implies, implies_true, and_true, Ob.ok, holds, Eqn.ok, evB_eq, evB_lt, evB_le, evB_not, evB_and, evB_or, evB_eqL, evB_app, evB_v, evB_c, ev_sel, ev_len, ev_v, ev_c, ev_add, ev_sub, ev_mul, ev_quo, ev_rem, ev_bits, ev_wrap, evL_v, evL_lit, evL_app, ev_app, evA_l, evA_i, evA_nil, std_min, std_max, std_cat, std_take, std_drop, std_row, std_set, std_rep, std_find, std_put, std_del, std_flag, std_unflag, std_clr, std_left, std_copy, ints_cons, ints_nil, ofNat_lit, negSucc_lit, decide_eq_true_eq, Bool.and_eq_true, Bool.or_eq_true, Bool.not_eq_true', Bool.and_eq_false_iff, Bool.or_eq_false_iff, decide_eq_false_iff_not, aI110, aI111, aI112, aI113, aI114, aI115, aI120, aI121, aI122, aL110, aL116, aL120, aL122, aL123, aL124, aL125, aB130, aB132, aB140, aB141, aB142, aL126, aL127, aL128, aB199]
  repeat' apply And.intro
  all_goals intro ρ hR
  all_goals intros
  all_goals first
    | (exact ⟨rfl, rfl, rfl⟩)
set_option maxRecDepth 100000 in
theorem cRefill_obs : callObs Φ Try.prog noTbl 1000 cRefill.f cRefill.vs cRefill.o cRefill.pc cRefill.outs = some
  [{ pc := [SB.le (SI.c (Int.ofNat 1)) (SI.v 8), SB.le (SI.v 8) (SI.c (Int.ofNat 10000))],
      eqs :=
        [Eqn.I (SI.app 114 (SA.l (SL.v 1) (SA.i (SI.v 0) (SA.i (SI.v 8) (SA.i (SI.v 1) SA.nil)))))
            (SI.app 0
              (SA.i
                (SI.wrap IntKind.i64
                  (SI.mul (SI.v 8)
                    (SI.app 1
                      (SA.i (SI.c (Int.ofNat 1))
                        (SA.i (SI.app 0 (SA.i (SI.v 1) (SA.i (SI.c (Int.ofNat 1000)) SA.nil))) SA.nil)))))
                (SA.i
                  (SI.wrap IntKind.i64
                    (SI.add (SI.sel (SL.app 6 (SA.l (SL.v 1) (SA.i (SI.v 0) SA.nil))) (SI.c (Int.ofNat 0)) 1)
                      (SI.wrap IntKind.i64
                        (SI.mul (SI.v 8)
                          (SI.app 1
                            (SA.i (SI.c (Int.ofNat 1))
                              (SA.i (SI.app 0 (SA.i (SI.v 1) (SA.i (SI.c (Int.ofNat 1000)) SA.nil))) SA.nil)))))))
                  SA.nil))),
          Eqn.L
            (SL.app 7
              (SA.l (SL.v 1)
                (SA.i (SI.v 0)
                  (SA.i (SI.app 114 (SA.l (SL.v 1) (SA.i (SI.v 0) (SA.i (SI.v 8) (SA.i (SI.v 1) SA.nil))))) SA.nil))))
            (SL.app 7
              (SA.l (SL.v 1)
                (SA.i (SI.v 0)
                  (SA.i
                    (SI.app 0
                      (SA.i
                        (SI.wrap IntKind.i64
                          (SI.mul (SI.v 8)
                            (SI.app 1
                              (SA.i (SI.c (Int.ofNat 1))
                                (SA.i (SI.app 0 (SA.i (SI.v 1) (SA.i (SI.c (Int.ofNat 1000)) SA.nil))) SA.nil)))))
                        (SA.i
                          (SI.wrap IntKind.i64
                            (SI.add (SI.sel (SL.app 6 (SA.l (SL.v 1) (SA.i (SI.v 0) SA.nil))) (SI.c (Int.ofNat 0)) 1)
                              (SI.wrap IntKind.i64
                                (SI.mul (SI.v 8)
                                  (SI.app 1
                                    (SA.i (SI.c (Int.ofNat 1))
                                      (SA.i (SI.app 0 (SA.i (SI.v 1) (SA.i (SI.c (Int.ofNat 1000)) SA.nil)))
                                        SA.nil)))))))
                          SA.nil)))
                    SA.nil))))] }] := by kernel_rfl
theorem cRefill_ok : cRefill.ok Φ Try.prog := by
  refine call_rule (fun ρ => noTbl_ok) cRefill_obs ?_
  simp only [and_imp, List.forall_mem_cons, List.not_mem_nil, false_implies, implies_true, and_true, Ob.ok, holds, Eqn.ok, evB_eq, evB_lt, evB_le, evB_not, evB_and, evB_or, evB_eqL, evB_app, evB_v, evB_c, ev_sel, ev_len, ev_v, ev_c, ev_add, ev_sub, ev_mul, ev_quo, ev_rem, ev_bits, ev_wrap, evL_v, evL_lit, evL_app, ev_app, evA_l, evA_i, evA_nil, std_min, std_max, std_cat, std_take, std_drop, std_row, std_set, std_rep, std_find, std_put, std_del, std_flag, std_unflag, std_clr, std_left, std_copy, ints_cons, ints_nil, ofNat_lit, negSucc_lit, decide_eq_true_eq, Bool.and_eq_true, Bool.or_eq_true, Bool.not_eq_true', Bool.and_eq_false_iff, Bool.or_eq_false_iff, decide_eq_false_iff_not, aI110, aI111, aI112, aI113, aI114, aI115, aI120, aI121, aI122, aL110, aL116, aL120, aL122, aL123, aL124, aL125, aB130, aB132, aB140, aB141, aB142, aL126, aL127, aL128, aB199]
  repeat' apply And.intro
  all_goals intro ρ hR
  all_goals intros
  all_goals first
    | (exact ⟨rfl, rfl⟩)
end Go.SF.C18
