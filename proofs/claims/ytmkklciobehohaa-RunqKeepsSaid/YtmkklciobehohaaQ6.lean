/- The law Keeps, shown. -/
import Derived.Test.YtmkklciobehohaaQ2
import Derived.Test.YtmkklciobehohaaC6
import Derived.Test.YtmkklciobehohaaP6
import Derived.KernelRfl
namespace Go.SF.C17
open Go Go.SF Go.Proofs
set_option linter.unusedVariables false
set_option linter.unusedSimpArgs false

set_option maxRecDepth 100000 in
theorem in1_obs : loopObs Φ Try.prog t7 1000 in1.f (loopAt Try.prog in1.f in1.id) in1.n in1.T k10 in1.outs = some
  [{
      pc :=
        [SB.eq (SI.sel (SL.v 0) (SI.v 2) 0) (SI.sel (SL.v 1) (SI.v 2) 0), SB.lt (SI.v 2) (SI.len (SL.v 0)),
          SB.le (SI.c (Int.ofNat 0)) (SI.v 2), SB.le (SI.len (SL.v 0)) (SI.c (Int.ofNat 100)),
          SB.eq (SI.len (SL.v 0)) (SI.len (SL.v 1)), SB.c true, SB.eqL (SL.v 0) (SL.v 1)],
      eqs :=
        [Eqn.T
            (SB.lt (SI.sub (SI.len (SL.v 0)) (SI.add (SI.v 2) (SI.c (Int.ofNat 1))))
              (SI.sub (SI.len (SL.v 0)) (SI.v 2))),
          Eqn.T (SB.lt (SI.c (Int.ofNat 0)) (SI.sub (SI.len (SL.v 0)) (SI.v 2)))] },
    {
      pc :=
        [SB.not (SB.eq (SI.sel (SL.v 0) (SI.v 2) 0) (SI.sel (SL.v 1) (SI.v 2) 0)), SB.lt (SI.v 2) (SI.len (SL.v 0)),
          SB.le (SI.c (Int.ofNat 0)) (SI.v 2), SB.le (SI.len (SL.v 0)) (SI.c (Int.ofNat 100)),
          SB.eq (SI.len (SL.v 0)) (SI.len (SL.v 1)), SB.c true, SB.eqL (SL.v 0) (SL.v 1)],
      eqs := [Eqn.T (SB.app 199 SA.nil)] }] := by kernel_rfl
theorem in1_ok : in1.ok Φ Try.prog := by
  refine ⟨by kernel_rfl, loop_rule (fun ρ => t7_ok ρ) (loopAt_sub (by kernel_rfl)) in1_obs ?_⟩
  simp only [and_imp, List.forall_mem_cons, List.not_mem_nil, false_implies, implies_true, and_true, Ob.ok, holds, Eqn.ok, evB_eq, evB_lt, evB_le, evB_not, evB_and, evB_or, evB_eqL, evB_app, evB_v, evB_c, ev_sel, ev_len, ev_v, ev_c, ev_add, ev_sub, ev_mul, ev_quo, ev_rem, ev_bits, ev_wrap, evL_v, evL_lit, evL_app, ev_app, evA_l, evA_i, evA_nil, std_min, std_max, std_cat, std_take, std_drop, std_row, std_set, std_rep, std_find, std_put, std_del, std_flag, std_unflag, std_clr, std_left, std_copy, ints_cons, ints_nil, ofNat_lit, negSucc_lit, decide_eq_true_eq, Bool.and_eq_true, Bool.or_eq_true, Bool.not_eq_true', Bool.and_eq_false_iff, Bool.or_eq_false_iff, decide_eq_false_iff_not, std_rowT, std_setT, lenR_rowT, rowT_get, aI100, aI101, aI102, aI103, aI104, aI105, aI106, aI107, aI110, aI111, aI112, aI113, aI114, aL110, aL111, aL112, aL113, aL115, aL116, aL120, aL121, aB130, aB131, aB132, aB133, aB134, aB135, aB136, aB199, Bool.not_eq_false', aL122, aB137]
  repeat' apply And.intro
  all_goals intro ρ hR
  all_goals intros
  all_goals first
    | (omega)
    | (exfalso
       have e : ρ.l 0 = ρ.l 1 := by with_reducible assumption
       have h : ¬ ((ρ.l 0).getD (ρ.i 2).toNat []).getD 0 0 = ((ρ.l 1).getD (ρ.i 2).toNat []).getD 0 0 := by with_reducible assumption
       exact h (by rw [e]))
theorem t13_ok (ρ : Env) : TblOK Φ ρ Try.prog t13 := addLp_ok (t7_ok ρ) in1_ok
set_option maxRecDepth 100000 in
theorem cInts0_obs : callObs Φ Try.prog t13 1000 cInts0.f cInts0.vs cInts0.o cInts0.pc cInts0.outs = some
  [{
      pc :=
        [SB.not (SB.eq (SI.len (SL.v 0)) (SI.len (SL.v 1))), SB.le (SI.len (SL.v 0)) (SI.c (Int.ofNat 100)), SB.c true,
          SB.eqL (SL.v 0) (SL.v 1)],
      eqs := [Eqn.T (SB.app 199 SA.nil)] }] := by kernel_rfl
theorem cInts0_ok : cInts0.ok Φ Try.prog := by
  refine call_rule (fun ρ => t13_ok ρ) cInts0_obs ?_
  simp only [and_imp, List.forall_mem_cons, List.not_mem_nil, false_implies, implies_true, and_true, Ob.ok, holds, Eqn.ok, evB_eq, evB_lt, evB_le, evB_not, evB_and, evB_or, evB_eqL, evB_app, evB_v, evB_c, ev_sel, ev_len, ev_v, ev_c, ev_add, ev_sub, ev_mul, ev_quo, ev_rem, ev_bits, ev_wrap, evL_v, evL_lit, evL_app, ev_app, evA_l, evA_i, evA_nil, std_min, std_max, std_cat, std_take, std_drop, std_row, std_set, std_rep, std_find, std_put, std_del, std_flag, std_unflag, std_clr, std_left, std_copy, ints_cons, ints_nil, ofNat_lit, negSucc_lit, decide_eq_true_eq, Bool.and_eq_true, Bool.or_eq_true, Bool.not_eq_true', Bool.and_eq_false_iff, Bool.or_eq_false_iff, decide_eq_false_iff_not, std_rowT, std_setT, lenR_rowT, rowT_get, aI100, aI101, aI102, aI103, aI104, aI105, aI106, aI107, aI110, aI111, aI112, aI113, aI114, aL110, aL111, aL112, aL113, aL115, aL116, aL120, aL121, aB130, aB131, aB132, aB133, aB134, aB135, aB136, aB199, Bool.not_eq_false', aL122, aB137]
  repeat' apply And.intro
  all_goals intro ρ hR
  all_goals intros
  all_goals first
    | (exfalso
       have e : ρ.l 0 = ρ.l 1 := by with_reducible assumption
       have h : ¬ ((ρ.l 0).length : Int) = ((ρ.l 1).length : Int) := by with_reducible assumption
       exact h (by rw [e]))
theorem cInts_ok : cInts.ok Φ Try.prog := drop_never rfl cInts0_ok
set_option maxRecDepth 100000 in
theorem ke1_obs : loopObs Φ Try.prog t7 1000 ke1.f (loopAt Try.prog ke1.f ke1.id) ke1.n ke1.T k11 ke1.outs = some
  [{
      pc :=
        [SB.app 130
            (SA.l
              (SL.app 110
                (SA.l (SL.v 0)
                  (SA.i (SI.sel (SL.v 9) (SI.v 2) 1)
                    (SA.i (SI.sel (SL.v 9) (SI.v 2) 2) (SA.i (SI.c (Int.ofNat 64)) SA.nil)))))
              (SA.l (SL.v 1000) (SA.i (SI.c (Int.ofNat 64)) SA.nil))),
          SB.eq
            (SI.len
              (SL.app 110
                (SA.l (SL.v 0)
                  (SA.i (SI.sel (SL.v 9) (SI.v 2) 1)
                    (SA.i (SI.sel (SL.v 9) (SI.v 2) 2) (SA.i (SI.c (Int.ofNat 64)) SA.nil))))))
            (SI.len (SL.v 0)),
          SB.lt (SI.v 2) (SI.c (Int.ofNat 40)), SB.lt (SI.v 2) (SI.len (SL.v 9)), SB.le (SI.c (Int.ofNat 1)) (SI.v 0),
          SB.le (SI.v 0) (SI.c (Int.ofNat 8)), SB.eq (SI.len (SL.v 0)) (SI.v 0), SB.le (SI.c (Int.ofNat 0)) (SI.v 2),
          SB.le (SI.v 2) (SI.c (Int.ofNat 40)), SB.c true,
          SB.app 130 (SA.l (SL.v 0) (SA.l (SL.v 1) (SA.i (SI.c (Int.ofNat 64)) SA.nil))),
          SB.app 137 (SA.l (SL.v 0) SA.nil)],
      eqs :=
        [Eqn.T
            (SB.lt (SI.sub (SI.c (Int.ofNat 40)) (SI.add (SI.v 2) (SI.c (Int.ofNat 1))))
              (SI.sub (SI.c (Int.ofNat 40)) (SI.v 2))),
          Eqn.T
            (SB.app 137
              (SA.l
                (SL.app 110
                  (SA.l (SL.v 0)
                    (SA.i (SI.sel (SL.v 9) (SI.v 2) 1)
                      (SA.i (SI.sel (SL.v 9) (SI.v 2) 2) (SA.i (SI.c (Int.ofNat 64)) SA.nil)))))
                SA.nil))] }] := by kernel_rfl
theorem ke1_ok : ke1.ok Φ Try.prog := by
  refine ⟨by kernel_rfl, loop_rule (fun ρ => t7_ok ρ) (loopAt_sub (by kernel_rfl)) ke1_obs ?_⟩
  simp only [and_imp, List.forall_mem_cons, List.not_mem_nil, false_implies, implies_true, and_true, Ob.ok, holds, Eqn.ok, evB_eq, evB_lt, evB_le, evB_not, evB_and, evB_or, evB_eqL, evB_app, evB_v, evB_c, ev_sel, ev_len, ev_v, ev_c, ev_add, ev_sub, ev_mul, ev_quo, ev_rem, ev_bits, ev_wrap, evL_v, evL_lit, evL_app, ev_app, evA_l, evA_i, evA_nil, std_min, std_max, std_cat, std_take, std_drop, std_row, std_set, std_rep, std_find, std_put, std_del, std_flag, std_unflag, std_clr, std_left, std_copy, ints_cons, ints_nil, ofNat_lit, negSucc_lit, decide_eq_true_eq, Bool.and_eq_true, Bool.or_eq_true, Bool.not_eq_true', Bool.and_eq_false_iff, Bool.or_eq_false_iff, decide_eq_false_iff_not, std_rowT, std_setT, lenR_rowT, rowT_get, aI100, aI101, aI102, aI103, aI104, aI105, aI106, aI107, aI110, aI111, aI112, aI113, aI114, aL110, aL111, aL112, aL113, aL115, aL116, aL120, aL121, aB130, aB131, aB132, aB133, aB134, aB135, aB136, aB199, Bool.not_eq_false', aL122, aB137]
  repeat' apply And.intro
  all_goals intro ρ hR
  all_goals intros
  all_goals first
    | (have hp : posB (ρ.l 0) = true := by with_reducible assumption
       exact ⟨by omega, pos_push hp⟩)
    | (omega)
theorem u14_ok (ρ : Env) : TblOK Φ ρ Try.prog u14 := addLp_ok (t7_ok ρ) ke1_ok
set_option maxRecDepth 100000 in
theorem ke2_obs : loopObs Φ Try.prog u14 1000 ke2.f (loopAt Try.prog ke2.f ke2.id) ke2.n ke2.T k2 ke2.outs = some
  [{
      pc :=
        [SB.le (SI.len (SL.app 14 (SA.l (SL.v 0) (SA.i (SI.v 2) SA.nil)))) (SI.c (Int.ofNat 64)),
          SB.lt (SI.v 2) (SI.v 0), SB.le (SI.c (Int.ofNat 1)) (SI.v 0), SB.le (SI.v 0) (SI.c (Int.ofNat 8)),
          SB.eq (SI.len (SL.v 0)) (SI.v 0), SB.le (SI.c (Int.ofNat 0)) (SI.v 2), SB.le (SI.v 2) (SI.v 0),
          SB.le (SI.len (SL.v 2)) (SI.v 2), SB.c true,
          SB.app 130 (SA.l (SL.v 0) (SA.l (SL.v 1) (SA.i (SI.c (Int.ofNat 64)) SA.nil))),
          SB.eqL (SL.v 2) (SL.app 1 (SA.l (SL.v 0) (SA.i (SI.v 2) SA.nil)))],
      eqs :=
        [Eqn.T (SB.lt (SI.sub (SI.v 0) (SI.add (SI.v 2) (SI.c (Int.ofNat 1)))) (SI.sub (SI.v 0) (SI.v 2))),
          Eqn.T (SB.lt (SI.c (Int.ofNat 0)) (SI.sub (SI.v 0) (SI.v 2))),
          Eqn.T
            (SB.eqL
              (SL.app 15
                (SA.l (SL.app 0 (SA.l (SL.v 2) (SA.l (SL.lit [[]]) SA.nil)))
                  (SA.i (SI.len (SL.v 2)) (SA.l (SL.app 14 (SA.l (SL.v 0) (SA.i (SI.v 2) SA.nil))) SA.nil))))
              (SL.app 1 (SA.l (SL.v 0) (SA.i (SI.add (SI.v 2) (SI.c (Int.ofNat 1))) SA.nil))))] },
    {
      pc :=
        [SB.not (SB.le (SI.len (SL.app 14 (SA.l (SL.v 0) (SA.i (SI.v 2) SA.nil)))) (SI.c (Int.ofNat 64))),
          SB.lt (SI.v 2) (SI.v 0), SB.le (SI.c (Int.ofNat 1)) (SI.v 0), SB.le (SI.v 0) (SI.c (Int.ofNat 8)),
          SB.eq (SI.len (SL.v 0)) (SI.v 0), SB.le (SI.c (Int.ofNat 0)) (SI.v 2), SB.le (SI.v 2) (SI.v 0),
          SB.le (SI.len (SL.v 2)) (SI.v 2), SB.c true,
          SB.app 130 (SA.l (SL.v 0) (SA.l (SL.v 1) (SA.i (SI.c (Int.ofNat 64)) SA.nil))),
          SB.eqL (SL.v 2) (SL.app 1 (SA.l (SL.v 0) (SA.i (SI.v 2) SA.nil)))],
      eqs := [Eqn.T (SB.c false)] },
    {
      pc :=
        [SB.not (SB.lt (SI.v 2) (SI.v 0)), SB.le (SI.c (Int.ofNat 1)) (SI.v 0), SB.le (SI.v 0) (SI.c (Int.ofNat 8)),
          SB.eq (SI.len (SL.v 0)) (SI.v 0), SB.le (SI.c (Int.ofNat 0)) (SI.v 2), SB.le (SI.v 2) (SI.v 0),
          SB.le (SI.len (SL.v 2)) (SI.v 2), SB.c true,
          SB.app 130 (SA.l (SL.v 0) (SA.l (SL.v 1) (SA.i (SI.c (Int.ofNat 64)) SA.nil))),
          SB.eqL (SL.v 2) (SL.app 1 (SA.l (SL.v 0) (SA.i (SI.v 2) SA.nil)))],
      eqs := [Eqn.I (SI.len (SL.v 0)) (SI.len (SL.v 2)), Eqn.L (SL.v 0) (SL.v 2)] }] := by kernel_rfl
theorem ke2_ok : ke2.ok Φ Try.prog := by
  refine ⟨by kernel_rfl, loop_rule (fun ρ => u14_ok ρ) (loopAt_sub (by kernel_rfl)) ke2_obs ?_⟩
  simp only [and_imp, List.forall_mem_cons, List.not_mem_nil, false_implies, implies_true, and_true, Ob.ok, holds, Eqn.ok, evB_eq, evB_lt, evB_le, evB_not, evB_and, evB_or, evB_eqL, evB_app, evB_v, evB_c, ev_sel, ev_len, ev_v, ev_c, ev_add, ev_sub, ev_mul, ev_quo, ev_rem, ev_bits, ev_wrap, evL_v, evL_lit, evL_app, ev_app, evA_l, evA_i, evA_nil, std_min, std_max, std_cat, std_take, std_drop, std_row, std_set, std_rep, std_find, std_put, std_del, std_flag, std_unflag, std_clr, std_left, std_copy, ints_cons, ints_nil, ofNat_lit, negSucc_lit, decide_eq_true_eq, Bool.and_eq_true, Bool.or_eq_true, Bool.not_eq_true', Bool.and_eq_false_iff, Bool.or_eq_false_iff, decide_eq_false_iff_not, std_rowT, std_setT, lenR_rowT, rowT_get, aI100, aI101, aI102, aI103, aI104, aI105, aI106, aI107, aI110, aI111, aI112, aI113, aI114, aL110, aL111, aL112, aL113, aL115, aL116, aL120, aL121, aB130, aB131, aB132, aB133, aB134, aB135, aB136, aB199, Bool.not_eq_false', aL122, aB137]
  repeat' apply And.intro
  all_goals intro ρ hR
  all_goals intros
  all_goals first
    | (have hL : ρ.l 2 = List.take (ρ.i 2).toNat (ρ.l 0) := by with_reducible assumption
       have e := take_row (T := ρ.l 0) (c := ρ.i 2) (by omega) (by omega)
       rw [hL]
       exact ⟨by omega, by omega, e⟩)
    | (have hv : invB (ρ.l 0) (ρ.l 1) 64 = true := by with_reducible assumption
       have h := inv_row hv (c := ρ.i 2) (by omega) (by omega)
       exfalso
       omega)
    | (have hL : ρ.l 2 = List.take (ρ.i 2).toNat (ρ.l 0) := by with_reducible assumption
       have e : ρ.l 2 = ρ.l 0 := by rw [hL]; exact List.take_of_length_le (by omega)
       rw [e]
       exact ⟨rfl, rfl⟩)
theorem t14_ok (ρ : Env) : TblOK Φ ρ Try.prog t14 := addFn_ok (addLp_ok (u14_ok ρ) ke2_ok) cInts_ok
set_option maxRecDepth 100000 in
theorem ke4_obs : loopObs Φ Try.prog t14 1000 ke4.f (loopAt Try.prog ke4.f ke4.id) ke4.n ke4.T k12 ke4.outs = some
  [{
      pc :=
        [SB.eq (SI.sel (SL.app 14 (SA.l (SL.v 3) (SA.i (SI.v 5) SA.nil))) (SI.v 2) 0) (SI.v 1),
          SB.lt (SI.v 2) (SI.len (SL.app 14 (SA.l (SL.v 3) (SA.i (SI.v 5) SA.nil)))),
          SB.le (SI.c (Int.ofNat 1)) (SI.v 0), SB.le (SI.v 0) (SI.c (Int.ofNat 8)), SB.eq (SI.len (SL.v 0)) (SI.v 0),
          SB.eq (SI.len (SL.v 3)) (SI.v 0), SB.le (SI.c (Int.ofNat 0)) (SI.v 5), SB.lt (SI.v 5) (SI.v 0),
          SB.le (SI.c (Int.ofNat 0)) (SI.v 2), SB.le (SI.v 2) (SI.c (Int.ofNat 65)), SB.le (SI.len (SL.v 2)) (SI.v 2),
          SB.c true, SB.app 130 (SA.l (SL.v 0) (SA.l (SL.v 1) (SA.i (SI.c (Int.ofNat 64)) SA.nil))),
          SB.le (SI.len (SL.app 14 (SA.l (SL.v 3) (SA.i (SI.v 5) SA.nil)))) (SI.c (Int.ofNat 65)),
          SB.eqL (SL.v 2) (SL.app 122 (SA.l (SL.v 3) (SA.i (SI.v 5) (SA.i (SI.v 1) (SA.i (SI.v 2) SA.nil)))))],
      eqs :=
        [Eqn.T
            (SB.lt
              (SI.sub (SI.len (SL.app 14 (SA.l (SL.v 3) (SA.i (SI.v 5) SA.nil))))
                (SI.add (SI.v 2) (SI.c (Int.ofNat 1))))
              (SI.sub (SI.len (SL.app 14 (SA.l (SL.v 3) (SA.i (SI.v 5) SA.nil)))) (SI.v 2))),
          Eqn.T
            (SB.lt (SI.c (Int.ofNat 0)) (SI.sub (SI.len (SL.app 14 (SA.l (SL.v 3) (SA.i (SI.v 5) SA.nil)))) (SI.v 2))),
          Eqn.T
            (SB.eqL (SL.v 2)
              (SL.app 122
                (SA.l (SL.v 3)
                  (SA.i (SI.v 5) (SA.i (SI.v 1) (SA.i (SI.add (SI.v 2) (SI.c (Int.ofNat 1))) SA.nil))))))] },
    {
      pc :=
        [SB.not (SB.eq (SI.sel (SL.app 14 (SA.l (SL.v 3) (SA.i (SI.v 5) SA.nil))) (SI.v 2) 0) (SI.v 1)),
          SB.lt (SI.v 2) (SI.len (SL.app 14 (SA.l (SL.v 3) (SA.i (SI.v 5) SA.nil)))),
          SB.le (SI.c (Int.ofNat 1)) (SI.v 0), SB.le (SI.v 0) (SI.c (Int.ofNat 8)), SB.eq (SI.len (SL.v 0)) (SI.v 0),
          SB.eq (SI.len (SL.v 3)) (SI.v 0), SB.le (SI.c (Int.ofNat 0)) (SI.v 5), SB.lt (SI.v 5) (SI.v 0),
          SB.le (SI.c (Int.ofNat 0)) (SI.v 2), SB.le (SI.v 2) (SI.c (Int.ofNat 65)), SB.le (SI.len (SL.v 2)) (SI.v 2),
          SB.c true, SB.app 130 (SA.l (SL.v 0) (SA.l (SL.v 1) (SA.i (SI.c (Int.ofNat 64)) SA.nil))),
          SB.le (SI.len (SL.app 14 (SA.l (SL.v 3) (SA.i (SI.v 5) SA.nil)))) (SI.c (Int.ofNat 65)),
          SB.eqL (SL.v 2) (SL.app 122 (SA.l (SL.v 3) (SA.i (SI.v 5) (SA.i (SI.v 1) (SA.i (SI.v 2) SA.nil)))))],
      eqs :=
        [Eqn.T
            (SB.lt
              (SI.sub (SI.len (SL.app 14 (SA.l (SL.v 3) (SA.i (SI.v 5) SA.nil))))
                (SI.add (SI.v 2) (SI.c (Int.ofNat 1))))
              (SI.sub (SI.len (SL.app 14 (SA.l (SL.v 3) (SA.i (SI.v 5) SA.nil)))) (SI.v 2))),
          Eqn.T
            (SB.lt (SI.c (Int.ofNat 0)) (SI.sub (SI.len (SL.app 14 (SA.l (SL.v 3) (SA.i (SI.v 5) SA.nil)))) (SI.v 2))),
          Eqn.T
            (SB.eqL
              (SL.app 0
                (SA.l (SL.v 2)
                  (SA.l (SL.app 3 (SA.i (SI.sel (SL.app 14 (SA.l (SL.v 3) (SA.i (SI.v 5) SA.nil))) (SI.v 2) 0) SA.nil))
                    SA.nil)))
              (SL.app 122
                (SA.l (SL.v 3)
                  (SA.i (SI.v 5) (SA.i (SI.v 1) (SA.i (SI.add (SI.v 2) (SI.c (Int.ofNat 1))) SA.nil))))))] },
    {
      pc :=
        [SB.not (SB.lt (SI.v 2) (SI.len (SL.app 14 (SA.l (SL.v 3) (SA.i (SI.v 5) SA.nil))))),
          SB.le (SI.c (Int.ofNat 1)) (SI.v 0), SB.le (SI.v 0) (SI.c (Int.ofNat 8)), SB.eq (SI.len (SL.v 0)) (SI.v 0),
          SB.eq (SI.len (SL.v 3)) (SI.v 0), SB.le (SI.c (Int.ofNat 0)) (SI.v 5), SB.lt (SI.v 5) (SI.v 0),
          SB.le (SI.c (Int.ofNat 0)) (SI.v 2), SB.le (SI.v 2) (SI.c (Int.ofNat 65)), SB.le (SI.len (SL.v 2)) (SI.v 2),
          SB.c true, SB.app 130 (SA.l (SL.v 0) (SA.l (SL.v 1) (SA.i (SI.c (Int.ofNat 64)) SA.nil))),
          SB.le (SI.len (SL.app 14 (SA.l (SL.v 3) (SA.i (SI.v 5) SA.nil)))) (SI.c (Int.ofNat 65)),
          SB.eqL (SL.v 2) (SL.app 122 (SA.l (SL.v 3) (SA.i (SI.v 5) (SA.i (SI.v 1) (SA.i (SI.v 2) SA.nil)))))],
      eqs :=
        [Eqn.T
            (SB.le
              (SI.len
                (SL.app 122
                  (SA.l (SL.v 3)
                    (SA.i (SI.v 5)
                      (SA.i (SI.v 1) (SA.i (SI.len (SL.app 14 (SA.l (SL.v 3) (SA.i (SI.v 5) SA.nil)))) SA.nil))))))
              (SI.c (Int.ofNat 65))),
          Eqn.I
            (SI.len
              (SL.app 122
                (SA.l (SL.v 3)
                  (SA.i (SI.v 5)
                    (SA.i (SI.v 1) (SA.i (SI.len (SL.app 14 (SA.l (SL.v 3) (SA.i (SI.v 5) SA.nil)))) SA.nil))))))
            (SI.len (SL.v 2)),
          Eqn.L
            (SL.app 122
              (SA.l (SL.v 3)
                (SA.i (SI.v 5)
                  (SA.i (SI.v 1) (SA.i (SI.len (SL.app 14 (SA.l (SL.v 3) (SA.i (SI.v 5) SA.nil)))) SA.nil)))))
            (SL.v 2)] }] := by kernel_rfl
theorem ke4_ok : ke4.ok Φ Try.prog := by
  refine ⟨by kernel_rfl, loop_rule (fun ρ => t14_ok ρ) (loopAt_sub (by kernel_rfl)) ke4_obs ?_⟩
  simp only [and_imp, List.forall_mem_cons, List.not_mem_nil, false_implies, implies_true, and_true, Ob.ok, holds, Eqn.ok, evB_eq, evB_lt, evB_le, evB_not, evB_and, evB_or, evB_eqL, evB_app, evB_v, evB_c, ev_sel, ev_len, ev_v, ev_c, ev_add, ev_sub, ev_mul, ev_quo, ev_rem, ev_bits, ev_wrap, evL_v, evL_lit, evL_app, ev_app, evA_l, evA_i, evA_nil, std_min, std_max, std_cat, std_take, std_drop, std_row, std_set, std_rep, std_find, std_put, std_del, std_flag, std_unflag, std_clr, std_left, std_copy, ints_cons, ints_nil, ofNat_lit, negSucc_lit, decide_eq_true_eq, Bool.and_eq_true, Bool.or_eq_true, Bool.not_eq_true', Bool.and_eq_false_iff, Bool.or_eq_false_iff, decide_eq_false_iff_not, std_rowT, std_setT, lenR_rowT, rowT_get, aI100, aI101, aI102, aI103, aI104, aI105, aI106, aI107, aI110, aI111, aI112, aI113, aI114, aL110, aL111, aL112, aL113, aL115, aL116, aL120, aL121, aB130, aB131, aB132, aB133, aB134, aB135, aB136, aB199, Bool.not_eq_false', aL122, aB137]
  repeat' apply And.intro
  all_goals intro ρ hR
  all_goals intros
  all_goals first
    | (have hL : ρ.l 2 = wantT (ρ.l 3) (ρ.i 5) (ρ.i 1) (ρ.i 2) := by with_reducible assumption
       have e := want_yes (T := ρ.l 3) (c := ρ.i 5) (n := ρ.i 2) (id := ρ.i 1) (by omega) (by omega) (by with_reducible assumption)
       rw [hL, e]
       exact ⟨by omega, by omega, rfl⟩)
    | (have hL : ρ.l 2 = wantT (ρ.l 3) (ρ.i 5) (ρ.i 1) (ρ.i 2) := by with_reducible assumption
       have e := want_no (T := ρ.l 3) (c := ρ.i 5) (n := ρ.i 2) (id := ρ.i 1) (by omega) (by omega) (by with_reducible assumption)
       rw [hL, e]
       exact ⟨by omega, by omega, rfl⟩)
    | (have hL : ρ.l 2 = wantT (ρ.l 3) (ρ.i 5) (ρ.i 1) (ρ.i 2) := by with_reducible assumption
       have e := want_ge (T := ρ.l 3) (c := ρ.i 5) (n := ρ.i 2) (id := ρ.i 1) (by omega)
       have hl := want_len (ρ.l 3) (ρ.i 5) (ρ.i 1) (lenR (ρ.l 3) (ρ.i 5))
       rw [hL, e]
       exact ⟨by omega, rfl, rfl⟩)
theorem t15_ok (ρ : Env) : TblOK Φ ρ Try.prog t15 := addLp_ok (t14_ok ρ) ke4_ok
set_option maxRecDepth 100000 in
theorem ke3_obs : loopObs Φ Try.prog t15 1000 ke3.f (loopAt Try.prog ke3.f ke3.id) ke3.n ke3.T k2 ke3.outs = some
  [{
      pc :=
        [SB.eqL (SL.app 14 (SA.l (SL.v 0) (SA.i (SI.v 2) SA.nil)))
            (SL.app 122
              (SA.l (SL.v 3)
                (SA.i (SI.v 2)
                  (SA.i (SI.v 1) (SA.i (SI.len (SL.app 14 (SA.l (SL.v 3) (SA.i (SI.v 2) SA.nil)))) SA.nil))))),
          SB.le (SI.len (SL.app 14 (SA.l (SL.v 0) (SA.i (SI.v 2) SA.nil)))) (SI.c (Int.ofNat 64)),
          SB.le
            (SI.len
              (SL.app 122
                (SA.l (SL.v 3)
                  (SA.i (SI.v 2)
                    (SA.i (SI.v 1) (SA.i (SI.len (SL.app 14 (SA.l (SL.v 3) (SA.i (SI.v 2) SA.nil)))) SA.nil))))))
            (SI.c (Int.ofNat 65)),
          SB.le (SI.len (SL.app 14 (SA.l (SL.v 3) (SA.i (SI.v 2) SA.nil)))) (SI.c (Int.ofNat 65)),
          SB.eqL (SL.lit [])
            (SL.app 122 (SA.l (SL.v 3) (SA.i (SI.v 2) (SA.i (SI.v 1) (SA.i (SI.c (Int.ofNat 0)) SA.nil))))),
          SB.lt (SI.v 2) (SI.v 0), SB.le (SI.c (Int.ofNat 1)) (SI.v 0), SB.le (SI.v 0) (SI.c (Int.ofNat 8)),
          SB.eq (SI.len (SL.v 0)) (SI.v 0), SB.eq (SI.len (SL.v 3)) (SI.v 0), SB.le (SI.c (Int.ofNat 0)) (SI.v 2),
          SB.le (SI.v 2) (SI.v 0), SB.c true,
          SB.app 130 (SA.l (SL.v 0) (SA.l (SL.v 1) (SA.i (SI.c (Int.ofNat 64)) SA.nil))),
          SB.eqL (SL.v 0) (SL.app 112 (SA.l (SL.v 3) (SA.i (SI.v 1) SA.nil))),
          SB.not (SB.app 131 (SA.l (SL.v 0) (SA.i (SI.v 1) SA.nil)))],
      eqs :=
        [Eqn.T (SB.lt (SI.sub (SI.v 0) (SI.add (SI.v 2) (SI.c (Int.ofNat 1)))) (SI.sub (SI.v 0) (SI.v 2))),
          Eqn.T (SB.lt (SI.c (Int.ofNat 0)) (SI.sub (SI.v 0) (SI.v 2)))] },
    {
      pc :=
        [SB.not
            (SB.eqL (SL.app 14 (SA.l (SL.v 0) (SA.i (SI.v 2) SA.nil)))
              (SL.app 122
                (SA.l (SL.v 3)
                  (SA.i (SI.v 2)
                    (SA.i (SI.v 1) (SA.i (SI.len (SL.app 14 (SA.l (SL.v 3) (SA.i (SI.v 2) SA.nil)))) SA.nil)))))),
          SB.le (SI.len (SL.app 14 (SA.l (SL.v 0) (SA.i (SI.v 2) SA.nil)))) (SI.c (Int.ofNat 64)),
          SB.le
            (SI.len
              (SL.app 122
                (SA.l (SL.v 3)
                  (SA.i (SI.v 2)
                    (SA.i (SI.v 1) (SA.i (SI.len (SL.app 14 (SA.l (SL.v 3) (SA.i (SI.v 2) SA.nil)))) SA.nil))))))
            (SI.c (Int.ofNat 65)),
          SB.le (SI.len (SL.app 14 (SA.l (SL.v 3) (SA.i (SI.v 2) SA.nil)))) (SI.c (Int.ofNat 65)),
          SB.eqL (SL.lit [])
            (SL.app 122 (SA.l (SL.v 3) (SA.i (SI.v 2) (SA.i (SI.v 1) (SA.i (SI.c (Int.ofNat 0)) SA.nil))))),
          SB.lt (SI.v 2) (SI.v 0), SB.le (SI.c (Int.ofNat 1)) (SI.v 0), SB.le (SI.v 0) (SI.c (Int.ofNat 8)),
          SB.eq (SI.len (SL.v 0)) (SI.v 0), SB.eq (SI.len (SL.v 3)) (SI.v 0), SB.le (SI.c (Int.ofNat 0)) (SI.v 2),
          SB.le (SI.v 2) (SI.v 0), SB.c true,
          SB.app 130 (SA.l (SL.v 0) (SA.l (SL.v 1) (SA.i (SI.c (Int.ofNat 64)) SA.nil))),
          SB.eqL (SL.v 0) (SL.app 112 (SA.l (SL.v 3) (SA.i (SI.v 1) SA.nil))),
          SB.not (SB.app 131 (SA.l (SL.v 0) (SA.i (SI.v 1) SA.nil)))],
      eqs := [Eqn.T (SB.c false)] },
    {
      pc :=
        [SB.not (SB.le (SI.len (SL.app 14 (SA.l (SL.v 0) (SA.i (SI.v 2) SA.nil)))) (SI.c (Int.ofNat 64))),
          SB.le
            (SI.len
              (SL.app 122
                (SA.l (SL.v 3)
                  (SA.i (SI.v 2)
                    (SA.i (SI.v 1) (SA.i (SI.len (SL.app 14 (SA.l (SL.v 3) (SA.i (SI.v 2) SA.nil)))) SA.nil))))))
            (SI.c (Int.ofNat 65)),
          SB.le (SI.len (SL.app 14 (SA.l (SL.v 3) (SA.i (SI.v 2) SA.nil)))) (SI.c (Int.ofNat 65)),
          SB.eqL (SL.lit [])
            (SL.app 122 (SA.l (SL.v 3) (SA.i (SI.v 2) (SA.i (SI.v 1) (SA.i (SI.c (Int.ofNat 0)) SA.nil))))),
          SB.lt (SI.v 2) (SI.v 0), SB.le (SI.c (Int.ofNat 1)) (SI.v 0), SB.le (SI.v 0) (SI.c (Int.ofNat 8)),
          SB.eq (SI.len (SL.v 0)) (SI.v 0), SB.eq (SI.len (SL.v 3)) (SI.v 0), SB.le (SI.c (Int.ofNat 0)) (SI.v 2),
          SB.le (SI.v 2) (SI.v 0), SB.c true,
          SB.app 130 (SA.l (SL.v 0) (SA.l (SL.v 1) (SA.i (SI.c (Int.ofNat 64)) SA.nil))),
          SB.eqL (SL.v 0) (SL.app 112 (SA.l (SL.v 3) (SA.i (SI.v 1) SA.nil))),
          SB.not (SB.app 131 (SA.l (SL.v 0) (SA.i (SI.v 1) SA.nil)))],
      eqs := [Eqn.T (SB.c false)] },
    {
      pc :=
        [SB.not (SB.le (SI.len (SL.app 14 (SA.l (SL.v 3) (SA.i (SI.v 2) SA.nil)))) (SI.c (Int.ofNat 65))),
          SB.lt (SI.v 2) (SI.v 0), SB.le (SI.c (Int.ofNat 1)) (SI.v 0), SB.le (SI.v 0) (SI.c (Int.ofNat 8)),
          SB.eq (SI.len (SL.v 0)) (SI.v 0), SB.eq (SI.len (SL.v 3)) (SI.v 0), SB.le (SI.c (Int.ofNat 0)) (SI.v 2),
          SB.le (SI.v 2) (SI.v 0), SB.c true,
          SB.app 130 (SA.l (SL.v 0) (SA.l (SL.v 1) (SA.i (SI.c (Int.ofNat 64)) SA.nil))),
          SB.eqL (SL.v 0) (SL.app 112 (SA.l (SL.v 3) (SA.i (SI.v 1) SA.nil))),
          SB.not (SB.app 131 (SA.l (SL.v 0) (SA.i (SI.v 1) SA.nil)))],
      eqs := [Eqn.T (SB.c false)] },
    {
      pc :=
        [SB.not
            (SB.eqL (SL.lit [])
              (SL.app 122 (SA.l (SL.v 3) (SA.i (SI.v 2) (SA.i (SI.v 1) (SA.i (SI.c (Int.ofNat 0)) SA.nil)))))),
          SB.lt (SI.v 2) (SI.v 0), SB.le (SI.c (Int.ofNat 1)) (SI.v 0), SB.le (SI.v 0) (SI.c (Int.ofNat 8)),
          SB.eq (SI.len (SL.v 0)) (SI.v 0), SB.eq (SI.len (SL.v 3)) (SI.v 0), SB.le (SI.c (Int.ofNat 0)) (SI.v 2),
          SB.le (SI.v 2) (SI.v 0), SB.c true,
          SB.app 130 (SA.l (SL.v 0) (SA.l (SL.v 1) (SA.i (SI.c (Int.ofNat 64)) SA.nil))),
          SB.eqL (SL.v 0) (SL.app 112 (SA.l (SL.v 3) (SA.i (SI.v 1) SA.nil))),
          SB.not (SB.app 131 (SA.l (SL.v 0) (SA.i (SI.v 1) SA.nil)))],
      eqs := [Eqn.T (SB.c false)] }] := by kernel_rfl
theorem ke3_ok : ke3.ok Φ Try.prog := by
  refine ⟨by kernel_rfl, loop_rule (fun ρ => t15_ok ρ) (loopAt_sub (by kernel_rfl)) ke3_obs ?_⟩
  simp only [and_imp, List.forall_mem_cons, List.not_mem_nil, false_implies, implies_true, and_true, Ob.ok, holds, Eqn.ok, evB_eq, evB_lt, evB_le, evB_not, evB_and, evB_or, evB_eqL, evB_app, evB_v, evB_c, ev_sel, ev_len, ev_v, ev_c, ev_add, ev_sub, ev_mul, ev_quo, ev_rem, ev_bits, ev_wrap, evL_v, evL_lit, evL_app, ev_app, evA_l, evA_i, evA_nil, std_min, std_max, std_cat, std_take, std_drop, std_row, std_set, std_rep, std_find, std_put, std_del, std_flag, std_unflag, std_clr, std_left, std_copy, ints_cons, ints_nil, ofNat_lit, negSucc_lit, decide_eq_true_eq, Bool.and_eq_true, Bool.or_eq_true, Bool.not_eq_true', Bool.and_eq_false_iff, Bool.or_eq_false_iff, decide_eq_false_iff_not, std_rowT, std_setT, lenR_rowT, rowT_get, aI100, aI101, aI102, aI103, aI104, aI105, aI106, aI107, aI110, aI111, aI112, aI113, aI114, aL110, aL111, aL112, aL113, aL115, aL116, aL120, aL121, aB130, aB131, aB132, aB133, aB134, aB135, aB136, aB199, Bool.not_eq_false', aL122, aB137]
  repeat' apply And.intro
  all_goals intro ρ hR
  all_goals intros
  all_goals first
    | (omega)
    | (exfalso
       have hT : ρ.l 0 = dropT (ρ.l 3) (ρ.i 1) := by with_reducible assumption
       have hn : hasB (ρ.l 0) (ρ.i 1) = false := by with_reducible assumption
       rw [hT] at hn
       have e := want_all (T := ρ.l 3) (c := ρ.i 2) (id := ρ.i 1) (by omega) (by omega) hn
       have h : ¬ rowT (ρ.l 0) (ρ.i 2) = wantT (ρ.l 3) (ρ.i 2) (ρ.i 1) (lenR (ρ.l 3) (ρ.i 2)) := by with_reducible assumption
       exact h (by rw [hT]; exact e))
    | (have hv : invB (ρ.l 0) (ρ.l 1) 64 = true := by with_reducible assumption
       have h := inv_row hv (c := ρ.i 2) (by omega) (by omega)
       exfalso
       omega)
    | (have hv : invB (ρ.l 0) (ρ.l 1) 64 = true := by with_reducible assumption
       have hT : ρ.l 0 = dropT (ρ.l 3) (ρ.i 1) := by with_reducible assumption
       have h := inv_row hv (c := ρ.i 2) (by omega) (by omega)
       have d := drop_lenR (T := ρ.l 3) (c := ρ.i 2) (id := ρ.i 1) (by omega) (by omega)
       rw [← hT] at d
       exfalso
       omega)
    | (exfalso
       have h : ¬ ([] : Tab) = wantT (ρ.l 3) (ρ.i 2) (ρ.i 1) 0 := by with_reducible assumption
       exact h (want_0 _ _ _).symm)
theorem t16_ok (ρ : Env) : TblOK Φ ρ Try.prog t16 := addLp_ok (t15_ok ρ) ke3_ok
set_option maxRecDepth 100000 in
theorem lKeeps0_obs : callObs Φ Try.prog t16 1000 lKeeps0.f lKeeps0.vs lKeeps0.o lKeeps0.pc lKeeps0.outs = some
  [{
      pc :=
        [SB.app 131 (SA.l (SL.app 112 (SA.l (SL.v 1001) (SA.i (SI.v 1) SA.nil))) (SA.i (SI.v 1) SA.nil)),
          SB.app 130
            (SA.l (SL.app 112 (SA.l (SL.v 1001) (SA.i (SI.v 1) SA.nil)))
              (SA.l (SL.v 2000) (SA.i (SI.c (Int.ofNat 64)) SA.nil))),
          SB.eq (SI.len (SL.app 112 (SA.l (SL.v 1001) (SA.i (SI.v 1) SA.nil)))) (SI.len (SL.v 1001)),
          SB.eqL
            (SL.app 15
              (SA.l (SL.lit [[]])
                (SA.i (SI.c (Int.ofNat 0))
                  (SA.l (SL.app 14 (SA.l (SL.v 1001) (SA.i (SI.c (Int.ofNat 0)) SA.nil))) SA.nil))))
            (SL.app 1 (SA.l (SL.v 1001) (SA.i (SI.c (Int.ofNat 1)) SA.nil))),
          SB.le (SI.len (SL.app 14 (SA.l (SL.v 1001) (SA.i (SI.c (Int.ofNat 0)) SA.nil)))) (SI.c (Int.ofNat 64)),
          SB.not (SB.app 131 (SA.l (SL.v 1001) (SA.i (SI.v 1) SA.nil))), SB.app 137 (SA.l (SL.v 1001) SA.nil),
          SB.app 130 (SA.l (SL.v 1001) (SA.l (SL.v 1000) (SA.i (SI.c (Int.ofNat 64)) SA.nil))),
          SB.eq (SI.len (SL.v 1001)) (SI.add (SI.rem (SI.v 0) (SI.c (Int.ofNat 8))) (SI.c (Int.ofNat 1))),
          SB.app 137
            (SA.l (SL.app 5 (SA.i (SI.add (SI.rem (SI.v 0) (SI.c (Int.ofNat 8))) (SI.c (Int.ofNat 1))) SA.nil)) SA.nil),
          SB.app 130
            (SA.l (SL.app 5 (SA.i (SI.add (SI.rem (SI.v 0) (SI.c (Int.ofNat 8))) (SI.c (Int.ofNat 1))) SA.nil))
              (SA.l (SL.lit []) (SA.i (SI.c (Int.ofNat 64)) SA.nil))),
          SB.eq (SI.len (SL.app 5 (SA.i (SI.add (SI.rem (SI.v 0) (SI.c (Int.ofNat 8))) (SI.c (Int.ofNat 1))) SA.nil)))
            (SI.add (SI.rem (SI.v 0) (SI.c (Int.ofNat 8))) (SI.c (Int.ofNat 1))),
          SB.le (SI.c (Int.ofNat 0)) (SI.v 0), SB.le (SI.v 0) (SI.c (Int.ofNat 255))],
      eqs := [Eqn.T (SB.c false)] },
    {
      pc :=
        [SB.not
            (SB.eqL
              (SL.app 15
                (SA.l (SL.lit [[]])
                  (SA.i (SI.c (Int.ofNat 0))
                    (SA.l (SL.app 14 (SA.l (SL.v 1001) (SA.i (SI.c (Int.ofNat 0)) SA.nil))) SA.nil))))
              (SL.app 1 (SA.l (SL.v 1001) (SA.i (SI.c (Int.ofNat 1)) SA.nil)))),
          SB.le (SI.len (SL.app 14 (SA.l (SL.v 1001) (SA.i (SI.c (Int.ofNat 0)) SA.nil)))) (SI.c (Int.ofNat 64)),
          SB.not (SB.app 131 (SA.l (SL.v 1001) (SA.i (SI.v 1) SA.nil))), SB.app 137 (SA.l (SL.v 1001) SA.nil),
          SB.app 130 (SA.l (SL.v 1001) (SA.l (SL.v 1000) (SA.i (SI.c (Int.ofNat 64)) SA.nil))),
          SB.eq (SI.len (SL.v 1001)) (SI.add (SI.rem (SI.v 0) (SI.c (Int.ofNat 8))) (SI.c (Int.ofNat 1))),
          SB.app 137
            (SA.l (SL.app 5 (SA.i (SI.add (SI.rem (SI.v 0) (SI.c (Int.ofNat 8))) (SI.c (Int.ofNat 1))) SA.nil)) SA.nil),
          SB.app 130
            (SA.l (SL.app 5 (SA.i (SI.add (SI.rem (SI.v 0) (SI.c (Int.ofNat 8))) (SI.c (Int.ofNat 1))) SA.nil))
              (SA.l (SL.lit []) (SA.i (SI.c (Int.ofNat 64)) SA.nil))),
          SB.eq (SI.len (SL.app 5 (SA.i (SI.add (SI.rem (SI.v 0) (SI.c (Int.ofNat 8))) (SI.c (Int.ofNat 1))) SA.nil)))
            (SI.add (SI.rem (SI.v 0) (SI.c (Int.ofNat 8))) (SI.c (Int.ofNat 1))),
          SB.le (SI.c (Int.ofNat 0)) (SI.v 0), SB.le (SI.v 0) (SI.c (Int.ofNat 255))],
      eqs := [Eqn.T (SB.c false)] },
    {
      pc :=
        [SB.not
            (SB.le (SI.len (SL.app 14 (SA.l (SL.v 1001) (SA.i (SI.c (Int.ofNat 0)) SA.nil)))) (SI.c (Int.ofNat 64))),
          SB.not (SB.app 131 (SA.l (SL.v 1001) (SA.i (SI.v 1) SA.nil))), SB.app 137 (SA.l (SL.v 1001) SA.nil),
          SB.app 130 (SA.l (SL.v 1001) (SA.l (SL.v 1000) (SA.i (SI.c (Int.ofNat 64)) SA.nil))),
          SB.eq (SI.len (SL.v 1001)) (SI.add (SI.rem (SI.v 0) (SI.c (Int.ofNat 8))) (SI.c (Int.ofNat 1))),
          SB.app 137
            (SA.l (SL.app 5 (SA.i (SI.add (SI.rem (SI.v 0) (SI.c (Int.ofNat 8))) (SI.c (Int.ofNat 1))) SA.nil)) SA.nil),
          SB.app 130
            (SA.l (SL.app 5 (SA.i (SI.add (SI.rem (SI.v 0) (SI.c (Int.ofNat 8))) (SI.c (Int.ofNat 1))) SA.nil))
              (SA.l (SL.lit []) (SA.i (SI.c (Int.ofNat 64)) SA.nil))),
          SB.eq (SI.len (SL.app 5 (SA.i (SI.add (SI.rem (SI.v 0) (SI.c (Int.ofNat 8))) (SI.c (Int.ofNat 1))) SA.nil)))
            (SI.add (SI.rem (SI.v 0) (SI.c (Int.ofNat 8))) (SI.c (Int.ofNat 1))),
          SB.le (SI.c (Int.ofNat 0)) (SI.v 0), SB.le (SI.v 0) (SI.c (Int.ofNat 255))],
      eqs := [Eqn.T (SB.c false)] },
    {
      pc :=
        [SB.not
            (SB.eq
              (SI.sel
                (SL.app 14
                  (SA.l
                    (SL.app 110
                      (SA.l (SL.app 112 (SA.l (SL.v 1001) (SA.i (SI.v 1) SA.nil)))
                        (SA.i (SI.app 101 (SA.l (SL.v 1001) (SA.i (SI.v 1) SA.nil)))
                          (SA.i (SI.v 1) (SA.i (SI.c (Int.ofNat 64)) SA.nil)))))
                    (SA.i (SI.app 101 (SA.l (SL.v 1001) (SA.i (SI.v 1) SA.nil))) SA.nil)))
                (SI.sub
                  (SI.len
                    (SL.app 14
                      (SA.l
                        (SL.app 110
                          (SA.l (SL.app 112 (SA.l (SL.v 1001) (SA.i (SI.v 1) SA.nil)))
                            (SA.i (SI.app 101 (SA.l (SL.v 1001) (SA.i (SI.v 1) SA.nil)))
                              (SA.i (SI.v 1) (SA.i (SI.c (Int.ofNat 64)) SA.nil)))))
                        (SA.i (SI.app 101 (SA.l (SL.v 1001) (SA.i (SI.v 1) SA.nil))) SA.nil))))
                  (SI.c (Int.ofNat 1)))
                0)
              (SI.v 1)),
          SB.eq
            (SI.len
              (SL.app 14
                (SA.l
                  (SL.app 110
                    (SA.l (SL.app 112 (SA.l (SL.v 1001) (SA.i (SI.v 1) SA.nil)))
                      (SA.i (SI.app 101 (SA.l (SL.v 1001) (SA.i (SI.v 1) SA.nil)))
                        (SA.i (SI.v 1) (SA.i (SI.c (Int.ofNat 64)) SA.nil)))))
                  (SA.i (SI.app 101 (SA.l (SL.v 1001) (SA.i (SI.v 1) SA.nil))) SA.nil))))
            (SI.len
              (SL.app 14 (SA.l (SL.v 1001) (SA.i (SI.app 101 (SA.l (SL.v 1001) (SA.i (SI.v 1) SA.nil))) SA.nil)))),
          SB.eq
            (SI.app 110
              (SA.l (SL.app 112 (SA.l (SL.v 1001) (SA.i (SI.v 1) SA.nil)))
                (SA.i (SI.app 101 (SA.l (SL.v 1001) (SA.i (SI.v 1) SA.nil)))
                  (SA.i (SI.v 1) (SA.i (SI.c (Int.ofNat 64)) SA.nil)))))
            (SI.c (Int.ofNat 0)),
          SB.le
            (SI.len
              (SL.app 14
                (SA.l
                  (SL.app 110
                    (SA.l (SL.app 112 (SA.l (SL.v 1001) (SA.i (SI.v 1) SA.nil)))
                      (SA.i (SI.app 101 (SA.l (SL.v 1001) (SA.i (SI.v 1) SA.nil)))
                        (SA.i (SI.v 1) (SA.i (SI.c (Int.ofNat 64)) SA.nil)))))
                  (SA.i (SI.app 101 (SA.l (SL.v 1001) (SA.i (SI.v 1) SA.nil))) SA.nil))))
            (SI.c (Int.ofNat 64)),
          SB.app 130
            (SA.l
              (SL.app 110
                (SA.l (SL.app 112 (SA.l (SL.v 1001) (SA.i (SI.v 1) SA.nil)))
                  (SA.i (SI.app 101 (SA.l (SL.v 1001) (SA.i (SI.v 1) SA.nil)))
                    (SA.i (SI.v 1) (SA.i (SI.c (Int.ofNat 64)) SA.nil)))))
              (SA.l (SL.v 3000) (SA.i (SI.c (Int.ofNat 64)) SA.nil))),
          SB.eq
            (SI.len
              (SL.app 110
                (SA.l (SL.app 112 (SA.l (SL.v 1001) (SA.i (SI.v 1) SA.nil)))
                  (SA.i (SI.app 101 (SA.l (SL.v 1001) (SA.i (SI.v 1) SA.nil)))
                    (SA.i (SI.v 1) (SA.i (SI.c (Int.ofNat 64)) SA.nil))))))
            (SI.len (SL.app 112 (SA.l (SL.v 1001) (SA.i (SI.v 1) SA.nil)))),
          SB.not (SB.app 131 (SA.l (SL.app 112 (SA.l (SL.v 1001) (SA.i (SI.v 1) SA.nil))) (SA.i (SI.v 1) SA.nil))),
          SB.app 130
            (SA.l (SL.app 112 (SA.l (SL.v 1001) (SA.i (SI.v 1) SA.nil)))
              (SA.l (SL.v 2000) (SA.i (SI.c (Int.ofNat 64)) SA.nil))),
          SB.eq (SI.len (SL.app 112 (SA.l (SL.v 1001) (SA.i (SI.v 1) SA.nil)))) (SI.len (SL.v 1001)),
          SB.eqL
            (SL.app 15
              (SA.l (SL.lit [[]])
                (SA.i (SI.c (Int.ofNat 0))
                  (SA.l (SL.app 14 (SA.l (SL.v 1001) (SA.i (SI.c (Int.ofNat 0)) SA.nil))) SA.nil))))
            (SL.app 1 (SA.l (SL.v 1001) (SA.i (SI.c (Int.ofNat 1)) SA.nil))),
          SB.le (SI.len (SL.app 14 (SA.l (SL.v 1001) (SA.i (SI.c (Int.ofNat 0)) SA.nil)))) (SI.c (Int.ofNat 64)),
          SB.eq
            (SI.sel (SL.app 14 (SA.l (SL.v 1001) (SA.i (SI.app 101 (SA.l (SL.v 1001) (SA.i (SI.v 1) SA.nil))) SA.nil)))
              (SI.app 102 (SA.l (SL.v 1001) (SA.i (SI.v 1) SA.nil))) 0)
            (SI.v 1),
          SB.le
            (SI.len (SL.app 14 (SA.l (SL.v 1001) (SA.i (SI.app 101 (SA.l (SL.v 1001) (SA.i (SI.v 1) SA.nil))) SA.nil))))
            (SI.c (Int.ofNat 64)),
          SB.lt (SI.app 102 (SA.l (SL.v 1001) (SA.i (SI.v 1) SA.nil)))
            (SI.len
              (SL.app 14 (SA.l (SL.v 1001) (SA.i (SI.app 101 (SA.l (SL.v 1001) (SA.i (SI.v 1) SA.nil))) SA.nil)))),
          SB.le (SI.c (Int.ofNat 0)) (SI.app 102 (SA.l (SL.v 1001) (SA.i (SI.v 1) SA.nil))),
          SB.lt (SI.app 101 (SA.l (SL.v 1001) (SA.i (SI.v 1) SA.nil))) (SI.len (SL.v 1001)),
          SB.le (SI.c (Int.ofNat 0)) (SI.app 101 (SA.l (SL.v 1001) (SA.i (SI.v 1) SA.nil))),
          SB.app 131 (SA.l (SL.v 1001) (SA.i (SI.v 1) SA.nil)), SB.app 137 (SA.l (SL.v 1001) SA.nil),
          SB.app 130 (SA.l (SL.v 1001) (SA.l (SL.v 1000) (SA.i (SI.c (Int.ofNat 64)) SA.nil))),
          SB.eq (SI.len (SL.v 1001)) (SI.add (SI.rem (SI.v 0) (SI.c (Int.ofNat 8))) (SI.c (Int.ofNat 1))),
          SB.app 137
            (SA.l (SL.app 5 (SA.i (SI.add (SI.rem (SI.v 0) (SI.c (Int.ofNat 8))) (SI.c (Int.ofNat 1))) SA.nil)) SA.nil),
          SB.app 130
            (SA.l (SL.app 5 (SA.i (SI.add (SI.rem (SI.v 0) (SI.c (Int.ofNat 8))) (SI.c (Int.ofNat 1))) SA.nil))
              (SA.l (SL.lit []) (SA.i (SI.c (Int.ofNat 64)) SA.nil))),
          SB.eq (SI.len (SL.app 5 (SA.i (SI.add (SI.rem (SI.v 0) (SI.c (Int.ofNat 8))) (SI.c (Int.ofNat 1))) SA.nil)))
            (SI.add (SI.rem (SI.v 0) (SI.c (Int.ofNat 8))) (SI.c (Int.ofNat 1))),
          SB.le (SI.c (Int.ofNat 0)) (SI.v 0), SB.le (SI.v 0) (SI.c (Int.ofNat 255))],
      eqs := [Eqn.T (SB.app 199 SA.nil)] },
    {
      pc :=
        [SB.not
            (SB.eq
              (SI.len
                (SL.app 14
                  (SA.l
                    (SL.app 110
                      (SA.l (SL.app 112 (SA.l (SL.v 1001) (SA.i (SI.v 1) SA.nil)))
                        (SA.i (SI.app 101 (SA.l (SL.v 1001) (SA.i (SI.v 1) SA.nil)))
                          (SA.i (SI.v 1) (SA.i (SI.c (Int.ofNat 64)) SA.nil)))))
                    (SA.i (SI.app 101 (SA.l (SL.v 1001) (SA.i (SI.v 1) SA.nil))) SA.nil))))
              (SI.len
                (SL.app 14 (SA.l (SL.v 1001) (SA.i (SI.app 101 (SA.l (SL.v 1001) (SA.i (SI.v 1) SA.nil))) SA.nil))))),
          SB.eq
            (SI.app 110
              (SA.l (SL.app 112 (SA.l (SL.v 1001) (SA.i (SI.v 1) SA.nil)))
                (SA.i (SI.app 101 (SA.l (SL.v 1001) (SA.i (SI.v 1) SA.nil)))
                  (SA.i (SI.v 1) (SA.i (SI.c (Int.ofNat 64)) SA.nil)))))
            (SI.c (Int.ofNat 0)),
          SB.le
            (SI.len
              (SL.app 14
                (SA.l
                  (SL.app 110
                    (SA.l (SL.app 112 (SA.l (SL.v 1001) (SA.i (SI.v 1) SA.nil)))
                      (SA.i (SI.app 101 (SA.l (SL.v 1001) (SA.i (SI.v 1) SA.nil)))
                        (SA.i (SI.v 1) (SA.i (SI.c (Int.ofNat 64)) SA.nil)))))
                  (SA.i (SI.app 101 (SA.l (SL.v 1001) (SA.i (SI.v 1) SA.nil))) SA.nil))))
            (SI.c (Int.ofNat 64)),
          SB.app 130
            (SA.l
              (SL.app 110
                (SA.l (SL.app 112 (SA.l (SL.v 1001) (SA.i (SI.v 1) SA.nil)))
                  (SA.i (SI.app 101 (SA.l (SL.v 1001) (SA.i (SI.v 1) SA.nil)))
                    (SA.i (SI.v 1) (SA.i (SI.c (Int.ofNat 64)) SA.nil)))))
              (SA.l (SL.v 3000) (SA.i (SI.c (Int.ofNat 64)) SA.nil))),
          SB.eq
            (SI.len
              (SL.app 110
                (SA.l (SL.app 112 (SA.l (SL.v 1001) (SA.i (SI.v 1) SA.nil)))
                  (SA.i (SI.app 101 (SA.l (SL.v 1001) (SA.i (SI.v 1) SA.nil)))
                    (SA.i (SI.v 1) (SA.i (SI.c (Int.ofNat 64)) SA.nil))))))
            (SI.len (SL.app 112 (SA.l (SL.v 1001) (SA.i (SI.v 1) SA.nil)))),
          SB.not (SB.app 131 (SA.l (SL.app 112 (SA.l (SL.v 1001) (SA.i (SI.v 1) SA.nil))) (SA.i (SI.v 1) SA.nil))),
          SB.app 130
            (SA.l (SL.app 112 (SA.l (SL.v 1001) (SA.i (SI.v 1) SA.nil)))
              (SA.l (SL.v 2000) (SA.i (SI.c (Int.ofNat 64)) SA.nil))),
          SB.eq (SI.len (SL.app 112 (SA.l (SL.v 1001) (SA.i (SI.v 1) SA.nil)))) (SI.len (SL.v 1001)),
          SB.eqL
            (SL.app 15
              (SA.l (SL.lit [[]])
                (SA.i (SI.c (Int.ofNat 0))
                  (SA.l (SL.app 14 (SA.l (SL.v 1001) (SA.i (SI.c (Int.ofNat 0)) SA.nil))) SA.nil))))
            (SL.app 1 (SA.l (SL.v 1001) (SA.i (SI.c (Int.ofNat 1)) SA.nil))),
          SB.le (SI.len (SL.app 14 (SA.l (SL.v 1001) (SA.i (SI.c (Int.ofNat 0)) SA.nil)))) (SI.c (Int.ofNat 64)),
          SB.eq
            (SI.sel (SL.app 14 (SA.l (SL.v 1001) (SA.i (SI.app 101 (SA.l (SL.v 1001) (SA.i (SI.v 1) SA.nil))) SA.nil)))
              (SI.app 102 (SA.l (SL.v 1001) (SA.i (SI.v 1) SA.nil))) 0)
            (SI.v 1),
          SB.le
            (SI.len (SL.app 14 (SA.l (SL.v 1001) (SA.i (SI.app 101 (SA.l (SL.v 1001) (SA.i (SI.v 1) SA.nil))) SA.nil))))
            (SI.c (Int.ofNat 64)),
          SB.lt (SI.app 102 (SA.l (SL.v 1001) (SA.i (SI.v 1) SA.nil)))
            (SI.len
              (SL.app 14 (SA.l (SL.v 1001) (SA.i (SI.app 101 (SA.l (SL.v 1001) (SA.i (SI.v 1) SA.nil))) SA.nil)))),
          SB.le (SI.c (Int.ofNat 0)) (SI.app 102 (SA.l (SL.v 1001) (SA.i (SI.v 1) SA.nil))),
          SB.lt (SI.app 101 (SA.l (SL.v 1001) (SA.i (SI.v 1) SA.nil))) (SI.len (SL.v 1001)),
          SB.le (SI.c (Int.ofNat 0)) (SI.app 101 (SA.l (SL.v 1001) (SA.i (SI.v 1) SA.nil))),
          SB.app 131 (SA.l (SL.v 1001) (SA.i (SI.v 1) SA.nil)), SB.app 137 (SA.l (SL.v 1001) SA.nil),
          SB.app 130 (SA.l (SL.v 1001) (SA.l (SL.v 1000) (SA.i (SI.c (Int.ofNat 64)) SA.nil))),
          SB.eq (SI.len (SL.v 1001)) (SI.add (SI.rem (SI.v 0) (SI.c (Int.ofNat 8))) (SI.c (Int.ofNat 1))),
          SB.app 137
            (SA.l (SL.app 5 (SA.i (SI.add (SI.rem (SI.v 0) (SI.c (Int.ofNat 8))) (SI.c (Int.ofNat 1))) SA.nil)) SA.nil),
          SB.app 130
            (SA.l (SL.app 5 (SA.i (SI.add (SI.rem (SI.v 0) (SI.c (Int.ofNat 8))) (SI.c (Int.ofNat 1))) SA.nil))
              (SA.l (SL.lit []) (SA.i (SI.c (Int.ofNat 64)) SA.nil))),
          SB.eq (SI.len (SL.app 5 (SA.i (SI.add (SI.rem (SI.v 0) (SI.c (Int.ofNat 8))) (SI.c (Int.ofNat 1))) SA.nil)))
            (SI.add (SI.rem (SI.v 0) (SI.c (Int.ofNat 8))) (SI.c (Int.ofNat 1))),
          SB.le (SI.c (Int.ofNat 0)) (SI.v 0), SB.le (SI.v 0) (SI.c (Int.ofNat 255))],
      eqs := [Eqn.T (SB.app 199 SA.nil)] },
    {
      pc :=
        [SB.not
            (SB.eq
              (SI.app 110
                (SA.l (SL.app 112 (SA.l (SL.v 1001) (SA.i (SI.v 1) SA.nil)))
                  (SA.i (SI.app 101 (SA.l (SL.v 1001) (SA.i (SI.v 1) SA.nil)))
                    (SA.i (SI.v 1) (SA.i (SI.c (Int.ofNat 64)) SA.nil)))))
              (SI.c (Int.ofNat 0))),
          SB.le
            (SI.len
              (SL.app 14
                (SA.l
                  (SL.app 110
                    (SA.l (SL.app 112 (SA.l (SL.v 1001) (SA.i (SI.v 1) SA.nil)))
                      (SA.i (SI.app 101 (SA.l (SL.v 1001) (SA.i (SI.v 1) SA.nil)))
                        (SA.i (SI.v 1) (SA.i (SI.c (Int.ofNat 64)) SA.nil)))))
                  (SA.i (SI.app 101 (SA.l (SL.v 1001) (SA.i (SI.v 1) SA.nil))) SA.nil))))
            (SI.c (Int.ofNat 64)),
          SB.app 130
            (SA.l
              (SL.app 110
                (SA.l (SL.app 112 (SA.l (SL.v 1001) (SA.i (SI.v 1) SA.nil)))
                  (SA.i (SI.app 101 (SA.l (SL.v 1001) (SA.i (SI.v 1) SA.nil)))
                    (SA.i (SI.v 1) (SA.i (SI.c (Int.ofNat 64)) SA.nil)))))
              (SA.l (SL.v 3000) (SA.i (SI.c (Int.ofNat 64)) SA.nil))),
          SB.eq
            (SI.len
              (SL.app 110
                (SA.l (SL.app 112 (SA.l (SL.v 1001) (SA.i (SI.v 1) SA.nil)))
                  (SA.i (SI.app 101 (SA.l (SL.v 1001) (SA.i (SI.v 1) SA.nil)))
                    (SA.i (SI.v 1) (SA.i (SI.c (Int.ofNat 64)) SA.nil))))))
            (SI.len (SL.app 112 (SA.l (SL.v 1001) (SA.i (SI.v 1) SA.nil)))),
          SB.not (SB.app 131 (SA.l (SL.app 112 (SA.l (SL.v 1001) (SA.i (SI.v 1) SA.nil))) (SA.i (SI.v 1) SA.nil))),
          SB.app 130
            (SA.l (SL.app 112 (SA.l (SL.v 1001) (SA.i (SI.v 1) SA.nil)))
              (SA.l (SL.v 2000) (SA.i (SI.c (Int.ofNat 64)) SA.nil))),
          SB.eq (SI.len (SL.app 112 (SA.l (SL.v 1001) (SA.i (SI.v 1) SA.nil)))) (SI.len (SL.v 1001)),
          SB.eqL
            (SL.app 15
              (SA.l (SL.lit [[]])
                (SA.i (SI.c (Int.ofNat 0))
                  (SA.l (SL.app 14 (SA.l (SL.v 1001) (SA.i (SI.c (Int.ofNat 0)) SA.nil))) SA.nil))))
            (SL.app 1 (SA.l (SL.v 1001) (SA.i (SI.c (Int.ofNat 1)) SA.nil))),
          SB.le (SI.len (SL.app 14 (SA.l (SL.v 1001) (SA.i (SI.c (Int.ofNat 0)) SA.nil)))) (SI.c (Int.ofNat 64)),
          SB.eq
            (SI.sel (SL.app 14 (SA.l (SL.v 1001) (SA.i (SI.app 101 (SA.l (SL.v 1001) (SA.i (SI.v 1) SA.nil))) SA.nil)))
              (SI.app 102 (SA.l (SL.v 1001) (SA.i (SI.v 1) SA.nil))) 0)
            (SI.v 1),
          SB.le
            (SI.len (SL.app 14 (SA.l (SL.v 1001) (SA.i (SI.app 101 (SA.l (SL.v 1001) (SA.i (SI.v 1) SA.nil))) SA.nil))))
            (SI.c (Int.ofNat 64)),
          SB.lt (SI.app 102 (SA.l (SL.v 1001) (SA.i (SI.v 1) SA.nil)))
            (SI.len
              (SL.app 14 (SA.l (SL.v 1001) (SA.i (SI.app 101 (SA.l (SL.v 1001) (SA.i (SI.v 1) SA.nil))) SA.nil)))),
          SB.le (SI.c (Int.ofNat 0)) (SI.app 102 (SA.l (SL.v 1001) (SA.i (SI.v 1) SA.nil))),
          SB.lt (SI.app 101 (SA.l (SL.v 1001) (SA.i (SI.v 1) SA.nil))) (SI.len (SL.v 1001)),
          SB.le (SI.c (Int.ofNat 0)) (SI.app 101 (SA.l (SL.v 1001) (SA.i (SI.v 1) SA.nil))),
          SB.app 131 (SA.l (SL.v 1001) (SA.i (SI.v 1) SA.nil)), SB.app 137 (SA.l (SL.v 1001) SA.nil),
          SB.app 130 (SA.l (SL.v 1001) (SA.l (SL.v 1000) (SA.i (SI.c (Int.ofNat 64)) SA.nil))),
          SB.eq (SI.len (SL.v 1001)) (SI.add (SI.rem (SI.v 0) (SI.c (Int.ofNat 8))) (SI.c (Int.ofNat 1))),
          SB.app 137
            (SA.l (SL.app 5 (SA.i (SI.add (SI.rem (SI.v 0) (SI.c (Int.ofNat 8))) (SI.c (Int.ofNat 1))) SA.nil)) SA.nil),
          SB.app 130
            (SA.l (SL.app 5 (SA.i (SI.add (SI.rem (SI.v 0) (SI.c (Int.ofNat 8))) (SI.c (Int.ofNat 1))) SA.nil))
              (SA.l (SL.lit []) (SA.i (SI.c (Int.ofNat 64)) SA.nil))),
          SB.eq (SI.len (SL.app 5 (SA.i (SI.add (SI.rem (SI.v 0) (SI.c (Int.ofNat 8))) (SI.c (Int.ofNat 1))) SA.nil)))
            (SI.add (SI.rem (SI.v 0) (SI.c (Int.ofNat 8))) (SI.c (Int.ofNat 1))),
          SB.le (SI.c (Int.ofNat 0)) (SI.v 0), SB.le (SI.v 0) (SI.c (Int.ofNat 255))],
      eqs := [Eqn.T (SB.app 199 SA.nil)] },
    {
      pc :=
        [SB.not
            (SB.le
              (SI.len
                (SL.app 14
                  (SA.l
                    (SL.app 110
                      (SA.l (SL.app 112 (SA.l (SL.v 1001) (SA.i (SI.v 1) SA.nil)))
                        (SA.i (SI.app 101 (SA.l (SL.v 1001) (SA.i (SI.v 1) SA.nil)))
                          (SA.i (SI.v 1) (SA.i (SI.c (Int.ofNat 64)) SA.nil)))))
                    (SA.i (SI.app 101 (SA.l (SL.v 1001) (SA.i (SI.v 1) SA.nil))) SA.nil))))
              (SI.c (Int.ofNat 64))),
          SB.app 130
            (SA.l
              (SL.app 110
                (SA.l (SL.app 112 (SA.l (SL.v 1001) (SA.i (SI.v 1) SA.nil)))
                  (SA.i (SI.app 101 (SA.l (SL.v 1001) (SA.i (SI.v 1) SA.nil)))
                    (SA.i (SI.v 1) (SA.i (SI.c (Int.ofNat 64)) SA.nil)))))
              (SA.l (SL.v 3000) (SA.i (SI.c (Int.ofNat 64)) SA.nil))),
          SB.eq
            (SI.len
              (SL.app 110
                (SA.l (SL.app 112 (SA.l (SL.v 1001) (SA.i (SI.v 1) SA.nil)))
                  (SA.i (SI.app 101 (SA.l (SL.v 1001) (SA.i (SI.v 1) SA.nil)))
                    (SA.i (SI.v 1) (SA.i (SI.c (Int.ofNat 64)) SA.nil))))))
            (SI.len (SL.app 112 (SA.l (SL.v 1001) (SA.i (SI.v 1) SA.nil)))),
          SB.not (SB.app 131 (SA.l (SL.app 112 (SA.l (SL.v 1001) (SA.i (SI.v 1) SA.nil))) (SA.i (SI.v 1) SA.nil))),
          SB.app 130
            (SA.l (SL.app 112 (SA.l (SL.v 1001) (SA.i (SI.v 1) SA.nil)))
              (SA.l (SL.v 2000) (SA.i (SI.c (Int.ofNat 64)) SA.nil))),
          SB.eq (SI.len (SL.app 112 (SA.l (SL.v 1001) (SA.i (SI.v 1) SA.nil)))) (SI.len (SL.v 1001)),
          SB.eqL
            (SL.app 15
              (SA.l (SL.lit [[]])
                (SA.i (SI.c (Int.ofNat 0))
                  (SA.l (SL.app 14 (SA.l (SL.v 1001) (SA.i (SI.c (Int.ofNat 0)) SA.nil))) SA.nil))))
            (SL.app 1 (SA.l (SL.v 1001) (SA.i (SI.c (Int.ofNat 1)) SA.nil))),
          SB.le (SI.len (SL.app 14 (SA.l (SL.v 1001) (SA.i (SI.c (Int.ofNat 0)) SA.nil)))) (SI.c (Int.ofNat 64)),
          SB.eq
            (SI.sel (SL.app 14 (SA.l (SL.v 1001) (SA.i (SI.app 101 (SA.l (SL.v 1001) (SA.i (SI.v 1) SA.nil))) SA.nil)))
              (SI.app 102 (SA.l (SL.v 1001) (SA.i (SI.v 1) SA.nil))) 0)
            (SI.v 1),
          SB.le
            (SI.len (SL.app 14 (SA.l (SL.v 1001) (SA.i (SI.app 101 (SA.l (SL.v 1001) (SA.i (SI.v 1) SA.nil))) SA.nil))))
            (SI.c (Int.ofNat 64)),
          SB.lt (SI.app 102 (SA.l (SL.v 1001) (SA.i (SI.v 1) SA.nil)))
            (SI.len
              (SL.app 14 (SA.l (SL.v 1001) (SA.i (SI.app 101 (SA.l (SL.v 1001) (SA.i (SI.v 1) SA.nil))) SA.nil)))),
          SB.le (SI.c (Int.ofNat 0)) (SI.app 102 (SA.l (SL.v 1001) (SA.i (SI.v 1) SA.nil))),
          SB.lt (SI.app 101 (SA.l (SL.v 1001) (SA.i (SI.v 1) SA.nil))) (SI.len (SL.v 1001)),
          SB.le (SI.c (Int.ofNat 0)) (SI.app 101 (SA.l (SL.v 1001) (SA.i (SI.v 1) SA.nil))),
          SB.app 131 (SA.l (SL.v 1001) (SA.i (SI.v 1) SA.nil)), SB.app 137 (SA.l (SL.v 1001) SA.nil),
          SB.app 130 (SA.l (SL.v 1001) (SA.l (SL.v 1000) (SA.i (SI.c (Int.ofNat 64)) SA.nil))),
          SB.eq (SI.len (SL.v 1001)) (SI.add (SI.rem (SI.v 0) (SI.c (Int.ofNat 8))) (SI.c (Int.ofNat 1))),
          SB.app 137
            (SA.l (SL.app 5 (SA.i (SI.add (SI.rem (SI.v 0) (SI.c (Int.ofNat 8))) (SI.c (Int.ofNat 1))) SA.nil)) SA.nil),
          SB.app 130
            (SA.l (SL.app 5 (SA.i (SI.add (SI.rem (SI.v 0) (SI.c (Int.ofNat 8))) (SI.c (Int.ofNat 1))) SA.nil))
              (SA.l (SL.lit []) (SA.i (SI.c (Int.ofNat 64)) SA.nil))),
          SB.eq (SI.len (SL.app 5 (SA.i (SI.add (SI.rem (SI.v 0) (SI.c (Int.ofNat 8))) (SI.c (Int.ofNat 1))) SA.nil)))
            (SI.add (SI.rem (SI.v 0) (SI.c (Int.ofNat 8))) (SI.c (Int.ofNat 1))),
          SB.le (SI.c (Int.ofNat 0)) (SI.v 0), SB.le (SI.v 0) (SI.c (Int.ofNat 255))],
      eqs := [Eqn.T (SB.c false)] },
    {
      pc :=
        [SB.app 131 (SA.l (SL.app 112 (SA.l (SL.v 1001) (SA.i (SI.v 1) SA.nil))) (SA.i (SI.v 1) SA.nil)),
          SB.app 130
            (SA.l (SL.app 112 (SA.l (SL.v 1001) (SA.i (SI.v 1) SA.nil)))
              (SA.l (SL.v 2000) (SA.i (SI.c (Int.ofNat 64)) SA.nil))),
          SB.eq (SI.len (SL.app 112 (SA.l (SL.v 1001) (SA.i (SI.v 1) SA.nil)))) (SI.len (SL.v 1001)),
          SB.eqL
            (SL.app 15
              (SA.l (SL.lit [[]])
                (SA.i (SI.c (Int.ofNat 0))
                  (SA.l (SL.app 14 (SA.l (SL.v 1001) (SA.i (SI.c (Int.ofNat 0)) SA.nil))) SA.nil))))
            (SL.app 1 (SA.l (SL.v 1001) (SA.i (SI.c (Int.ofNat 1)) SA.nil))),
          SB.le (SI.len (SL.app 14 (SA.l (SL.v 1001) (SA.i (SI.c (Int.ofNat 0)) SA.nil)))) (SI.c (Int.ofNat 64)),
          SB.eq
            (SI.sel (SL.app 14 (SA.l (SL.v 1001) (SA.i (SI.app 101 (SA.l (SL.v 1001) (SA.i (SI.v 1) SA.nil))) SA.nil)))
              (SI.app 102 (SA.l (SL.v 1001) (SA.i (SI.v 1) SA.nil))) 0)
            (SI.v 1),
          SB.le
            (SI.len (SL.app 14 (SA.l (SL.v 1001) (SA.i (SI.app 101 (SA.l (SL.v 1001) (SA.i (SI.v 1) SA.nil))) SA.nil))))
            (SI.c (Int.ofNat 64)),
          SB.lt (SI.app 102 (SA.l (SL.v 1001) (SA.i (SI.v 1) SA.nil)))
            (SI.len
              (SL.app 14 (SA.l (SL.v 1001) (SA.i (SI.app 101 (SA.l (SL.v 1001) (SA.i (SI.v 1) SA.nil))) SA.nil)))),
          SB.le (SI.c (Int.ofNat 0)) (SI.app 102 (SA.l (SL.v 1001) (SA.i (SI.v 1) SA.nil))),
          SB.lt (SI.app 101 (SA.l (SL.v 1001) (SA.i (SI.v 1) SA.nil))) (SI.len (SL.v 1001)),
          SB.le (SI.c (Int.ofNat 0)) (SI.app 101 (SA.l (SL.v 1001) (SA.i (SI.v 1) SA.nil))),
          SB.app 131 (SA.l (SL.v 1001) (SA.i (SI.v 1) SA.nil)), SB.app 137 (SA.l (SL.v 1001) SA.nil),
          SB.app 130 (SA.l (SL.v 1001) (SA.l (SL.v 1000) (SA.i (SI.c (Int.ofNat 64)) SA.nil))),
          SB.eq (SI.len (SL.v 1001)) (SI.add (SI.rem (SI.v 0) (SI.c (Int.ofNat 8))) (SI.c (Int.ofNat 1))),
          SB.app 137
            (SA.l (SL.app 5 (SA.i (SI.add (SI.rem (SI.v 0) (SI.c (Int.ofNat 8))) (SI.c (Int.ofNat 1))) SA.nil)) SA.nil),
          SB.app 130
            (SA.l (SL.app 5 (SA.i (SI.add (SI.rem (SI.v 0) (SI.c (Int.ofNat 8))) (SI.c (Int.ofNat 1))) SA.nil))
              (SA.l (SL.lit []) (SA.i (SI.c (Int.ofNat 64)) SA.nil))),
          SB.eq (SI.len (SL.app 5 (SA.i (SI.add (SI.rem (SI.v 0) (SI.c (Int.ofNat 8))) (SI.c (Int.ofNat 1))) SA.nil)))
            (SI.add (SI.rem (SI.v 0) (SI.c (Int.ofNat 8))) (SI.c (Int.ofNat 1))),
          SB.le (SI.c (Int.ofNat 0)) (SI.v 0), SB.le (SI.v 0) (SI.c (Int.ofNat 255))],
      eqs := [Eqn.T (SB.c false)] },
    {
      pc :=
        [SB.not
            (SB.eqL
              (SL.app 15
                (SA.l (SL.lit [[]])
                  (SA.i (SI.c (Int.ofNat 0))
                    (SA.l (SL.app 14 (SA.l (SL.v 1001) (SA.i (SI.c (Int.ofNat 0)) SA.nil))) SA.nil))))
              (SL.app 1 (SA.l (SL.v 1001) (SA.i (SI.c (Int.ofNat 1)) SA.nil)))),
          SB.le (SI.len (SL.app 14 (SA.l (SL.v 1001) (SA.i (SI.c (Int.ofNat 0)) SA.nil)))) (SI.c (Int.ofNat 64)),
          SB.eq
            (SI.sel (SL.app 14 (SA.l (SL.v 1001) (SA.i (SI.app 101 (SA.l (SL.v 1001) (SA.i (SI.v 1) SA.nil))) SA.nil)))
              (SI.app 102 (SA.l (SL.v 1001) (SA.i (SI.v 1) SA.nil))) 0)
            (SI.v 1),
          SB.le
            (SI.len (SL.app 14 (SA.l (SL.v 1001) (SA.i (SI.app 101 (SA.l (SL.v 1001) (SA.i (SI.v 1) SA.nil))) SA.nil))))
            (SI.c (Int.ofNat 64)),
          SB.lt (SI.app 102 (SA.l (SL.v 1001) (SA.i (SI.v 1) SA.nil)))
            (SI.len
              (SL.app 14 (SA.l (SL.v 1001) (SA.i (SI.app 101 (SA.l (SL.v 1001) (SA.i (SI.v 1) SA.nil))) SA.nil)))),
          SB.le (SI.c (Int.ofNat 0)) (SI.app 102 (SA.l (SL.v 1001) (SA.i (SI.v 1) SA.nil))),
          SB.lt (SI.app 101 (SA.l (SL.v 1001) (SA.i (SI.v 1) SA.nil))) (SI.len (SL.v 1001)),
          SB.le (SI.c (Int.ofNat 0)) (SI.app 101 (SA.l (SL.v 1001) (SA.i (SI.v 1) SA.nil))),
          SB.app 131 (SA.l (SL.v 1001) (SA.i (SI.v 1) SA.nil)), SB.app 137 (SA.l (SL.v 1001) SA.nil),
          SB.app 130 (SA.l (SL.v 1001) (SA.l (SL.v 1000) (SA.i (SI.c (Int.ofNat 64)) SA.nil))),
          SB.eq (SI.len (SL.v 1001)) (SI.add (SI.rem (SI.v 0) (SI.c (Int.ofNat 8))) (SI.c (Int.ofNat 1))),
          SB.app 137
            (SA.l (SL.app 5 (SA.i (SI.add (SI.rem (SI.v 0) (SI.c (Int.ofNat 8))) (SI.c (Int.ofNat 1))) SA.nil)) SA.nil),
          SB.app 130
            (SA.l (SL.app 5 (SA.i (SI.add (SI.rem (SI.v 0) (SI.c (Int.ofNat 8))) (SI.c (Int.ofNat 1))) SA.nil))
              (SA.l (SL.lit []) (SA.i (SI.c (Int.ofNat 64)) SA.nil))),
          SB.eq (SI.len (SL.app 5 (SA.i (SI.add (SI.rem (SI.v 0) (SI.c (Int.ofNat 8))) (SI.c (Int.ofNat 1))) SA.nil)))
            (SI.add (SI.rem (SI.v 0) (SI.c (Int.ofNat 8))) (SI.c (Int.ofNat 1))),
          SB.le (SI.c (Int.ofNat 0)) (SI.v 0), SB.le (SI.v 0) (SI.c (Int.ofNat 255))],
      eqs := [Eqn.T (SB.c false)] },
    {
      pc :=
        [SB.not
            (SB.le (SI.len (SL.app 14 (SA.l (SL.v 1001) (SA.i (SI.c (Int.ofNat 0)) SA.nil)))) (SI.c (Int.ofNat 64))),
          SB.eq
            (SI.sel (SL.app 14 (SA.l (SL.v 1001) (SA.i (SI.app 101 (SA.l (SL.v 1001) (SA.i (SI.v 1) SA.nil))) SA.nil)))
              (SI.app 102 (SA.l (SL.v 1001) (SA.i (SI.v 1) SA.nil))) 0)
            (SI.v 1),
          SB.le
            (SI.len (SL.app 14 (SA.l (SL.v 1001) (SA.i (SI.app 101 (SA.l (SL.v 1001) (SA.i (SI.v 1) SA.nil))) SA.nil))))
            (SI.c (Int.ofNat 64)),
          SB.lt (SI.app 102 (SA.l (SL.v 1001) (SA.i (SI.v 1) SA.nil)))
            (SI.len
              (SL.app 14 (SA.l (SL.v 1001) (SA.i (SI.app 101 (SA.l (SL.v 1001) (SA.i (SI.v 1) SA.nil))) SA.nil)))),
          SB.le (SI.c (Int.ofNat 0)) (SI.app 102 (SA.l (SL.v 1001) (SA.i (SI.v 1) SA.nil))),
          SB.lt (SI.app 101 (SA.l (SL.v 1001) (SA.i (SI.v 1) SA.nil))) (SI.len (SL.v 1001)),
          SB.le (SI.c (Int.ofNat 0)) (SI.app 101 (SA.l (SL.v 1001) (SA.i (SI.v 1) SA.nil))),
          SB.app 131 (SA.l (SL.v 1001) (SA.i (SI.v 1) SA.nil)), SB.app 137 (SA.l (SL.v 1001) SA.nil),
          SB.app 130 (SA.l (SL.v 1001) (SA.l (SL.v 1000) (SA.i (SI.c (Int.ofNat 64)) SA.nil))),
          SB.eq (SI.len (SL.v 1001)) (SI.add (SI.rem (SI.v 0) (SI.c (Int.ofNat 8))) (SI.c (Int.ofNat 1))),
          SB.app 137
            (SA.l (SL.app 5 (SA.i (SI.add (SI.rem (SI.v 0) (SI.c (Int.ofNat 8))) (SI.c (Int.ofNat 1))) SA.nil)) SA.nil),
          SB.app 130
            (SA.l (SL.app 5 (SA.i (SI.add (SI.rem (SI.v 0) (SI.c (Int.ofNat 8))) (SI.c (Int.ofNat 1))) SA.nil))
              (SA.l (SL.lit []) (SA.i (SI.c (Int.ofNat 64)) SA.nil))),
          SB.eq (SI.len (SL.app 5 (SA.i (SI.add (SI.rem (SI.v 0) (SI.c (Int.ofNat 8))) (SI.c (Int.ofNat 1))) SA.nil)))
            (SI.add (SI.rem (SI.v 0) (SI.c (Int.ofNat 8))) (SI.c (Int.ofNat 1))),
          SB.le (SI.c (Int.ofNat 0)) (SI.v 0), SB.le (SI.v 0) (SI.c (Int.ofNat 255))],
      eqs := [Eqn.T (SB.c false)] },
    {
      pc :=
        [SB.not
            (SB.app 137
              (SA.l (SL.app 5 (SA.i (SI.add (SI.rem (SI.v 0) (SI.c (Int.ofNat 8))) (SI.c (Int.ofNat 1))) SA.nil))
                SA.nil)),
          SB.app 130
            (SA.l (SL.app 5 (SA.i (SI.add (SI.rem (SI.v 0) (SI.c (Int.ofNat 8))) (SI.c (Int.ofNat 1))) SA.nil))
              (SA.l (SL.lit []) (SA.i (SI.c (Int.ofNat 64)) SA.nil))),
          SB.eq (SI.len (SL.app 5 (SA.i (SI.add (SI.rem (SI.v 0) (SI.c (Int.ofNat 8))) (SI.c (Int.ofNat 1))) SA.nil)))
            (SI.add (SI.rem (SI.v 0) (SI.c (Int.ofNat 8))) (SI.c (Int.ofNat 1))),
          SB.le (SI.c (Int.ofNat 0)) (SI.v 0), SB.le (SI.v 0) (SI.c (Int.ofNat 255))],
      eqs := [Eqn.T (SB.c false)] }] := by kernel_rfl
theorem lKeeps0_ok : lKeeps0.ok Φ Try.prog := by
  refine call_rule (fun ρ => t16_ok ρ) lKeeps0_obs ?_
  simp only [and_imp, List.forall_mem_cons, List.not_mem_nil, false_implies, implies_true, and_true, Ob.ok, holds, Eqn.ok, evB_eq, evB_lt, evB_le, evB_not, evB_and, evB_or, evB_eqL, evB_app, evB_v, evB_c, ev_sel, ev_len, ev_v, ev_c, ev_add, ev_sub, ev_mul, ev_quo, ev_rem, ev_bits, ev_wrap, evL_v, evL_lit, evL_app, ev_app, evA_l, evA_i, evA_nil, std_min, std_max, std_cat, std_take, std_drop, std_row, std_set, std_rep, std_find, std_put, std_del, std_flag, std_unflag, std_clr, std_left, std_copy, ints_cons, ints_nil, ofNat_lit, negSucc_lit, decide_eq_true_eq, Bool.and_eq_true, Bool.or_eq_true, Bool.not_eq_true', Bool.and_eq_false_iff, Bool.or_eq_false_iff, decide_eq_false_iff_not, std_rowT, std_setT, lenR_rowT, rowT_get, aI100, aI101, aI102, aI103, aI104, aI105, aI106, aI107, aI110, aI111, aI112, aI113, aI114, aL110, aL111, aL112, aL113, aL115, aL116, aL120, aL121, aB130, aB131, aB132, aB133, aB134, aB135, aB136, aB199, Bool.not_eq_false', aL122, aB137]
  repeat' apply And.intro
  all_goals intro ρ hR
  all_goals intros
  all_goals first
    | (have hm : 0 ≤ (ρ.i 0).tmod 8 := Int.tmod_nonneg _ (by omega)
       have hT : 1 ≤ ((ρ.l 1001).length : Int) := by omega
       exfalso
       have h : ¬ setT [[]] 0 (rowT (ρ.l 1001) 0) = List.take (Int.toNat 1) (ρ.l 1001) := by with_reducible assumption
       exact h (take_row0 hT))
    | (have hm : 0 ≤ (ρ.i 0).tmod 8 := Int.tmod_nonneg _ (by omega)
       have hT : 1 ≤ ((ρ.l 1001).length : Int) := by omega
       have hv : invB (ρ.l 1001) (ρ.l 1000) 64 = true := by with_reducible assumption
       have h := inv_row hv (c := 0) (by omega) (by omega)
       exfalso
       omega)
    | (have hm : 0 ≤ (ρ.i 0).tmod 8 := Int.tmod_nonneg _ (by omega)
       have hT : 1 ≤ ((ρ.l 1001).length : Int) := by omega
       have hv : invB (ρ.l 1001) (ρ.l 1000) 64 = true := by with_reducible assumption
       have hk : hasB (ρ.l 1001) (ρ.i 1) = true := by with_reducible assumption
       have hp : posB (ρ.l 1001) = true := by with_reducible assumption
       obtain ⟨b1, b2, b3⟩ := back hv hp hk
       obtain ⟨c0, c1, c2⟩ := cpu_row hk
       have hl := inv_row hv c0 c1
       exfalso
       exact absurd b3 (by with_reducible assumption))
    | (have hm : 0 ≤ (ρ.i 0).tmod 8 := Int.tmod_nonneg _ (by omega)
       have hT : 1 ≤ ((ρ.l 1001).length : Int) := by omega
       have hv : invB (ρ.l 1001) (ρ.l 1000) 64 = true := by with_reducible assumption
       have hk : hasB (ρ.l 1001) (ρ.i 1) = true := by with_reducible assumption
       have hp : posB (ρ.l 1001) = true := by with_reducible assumption
       obtain ⟨b1, b2, b3⟩ := back hv hp hk
       obtain ⟨c0, c1, c2⟩ := cpu_row hk
       have hl := inv_row hv c0 c1
       exfalso
       exact absurd b2 (by with_reducible assumption))
    | (have hm : 0 ≤ (ρ.i 0).tmod 8 := Int.tmod_nonneg _ (by omega)
       have hT : 1 ≤ ((ρ.l 1001).length : Int) := by omega
       have hv : invB (ρ.l 1001) (ρ.l 1000) 64 = true := by with_reducible assumption
       have hk : hasB (ρ.l 1001) (ρ.i 1) = true := by with_reducible assumption
       have hp : posB (ρ.l 1001) = true := by with_reducible assumption
       obtain ⟨b1, b2, b3⟩ := back hv hp hk
       obtain ⟨c0, c1, c2⟩ := cpu_row hk
       have hl := inv_row hv c0 c1
       exfalso
       exact absurd b1 (by with_reducible assumption))
    | (have hm : 0 ≤ (ρ.i 0).tmod 8 := Int.tmod_nonneg _ (by omega)
       have hT : 1 ≤ ((ρ.l 1001).length : Int) := by omega
       have hv : invB (ρ.l 1001) (ρ.l 1000) 64 = true := by with_reducible assumption
       have hk : hasB (ρ.l 1001) (ρ.i 1) = true := by with_reducible assumption
       have hp : posB (ρ.l 1001) = true := by with_reducible assumption
       obtain ⟨b1, b2, b3⟩ := back hv hp hk
       obtain ⟨c0, c1, c2⟩ := cpu_row hk
       have hl := inv_row hv c0 c1
       exfalso
       omega)
    | (have hv : invB (ρ.l 1001) (ρ.l 1000) 64 = true := by with_reducible assumption
       exfalso
       have h : hasB (dropT (ρ.l 1001) (ρ.i 1)) (ρ.i 1) = true := by with_reducible assumption
       rw [drop_gone hv] at h
       exact Bool.false_ne_true h)
    | (exfalso
       have h : posB (List.replicate ((ρ.i 0).tmod 8 + 1).toNat []) = false := by with_reducible assumption
       rw [pos_new] at h
       exact Bool.false_ne_true h.symm)
theorem lKeeps_ok : lKeeps.ok Φ Try.prog := drop_never rfl lKeeps0_ok
end Go.SF.C17
