/- The law of Even, shown. -/
import Derived.Test.YtmkklciobehohaaQ2
import Derived.Test.YtmkklciobehohaaC3
import Derived.KernelRfl
namespace Go.SF.C17
open Go Go.SF Go.Proofs
set_option linter.unusedVariables false
set_option linter.unusedSimpArgs false

set_option maxRecDepth 100000 in
theorem ev1_obs : loopObs Φ Try.prog t7 1000 ev1.f (loopAt Try.prog ev1.f ev1.id) ev1.n ev1.T k8 ev1.outs = some
  [{
      pc :=
        [SB.app 130
            (SA.l
              (SL.app 110
                (SA.l (SL.v 0)
                  (SA.i (SI.sel (SL.v 9) (SI.v 2) 1)
                    (SA.i (SI.sel (SL.v 9) (SI.v 2) 2) (SA.i (SI.c (Int.ofNat 64)) SA.nil)))))
              (SA.l (SL.v 1000) (SA.i (SI.c (Int.ofNat 64)) SA.nil))),
          SB.eq
            (SI.len
              (SL.app 110
                (SA.l (SL.v 0)
                  (SA.i (SI.sel (SL.v 9) (SI.v 2) 1)
                    (SA.i (SI.sel (SL.v 9) (SI.v 2) 2) (SA.i (SI.c (Int.ofNat 64)) SA.nil))))))
            (SI.len (SL.v 0)),
          SB.lt (SI.v 2) (SI.c (Int.ofNat 60)), SB.lt (SI.v 2) (SI.len (SL.v 9)), SB.le (SI.c (Int.ofNat 1)) (SI.v 0),
          SB.le (SI.v 0) (SI.c (Int.ofNat 8)), SB.eq (SI.len (SL.v 0)) (SI.v 0), SB.le (SI.c (Int.ofNat 0)) (SI.v 2),
          SB.le (SI.v 2) (SI.c (Int.ofNat 60)), SB.c true,
          SB.app 130 (SA.l (SL.v 0) (SA.l (SL.v 1) (SA.i (SI.c (Int.ofNat 64)) SA.nil)))],
      eqs :=
        [Eqn.T
            (SB.lt (SI.sub (SI.c (Int.ofNat 60)) (SI.add (SI.v 2) (SI.c (Int.ofNat 1))))
              (SI.sub (SI.c (Int.ofNat 60)) (SI.v 2)))] }] := by kernel_rfl
theorem ev1_ok : ev1.ok Φ Try.prog := by
  refine ⟨by kernel_rfl, loop_rule (fun ρ => t7_ok ρ) (loopAt_sub (by kernel_rfl)) ev1_obs ?_⟩
  simp only [and_imp, List.forall_mem_cons, List.not_mem_nil, false_implies, implies_true, and_true, Ob.ok, holds, Eqn.ok, evB_eq, evB_lt, evB_le, evB_not, evB_and, evB_or, evB_eqL, evB_app, evB_v, evB_c, ev_sel, ev_len, ev_v, ev_c, ev_add, ev_sub, ev_mul, ev_quo, ev_rem, ev_bits, ev_wrap, evL_v, evL_lit, evL_app, ev_app, evA_l, evA_i, evA_nil, std_min, std_max, std_cat, std_take, std_drop, std_row, std_set, std_rep, std_find, std_put, std_del, std_flag, std_unflag, std_clr, std_left, std_copy, ints_cons, ints_nil, ofNat_lit, negSucc_lit, decide_eq_true_eq, Bool.and_eq_true, Bool.or_eq_true, Bool.not_eq_true', Bool.and_eq_false_iff, Bool.or_eq_false_iff, decide_eq_false_iff_not, std_rowT, std_setT, lenR_rowT, rowT_get, aI100, aI101, aI102, aI103, aI104, aI105, aI106, aI107, aI110, aI111, aI112, aI113, aI114, aL110, aL111, aL112, aL113, aL115, aL116, aL120, aL121, aB130, aB131, aB132, aB133, aB134, aB135, aB136, aB199, Bool.not_eq_false']
  repeat' apply And.intro
  all_goals intro ρ hR
  all_goals intros
  all_goals first
    | (omega)
set_option maxRecDepth 100000 in
theorem ev2_obs : loopObs Φ Try.prog t7 1000 ev2.f (loopAt Try.prog ev2.f ev2.id) ev2.n ev2.T k2 ev2.outs = some
  [{
      pc :=
        [SB.lt (SI.c (Int.ofNat 0)) (SI.len (SL.app 14 (SA.l (SL.v 0) (SA.i (SI.v 2) SA.nil)))),
          SB.le (SI.len (SL.app 14 (SA.l (SL.v 0) (SA.i (SI.v 2) SA.nil)))) (SI.c (Int.ofNat 64)),
          SB.lt (SI.v 2) (SI.v 0), SB.le (SI.c (Int.ofNat 1)) (SI.v 0), SB.le (SI.v 0) (SI.c (Int.ofNat 8)),
          SB.eq (SI.len (SL.v 0)) (SI.v 0), SB.le (SI.c (Int.ofNat 0)) (SI.v 2), SB.le (SI.v 2) (SI.v 0),
          SB.le (SI.len (SL.v 2)) (SI.v 2), SB.c true,
          SB.app 130 (SA.l (SL.v 0) (SA.l (SL.v 1) (SA.i (SI.c (Int.ofNat 64)) SA.nil))),
          SB.eqL (SL.v 2) (SL.app 121 (SA.l (SL.v 0) (SA.i (SI.v 2) SA.nil)))],
      eqs :=
        [Eqn.T (SB.lt (SI.sub (SI.v 0) (SI.add (SI.v 2) (SI.c (Int.ofNat 1)))) (SI.sub (SI.v 0) (SI.v 2))),
          Eqn.T (SB.lt (SI.c (Int.ofNat 0)) (SI.sub (SI.v 0) (SI.v 2))),
          Eqn.T
            (SB.eqL
              (SL.app 0
                (SA.l (SL.v 2)
                  (SA.l
                    (SL.app 3
                      (SA.i (SI.sel (SL.app 14 (SA.l (SL.v 0) (SA.i (SI.v 2) SA.nil))) (SI.c (Int.ofNat 0)) 0) SA.nil))
                    SA.nil)))
              (SL.app 121 (SA.l (SL.v 0) (SA.i (SI.add (SI.v 2) (SI.c (Int.ofNat 1))) SA.nil))))] },
    {
      pc :=
        [SB.not (SB.lt (SI.c (Int.ofNat 0)) (SI.len (SL.app 14 (SA.l (SL.v 0) (SA.i (SI.v 2) SA.nil))))),
          SB.le (SI.len (SL.app 14 (SA.l (SL.v 0) (SA.i (SI.v 2) SA.nil)))) (SI.c (Int.ofNat 64)),
          SB.lt (SI.v 2) (SI.v 0), SB.le (SI.c (Int.ofNat 1)) (SI.v 0), SB.le (SI.v 0) (SI.c (Int.ofNat 8)),
          SB.eq (SI.len (SL.v 0)) (SI.v 0), SB.le (SI.c (Int.ofNat 0)) (SI.v 2), SB.le (SI.v 2) (SI.v 0),
          SB.le (SI.len (SL.v 2)) (SI.v 2), SB.c true,
          SB.app 130 (SA.l (SL.v 0) (SA.l (SL.v 1) (SA.i (SI.c (Int.ofNat 64)) SA.nil))),
          SB.eqL (SL.v 2) (SL.app 121 (SA.l (SL.v 0) (SA.i (SI.v 2) SA.nil)))],
      eqs :=
        [Eqn.T (SB.lt (SI.sub (SI.v 0) (SI.add (SI.v 2) (SI.c (Int.ofNat 1)))) (SI.sub (SI.v 0) (SI.v 2))),
          Eqn.T (SB.lt (SI.c (Int.ofNat 0)) (SI.sub (SI.v 0) (SI.v 2))),
          Eqn.T (SB.eqL (SL.v 2) (SL.app 121 (SA.l (SL.v 0) (SA.i (SI.add (SI.v 2) (SI.c (Int.ofNat 1))) SA.nil))))] },
    {
      pc :=
        [SB.not (SB.le (SI.len (SL.app 14 (SA.l (SL.v 0) (SA.i (SI.v 2) SA.nil)))) (SI.c (Int.ofNat 64))),
          SB.lt (SI.v 2) (SI.v 0), SB.le (SI.c (Int.ofNat 1)) (SI.v 0), SB.le (SI.v 0) (SI.c (Int.ofNat 8)),
          SB.eq (SI.len (SL.v 0)) (SI.v 0), SB.le (SI.c (Int.ofNat 0)) (SI.v 2), SB.le (SI.v 2) (SI.v 0),
          SB.le (SI.len (SL.v 2)) (SI.v 2), SB.c true,
          SB.app 130 (SA.l (SL.v 0) (SA.l (SL.v 1) (SA.i (SI.c (Int.ofNat 64)) SA.nil))),
          SB.eqL (SL.v 2) (SL.app 121 (SA.l (SL.v 0) (SA.i (SI.v 2) SA.nil)))],
      eqs := [Eqn.T (SB.c false)] },
    {
      pc :=
        [SB.not (SB.lt (SI.v 2) (SI.v 0)), SB.le (SI.c (Int.ofNat 1)) (SI.v 0), SB.le (SI.v 0) (SI.c (Int.ofNat 8)),
          SB.eq (SI.len (SL.v 0)) (SI.v 0), SB.le (SI.c (Int.ofNat 0)) (SI.v 2), SB.le (SI.v 2) (SI.v 0),
          SB.le (SI.len (SL.v 2)) (SI.v 2), SB.c true,
          SB.app 130 (SA.l (SL.v 0) (SA.l (SL.v 1) (SA.i (SI.c (Int.ofNat 64)) SA.nil))),
          SB.eqL (SL.v 2) (SL.app 121 (SA.l (SL.v 0) (SA.i (SI.v 2) SA.nil)))],
      eqs :=
        [Eqn.T (SB.le (SI.len (SL.app 121 (SA.l (SL.v 0) (SA.i (SI.v 0) SA.nil)))) (SI.v 0)),
          Eqn.I (SI.len (SL.app 121 (SA.l (SL.v 0) (SA.i (SI.v 0) SA.nil)))) (SI.len (SL.v 2)),
          Eqn.L (SL.app 121 (SA.l (SL.v 0) (SA.i (SI.v 0) SA.nil))) (SL.v 2)] }] := by kernel_rfl
theorem ev2_ok : ev2.ok Φ Try.prog := by
  refine ⟨by kernel_rfl, loop_rule (fun ρ => t7_ok ρ) (loopAt_sub (by kernel_rfl)) ev2_obs ?_⟩
  simp only [and_imp, List.forall_mem_cons, List.not_mem_nil, false_implies, implies_true, and_true, Ob.ok, holds, Eqn.ok, evB_eq, evB_lt, evB_le, evB_not, evB_and, evB_or, evB_eqL, evB_app, evB_v, evB_c, ev_sel, ev_len, ev_v, ev_c, ev_add, ev_sub, ev_mul, ev_quo, ev_rem, ev_bits, ev_wrap, evL_v, evL_lit, evL_app, ev_app, evA_l, evA_i, evA_nil, std_min, std_max, std_cat, std_take, std_drop, std_row, std_set, std_rep, std_find, std_put, std_del, std_flag, std_unflag, std_clr, std_left, std_copy, ints_cons, ints_nil, ofNat_lit, negSucc_lit, decide_eq_true_eq, Bool.and_eq_true, Bool.or_eq_true, Bool.not_eq_true', Bool.and_eq_false_iff, Bool.or_eq_false_iff, decide_eq_false_iff_not, std_rowT, std_setT, lenR_rowT, rowT_get, aI100, aI101, aI102, aI103, aI104, aI105, aI106, aI107, aI110, aI111, aI112, aI113, aI114, aL110, aL111, aL112, aL113, aL115, aL116, aL120, aL121, aB130, aB131, aB132, aB133, aB134, aB135, aB136, aB199, Bool.not_eq_false']
  repeat' apply And.intro
  all_goals intro ρ hR
  all_goals intros
  all_goals first
    | (have hL : ρ.l 2 = hdsT (ρ.l 0) (ρ.i 2) := by with_reducible assumption
       have e := hds_yes (T := ρ.l 0) (c := ρ.i 2) (by omega) (by omega) (by with_reducible assumption)
       rw [e, hL]
       exact ⟨by omega, by omega, rfl⟩)
    | (have hL : ρ.l 2 = hdsT (ρ.l 0) (ρ.i 2) := by with_reducible assumption
       have e := hds_no (T := ρ.l 0) (c := ρ.i 2) (by omega) (by omega) (by with_reducible assumption)
       rw [e]
       exact ⟨by omega, by omega, hL⟩)
    | (have hv : invB (ρ.l 0) (ρ.l 1) 64 = true := by with_reducible assumption
       have h := inv_row hv (c := ρ.i 2) (by omega) (by omega)
       exfalso
       omega)
    | (have hL : ρ.l 2 = hdsT (ρ.l 0) (ρ.i 2) := by with_reducible assumption
       have e : ρ.i 0 = ρ.i 2 := by omega
       have hl := hds_len (ρ.l 0) (c := ρ.i 2) (by omega)
       rw [e, hL]
       exact ⟨hl, rfl, rfl⟩)
set_option maxRecDepth 100000 in
theorem ev3_obs : loopObs Φ Try.prog t7 1000 ev3.f (loopAt Try.prog ev3.f ev3.id) ev3.n ev3.T k2 ev3.outs = some
  [{
      pc :=
        [SB.le (SI.len (SL.app 14 (SA.l (SL.v 0) (SA.i (SI.v 2) SA.nil)))) (SI.c (Int.ofNat 64)),
          SB.lt (SI.v 2) (SI.v 0), SB.le (SI.c (Int.ofNat 1)) (SI.v 0), SB.le (SI.v 0) (SI.c (Int.ofNat 8)),
          SB.eq (SI.len (SL.v 0)) (SI.v 0), SB.le (SI.c (Int.ofNat 0)) (SI.v 2), SB.le (SI.v 2) (SI.v 0), SB.c true,
          SB.app 130 (SA.l (SL.v 0) (SA.l (SL.v 1) (SA.i (SI.c (Int.ofNat 64)) SA.nil)))],
      eqs :=
        [Eqn.T (SB.lt (SI.sub (SI.v 0) (SI.add (SI.v 2) (SI.c (Int.ofNat 1)))) (SI.sub (SI.v 0) (SI.v 2))),
          Eqn.T (SB.lt (SI.c (Int.ofNat 0)) (SI.sub (SI.v 0) (SI.v 2)))] },
    {
      pc :=
        [SB.le (SI.len (SL.app 14 (SA.l (SL.v 0) (SA.i (SI.v 2) SA.nil)))) (SI.c (Int.ofNat 64)),
          SB.lt (SI.v 2) (SI.v 0), SB.le (SI.c (Int.ofNat 1)) (SI.v 0), SB.le (SI.v 0) (SI.c (Int.ofNat 8)),
          SB.eq (SI.len (SL.v 0)) (SI.v 0), SB.le (SI.c (Int.ofNat 0)) (SI.v 2), SB.le (SI.v 2) (SI.v 0), SB.c true,
          SB.app 130 (SA.l (SL.v 0) (SA.l (SL.v 1) (SA.i (SI.c (Int.ofNat 64)) SA.nil)))],
      eqs :=
        [Eqn.I (SI.app 106 (SA.l (SL.v 0) (SA.i (SI.v 2) (SA.i (SI.v 4) SA.nil))))
            (SI.app 106
              (SA.l (SL.v 0)
                (SA.i (SI.add (SI.v 2) (SI.c (Int.ofNat 1)))
                  (SA.i
                    (SI.app 0 (SA.i (SI.v 4) (SA.i (SI.len (SL.app 14 (SA.l (SL.v 0) (SA.i (SI.v 2) SA.nil)))) SA.nil)))
                    SA.nil)))),
          Eqn.I (SI.app 107 (SA.l (SL.v 0) (SA.i (SI.v 2) (SA.i (SI.v 5) SA.nil))))
            (SI.app 107
              (SA.l (SL.v 0)
                (SA.i (SI.add (SI.v 2) (SI.c (Int.ofNat 1)))
                  (SA.i
                    (SI.app 1 (SA.i (SI.v 5) (SA.i (SI.len (SL.app 14 (SA.l (SL.v 0) (SA.i (SI.v 2) SA.nil)))) SA.nil)))
                    SA.nil))))] },
    {
      pc :=
        [SB.not (SB.le (SI.len (SL.app 14 (SA.l (SL.v 0) (SA.i (SI.v 2) SA.nil)))) (SI.c (Int.ofNat 64))),
          SB.lt (SI.v 2) (SI.v 0), SB.le (SI.c (Int.ofNat 1)) (SI.v 0), SB.le (SI.v 0) (SI.c (Int.ofNat 8)),
          SB.eq (SI.len (SL.v 0)) (SI.v 0), SB.le (SI.c (Int.ofNat 0)) (SI.v 2), SB.le (SI.v 2) (SI.v 0), SB.c true,
          SB.app 130 (SA.l (SL.v 0) (SA.l (SL.v 1) (SA.i (SI.c (Int.ofNat 64)) SA.nil)))],
      eqs := [Eqn.T (SB.c false)] },
    {
      pc :=
        [SB.not (SB.lt (SI.v 2) (SI.v 0)), SB.le (SI.c (Int.ofNat 1)) (SI.v 0), SB.le (SI.v 0) (SI.c (Int.ofNat 8)),
          SB.eq (SI.len (SL.v 0)) (SI.v 0), SB.le (SI.c (Int.ofNat 0)) (SI.v 2), SB.le (SI.v 2) (SI.v 0), SB.c true,
          SB.app 130 (SA.l (SL.v 0) (SA.l (SL.v 1) (SA.i (SI.c (Int.ofNat 64)) SA.nil)))],
      eqs :=
        [Eqn.I (SI.app 106 (SA.l (SL.v 0) (SA.i (SI.v 2) (SA.i (SI.v 4) SA.nil)))) (SI.v 4),
          Eqn.I (SI.app 107 (SA.l (SL.v 0) (SA.i (SI.v 2) (SA.i (SI.v 5) SA.nil)))) (SI.v 5)] }] := by kernel_rfl
theorem ev3_ok : ev3.ok Φ Try.prog := by
  refine ⟨by kernel_rfl, loop_rule (fun ρ => t7_ok ρ) (loopAt_sub (by kernel_rfl)) ev3_obs ?_⟩
  simp only [and_imp, List.forall_mem_cons, List.not_mem_nil, false_implies, implies_true, and_true, Ob.ok, holds, Eqn.ok, evB_eq, evB_lt, evB_le, evB_not, evB_and, evB_or, evB_eqL, evB_app, evB_v, evB_c, ev_sel, ev_len, ev_v, ev_c, ev_add, ev_sub, ev_mul, ev_quo, ev_rem, ev_bits, ev_wrap, evL_v, evL_lit, evL_app, ev_app, evA_l, evA_i, evA_nil, std_min, std_max, std_cat, std_take, std_drop, std_row, std_set, std_rep, std_find, std_put, std_del, std_flag, std_unflag, std_clr, std_left, std_copy, ints_cons, ints_nil, ofNat_lit, negSucc_lit, decide_eq_true_eq, Bool.and_eq_true, Bool.or_eq_true, Bool.not_eq_true', Bool.and_eq_false_iff, Bool.or_eq_false_iff, decide_eq_false_iff_not, std_rowT, std_setT, lenR_rowT, rowT_get, aI100, aI101, aI102, aI103, aI104, aI105, aI106, aI107, aI110, aI111, aI112, aI113, aI114, aL110, aL111, aL112, aL113, aL115, aL116, aL120, aL121, aB130, aB131, aB132, aB133, aB134, aB135, aB136, aB199, Bool.not_eq_false']
  repeat' apply And.intro
  all_goals intro ρ hR
  all_goals intros
  all_goals first
    | (omega)
    | (exact ⟨low_step (by omega) (by omega), high_step (by omega) (by omega)⟩)
    | (have hv : invB (ρ.l 0) (ρ.l 1) 64 = true := by with_reducible assumption
       have h := inv_row hv (c := ρ.i 2) (by omega) (by omega)
       exfalso
       omega)
    | (exact ⟨low_end (by omega), high_end (by omega)⟩)
set_option maxRecDepth 100000 in
theorem ev4_obs : loopObs Φ Try.prog t7 1000 ev4.f (loopAt Try.prog ev4.f ev4.id) ev4.n ev4.T k9 ev4.outs = some
  [{
      pc :=
        [SB.not (SB.app 131 (SA.l (SL.v 0) (SA.i (SI.sel (SL.v 2) (SI.v 2) 0) SA.nil))),
          SB.lt (SI.v 2) (SI.len (SL.v 2)), SB.le (SI.c (Int.ofNat 1)) (SI.v 0), SB.le (SI.v 0) (SI.c (Int.ofNat 8)),
          SB.eq (SI.len (SL.v 0)) (SI.v 0), SB.le (SI.c (Int.ofNat 0)) (SI.v 2), SB.le (SI.v 2) (SI.len (SL.v 2)),
          SB.le (SI.len (SL.v 2)) (SI.c (Int.ofNat 8)), SB.c true,
          SB.app 130 (SA.l (SL.v 0) (SA.l (SL.v 1) (SA.i (SI.c (Int.ofNat 64)) SA.nil))),
          SB.app 135 (SA.l (SL.v 0) (SA.l (SL.v 2) SA.nil))],
      eqs := [Eqn.T (SB.app 199 SA.nil)] },
    {
      pc :=
        [SB.eq (SI.app 102 (SA.l (SL.v 0) (SA.i (SI.sel (SL.v 2) (SI.v 2) 0) SA.nil))) (SI.c (Int.ofNat 0)),
          SB.eq
            (SI.sel
              (SL.app 14
                (SA.l (SL.v 0) (SA.i (SI.app 101 (SA.l (SL.v 0) (SA.i (SI.sel (SL.v 2) (SI.v 2) 0) SA.nil))) SA.nil)))
              (SI.app 102 (SA.l (SL.v 0) (SA.i (SI.sel (SL.v 2) (SI.v 2) 0) SA.nil))) 0)
            (SI.sel (SL.v 2) (SI.v 2) 0),
          SB.le
            (SI.len
              (SL.app 14
                (SA.l (SL.v 0) (SA.i (SI.app 101 (SA.l (SL.v 0) (SA.i (SI.sel (SL.v 2) (SI.v 2) 0) SA.nil))) SA.nil))))
            (SI.c (Int.ofNat 64)),
          SB.lt (SI.app 102 (SA.l (SL.v 0) (SA.i (SI.sel (SL.v 2) (SI.v 2) 0) SA.nil)))
            (SI.len
              (SL.app 14
                (SA.l (SL.v 0) (SA.i (SI.app 101 (SA.l (SL.v 0) (SA.i (SI.sel (SL.v 2) (SI.v 2) 0) SA.nil))) SA.nil)))),
          SB.le (SI.c (Int.ofNat 0)) (SI.app 102 (SA.l (SL.v 0) (SA.i (SI.sel (SL.v 2) (SI.v 2) 0) SA.nil))),
          SB.lt (SI.app 101 (SA.l (SL.v 0) (SA.i (SI.sel (SL.v 2) (SI.v 2) 0) SA.nil))) (SI.len (SL.v 0)),
          SB.le (SI.c (Int.ofNat 0)) (SI.app 101 (SA.l (SL.v 0) (SA.i (SI.sel (SL.v 2) (SI.v 2) 0) SA.nil))),
          SB.app 131 (SA.l (SL.v 0) (SA.i (SI.sel (SL.v 2) (SI.v 2) 0) SA.nil)), SB.lt (SI.v 2) (SI.len (SL.v 2)),
          SB.le (SI.c (Int.ofNat 1)) (SI.v 0), SB.le (SI.v 0) (SI.c (Int.ofNat 8)), SB.eq (SI.len (SL.v 0)) (SI.v 0),
          SB.le (SI.c (Int.ofNat 0)) (SI.v 2), SB.le (SI.v 2) (SI.len (SL.v 2)),
          SB.le (SI.len (SL.v 2)) (SI.c (Int.ofNat 8)), SB.c true,
          SB.app 130 (SA.l (SL.v 0) (SA.l (SL.v 1) (SA.i (SI.c (Int.ofNat 64)) SA.nil))),
          SB.app 135 (SA.l (SL.v 0) (SA.l (SL.v 2) SA.nil))],
      eqs :=
        [Eqn.T
            (SB.lt (SI.sub (SI.len (SL.v 2)) (SI.add (SI.v 2) (SI.c (Int.ofNat 1))))
              (SI.sub (SI.len (SL.v 2)) (SI.v 2))),
          Eqn.T (SB.lt (SI.c (Int.ofNat 0)) (SI.sub (SI.len (SL.v 2)) (SI.v 2)))] },
    {
      pc :=
        [SB.not (SB.eq (SI.app 102 (SA.l (SL.v 0) (SA.i (SI.sel (SL.v 2) (SI.v 2) 0) SA.nil))) (SI.c (Int.ofNat 0))),
          SB.eq
            (SI.sel
              (SL.app 14
                (SA.l (SL.v 0) (SA.i (SI.app 101 (SA.l (SL.v 0) (SA.i (SI.sel (SL.v 2) (SI.v 2) 0) SA.nil))) SA.nil)))
              (SI.app 102 (SA.l (SL.v 0) (SA.i (SI.sel (SL.v 2) (SI.v 2) 0) SA.nil))) 0)
            (SI.sel (SL.v 2) (SI.v 2) 0),
          SB.le
            (SI.len
              (SL.app 14
                (SA.l (SL.v 0) (SA.i (SI.app 101 (SA.l (SL.v 0) (SA.i (SI.sel (SL.v 2) (SI.v 2) 0) SA.nil))) SA.nil))))
            (SI.c (Int.ofNat 64)),
          SB.lt (SI.app 102 (SA.l (SL.v 0) (SA.i (SI.sel (SL.v 2) (SI.v 2) 0) SA.nil)))
            (SI.len
              (SL.app 14
                (SA.l (SL.v 0) (SA.i (SI.app 101 (SA.l (SL.v 0) (SA.i (SI.sel (SL.v 2) (SI.v 2) 0) SA.nil))) SA.nil)))),
          SB.le (SI.c (Int.ofNat 0)) (SI.app 102 (SA.l (SL.v 0) (SA.i (SI.sel (SL.v 2) (SI.v 2) 0) SA.nil))),
          SB.lt (SI.app 101 (SA.l (SL.v 0) (SA.i (SI.sel (SL.v 2) (SI.v 2) 0) SA.nil))) (SI.len (SL.v 0)),
          SB.le (SI.c (Int.ofNat 0)) (SI.app 101 (SA.l (SL.v 0) (SA.i (SI.sel (SL.v 2) (SI.v 2) 0) SA.nil))),
          SB.app 131 (SA.l (SL.v 0) (SA.i (SI.sel (SL.v 2) (SI.v 2) 0) SA.nil)), SB.lt (SI.v 2) (SI.len (SL.v 2)),
          SB.le (SI.c (Int.ofNat 1)) (SI.v 0), SB.le (SI.v 0) (SI.c (Int.ofNat 8)), SB.eq (SI.len (SL.v 0)) (SI.v 0),
          SB.le (SI.c (Int.ofNat 0)) (SI.v 2), SB.le (SI.v 2) (SI.len (SL.v 2)),
          SB.le (SI.len (SL.v 2)) (SI.c (Int.ofNat 8)), SB.c true,
          SB.app 130 (SA.l (SL.v 0) (SA.l (SL.v 1) (SA.i (SI.c (Int.ofNat 64)) SA.nil))),
          SB.app 135 (SA.l (SL.v 0) (SA.l (SL.v 2) SA.nil))],
      eqs := [Eqn.T (SB.app 199 SA.nil)] }] := by kernel_rfl
theorem ev4_ok : ev4.ok Φ Try.prog := by
  refine ⟨by kernel_rfl, loop_rule (fun ρ => t7_ok ρ) (loopAt_sub (by kernel_rfl)) ev4_obs ?_⟩
  simp only [and_imp, List.forall_mem_cons, List.not_mem_nil, false_implies, implies_true, and_true, Ob.ok, holds, Eqn.ok, evB_eq, evB_lt, evB_le, evB_not, evB_and, evB_or, evB_eqL, evB_app, evB_v, evB_c, ev_sel, ev_len, ev_v, ev_c, ev_add, ev_sub, ev_mul, ev_quo, ev_rem, ev_bits, ev_wrap, evL_v, evL_lit, evL_app, ev_app, evA_l, evA_i, evA_nil, std_min, std_max, std_cat, std_take, std_drop, std_row, std_set, std_rep, std_find, std_put, std_del, std_flag, std_unflag, std_clr, std_left, std_copy, ints_cons, ints_nil, ofNat_lit, negSucc_lit, decide_eq_true_eq, Bool.and_eq_true, Bool.or_eq_true, Bool.not_eq_true', Bool.and_eq_false_iff, Bool.or_eq_false_iff, decide_eq_false_iff_not, std_rowT, std_setT, lenR_rowT, rowT_get, aI100, aI101, aI102, aI103, aI104, aI105, aI106, aI107, aI110, aI111, aI112, aI113, aI114, aL110, aL111, aL112, aL113, aL115, aL116, aL120, aL121, aB130, aB131, aB132, aB133, aB134, aB135, aB136, aB199, Bool.not_eq_false']
  repeat' apply And.intro
  all_goals intro ρ hR
  all_goals intros
  all_goals first
    | (omega)
    | (have e := hd_at (T := ρ.l 0) (H := ρ.l 2) (i := ρ.i 2) (by with_reducible assumption) (by omega) (by omega)
       exfalso
       exact Bool.false_ne_true (‹hasB _ _ = false›.symm.trans e.1))
    | (have e := hd_at (T := ρ.l 0) (H := ρ.l 2) (i := ρ.i 2) (by with_reducible assumption) (by omega) (by omega)
       exfalso
       omega)
theorem t12_ok (ρ : Env) : TblOK Φ ρ Try.prog t12 := addLp_ok (addLp_ok (addLp_ok (addLp_ok (t7_ok ρ) ev1_ok) ev2_ok) ev3_ok) ev4_ok
set_option maxRecDepth 100000 in
theorem lEven0_obs : callObs Φ Try.prog t12 1000 lEven0.f lEven0.vs lEven0.o lEven0.pc lEven0.outs = some
  [{
      pc :=
        [SB.not (SB.eq (SI.app 113 (SA.l (SL.app 113 (SA.l (SL.v 1001) SA.nil)) SA.nil)) (SI.c (Int.ofNat 0))),
          SB.app 130
            (SA.l (SL.app 113 (SA.l (SL.app 113 (SA.l (SL.v 1001) SA.nil)) SA.nil))
              (SA.l (SL.v 3000) (SA.i (SI.c (Int.ofNat 64)) SA.nil))),
          SB.eq (SI.len (SL.app 113 (SA.l (SL.app 113 (SA.l (SL.v 1001) SA.nil)) SA.nil)))
            (SI.len (SL.app 113 (SA.l (SL.v 1001) SA.nil))),
          SB.eq (SI.app 104 (SA.l (SL.app 113 (SA.l (SL.v 1001) SA.nil)) SA.nil))
            (SI.app 104 (SA.l (SL.v 1001) SA.nil)),
          SB.le
            (SI.app 107
              (SA.l (SL.app 113 (SA.l (SL.v 1001) SA.nil))
                (SA.i (SI.c (Int.ofNat 0)) (SA.i (SI.c (Int.ofNat 0)) SA.nil))))
            (SI.wrap IntKind.i64
              (SI.add
                (SI.app 106
                  (SA.l (SL.app 113 (SA.l (SL.v 1001) SA.nil))
                    (SA.i (SI.c (Int.ofNat 0)) (SA.i (SI.c (Int.ofNat 1000)) SA.nil))))
                (SI.c (Int.ofNat 1)))),
          SB.app 135
            (SA.l (SL.app 113 (SA.l (SL.v 1001) SA.nil))
              (SA.l
                (SL.app 121
                  (SA.l (SL.v 1001) (SA.i (SI.add (SI.rem (SI.v 0) (SI.c (Int.ofNat 8))) (SI.c (Int.ofNat 1))) SA.nil)))
                SA.nil)),
          SB.app 130
            (SA.l (SL.app 113 (SA.l (SL.v 1001) SA.nil)) (SA.l (SL.v 2000) (SA.i (SI.c (Int.ofNat 64)) SA.nil))),
          SB.eq (SI.len (SL.app 113 (SA.l (SL.v 1001) SA.nil))) (SI.len (SL.v 1001)),
          SB.le
            (SI.len
              (SL.app 121
                (SA.l (SL.v 1001) (SA.i (SI.add (SI.rem (SI.v 0) (SI.c (Int.ofNat 8))) (SI.c (Int.ofNat 1))) SA.nil))))
            (SI.add (SI.rem (SI.v 0) (SI.c (Int.ofNat 8))) (SI.c (Int.ofNat 1))),
          SB.eqL (SL.lit []) (SL.app 121 (SA.l (SL.v 1001) (SA.i (SI.c (Int.ofNat 0)) SA.nil))),
          SB.app 130 (SA.l (SL.v 1001) (SA.l (SL.v 1000) (SA.i (SI.c (Int.ofNat 64)) SA.nil))),
          SB.eq (SI.len (SL.v 1001)) (SI.add (SI.rem (SI.v 0) (SI.c (Int.ofNat 8))) (SI.c (Int.ofNat 1))),
          SB.app 130
            (SA.l (SL.app 5 (SA.i (SI.add (SI.rem (SI.v 0) (SI.c (Int.ofNat 8))) (SI.c (Int.ofNat 1))) SA.nil))
              (SA.l (SL.lit []) (SA.i (SI.c (Int.ofNat 64)) SA.nil))),
          SB.eq (SI.len (SL.app 5 (SA.i (SI.add (SI.rem (SI.v 0) (SI.c (Int.ofNat 8))) (SI.c (Int.ofNat 1))) SA.nil)))
            (SI.add (SI.rem (SI.v 0) (SI.c (Int.ofNat 8))) (SI.c (Int.ofNat 1))),
          SB.le (SI.c (Int.ofNat 0)) (SI.v 0), SB.le (SI.v 0) (SI.c (Int.ofNat 255))],
      eqs := [Eqn.T (SB.app 199 SA.nil)] },
    {
      pc :=
        [SB.not
            (SB.eq (SI.app 104 (SA.l (SL.app 113 (SA.l (SL.v 1001) SA.nil)) SA.nil))
              (SI.app 104 (SA.l (SL.v 1001) SA.nil))),
          SB.le
            (SI.app 107
              (SA.l (SL.app 113 (SA.l (SL.v 1001) SA.nil))
                (SA.i (SI.c (Int.ofNat 0)) (SA.i (SI.c (Int.ofNat 0)) SA.nil))))
            (SI.wrap IntKind.i64
              (SI.add
                (SI.app 106
                  (SA.l (SL.app 113 (SA.l (SL.v 1001) SA.nil))
                    (SA.i (SI.c (Int.ofNat 0)) (SA.i (SI.c (Int.ofNat 1000)) SA.nil))))
                (SI.c (Int.ofNat 1)))),
          SB.app 135
            (SA.l (SL.app 113 (SA.l (SL.v 1001) SA.nil))
              (SA.l
                (SL.app 121
                  (SA.l (SL.v 1001) (SA.i (SI.add (SI.rem (SI.v 0) (SI.c (Int.ofNat 8))) (SI.c (Int.ofNat 1))) SA.nil)))
                SA.nil)),
          SB.app 130
            (SA.l (SL.app 113 (SA.l (SL.v 1001) SA.nil)) (SA.l (SL.v 2000) (SA.i (SI.c (Int.ofNat 64)) SA.nil))),
          SB.eq (SI.len (SL.app 113 (SA.l (SL.v 1001) SA.nil))) (SI.len (SL.v 1001)),
          SB.le
            (SI.len
              (SL.app 121
                (SA.l (SL.v 1001) (SA.i (SI.add (SI.rem (SI.v 0) (SI.c (Int.ofNat 8))) (SI.c (Int.ofNat 1))) SA.nil))))
            (SI.add (SI.rem (SI.v 0) (SI.c (Int.ofNat 8))) (SI.c (Int.ofNat 1))),
          SB.eqL (SL.lit []) (SL.app 121 (SA.l (SL.v 1001) (SA.i (SI.c (Int.ofNat 0)) SA.nil))),
          SB.app 130 (SA.l (SL.v 1001) (SA.l (SL.v 1000) (SA.i (SI.c (Int.ofNat 64)) SA.nil))),
          SB.eq (SI.len (SL.v 1001)) (SI.add (SI.rem (SI.v 0) (SI.c (Int.ofNat 8))) (SI.c (Int.ofNat 1))),
          SB.app 130
            (SA.l (SL.app 5 (SA.i (SI.add (SI.rem (SI.v 0) (SI.c (Int.ofNat 8))) (SI.c (Int.ofNat 1))) SA.nil))
              (SA.l (SL.lit []) (SA.i (SI.c (Int.ofNat 64)) SA.nil))),
          SB.eq (SI.len (SL.app 5 (SA.i (SI.add (SI.rem (SI.v 0) (SI.c (Int.ofNat 8))) (SI.c (Int.ofNat 1))) SA.nil)))
            (SI.add (SI.rem (SI.v 0) (SI.c (Int.ofNat 8))) (SI.c (Int.ofNat 1))),
          SB.le (SI.c (Int.ofNat 0)) (SI.v 0), SB.le (SI.v 0) (SI.c (Int.ofNat 255))],
      eqs := [Eqn.T (SB.app 199 SA.nil)] },
    {
      pc :=
        [SB.not
            (SB.le
              (SI.app 107
                (SA.l (SL.app 113 (SA.l (SL.v 1001) SA.nil))
                  (SA.i (SI.c (Int.ofNat 0)) (SA.i (SI.c (Int.ofNat 0)) SA.nil))))
              (SI.wrap IntKind.i64
                (SI.add
                  (SI.app 106
                    (SA.l (SL.app 113 (SA.l (SL.v 1001) SA.nil))
                      (SA.i (SI.c (Int.ofNat 0)) (SA.i (SI.c (Int.ofNat 1000)) SA.nil))))
                  (SI.c (Int.ofNat 1))))),
          SB.app 135
            (SA.l (SL.app 113 (SA.l (SL.v 1001) SA.nil))
              (SA.l
                (SL.app 121
                  (SA.l (SL.v 1001) (SA.i (SI.add (SI.rem (SI.v 0) (SI.c (Int.ofNat 8))) (SI.c (Int.ofNat 1))) SA.nil)))
                SA.nil)),
          SB.app 130
            (SA.l (SL.app 113 (SA.l (SL.v 1001) SA.nil)) (SA.l (SL.v 2000) (SA.i (SI.c (Int.ofNat 64)) SA.nil))),
          SB.eq (SI.len (SL.app 113 (SA.l (SL.v 1001) SA.nil))) (SI.len (SL.v 1001)),
          SB.le
            (SI.len
              (SL.app 121
                (SA.l (SL.v 1001) (SA.i (SI.add (SI.rem (SI.v 0) (SI.c (Int.ofNat 8))) (SI.c (Int.ofNat 1))) SA.nil))))
            (SI.add (SI.rem (SI.v 0) (SI.c (Int.ofNat 8))) (SI.c (Int.ofNat 1))),
          SB.eqL (SL.lit []) (SL.app 121 (SA.l (SL.v 1001) (SA.i (SI.c (Int.ofNat 0)) SA.nil))),
          SB.app 130 (SA.l (SL.v 1001) (SA.l (SL.v 1000) (SA.i (SI.c (Int.ofNat 64)) SA.nil))),
          SB.eq (SI.len (SL.v 1001)) (SI.add (SI.rem (SI.v 0) (SI.c (Int.ofNat 8))) (SI.c (Int.ofNat 1))),
          SB.app 130
            (SA.l (SL.app 5 (SA.i (SI.add (SI.rem (SI.v 0) (SI.c (Int.ofNat 8))) (SI.c (Int.ofNat 1))) SA.nil))
              (SA.l (SL.lit []) (SA.i (SI.c (Int.ofNat 64)) SA.nil))),
          SB.eq (SI.len (SL.app 5 (SA.i (SI.add (SI.rem (SI.v 0) (SI.c (Int.ofNat 8))) (SI.c (Int.ofNat 1))) SA.nil)))
            (SI.add (SI.rem (SI.v 0) (SI.c (Int.ofNat 8))) (SI.c (Int.ofNat 1))),
          SB.le (SI.c (Int.ofNat 0)) (SI.v 0), SB.le (SI.v 0) (SI.c (Int.ofNat 255))],
      eqs := [Eqn.T (SB.app 199 SA.nil)] },
    {
      pc :=
        [SB.not
            (SB.app 135
              (SA.l (SL.app 113 (SA.l (SL.v 1001) SA.nil))
                (SA.l
                  (SL.app 121
                    (SA.l (SL.v 1001)
                      (SA.i (SI.add (SI.rem (SI.v 0) (SI.c (Int.ofNat 8))) (SI.c (Int.ofNat 1))) SA.nil)))
                  SA.nil))),
          SB.app 130
            (SA.l (SL.app 113 (SA.l (SL.v 1001) SA.nil)) (SA.l (SL.v 2000) (SA.i (SI.c (Int.ofNat 64)) SA.nil))),
          SB.eq (SI.len (SL.app 113 (SA.l (SL.v 1001) SA.nil))) (SI.len (SL.v 1001)),
          SB.le
            (SI.len
              (SL.app 121
                (SA.l (SL.v 1001) (SA.i (SI.add (SI.rem (SI.v 0) (SI.c (Int.ofNat 8))) (SI.c (Int.ofNat 1))) SA.nil))))
            (SI.add (SI.rem (SI.v 0) (SI.c (Int.ofNat 8))) (SI.c (Int.ofNat 1))),
          SB.eqL (SL.lit []) (SL.app 121 (SA.l (SL.v 1001) (SA.i (SI.c (Int.ofNat 0)) SA.nil))),
          SB.app 130 (SA.l (SL.v 1001) (SA.l (SL.v 1000) (SA.i (SI.c (Int.ofNat 64)) SA.nil))),
          SB.eq (SI.len (SL.v 1001)) (SI.add (SI.rem (SI.v 0) (SI.c (Int.ofNat 8))) (SI.c (Int.ofNat 1))),
          SB.app 130
            (SA.l (SL.app 5 (SA.i (SI.add (SI.rem (SI.v 0) (SI.c (Int.ofNat 8))) (SI.c (Int.ofNat 1))) SA.nil))
              (SA.l (SL.lit []) (SA.i (SI.c (Int.ofNat 64)) SA.nil))),
          SB.eq (SI.len (SL.app 5 (SA.i (SI.add (SI.rem (SI.v 0) (SI.c (Int.ofNat 8))) (SI.c (Int.ofNat 1))) SA.nil)))
            (SI.add (SI.rem (SI.v 0) (SI.c (Int.ofNat 8))) (SI.c (Int.ofNat 1))),
          SB.le (SI.c (Int.ofNat 0)) (SI.v 0), SB.le (SI.v 0) (SI.c (Int.ofNat 255))],
      eqs := [Eqn.T (SB.c false)] },
    {
      pc :=
        [SB.not (SB.eqL (SL.lit []) (SL.app 121 (SA.l (SL.v 1001) (SA.i (SI.c (Int.ofNat 0)) SA.nil)))),
          SB.app 130 (SA.l (SL.v 1001) (SA.l (SL.v 1000) (SA.i (SI.c (Int.ofNat 64)) SA.nil))),
          SB.eq (SI.len (SL.v 1001)) (SI.add (SI.rem (SI.v 0) (SI.c (Int.ofNat 8))) (SI.c (Int.ofNat 1))),
          SB.app 130
            (SA.l (SL.app 5 (SA.i (SI.add (SI.rem (SI.v 0) (SI.c (Int.ofNat 8))) (SI.c (Int.ofNat 1))) SA.nil))
              (SA.l (SL.lit []) (SA.i (SI.c (Int.ofNat 64)) SA.nil))),
          SB.eq (SI.len (SL.app 5 (SA.i (SI.add (SI.rem (SI.v 0) (SI.c (Int.ofNat 8))) (SI.c (Int.ofNat 1))) SA.nil)))
            (SI.add (SI.rem (SI.v 0) (SI.c (Int.ofNat 8))) (SI.c (Int.ofNat 1))),
          SB.le (SI.c (Int.ofNat 0)) (SI.v 0), SB.le (SI.v 0) (SI.c (Int.ofNat 255))],
      eqs := [Eqn.T (SB.c false)] }] := by kernel_rfl
theorem lEven0_ok : lEven0.ok Φ Try.prog := by
  refine call_rule (fun ρ => t12_ok ρ) lEven0_obs ?_
  simp only [and_imp, List.forall_mem_cons, List.not_mem_nil, false_implies, implies_true, and_true, Ob.ok, holds, Eqn.ok, evB_eq, evB_lt, evB_le, evB_not, evB_and, evB_or, evB_eqL, evB_app, evB_v, evB_c, ev_sel, ev_len, ev_v, ev_c, ev_add, ev_sub, ev_mul, ev_quo, ev_rem, ev_bits, ev_wrap, evL_v, evL_lit, evL_app, ev_app, evA_l, evA_i, evA_nil, std_min, std_max, std_cat, std_take, std_drop, std_row, std_set, std_rep, std_find, std_put, std_del, std_flag, std_unflag, std_clr, std_left, std_copy, ints_cons, ints_nil, ofNat_lit, negSucc_lit, decide_eq_true_eq, Bool.and_eq_true, Bool.or_eq_true, Bool.not_eq_true', Bool.and_eq_false_iff, Bool.or_eq_false_iff, decide_eq_false_iff_not, std_rowT, std_setT, lenR_rowT, rowT_get, aI100, aI101, aI102, aI103, aI104, aI105, aI106, aI107, aI110, aI111, aI112, aI113, aI114, aL110, aL111, aL112, aL113, aL115, aL116, aL120, aL121, aB130, aB131, aB132, aB133, aB134, aB135, aB136, aB199, Bool.not_eq_false']
  repeat' apply And.intro
  all_goals intro ρ hR
  all_goals intros
  all_goals first
    | (have hm : 0 ≤ (ρ.i 0).tmod 8 := Int.tmod_nonneg _ (by omega)
       have hT : 1 ≤ ((ρ.l 1001).length : Int) := by omega
       have e := even_again hT
       exfalso
       omega)
    | (have hm : 0 ≤ (ρ.i 0).tmod 8 := Int.tmod_nonneg _ (by omega)
       have hT : 1 ≤ ((ρ.l 1001).length : Int) := by omega
       have e := total_perm (even_flat hT)
       exfalso
       omega)
    | (have hm : 0 ≤ (ρ.i 0).tmod 8 := Int.tmod_nonneg _ (by omega)
       have hT : 1 ≤ ((ρ.l 1001).length : Int) := by omega
       have e := even_high hT (M := ρ.l 2000) (by with_reducible assumption)
       have w := wrap_in (n := lowF (evenT (ρ.l 1001)) 0 1000 + 1) (by omega) (by omega)
       have h := ‹¬ highF _ _ _ ≤ _›
       rw [w] at h
       exfalso
       omega)
    | (have hm : 0 ≤ (ρ.i 0).tmod 8 := Int.tmod_nonneg _ (by omega)
       have hT : 1 ≤ ((ρ.l 1001).length : Int) := by omega
       have e := hds_ok hT (c := (ρ.i 0).tmod 8 + 1) (by omega) (M := ρ.l 2000) (rm := 64) (by with_reducible assumption)
       exfalso
       exact Bool.false_ne_true (‹hdOK _ _ = false›.symm.trans e))
    | (exfalso
       exact ‹¬ ([] : Tab) = _› (hds_0 _).symm)
theorem lEven_ok : lEven.ok Φ Try.prog := drop_never rfl lEven0_ok
end Go.SF.C17
