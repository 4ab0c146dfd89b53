/- The stage's theorem, shown. -/
import Derived.Test.YtfcakaakdeakpaaQ6
import Derived.Test.YtfcakaakdeakpaaC5
import Derived.Test.YtfcakaakdeakpaaP3
import Derived.KernelRfl
namespace Go.SF.C10
open Go Go.SF Go.Proofs
set_option linter.unusedVariables false
set_option linter.unusedSimpArgs false

set_option maxRecDepth 100000 in
theorem sf3_obs : loopObs Φ Try.prog t10 1000 sf3.f (loopAt Try.prog sf3.f sf3.id) sf3.n sf3.T j7 sf3.outs = some
  [{
      pc :=
        [SB.eq (SI.sel (SL.v 3) (SI.v 3) 0)
            (SI.sel (SL.app 14 (SA.l (SL.v 2) (SA.i (SI.sel (SL.v 4) (SI.v 2) 0) SA.nil))) (SI.v 3) 0),
          SB.lt (SI.c (Int.ofNat 0))
            (SI.sel (SL.app 14 (SA.l (SL.v 2) (SA.i (SI.sel (SL.v 4) (SI.v 2) 0) SA.nil))) (SI.v 3) 0),
          SB.lt (SI.v 3) (SI.c (Int.ofNat 4)), SB.le (SI.c (Int.ofNat 0)) (SI.v 0),
          SB.le (SI.v 0) (SI.c (Int.ofNat 120)), SB.le (SI.c (Int.ofNat 0)) (SI.v 1), SB.le (SI.v 1) (SI.v 0),
          SB.eq (SI.len (SL.v 0)) (SI.c (Int.ofNat 4)), SB.le (SI.len (SL.v 1)) (SI.v 0),
          SB.eq (SI.len (SL.v 2)) (SI.c (Int.ofNat 64)), SB.eq (SI.len (SL.v 3)) (SI.c (Int.ofNat 4)), SB.c true,
          SB.app 151 (SA.l (SL.v 0) (SA.i (SI.v 1) SA.nil)), SB.le (SI.c (Int.ofNat 0)) (SI.v 3),
          SB.le (SI.v 3) (SI.c (Int.ofNat 4)), SB.le (SI.c (Int.ofNat 0)) (SI.v 2), SB.lt (SI.v 2) (SI.len (SL.v 4)),
          SB.lt (SI.len (SL.v 4)) (SI.c (Int.ofNat 100000)), SB.le (SI.c (Int.ofNat 0)) (SI.sel (SL.v 4) (SI.v 2) 0),
          SB.le (SI.sel (SL.v 4) (SI.v 2) 0) (SI.c (Int.ofNat 63)),
          SB.eq (SI.len (SL.app 14 (SA.l (SL.v 2) (SA.i (SI.sel (SL.v 4) (SI.v 2) 0) SA.nil)))) (SI.c (Int.ofNat 4)),
          SB.app 162 (SA.l (SL.v 2) (SA.l (SL.v 3) (SA.i (SI.sel (SL.v 4) (SI.v 2) 0) SA.nil)))],
      eqs := [Eqn.T (SB.app 199 SA.nil)] },
    {
      pc :=
        [SB.not
            (SB.eq (SI.sel (SL.v 3) (SI.v 3) 0)
              (SI.sel (SL.app 14 (SA.l (SL.v 2) (SA.i (SI.sel (SL.v 4) (SI.v 2) 0) SA.nil))) (SI.v 3) 0)),
          SB.lt (SI.c (Int.ofNat 0))
            (SI.sel (SL.app 14 (SA.l (SL.v 2) (SA.i (SI.sel (SL.v 4) (SI.v 2) 0) SA.nil))) (SI.v 3) 0),
          SB.lt (SI.v 3) (SI.c (Int.ofNat 4)), SB.le (SI.c (Int.ofNat 0)) (SI.v 0),
          SB.le (SI.v 0) (SI.c (Int.ofNat 120)), SB.le (SI.c (Int.ofNat 0)) (SI.v 1), SB.le (SI.v 1) (SI.v 0),
          SB.eq (SI.len (SL.v 0)) (SI.c (Int.ofNat 4)), SB.le (SI.len (SL.v 1)) (SI.v 0),
          SB.eq (SI.len (SL.v 2)) (SI.c (Int.ofNat 64)), SB.eq (SI.len (SL.v 3)) (SI.c (Int.ofNat 4)), SB.c true,
          SB.app 151 (SA.l (SL.v 0) (SA.i (SI.v 1) SA.nil)), SB.le (SI.c (Int.ofNat 0)) (SI.v 3),
          SB.le (SI.v 3) (SI.c (Int.ofNat 4)), SB.le (SI.c (Int.ofNat 0)) (SI.v 2), SB.lt (SI.v 2) (SI.len (SL.v 4)),
          SB.lt (SI.len (SL.v 4)) (SI.c (Int.ofNat 100000)), SB.le (SI.c (Int.ofNat 0)) (SI.sel (SL.v 4) (SI.v 2) 0),
          SB.le (SI.sel (SL.v 4) (SI.v 2) 0) (SI.c (Int.ofNat 63)),
          SB.eq (SI.len (SL.app 14 (SA.l (SL.v 2) (SA.i (SI.sel (SL.v 4) (SI.v 2) 0) SA.nil)))) (SI.c (Int.ofNat 4)),
          SB.app 162 (SA.l (SL.v 2) (SA.l (SL.v 3) (SA.i (SI.sel (SL.v 4) (SI.v 2) 0) SA.nil)))],
      eqs :=
        [Eqn.T
            (SB.lt (SI.sub (SI.c (Int.ofNat 4)) (SI.add (SI.v 3) (SI.c (Int.ofNat 1))))
              (SI.sub (SI.c (Int.ofNat 4)) (SI.v 3)))] },
    {
      pc :=
        [SB.not
            (SB.lt (SI.c (Int.ofNat 0))
              (SI.sel (SL.app 14 (SA.l (SL.v 2) (SA.i (SI.sel (SL.v 4) (SI.v 2) 0) SA.nil))) (SI.v 3) 0)),
          SB.lt (SI.v 3) (SI.c (Int.ofNat 4)), SB.le (SI.c (Int.ofNat 0)) (SI.v 0),
          SB.le (SI.v 0) (SI.c (Int.ofNat 120)), SB.le (SI.c (Int.ofNat 0)) (SI.v 1), SB.le (SI.v 1) (SI.v 0),
          SB.eq (SI.len (SL.v 0)) (SI.c (Int.ofNat 4)), SB.le (SI.len (SL.v 1)) (SI.v 0),
          SB.eq (SI.len (SL.v 2)) (SI.c (Int.ofNat 64)), SB.eq (SI.len (SL.v 3)) (SI.c (Int.ofNat 4)), SB.c true,
          SB.app 151 (SA.l (SL.v 0) (SA.i (SI.v 1) SA.nil)), SB.le (SI.c (Int.ofNat 0)) (SI.v 3),
          SB.le (SI.v 3) (SI.c (Int.ofNat 4)), SB.le (SI.c (Int.ofNat 0)) (SI.v 2), SB.lt (SI.v 2) (SI.len (SL.v 4)),
          SB.lt (SI.len (SL.v 4)) (SI.c (Int.ofNat 100000)), SB.le (SI.c (Int.ofNat 0)) (SI.sel (SL.v 4) (SI.v 2) 0),
          SB.le (SI.sel (SL.v 4) (SI.v 2) 0) (SI.c (Int.ofNat 63)),
          SB.eq (SI.len (SL.app 14 (SA.l (SL.v 2) (SA.i (SI.sel (SL.v 4) (SI.v 2) 0) SA.nil)))) (SI.c (Int.ofNat 4)),
          SB.app 162 (SA.l (SL.v 2) (SA.l (SL.v 3) (SA.i (SI.sel (SL.v 4) (SI.v 2) 0) SA.nil)))],
      eqs :=
        [Eqn.T
            (SB.lt (SI.sub (SI.c (Int.ofNat 4)) (SI.add (SI.v 3) (SI.c (Int.ofNat 1))))
              (SI.sub (SI.c (Int.ofNat 4)) (SI.v 3)))] }] := by kernel_rfl
theorem sf3_ok : sf3.ok Φ Try.prog := by
  refine ⟨by kernel_rfl, loop_rule (fun ρ => t10_ok ρ) (loopAt_sub (by kernel_rfl)) sf3_obs ?_⟩
  simp only [and_imp, List.forall_mem_cons, List.not_mem_nil, false_implies, implies_true, and_true, Ob.ok, holds, Eqn.ok, evB_eq, evB_lt, evB_le, evB_not, evB_and, evB_or, evB_eqL, evB_app, evB_v, evB_c, ev_sel, ev_len, ev_v, ev_c, ev_add, ev_sub, ev_mul, ev_quo, ev_rem, ev_bits, ev_wrap, evL_v, evL_lit, evL_app, ev_app, evA_l, evA_i, evA_nil, std_min, std_max, std_cat, std_take, std_drop, std_row, std_set, std_rep, std_find, std_put, std_del, std_flag, std_unflag, std_clr, std_left, std_copy, ints_cons, ints_nil, ofNat_lit, negSucc_lit, decide_eq_true_eq, Bool.and_eq_true, Bool.or_eq_true, Bool.not_eq_true', Bool.and_eq_false_iff, Bool.or_eq_false_iff, decide_eq_false_iff_not, aI100, aL100, aL110, aL111, aL112, aL113, aL114, aL120, aL121, aL131, aB130, aB199, aI140, aI141, aI142, aI143, aL115, aL140, aL141, aL142, aB150, aB151, aB152, aB153, aB154, aB155, aB160, aB161, aB162, std_rowT, std_setT, rowT_len, rowT_get]
  repeat' apply And.intro
  all_goals intro ρ hR
  all_goals intros
  all_goals first
    | (omega)
    | (have hg : goneR (ρ.l 2) (ρ.l 3) (((ρ.l 4).getD (ρ.i 2).toNat []).getD 0 0) = true := by with_reducible assumption
       exfalso
       exact (gone_iff.1 hg).no (ρ.i 3).toNat (by omega) (by with_reducible assumption) (by with_reducible assumption))
theorem w1_ok (ρ : Env) : TblOK Φ ρ Try.prog w1 := addLp_ok (t10_ok ρ) sf3_ok
set_option maxRecDepth 100000 in
theorem sf2_obs : loopObs Φ Try.prog w1 1000 sf2.f (loopAt Try.prog sf2.f sf2.id) sf2.n sf2.T j8 sf2.outs = some
  [{
      pc :=
        [SB.lt (SI.sel (SL.v 4) (SI.v 2) 0) (SI.c (Int.ofNat 0)), SB.lt (SI.v 2) (SI.len (SL.v 4)),
          SB.le (SI.c (Int.ofNat 0)) (SI.v 0), SB.le (SI.v 0) (SI.c (Int.ofNat 120)),
          SB.le (SI.c (Int.ofNat 0)) (SI.v 1), SB.le (SI.v 1) (SI.v 0), SB.eq (SI.len (SL.v 0)) (SI.c (Int.ofNat 4)),
          SB.le (SI.len (SL.v 1)) (SI.v 0), SB.eq (SI.len (SL.v 2)) (SI.c (Int.ofNat 64)),
          SB.eq (SI.len (SL.v 3)) (SI.c (Int.ofNat 4)), SB.c true, SB.app 151 (SA.l (SL.v 0) (SA.i (SI.v 1) SA.nil)),
          SB.le (SI.c (Int.ofNat 0)) (SI.v 2), SB.le (SI.v 2) (SI.len (SL.v 4)),
          SB.lt (SI.len (SL.v 4)) (SI.c (Int.ofNat 100000)),
          SB.app 161 (SA.l (SL.v 1) (SA.l (SL.v 2) (SA.l (SL.v 3) (SA.l (SL.v 4) (SA.i (SI.v 2) SA.nil))))),
          SB.app 160
            (SA.l (SL.v 0) (SA.l (SL.v 1) (SA.l (SL.v 2) (SA.l (SL.v 3) (SA.i (SI.v 1) (SA.i (SI.v 0) SA.nil))))))],
      eqs := [Eqn.T (SB.app 199 SA.nil)] },
    {
      pc :=
        [SB.lt (SI.c (Int.ofNat 63)) (SI.sel (SL.v 4) (SI.v 2) 0),
          SB.not (SB.lt (SI.sel (SL.v 4) (SI.v 2) 0) (SI.c (Int.ofNat 0))), SB.lt (SI.v 2) (SI.len (SL.v 4)),
          SB.le (SI.c (Int.ofNat 0)) (SI.v 0), SB.le (SI.v 0) (SI.c (Int.ofNat 120)),
          SB.le (SI.c (Int.ofNat 0)) (SI.v 1), SB.le (SI.v 1) (SI.v 0), SB.eq (SI.len (SL.v 0)) (SI.c (Int.ofNat 4)),
          SB.le (SI.len (SL.v 1)) (SI.v 0), SB.eq (SI.len (SL.v 2)) (SI.c (Int.ofNat 64)),
          SB.eq (SI.len (SL.v 3)) (SI.c (Int.ofNat 4)), SB.c true, SB.app 151 (SA.l (SL.v 0) (SA.i (SI.v 1) SA.nil)),
          SB.le (SI.c (Int.ofNat 0)) (SI.v 2), SB.le (SI.v 2) (SI.len (SL.v 4)),
          SB.lt (SI.len (SL.v 4)) (SI.c (Int.ofNat 100000)),
          SB.app 161 (SA.l (SL.v 1) (SA.l (SL.v 2) (SA.l (SL.v 3) (SA.l (SL.v 4) (SA.i (SI.v 2) SA.nil))))),
          SB.app 160
            (SA.l (SL.v 0) (SA.l (SL.v 1) (SA.l (SL.v 2) (SA.l (SL.v 3) (SA.i (SI.v 1) (SA.i (SI.v 0) SA.nil))))))],
      eqs := [Eqn.T (SB.app 199 SA.nil)] },
    {
      pc :=
        [SB.app 162 (SA.l (SL.v 2) (SA.l (SL.v 3) (SA.i (SI.sel (SL.v 4) (SI.v 2) 0) SA.nil))),
          SB.eq (SI.len (SL.app 14 (SA.l (SL.v 2) (SA.i (SI.sel (SL.v 4) (SI.v 2) 0) SA.nil)))) (SI.c (Int.ofNat 4)),
          SB.not (SB.lt (SI.c (Int.ofNat 63)) (SI.sel (SL.v 4) (SI.v 2) 0)),
          SB.not (SB.lt (SI.sel (SL.v 4) (SI.v 2) 0) (SI.c (Int.ofNat 0))), SB.lt (SI.v 2) (SI.len (SL.v 4)),
          SB.le (SI.c (Int.ofNat 0)) (SI.v 0), SB.le (SI.v 0) (SI.c (Int.ofNat 120)),
          SB.le (SI.c (Int.ofNat 0)) (SI.v 1), SB.le (SI.v 1) (SI.v 0), SB.eq (SI.len (SL.v 0)) (SI.c (Int.ofNat 4)),
          SB.le (SI.len (SL.v 1)) (SI.v 0), SB.eq (SI.len (SL.v 2)) (SI.c (Int.ofNat 64)),
          SB.eq (SI.len (SL.v 3)) (SI.c (Int.ofNat 4)), SB.c true, SB.app 151 (SA.l (SL.v 0) (SA.i (SI.v 1) SA.nil)),
          SB.le (SI.c (Int.ofNat 0)) (SI.v 2), SB.le (SI.v 2) (SI.len (SL.v 4)),
          SB.lt (SI.len (SL.v 4)) (SI.c (Int.ofNat 100000)),
          SB.app 161 (SA.l (SL.v 1) (SA.l (SL.v 2) (SA.l (SL.v 3) (SA.l (SL.v 4) (SA.i (SI.v 2) SA.nil))))),
          SB.app 160
            (SA.l (SL.v 0) (SA.l (SL.v 1) (SA.l (SL.v 2) (SA.l (SL.v 3) (SA.i (SI.v 1) (SA.i (SI.v 0) SA.nil))))))],
      eqs :=
        [Eqn.T
            (SB.lt (SI.sub (SI.len (SL.v 4)) (SI.add (SI.v 2) (SI.c (Int.ofNat 1))))
              (SI.sub (SI.len (SL.v 4)) (SI.v 2))),
          Eqn.T (SB.lt (SI.c (Int.ofNat 0)) (SI.sub (SI.len (SL.v 4)) (SI.v 2))),
          Eqn.T
            (SB.app 161
              (SA.l (SL.v 1)
                (SA.l (SL.app 15 (SA.l (SL.v 2) (SA.i (SI.sel (SL.v 4) (SI.v 2) 0) (SA.l (SL.lit []) SA.nil))))
                  (SA.l (SL.v 3) (SA.l (SL.v 4) (SA.i (SI.add (SI.v 2) (SI.c (Int.ofNat 1))) SA.nil)))))),
          Eqn.T
            (SB.app 160
              (SA.l (SL.v 0)
                (SA.l (SL.v 1)
                  (SA.l (SL.app 15 (SA.l (SL.v 2) (SA.i (SI.sel (SL.v 4) (SI.v 2) 0) (SA.l (SL.lit []) SA.nil))))
                    (SA.l (SL.v 3) (SA.i (SI.v 1) (SA.i (SI.v 0) SA.nil)))))))] },
    {
      pc :=
        [SB.not (SB.app 162 (SA.l (SL.v 2) (SA.l (SL.v 3) (SA.i (SI.sel (SL.v 4) (SI.v 2) 0) SA.nil)))),
          SB.eq (SI.len (SL.app 14 (SA.l (SL.v 2) (SA.i (SI.sel (SL.v 4) (SI.v 2) 0) SA.nil)))) (SI.c (Int.ofNat 4)),
          SB.not (SB.lt (SI.c (Int.ofNat 63)) (SI.sel (SL.v 4) (SI.v 2) 0)),
          SB.not (SB.lt (SI.sel (SL.v 4) (SI.v 2) 0) (SI.c (Int.ofNat 0))), SB.lt (SI.v 2) (SI.len (SL.v 4)),
          SB.le (SI.c (Int.ofNat 0)) (SI.v 0), SB.le (SI.v 0) (SI.c (Int.ofNat 120)),
          SB.le (SI.c (Int.ofNat 0)) (SI.v 1), SB.le (SI.v 1) (SI.v 0), SB.eq (SI.len (SL.v 0)) (SI.c (Int.ofNat 4)),
          SB.le (SI.len (SL.v 1)) (SI.v 0), SB.eq (SI.len (SL.v 2)) (SI.c (Int.ofNat 64)),
          SB.eq (SI.len (SL.v 3)) (SI.c (Int.ofNat 4)), SB.c true, SB.app 151 (SA.l (SL.v 0) (SA.i (SI.v 1) SA.nil)),
          SB.le (SI.c (Int.ofNat 0)) (SI.v 2), SB.le (SI.v 2) (SI.len (SL.v 4)),
          SB.lt (SI.len (SL.v 4)) (SI.c (Int.ofNat 100000)),
          SB.app 161 (SA.l (SL.v 1) (SA.l (SL.v 2) (SA.l (SL.v 3) (SA.l (SL.v 4) (SA.i (SI.v 2) SA.nil))))),
          SB.app 160
            (SA.l (SL.v 0) (SA.l (SL.v 1) (SA.l (SL.v 2) (SA.l (SL.v 3) (SA.i (SI.v 1) (SA.i (SI.v 0) SA.nil))))))],
      eqs := [Eqn.T (SB.c false)] },
    {
      pc :=
        [SB.not
            (SB.eq (SI.len (SL.app 14 (SA.l (SL.v 2) (SA.i (SI.sel (SL.v 4) (SI.v 2) 0) SA.nil))))
              (SI.c (Int.ofNat 4))),
          SB.not (SB.lt (SI.c (Int.ofNat 63)) (SI.sel (SL.v 4) (SI.v 2) 0)),
          SB.not (SB.lt (SI.sel (SL.v 4) (SI.v 2) 0) (SI.c (Int.ofNat 0))), SB.lt (SI.v 2) (SI.len (SL.v 4)),
          SB.le (SI.c (Int.ofNat 0)) (SI.v 0), SB.le (SI.v 0) (SI.c (Int.ofNat 120)),
          SB.le (SI.c (Int.ofNat 0)) (SI.v 1), SB.le (SI.v 1) (SI.v 0), SB.eq (SI.len (SL.v 0)) (SI.c (Int.ofNat 4)),
          SB.le (SI.len (SL.v 1)) (SI.v 0), SB.eq (SI.len (SL.v 2)) (SI.c (Int.ofNat 64)),
          SB.eq (SI.len (SL.v 3)) (SI.c (Int.ofNat 4)), SB.c true, SB.app 151 (SA.l (SL.v 0) (SA.i (SI.v 1) SA.nil)),
          SB.le (SI.c (Int.ofNat 0)) (SI.v 2), SB.le (SI.v 2) (SI.len (SL.v 4)),
          SB.lt (SI.len (SL.v 4)) (SI.c (Int.ofNat 100000)),
          SB.app 161 (SA.l (SL.v 1) (SA.l (SL.v 2) (SA.l (SL.v 3) (SA.l (SL.v 4) (SA.i (SI.v 2) SA.nil))))),
          SB.app 160
            (SA.l (SL.v 0) (SA.l (SL.v 1) (SA.l (SL.v 2) (SA.l (SL.v 3) (SA.i (SI.v 1) (SA.i (SI.v 0) SA.nil))))))],
      eqs := [Eqn.T (SB.app 199 SA.nil)] }] := by kernel_rfl
theorem sf2_ok : sf2.ok Φ Try.prog := by
  refine ⟨by kernel_rfl, loop_rule (fun ρ => w1_ok ρ) (loopAt_sub (by kernel_rfl)) sf2_obs ?_⟩
  simp only [and_imp, List.forall_mem_cons, List.not_mem_nil, false_implies, implies_true, and_true, Ob.ok, holds, Eqn.ok, evB_eq, evB_lt, evB_le, evB_not, evB_and, evB_or, evB_eqL, evB_app, evB_v, evB_c, ev_sel, ev_len, ev_v, ev_c, ev_add, ev_sub, ev_mul, ev_quo, ev_rem, ev_bits, ev_wrap, evL_v, evL_lit, evL_app, ev_app, evA_l, evA_i, evA_nil, std_min, std_max, std_cat, std_take, std_drop, std_row, std_set, std_rep, std_find, std_put, std_del, std_flag, std_unflag, std_clr, std_left, std_copy, ints_cons, ints_nil, ofNat_lit, negSucc_lit, decide_eq_true_eq, Bool.and_eq_true, Bool.or_eq_true, Bool.not_eq_true', Bool.and_eq_false_iff, Bool.or_eq_false_iff, decide_eq_false_iff_not, aI100, aL100, aL110, aL111, aL112, aL113, aL114, aL120, aL121, aL131, aB130, aB199, aI140, aI141, aI142, aI143, aL115, aL140, aL141, aL142, aB150, aB151, aB152, aB153, aB154, aB155, aB160, aB161, aB162, std_rowT, std_setT, rowT_len, rowT_get]
  repeat' apply And.intro
  all_goals intro ρ hR
  all_goals intros
  all_goals first
    | (omega)
    | (have hg : goneL (ρ.l 1) (ρ.l 2) (ρ.l 3) ((ρ.l 4).drop (ρ.i 2).toNat) = true := by with_reducible assumption
       have hs : sfB (ρ.l 0) (ρ.l 1) (ρ.l 2) (ρ.l 3) (ρ.i 1) (ρ.i 0) = true := by with_reducible assumption
       have g := gone_set hg (by omega) (by omega) (by omega) hs
       exact ⟨by omega, by omega, g.1, g.2⟩)
    | (have hg : goneL (ρ.l 1) (ρ.l 2) (ρ.l 3) ((ρ.l 4).drop (ρ.i 2).toNat) = true := by with_reducible assumption
       have hs : sfB (ρ.l 0) (ρ.l 1) (ρ.l 2) (ρ.l 3) (ρ.i 1) (ρ.i 0) = true := by with_reducible assumption
       have g := gone_step hg (by omega) (by omega)
       exfalso
       exact Bool.false_ne_true (‹goneR _ _ _ = false›.symm.trans (gone_iff.2 g)))
    | (have hg : goneL (ρ.l 1) (ρ.l 2) (ρ.l 3) ((ρ.l 4).drop (ρ.i 2).toNat) = true := by with_reducible assumption
       have hs : sfB (ρ.l 0) (ρ.l 1) (ρ.l 2) (ρ.l 3) (ρ.i 1) (ρ.i 0) = true := by with_reducible assumption
       have g := gone_step hg (by omega) (by omega)
       have g1 := g.b0
       have g2 := g.b1
       have g3 := g.len
       exfalso
       omega)
theorem w2_ok (ρ : Env) : TblOK Φ ρ Try.prog w2 := addLp_ok (t10_ok ρ) sf2_ok
set_option maxRecDepth 100000 in
theorem sf1_obs : loopObs Φ Try.prog w2 1000 sf1.f (loopAt Try.prog sf1.f sf1.id) sf1.n sf1.T i7 sf1.outs = some
  [{
      pc :=
        [SB.lt (SI.bits BinOp.and IntKind.i64 (SI.sel (SL.v 9) (SI.v 0) 1) (SI.c (Int.ofNat 3))) (SI.len (SL.v 3)),
          SB.le (SI.c (Int.ofNat 0)) (SI.bits BinOp.and IntKind.i64 (SI.sel (SL.v 9) (SI.v 0) 1) (SI.c (Int.ofNat 3))),
          SB.eq
            (SI.app 140
              (SA.l (SL.v 0)
                (SA.i (SI.bits BinOp.and IntKind.i64 (SI.sel (SL.v 9) (SI.v 0) 1) (SI.c (Int.ofNat 3))) SA.nil)))
            (SI.c (Int.ofNat 0)),
          SB.eq
            (SI.len
              (SL.app 140
                (SA.l (SL.v 0)
                  (SA.i (SI.bits BinOp.and IntKind.i64 (SI.sel (SL.v 9) (SI.v 0) 1) (SI.c (Int.ofNat 3)))
                    (SA.i (SI.v 1) SA.nil)))))
            (SI.len (SL.v 0)),
          SB.eq (SI.sel (SL.v 9) (SI.v 0) 0) (SI.c (Int.ofNat 0)), SB.lt (SI.v 0) (SI.c (Int.ofNat 120)),
          SB.lt (SI.v 0) (SI.len (SL.v 9)), SB.le (SI.c (Int.ofNat 0)) (SI.v 0), SB.le (SI.v 0) (SI.c (Int.ofNat 120)),
          SB.le (SI.c (Int.ofNat 0)) (SI.v 1), SB.le (SI.v 1) (SI.v 0), SB.eq (SI.len (SL.v 0)) (SI.c (Int.ofNat 4)),
          SB.le (SI.len (SL.v 1)) (SI.v 0), SB.eq (SI.len (SL.v 2)) (SI.c (Int.ofNat 64)),
          SB.eq (SI.len (SL.v 3)) (SI.c (Int.ofNat 4)), SB.c true, SB.app 151 (SA.l (SL.v 0) (SA.i (SI.v 1) SA.nil)),
          SB.app 160
            (SA.l (SL.v 0) (SA.l (SL.v 1) (SA.l (SL.v 2) (SA.l (SL.v 3) (SA.i (SI.v 1) (SA.i (SI.v 0) SA.nil))))))],
      eqs :=
        [Eqn.T
            (SB.lt (SI.sub (SI.c (Int.ofNat 120)) (SI.add (SI.v 0) (SI.c (Int.ofNat 1))))
              (SI.sub (SI.c (Int.ofNat 120)) (SI.v 0))),
          Eqn.T
            (SB.app 151
              (SA.l
                (SL.app 140
                  (SA.l (SL.v 0)
                    (SA.i (SI.bits BinOp.and IntKind.i64 (SI.sel (SL.v 9) (SI.v 0) 1) (SI.c (Int.ofNat 3)))
                      (SA.i (SI.v 1) SA.nil))))
                (SA.i (SI.v 1) SA.nil))),
          Eqn.T
            (SB.app 160
              (SA.l
                (SL.app 140
                  (SA.l (SL.v 0)
                    (SA.i (SI.bits BinOp.and IntKind.i64 (SI.sel (SL.v 9) (SI.v 0) 1) (SI.c (Int.ofNat 3)))
                      (SA.i (SI.v 1) SA.nil))))
                (SA.l (SL.v 1)
                  (SA.l (SL.v 2)
                    (SA.l
                      (SL.app 4
                        (SA.l (SL.v 3)
                          (SA.i (SI.bits BinOp.and IntKind.i64 (SI.sel (SL.v 9) (SI.v 0) 1) (SI.c (Int.ofNat 3)))
                            (SA.i (SI.c (Int.ofNat 0)) (SA.i (SI.add (SI.v 0) (SI.c (Int.ofNat 1))) SA.nil)))))
                      (SA.i (SI.v 1) (SA.i (SI.add (SI.v 0) (SI.c (Int.ofNat 1))) SA.nil)))))))] },
    {
      pc :=
        [SB.not
            (SB.lt (SI.bits BinOp.and IntKind.i64 (SI.sel (SL.v 9) (SI.v 0) 1) (SI.c (Int.ofNat 3))) (SI.len (SL.v 3))),
          SB.le (SI.c (Int.ofNat 0)) (SI.bits BinOp.and IntKind.i64 (SI.sel (SL.v 9) (SI.v 0) 1) (SI.c (Int.ofNat 3))),
          SB.eq
            (SI.app 140
              (SA.l (SL.v 0)
                (SA.i (SI.bits BinOp.and IntKind.i64 (SI.sel (SL.v 9) (SI.v 0) 1) (SI.c (Int.ofNat 3))) SA.nil)))
            (SI.c (Int.ofNat 0)),
          SB.eq
            (SI.len
              (SL.app 140
                (SA.l (SL.v 0)
                  (SA.i (SI.bits BinOp.and IntKind.i64 (SI.sel (SL.v 9) (SI.v 0) 1) (SI.c (Int.ofNat 3)))
                    (SA.i (SI.v 1) SA.nil)))))
            (SI.len (SL.v 0)),
          SB.eq (SI.sel (SL.v 9) (SI.v 0) 0) (SI.c (Int.ofNat 0)), SB.lt (SI.v 0) (SI.c (Int.ofNat 120)),
          SB.lt (SI.v 0) (SI.len (SL.v 9)), SB.le (SI.c (Int.ofNat 0)) (SI.v 0), SB.le (SI.v 0) (SI.c (Int.ofNat 120)),
          SB.le (SI.c (Int.ofNat 0)) (SI.v 1), SB.le (SI.v 1) (SI.v 0), SB.eq (SI.len (SL.v 0)) (SI.c (Int.ofNat 4)),
          SB.le (SI.len (SL.v 1)) (SI.v 0), SB.eq (SI.len (SL.v 2)) (SI.c (Int.ofNat 64)),
          SB.eq (SI.len (SL.v 3)) (SI.c (Int.ofNat 4)), SB.c true, SB.app 151 (SA.l (SL.v 0) (SA.i (SI.v 1) SA.nil)),
          SB.app 160
            (SA.l (SL.v 0) (SA.l (SL.v 1) (SA.l (SL.v 2) (SA.l (SL.v 3) (SA.i (SI.v 1) (SA.i (SI.v 0) SA.nil))))))],
      eqs := [Eqn.T (SB.c false)] },
    {
      pc :=
        [SB.not
            (SB.le (SI.c (Int.ofNat 0))
              (SI.bits BinOp.and IntKind.i64 (SI.sel (SL.v 9) (SI.v 0) 1) (SI.c (Int.ofNat 3)))),
          SB.eq
            (SI.app 140
              (SA.l (SL.v 0)
                (SA.i (SI.bits BinOp.and IntKind.i64 (SI.sel (SL.v 9) (SI.v 0) 1) (SI.c (Int.ofNat 3))) SA.nil)))
            (SI.c (Int.ofNat 0)),
          SB.eq
            (SI.len
              (SL.app 140
                (SA.l (SL.v 0)
                  (SA.i (SI.bits BinOp.and IntKind.i64 (SI.sel (SL.v 9) (SI.v 0) 1) (SI.c (Int.ofNat 3)))
                    (SA.i (SI.v 1) SA.nil)))))
            (SI.len (SL.v 0)),
          SB.eq (SI.sel (SL.v 9) (SI.v 0) 0) (SI.c (Int.ofNat 0)), SB.lt (SI.v 0) (SI.c (Int.ofNat 120)),
          SB.lt (SI.v 0) (SI.len (SL.v 9)), SB.le (SI.c (Int.ofNat 0)) (SI.v 0), SB.le (SI.v 0) (SI.c (Int.ofNat 120)),
          SB.le (SI.c (Int.ofNat 0)) (SI.v 1), SB.le (SI.v 1) (SI.v 0), SB.eq (SI.len (SL.v 0)) (SI.c (Int.ofNat 4)),
          SB.le (SI.len (SL.v 1)) (SI.v 0), SB.eq (SI.len (SL.v 2)) (SI.c (Int.ofNat 64)),
          SB.eq (SI.len (SL.v 3)) (SI.c (Int.ofNat 4)), SB.c true, SB.app 151 (SA.l (SL.v 0) (SA.i (SI.v 1) SA.nil)),
          SB.app 160
            (SA.l (SL.v 0) (SA.l (SL.v 1) (SA.l (SL.v 2) (SA.l (SL.v 3) (SA.i (SI.v 1) (SA.i (SI.v 0) SA.nil))))))],
      eqs := [Eqn.T (SB.c false)] },
    {
      pc :=
        [SB.not
            (SB.eq
              (SI.app 140
                (SA.l (SL.v 0)
                  (SA.i (SI.bits BinOp.and IntKind.i64 (SI.sel (SL.v 9) (SI.v 0) 1) (SI.c (Int.ofNat 3))) SA.nil)))
              (SI.c (Int.ofNat 0))),
          SB.eq
            (SI.len
              (SL.app 140
                (SA.l (SL.v 0)
                  (SA.i (SI.bits BinOp.and IntKind.i64 (SI.sel (SL.v 9) (SI.v 0) 1) (SI.c (Int.ofNat 3)))
                    (SA.i (SI.v 1) SA.nil)))))
            (SI.len (SL.v 0)),
          SB.eq (SI.sel (SL.v 9) (SI.v 0) 0) (SI.c (Int.ofNat 0)), SB.lt (SI.v 0) (SI.c (Int.ofNat 120)),
          SB.lt (SI.v 0) (SI.len (SL.v 9)), SB.le (SI.c (Int.ofNat 0)) (SI.v 0), SB.le (SI.v 0) (SI.c (Int.ofNat 120)),
          SB.le (SI.c (Int.ofNat 0)) (SI.v 1), SB.le (SI.v 1) (SI.v 0), SB.eq (SI.len (SL.v 0)) (SI.c (Int.ofNat 4)),
          SB.le (SI.len (SL.v 1)) (SI.v 0), SB.eq (SI.len (SL.v 2)) (SI.c (Int.ofNat 64)),
          SB.eq (SI.len (SL.v 3)) (SI.c (Int.ofNat 4)), SB.c true, SB.app 151 (SA.l (SL.v 0) (SA.i (SI.v 1) SA.nil)),
          SB.app 160
            (SA.l (SL.v 0) (SA.l (SL.v 1) (SA.l (SL.v 2) (SA.l (SL.v 3) (SA.i (SI.v 1) (SA.i (SI.v 0) SA.nil))))))],
      eqs :=
        [Eqn.T
            (SB.lt (SI.sub (SI.c (Int.ofNat 120)) (SI.add (SI.v 0) (SI.c (Int.ofNat 1))))
              (SI.sub (SI.c (Int.ofNat 120)) (SI.v 0))),
          Eqn.T
            (SB.app 151
              (SA.l
                (SL.app 140
                  (SA.l (SL.v 0)
                    (SA.i (SI.bits BinOp.and IntKind.i64 (SI.sel (SL.v 9) (SI.v 0) 1) (SI.c (Int.ofNat 3)))
                      (SA.i (SI.v 1) SA.nil))))
                (SA.i (SI.v 1) SA.nil))),
          Eqn.T
            (SB.app 160
              (SA.l
                (SL.app 140
                  (SA.l (SL.v 0)
                    (SA.i (SI.bits BinOp.and IntKind.i64 (SI.sel (SL.v 9) (SI.v 0) 1) (SI.c (Int.ofNat 3)))
                      (SA.i (SI.v 1) SA.nil))))
                (SA.l (SL.v 1)
                  (SA.l (SL.v 2)
                    (SA.l (SL.v 3) (SA.i (SI.v 1) (SA.i (SI.add (SI.v 0) (SI.c (Int.ofNat 1))) SA.nil)))))))] },
    {
      pc :=
        [SB.lt (SI.bits BinOp.and IntKind.i64 (SI.sel (SL.v 9) (SI.v 0) 1) (SI.c (Int.ofNat 3))) (SI.len (SL.v 3)),
          SB.le (SI.c (Int.ofNat 0)) (SI.bits BinOp.and IntKind.i64 (SI.sel (SL.v 9) (SI.v 0) 1) (SI.c (Int.ofNat 3))),
          SB.eq
            (SI.app 141
              (SA.l (SL.v 0)
                (SA.i (SI.bits BinOp.and IntKind.i64 (SI.sel (SL.v 9) (SI.v 0) 1) (SI.c (Int.ofNat 3))) SA.nil)))
            (SI.c (Int.ofNat 0)),
          SB.eq
            (SI.len
              (SL.app 141
                (SA.l (SL.v 0)
                  (SA.i (SI.bits BinOp.and IntKind.i64 (SI.sel (SL.v 9) (SI.v 0) 1) (SI.c (Int.ofNat 3))) SA.nil))))
            (SI.len (SL.v 0)),
          SB.eq (SI.sel (SL.v 9) (SI.v 0) 0) (SI.c (Int.ofNat 1)),
          SB.not (SB.eq (SI.sel (SL.v 9) (SI.v 0) 0) (SI.c (Int.ofNat 0))), SB.lt (SI.v 0) (SI.c (Int.ofNat 120)),
          SB.lt (SI.v 0) (SI.len (SL.v 9)), SB.le (SI.c (Int.ofNat 0)) (SI.v 0), SB.le (SI.v 0) (SI.c (Int.ofNat 120)),
          SB.le (SI.c (Int.ofNat 0)) (SI.v 1), SB.le (SI.v 1) (SI.v 0), SB.eq (SI.len (SL.v 0)) (SI.c (Int.ofNat 4)),
          SB.le (SI.len (SL.v 1)) (SI.v 0), SB.eq (SI.len (SL.v 2)) (SI.c (Int.ofNat 64)),
          SB.eq (SI.len (SL.v 3)) (SI.c (Int.ofNat 4)), SB.c true, SB.app 151 (SA.l (SL.v 0) (SA.i (SI.v 1) SA.nil)),
          SB.app 160
            (SA.l (SL.v 0) (SA.l (SL.v 1) (SA.l (SL.v 2) (SA.l (SL.v 3) (SA.i (SI.v 1) (SA.i (SI.v 0) SA.nil))))))],
      eqs :=
        [Eqn.T
            (SB.lt (SI.sub (SI.c (Int.ofNat 120)) (SI.add (SI.v 0) (SI.c (Int.ofNat 1))))
              (SI.sub (SI.c (Int.ofNat 120)) (SI.v 0))),
          Eqn.T
            (SB.app 151
              (SA.l
                (SL.app 141
                  (SA.l (SL.v 0)
                    (SA.i (SI.bits BinOp.and IntKind.i64 (SI.sel (SL.v 9) (SI.v 0) 1) (SI.c (Int.ofNat 3))) SA.nil)))
                (SA.i (SI.v 1) SA.nil))),
          Eqn.T
            (SB.app 160
              (SA.l
                (SL.app 141
                  (SA.l (SL.v 0)
                    (SA.i (SI.bits BinOp.and IntKind.i64 (SI.sel (SL.v 9) (SI.v 0) 1) (SI.c (Int.ofNat 3))) SA.nil)))
                (SA.l (SL.v 1)
                  (SA.l (SL.v 2)
                    (SA.l
                      (SL.app 4
                        (SA.l (SL.v 3)
                          (SA.i (SI.bits BinOp.and IntKind.i64 (SI.sel (SL.v 9) (SI.v 0) 1) (SI.c (Int.ofNat 3)))
                            (SA.i (SI.c (Int.ofNat 0)) (SA.i (SI.c (Int.ofNat 0)) SA.nil)))))
                      (SA.i (SI.v 1) (SA.i (SI.add (SI.v 0) (SI.c (Int.ofNat 1))) SA.nil)))))))] },
    {
      pc :=
        [SB.not
            (SB.lt (SI.bits BinOp.and IntKind.i64 (SI.sel (SL.v 9) (SI.v 0) 1) (SI.c (Int.ofNat 3))) (SI.len (SL.v 3))),
          SB.le (SI.c (Int.ofNat 0)) (SI.bits BinOp.and IntKind.i64 (SI.sel (SL.v 9) (SI.v 0) 1) (SI.c (Int.ofNat 3))),
          SB.eq
            (SI.app 141
              (SA.l (SL.v 0)
                (SA.i (SI.bits BinOp.and IntKind.i64 (SI.sel (SL.v 9) (SI.v 0) 1) (SI.c (Int.ofNat 3))) SA.nil)))
            (SI.c (Int.ofNat 0)),
          SB.eq
            (SI.len
              (SL.app 141
                (SA.l (SL.v 0)
                  (SA.i (SI.bits BinOp.and IntKind.i64 (SI.sel (SL.v 9) (SI.v 0) 1) (SI.c (Int.ofNat 3))) SA.nil))))
            (SI.len (SL.v 0)),
          SB.eq (SI.sel (SL.v 9) (SI.v 0) 0) (SI.c (Int.ofNat 1)),
          SB.not (SB.eq (SI.sel (SL.v 9) (SI.v 0) 0) (SI.c (Int.ofNat 0))), SB.lt (SI.v 0) (SI.c (Int.ofNat 120)),
          SB.lt (SI.v 0) (SI.len (SL.v 9)), SB.le (SI.c (Int.ofNat 0)) (SI.v 0), SB.le (SI.v 0) (SI.c (Int.ofNat 120)),
          SB.le (SI.c (Int.ofNat 0)) (SI.v 1), SB.le (SI.v 1) (SI.v 0), SB.eq (SI.len (SL.v 0)) (SI.c (Int.ofNat 4)),
          SB.le (SI.len (SL.v 1)) (SI.v 0), SB.eq (SI.len (SL.v 2)) (SI.c (Int.ofNat 64)),
          SB.eq (SI.len (SL.v 3)) (SI.c (Int.ofNat 4)), SB.c true, SB.app 151 (SA.l (SL.v 0) (SA.i (SI.v 1) SA.nil)),
          SB.app 160
            (SA.l (SL.v 0) (SA.l (SL.v 1) (SA.l (SL.v 2) (SA.l (SL.v 3) (SA.i (SI.v 1) (SA.i (SI.v 0) SA.nil))))))],
      eqs := [Eqn.T (SB.c false)] },
    {
      pc :=
        [SB.not
            (SB.le (SI.c (Int.ofNat 0))
              (SI.bits BinOp.and IntKind.i64 (SI.sel (SL.v 9) (SI.v 0) 1) (SI.c (Int.ofNat 3)))),
          SB.eq
            (SI.app 141
              (SA.l (SL.v 0)
                (SA.i (SI.bits BinOp.and IntKind.i64 (SI.sel (SL.v 9) (SI.v 0) 1) (SI.c (Int.ofNat 3))) SA.nil)))
            (SI.c (Int.ofNat 0)),
          SB.eq
            (SI.len
              (SL.app 141
                (SA.l (SL.v 0)
                  (SA.i (SI.bits BinOp.and IntKind.i64 (SI.sel (SL.v 9) (SI.v 0) 1) (SI.c (Int.ofNat 3))) SA.nil))))
            (SI.len (SL.v 0)),
          SB.eq (SI.sel (SL.v 9) (SI.v 0) 0) (SI.c (Int.ofNat 1)),
          SB.not (SB.eq (SI.sel (SL.v 9) (SI.v 0) 0) (SI.c (Int.ofNat 0))), SB.lt (SI.v 0) (SI.c (Int.ofNat 120)),
          SB.lt (SI.v 0) (SI.len (SL.v 9)), SB.le (SI.c (Int.ofNat 0)) (SI.v 0), SB.le (SI.v 0) (SI.c (Int.ofNat 120)),
          SB.le (SI.c (Int.ofNat 0)) (SI.v 1), SB.le (SI.v 1) (SI.v 0), SB.eq (SI.len (SL.v 0)) (SI.c (Int.ofNat 4)),
          SB.le (SI.len (SL.v 1)) (SI.v 0), SB.eq (SI.len (SL.v 2)) (SI.c (Int.ofNat 64)),
          SB.eq (SI.len (SL.v 3)) (SI.c (Int.ofNat 4)), SB.c true, SB.app 151 (SA.l (SL.v 0) (SA.i (SI.v 1) SA.nil)),
          SB.app 160
            (SA.l (SL.v 0) (SA.l (SL.v 1) (SA.l (SL.v 2) (SA.l (SL.v 3) (SA.i (SI.v 1) (SA.i (SI.v 0) SA.nil))))))],
      eqs := [Eqn.T (SB.c false)] },
    {
      pc :=
        [SB.not
            (SB.eq
              (SI.app 141
                (SA.l (SL.v 0)
                  (SA.i (SI.bits BinOp.and IntKind.i64 (SI.sel (SL.v 9) (SI.v 0) 1) (SI.c (Int.ofNat 3))) SA.nil)))
              (SI.c (Int.ofNat 0))),
          SB.eq
            (SI.len
              (SL.app 141
                (SA.l (SL.v 0)
                  (SA.i (SI.bits BinOp.and IntKind.i64 (SI.sel (SL.v 9) (SI.v 0) 1) (SI.c (Int.ofNat 3))) SA.nil))))
            (SI.len (SL.v 0)),
          SB.eq (SI.sel (SL.v 9) (SI.v 0) 0) (SI.c (Int.ofNat 1)),
          SB.not (SB.eq (SI.sel (SL.v 9) (SI.v 0) 0) (SI.c (Int.ofNat 0))), SB.lt (SI.v 0) (SI.c (Int.ofNat 120)),
          SB.lt (SI.v 0) (SI.len (SL.v 9)), SB.le (SI.c (Int.ofNat 0)) (SI.v 0), SB.le (SI.v 0) (SI.c (Int.ofNat 120)),
          SB.le (SI.c (Int.ofNat 0)) (SI.v 1), SB.le (SI.v 1) (SI.v 0), SB.eq (SI.len (SL.v 0)) (SI.c (Int.ofNat 4)),
          SB.le (SI.len (SL.v 1)) (SI.v 0), SB.eq (SI.len (SL.v 2)) (SI.c (Int.ofNat 64)),
          SB.eq (SI.len (SL.v 3)) (SI.c (Int.ofNat 4)), SB.c true, SB.app 151 (SA.l (SL.v 0) (SA.i (SI.v 1) SA.nil)),
          SB.app 160
            (SA.l (SL.v 0) (SA.l (SL.v 1) (SA.l (SL.v 2) (SA.l (SL.v 3) (SA.i (SI.v 1) (SA.i (SI.v 0) SA.nil))))))],
      eqs :=
        [Eqn.T
            (SB.lt (SI.sub (SI.c (Int.ofNat 120)) (SI.add (SI.v 0) (SI.c (Int.ofNat 1))))
              (SI.sub (SI.c (Int.ofNat 120)) (SI.v 0))),
          Eqn.T
            (SB.app 151
              (SA.l
                (SL.app 141
                  (SA.l (SL.v 0)
                    (SA.i (SI.bits BinOp.and IntKind.i64 (SI.sel (SL.v 9) (SI.v 0) 1) (SI.c (Int.ofNat 3))) SA.nil)))
                (SA.i (SI.v 1) SA.nil))),
          Eqn.T
            (SB.app 160
              (SA.l
                (SL.app 141
                  (SA.l (SL.v 0)
                    (SA.i (SI.bits BinOp.and IntKind.i64 (SI.sel (SL.v 9) (SI.v 0) 1) (SI.c (Int.ofNat 3))) SA.nil)))
                (SA.l (SL.v 1)
                  (SA.l (SL.v 2)
                    (SA.l (SL.v 3) (SA.i (SI.v 1) (SA.i (SI.add (SI.v 0) (SI.c (Int.ofNat 1))) SA.nil)))))))] },
    {
      pc :=
        [SB.lt (SI.bits BinOp.and IntKind.i64 (SI.sel (SL.v 9) (SI.v 0) 2) (SI.c (Int.ofNat 63))) (SI.len (SL.v 2)),
          SB.le (SI.c (Int.ofNat 0)) (SI.bits BinOp.and IntKind.i64 (SI.sel (SL.v 9) (SI.v 0) 2) (SI.c (Int.ofNat 63))),
          SB.eq
            (SI.app 142
              (SA.l (SL.v 1)
                (SA.i (SI.bits BinOp.and IntKind.i64 (SI.sel (SL.v 9) (SI.v 0) 2) (SI.c (Int.ofNat 63))) SA.nil)))
            (SI.c (Int.ofNat 0)),
          SB.le
            (SI.len
              (SL.app 142
                (SA.l (SL.v 1)
                  (SA.i (SI.bits BinOp.and IntKind.i64 (SI.sel (SL.v 9) (SI.v 0) 2) (SI.c (Int.ofNat 63)))
                    (SA.i (SI.v 1) SA.nil)))))
            (SI.add (SI.len (SL.v 1)) (SI.c (Int.ofNat 1))),
          SB.eq (SI.sel (SL.v 9) (SI.v 0) 0) (SI.c (Int.ofNat 2)),
          SB.not (SB.eq (SI.sel (SL.v 9) (SI.v 0) 0) (SI.c (Int.ofNat 1))),
          SB.not (SB.eq (SI.sel (SL.v 9) (SI.v 0) 0) (SI.c (Int.ofNat 0))), SB.lt (SI.v 0) (SI.c (Int.ofNat 120)),
          SB.lt (SI.v 0) (SI.len (SL.v 9)), SB.le (SI.c (Int.ofNat 0)) (SI.v 0), SB.le (SI.v 0) (SI.c (Int.ofNat 120)),
          SB.le (SI.c (Int.ofNat 0)) (SI.v 1), SB.le (SI.v 1) (SI.v 0), SB.eq (SI.len (SL.v 0)) (SI.c (Int.ofNat 4)),
          SB.le (SI.len (SL.v 1)) (SI.v 0), SB.eq (SI.len (SL.v 2)) (SI.c (Int.ofNat 64)),
          SB.eq (SI.len (SL.v 3)) (SI.c (Int.ofNat 4)), SB.c true, SB.app 151 (SA.l (SL.v 0) (SA.i (SI.v 1) SA.nil)),
          SB.app 160
            (SA.l (SL.v 0) (SA.l (SL.v 1) (SA.l (SL.v 2) (SA.l (SL.v 3) (SA.i (SI.v 1) (SA.i (SI.v 0) SA.nil))))))],
      eqs :=
        [Eqn.T
            (SB.lt (SI.sub (SI.c (Int.ofNat 120)) (SI.add (SI.v 0) (SI.c (Int.ofNat 1))))
              (SI.sub (SI.c (Int.ofNat 120)) (SI.v 0))),
          Eqn.T
            (SB.app 160
              (SA.l (SL.v 0)
                (SA.l
                  (SL.app 142
                    (SA.l (SL.v 1)
                      (SA.i (SI.bits BinOp.and IntKind.i64 (SI.sel (SL.v 9) (SI.v 0) 2) (SI.c (Int.ofNat 63)))
                        (SA.i (SI.v 1) SA.nil))))
                  (SA.l
                    (SL.app 15
                      (SA.l (SL.v 2)
                        (SA.i (SI.bits BinOp.and IntKind.i64 (SI.sel (SL.v 9) (SI.v 0) 2) (SI.c (Int.ofNat 63)))
                          (SA.l
                            (SL.app 0
                              (SA.l (SL.app 3 (SA.i (SI.sel (SL.v 3) (SI.c (Int.ofNat 0)) 0) SA.nil))
                                (SA.l
                                  (SL.app 0
                                    (SA.l (SL.app 3 (SA.i (SI.sel (SL.v 3) (SI.c (Int.ofNat 1)) 0) SA.nil))
                                      (SA.l
                                        (SL.app 0
                                          (SA.l (SL.app 3 (SA.i (SI.sel (SL.v 3) (SI.c (Int.ofNat 2)) 0) SA.nil))
                                            (SA.l (SL.app 3 (SA.i (SI.sel (SL.v 3) (SI.c (Int.ofNat 3)) 0) SA.nil))
                                              SA.nil)))
                                        SA.nil)))
                                  SA.nil)))
                            SA.nil))))
                    (SA.l (SL.v 3) (SA.i (SI.v 1) (SA.i (SI.add (SI.v 0) (SI.c (Int.ofNat 1))) SA.nil)))))))] },
    {
      pc :=
        [SB.not
            (SB.lt (SI.bits BinOp.and IntKind.i64 (SI.sel (SL.v 9) (SI.v 0) 2) (SI.c (Int.ofNat 63)))
              (SI.len (SL.v 2))),
          SB.le (SI.c (Int.ofNat 0)) (SI.bits BinOp.and IntKind.i64 (SI.sel (SL.v 9) (SI.v 0) 2) (SI.c (Int.ofNat 63))),
          SB.eq
            (SI.app 142
              (SA.l (SL.v 1)
                (SA.i (SI.bits BinOp.and IntKind.i64 (SI.sel (SL.v 9) (SI.v 0) 2) (SI.c (Int.ofNat 63))) SA.nil)))
            (SI.c (Int.ofNat 0)),
          SB.le
            (SI.len
              (SL.app 142
                (SA.l (SL.v 1)
                  (SA.i (SI.bits BinOp.and IntKind.i64 (SI.sel (SL.v 9) (SI.v 0) 2) (SI.c (Int.ofNat 63)))
                    (SA.i (SI.v 1) SA.nil)))))
            (SI.add (SI.len (SL.v 1)) (SI.c (Int.ofNat 1))),
          SB.eq (SI.sel (SL.v 9) (SI.v 0) 0) (SI.c (Int.ofNat 2)),
          SB.not (SB.eq (SI.sel (SL.v 9) (SI.v 0) 0) (SI.c (Int.ofNat 1))),
          SB.not (SB.eq (SI.sel (SL.v 9) (SI.v 0) 0) (SI.c (Int.ofNat 0))), SB.lt (SI.v 0) (SI.c (Int.ofNat 120)),
          SB.lt (SI.v 0) (SI.len (SL.v 9)), SB.le (SI.c (Int.ofNat 0)) (SI.v 0), SB.le (SI.v 0) (SI.c (Int.ofNat 120)),
          SB.le (SI.c (Int.ofNat 0)) (SI.v 1), SB.le (SI.v 1) (SI.v 0), SB.eq (SI.len (SL.v 0)) (SI.c (Int.ofNat 4)),
          SB.le (SI.len (SL.v 1)) (SI.v 0), SB.eq (SI.len (SL.v 2)) (SI.c (Int.ofNat 64)),
          SB.eq (SI.len (SL.v 3)) (SI.c (Int.ofNat 4)), SB.c true, SB.app 151 (SA.l (SL.v 0) (SA.i (SI.v 1) SA.nil)),
          SB.app 160
            (SA.l (SL.v 0) (SA.l (SL.v 1) (SA.l (SL.v 2) (SA.l (SL.v 3) (SA.i (SI.v 1) (SA.i (SI.v 0) SA.nil))))))],
      eqs := [Eqn.T (SB.c false)] },
    {
      pc :=
        [SB.not
            (SB.le (SI.c (Int.ofNat 0))
              (SI.bits BinOp.and IntKind.i64 (SI.sel (SL.v 9) (SI.v 0) 2) (SI.c (Int.ofNat 63)))),
          SB.eq
            (SI.app 142
              (SA.l (SL.v 1)
                (SA.i (SI.bits BinOp.and IntKind.i64 (SI.sel (SL.v 9) (SI.v 0) 2) (SI.c (Int.ofNat 63))) SA.nil)))
            (SI.c (Int.ofNat 0)),
          SB.le
            (SI.len
              (SL.app 142
                (SA.l (SL.v 1)
                  (SA.i (SI.bits BinOp.and IntKind.i64 (SI.sel (SL.v 9) (SI.v 0) 2) (SI.c (Int.ofNat 63)))
                    (SA.i (SI.v 1) SA.nil)))))
            (SI.add (SI.len (SL.v 1)) (SI.c (Int.ofNat 1))),
          SB.eq (SI.sel (SL.v 9) (SI.v 0) 0) (SI.c (Int.ofNat 2)),
          SB.not (SB.eq (SI.sel (SL.v 9) (SI.v 0) 0) (SI.c (Int.ofNat 1))),
          SB.not (SB.eq (SI.sel (SL.v 9) (SI.v 0) 0) (SI.c (Int.ofNat 0))), SB.lt (SI.v 0) (SI.c (Int.ofNat 120)),
          SB.lt (SI.v 0) (SI.len (SL.v 9)), SB.le (SI.c (Int.ofNat 0)) (SI.v 0), SB.le (SI.v 0) (SI.c (Int.ofNat 120)),
          SB.le (SI.c (Int.ofNat 0)) (SI.v 1), SB.le (SI.v 1) (SI.v 0), SB.eq (SI.len (SL.v 0)) (SI.c (Int.ofNat 4)),
          SB.le (SI.len (SL.v 1)) (SI.v 0), SB.eq (SI.len (SL.v 2)) (SI.c (Int.ofNat 64)),
          SB.eq (SI.len (SL.v 3)) (SI.c (Int.ofNat 4)), SB.c true, SB.app 151 (SA.l (SL.v 0) (SA.i (SI.v 1) SA.nil)),
          SB.app 160
            (SA.l (SL.v 0) (SA.l (SL.v 1) (SA.l (SL.v 2) (SA.l (SL.v 3) (SA.i (SI.v 1) (SA.i (SI.v 0) SA.nil))))))],
      eqs := [Eqn.T (SB.c false)] },
    {
      pc :=
        [SB.not
            (SB.eq
              (SI.app 142
                (SA.l (SL.v 1)
                  (SA.i (SI.bits BinOp.and IntKind.i64 (SI.sel (SL.v 9) (SI.v 0) 2) (SI.c (Int.ofNat 63))) SA.nil)))
              (SI.c (Int.ofNat 0))),
          SB.le
            (SI.len
              (SL.app 142
                (SA.l (SL.v 1)
                  (SA.i (SI.bits BinOp.and IntKind.i64 (SI.sel (SL.v 9) (SI.v 0) 2) (SI.c (Int.ofNat 63)))
                    (SA.i (SI.v 1) SA.nil)))))
            (SI.add (SI.len (SL.v 1)) (SI.c (Int.ofNat 1))),
          SB.eq (SI.sel (SL.v 9) (SI.v 0) 0) (SI.c (Int.ofNat 2)),
          SB.not (SB.eq (SI.sel (SL.v 9) (SI.v 0) 0) (SI.c (Int.ofNat 1))),
          SB.not (SB.eq (SI.sel (SL.v 9) (SI.v 0) 0) (SI.c (Int.ofNat 0))), SB.lt (SI.v 0) (SI.c (Int.ofNat 120)),
          SB.lt (SI.v 0) (SI.len (SL.v 9)), SB.le (SI.c (Int.ofNat 0)) (SI.v 0), SB.le (SI.v 0) (SI.c (Int.ofNat 120)),
          SB.le (SI.c (Int.ofNat 0)) (SI.v 1), SB.le (SI.v 1) (SI.v 0), SB.eq (SI.len (SL.v 0)) (SI.c (Int.ofNat 4)),
          SB.le (SI.len (SL.v 1)) (SI.v 0), SB.eq (SI.len (SL.v 2)) (SI.c (Int.ofNat 64)),
          SB.eq (SI.len (SL.v 3)) (SI.c (Int.ofNat 4)), SB.c true, SB.app 151 (SA.l (SL.v 0) (SA.i (SI.v 1) SA.nil)),
          SB.app 160
            (SA.l (SL.v 0) (SA.l (SL.v 1) (SA.l (SL.v 2) (SA.l (SL.v 3) (SA.i (SI.v 1) (SA.i (SI.v 0) SA.nil))))))],
      eqs :=
        [Eqn.T
            (SB.lt (SI.sub (SI.c (Int.ofNat 120)) (SI.add (SI.v 0) (SI.c (Int.ofNat 1))))
              (SI.sub (SI.c (Int.ofNat 120)) (SI.v 0))),
          Eqn.T
            (SB.app 160
              (SA.l (SL.v 0)
                (SA.l
                  (SL.app 142
                    (SA.l (SL.v 1)
                      (SA.i (SI.bits BinOp.and IntKind.i64 (SI.sel (SL.v 9) (SI.v 0) 2) (SI.c (Int.ofNat 63)))
                        (SA.i (SI.v 1) SA.nil))))
                  (SA.l (SL.v 2)
                    (SA.l (SL.v 3) (SA.i (SI.v 1) (SA.i (SI.add (SI.v 0) (SI.c (Int.ofNat 1))) SA.nil)))))))] },
    {
      pc :=
        [SB.app 130 (SA.l (SL.v 0) (SA.i (SI.c (Int.ofNat 0)) (SA.i (SI.v 1) SA.nil))),
          SB.eq (SI.sel (SL.v 9) (SI.v 0) 0) (SI.c (Int.ofNat 3)),
          SB.not (SB.eq (SI.sel (SL.v 9) (SI.v 0) 0) (SI.c (Int.ofNat 2))),
          SB.not (SB.eq (SI.sel (SL.v 9) (SI.v 0) 0) (SI.c (Int.ofNat 1))),
          SB.not (SB.eq (SI.sel (SL.v 9) (SI.v 0) 0) (SI.c (Int.ofNat 0))), SB.lt (SI.v 0) (SI.c (Int.ofNat 120)),
          SB.lt (SI.v 0) (SI.len (SL.v 9)), SB.le (SI.c (Int.ofNat 0)) (SI.v 0), SB.le (SI.v 0) (SI.c (Int.ofNat 120)),
          SB.le (SI.c (Int.ofNat 0)) (SI.v 1), SB.le (SI.v 1) (SI.v 0), SB.eq (SI.len (SL.v 0)) (SI.c (Int.ofNat 4)),
          SB.le (SI.len (SL.v 1)) (SI.v 0), SB.eq (SI.len (SL.v 2)) (SI.c (Int.ofNat 64)),
          SB.eq (SI.len (SL.v 3)) (SI.c (Int.ofNat 4)), SB.c true, SB.app 151 (SA.l (SL.v 0) (SA.i (SI.v 1) SA.nil)),
          SB.app 160
            (SA.l (SL.v 0) (SA.l (SL.v 1) (SA.l (SL.v 2) (SA.l (SL.v 3) (SA.i (SI.v 1) (SA.i (SI.v 0) SA.nil))))))],
      eqs :=
        [Eqn.T
            (SB.lt (SI.sub (SI.c (Int.ofNat 120)) (SI.add (SI.v 0) (SI.c (Int.ofNat 1))))
              (SI.sub (SI.c (Int.ofNat 120)) (SI.v 0))),
          Eqn.T
            (SB.app 160
              (SA.l (SL.v 0)
                (SA.l (SL.v 1)
                  (SA.l (SL.v 2)
                    (SA.l (SL.v 3) (SA.i (SI.v 1) (SA.i (SI.add (SI.v 0) (SI.c (Int.ofNat 1))) SA.nil)))))))] },
    {
      pc :=
        [SB.not (SB.app 130 (SA.l (SL.v 0) (SA.i (SI.c (Int.ofNat 0)) (SA.i (SI.v 1) SA.nil)))),
          SB.eq (SI.sel (SL.v 9) (SI.v 0) 0) (SI.c (Int.ofNat 3)),
          SB.not (SB.eq (SI.sel (SL.v 9) (SI.v 0) 0) (SI.c (Int.ofNat 2))),
          SB.not (SB.eq (SI.sel (SL.v 9) (SI.v 0) 0) (SI.c (Int.ofNat 1))),
          SB.not (SB.eq (SI.sel (SL.v 9) (SI.v 0) 0) (SI.c (Int.ofNat 0))), SB.lt (SI.v 0) (SI.c (Int.ofNat 120)),
          SB.lt (SI.v 0) (SI.len (SL.v 9)), SB.le (SI.c (Int.ofNat 0)) (SI.v 0), SB.le (SI.v 0) (SI.c (Int.ofNat 120)),
          SB.le (SI.c (Int.ofNat 0)) (SI.v 1), SB.le (SI.v 1) (SI.v 0), SB.eq (SI.len (SL.v 0)) (SI.c (Int.ofNat 4)),
          SB.le (SI.len (SL.v 1)) (SI.v 0), SB.eq (SI.len (SL.v 2)) (SI.c (Int.ofNat 64)),
          SB.eq (SI.len (SL.v 3)) (SI.c (Int.ofNat 4)), SB.c true, SB.app 151 (SA.l (SL.v 0) (SA.i (SI.v 1) SA.nil)),
          SB.app 160
            (SA.l (SL.v 0) (SA.l (SL.v 1) (SA.l (SL.v 2) (SA.l (SL.v 3) (SA.i (SI.v 1) (SA.i (SI.v 0) SA.nil))))))],
      eqs :=
        [Eqn.T
            (SB.lt (SI.sub (SI.c (Int.ofNat 120)) (SI.add (SI.v 0) (SI.c (Int.ofNat 1))))
              (SI.sub (SI.c (Int.ofNat 120)) (SI.v 0))),
          Eqn.T (SB.app 151 (SA.l (SL.v 0) (SA.i (SI.add (SI.v 1) (SI.c (Int.ofNat 1))) SA.nil))),
          Eqn.T
            (SB.app 160
              (SA.l (SL.v 0)
                (SA.l (SL.v 1)
                  (SA.l (SL.v 2)
                    (SA.l (SL.v 3)
                      (SA.i (SI.add (SI.v 1) (SI.c (Int.ofNat 1)))
                        (SA.i (SI.add (SI.v 0) (SI.c (Int.ofNat 1))) SA.nil)))))))] },
    {
      pc :=
        [SB.app 160
            (SA.l (SL.v 0)
              (SA.l (SL.app 121 (SA.l (SL.v 1) (SA.i (SI.v 1) SA.nil)))
                (SA.l (SL.v 1000) (SA.l (SL.v 3) (SA.i (SI.v 1) (SA.i (SI.v 0) SA.nil)))))),
          SB.eq (SI.len (SL.v 1000)) (SI.c (Int.ofNat 64)),
          SB.app 161
            (SA.l (SL.app 121 (SA.l (SL.v 1) (SA.i (SI.v 1) SA.nil)))
              (SA.l (SL.v 2)
                (SA.l (SL.v 3)
                  (SA.l (SL.app 111 (SA.l (SL.v 1) (SA.i (SI.v 1) SA.nil))) (SA.i (SI.c (Int.ofNat 0)) SA.nil))))),
          SB.app 160
            (SA.l (SL.v 0)
              (SA.l (SL.app 121 (SA.l (SL.v 1) (SA.i (SI.v 1) SA.nil)))
                (SA.l (SL.v 2) (SA.l (SL.v 3) (SA.i (SI.v 1) (SA.i (SI.v 0) SA.nil)))))),
          SB.le (SI.len (SL.app 111 (SA.l (SL.v 1) (SA.i (SI.v 1) SA.nil)))) (SI.len (SL.v 1)),
          SB.le (SI.len (SL.app 121 (SA.l (SL.v 1) (SA.i (SI.v 1) SA.nil)))) (SI.len (SL.v 1)),
          SB.eq (SI.sel (SL.v 9) (SI.v 0) 0) (SI.c (Int.ofNat 4)),
          SB.not (SB.eq (SI.sel (SL.v 9) (SI.v 0) 0) (SI.c (Int.ofNat 3))),
          SB.not (SB.eq (SI.sel (SL.v 9) (SI.v 0) 0) (SI.c (Int.ofNat 2))),
          SB.not (SB.eq (SI.sel (SL.v 9) (SI.v 0) 0) (SI.c (Int.ofNat 1))),
          SB.not (SB.eq (SI.sel (SL.v 9) (SI.v 0) 0) (SI.c (Int.ofNat 0))), SB.lt (SI.v 0) (SI.c (Int.ofNat 120)),
          SB.lt (SI.v 0) (SI.len (SL.v 9)), SB.le (SI.c (Int.ofNat 0)) (SI.v 0), SB.le (SI.v 0) (SI.c (Int.ofNat 120)),
          SB.le (SI.c (Int.ofNat 0)) (SI.v 1), SB.le (SI.v 1) (SI.v 0), SB.eq (SI.len (SL.v 0)) (SI.c (Int.ofNat 4)),
          SB.le (SI.len (SL.v 1)) (SI.v 0), SB.eq (SI.len (SL.v 2)) (SI.c (Int.ofNat 64)),
          SB.eq (SI.len (SL.v 3)) (SI.c (Int.ofNat 4)), SB.c true, SB.app 151 (SA.l (SL.v 0) (SA.i (SI.v 1) SA.nil)),
          SB.app 160
            (SA.l (SL.v 0) (SA.l (SL.v 1) (SA.l (SL.v 2) (SA.l (SL.v 3) (SA.i (SI.v 1) (SA.i (SI.v 0) SA.nil))))))],
      eqs :=
        [Eqn.T
            (SB.lt (SI.sub (SI.c (Int.ofNat 120)) (SI.add (SI.v 0) (SI.c (Int.ofNat 1))))
              (SI.sub (SI.c (Int.ofNat 120)) (SI.v 0))),
          Eqn.T
            (SB.app 160
              (SA.l (SL.v 0)
                (SA.l (SL.app 121 (SA.l (SL.v 1) (SA.i (SI.v 1) SA.nil)))
                  (SA.l (SL.v 1000)
                    (SA.l (SL.v 3) (SA.i (SI.v 1) (SA.i (SI.add (SI.v 0) (SI.c (Int.ofNat 1))) SA.nil)))))))] },
    {
      pc :=
        [SB.not
            (SB.app 161
              (SA.l (SL.app 121 (SA.l (SL.v 1) (SA.i (SI.v 1) SA.nil)))
                (SA.l (SL.v 2)
                  (SA.l (SL.v 3)
                    (SA.l (SL.app 111 (SA.l (SL.v 1) (SA.i (SI.v 1) SA.nil))) (SA.i (SI.c (Int.ofNat 0)) SA.nil)))))),
          SB.le (SI.len (SL.app 111 (SA.l (SL.v 1) (SA.i (SI.v 1) SA.nil)))) (SI.len (SL.v 1)),
          SB.le (SI.len (SL.app 121 (SA.l (SL.v 1) (SA.i (SI.v 1) SA.nil)))) (SI.len (SL.v 1)),
          SB.eq (SI.sel (SL.v 9) (SI.v 0) 0) (SI.c (Int.ofNat 4)),
          SB.not (SB.eq (SI.sel (SL.v 9) (SI.v 0) 0) (SI.c (Int.ofNat 3))),
          SB.not (SB.eq (SI.sel (SL.v 9) (SI.v 0) 0) (SI.c (Int.ofNat 2))),
          SB.not (SB.eq (SI.sel (SL.v 9) (SI.v 0) 0) (SI.c (Int.ofNat 1))),
          SB.not (SB.eq (SI.sel (SL.v 9) (SI.v 0) 0) (SI.c (Int.ofNat 0))), SB.lt (SI.v 0) (SI.c (Int.ofNat 120)),
          SB.lt (SI.v 0) (SI.len (SL.v 9)), SB.le (SI.c (Int.ofNat 0)) (SI.v 0), SB.le (SI.v 0) (SI.c (Int.ofNat 120)),
          SB.le (SI.c (Int.ofNat 0)) (SI.v 1), SB.le (SI.v 1) (SI.v 0), SB.eq (SI.len (SL.v 0)) (SI.c (Int.ofNat 4)),
          SB.le (SI.len (SL.v 1)) (SI.v 0), SB.eq (SI.len (SL.v 2)) (SI.c (Int.ofNat 64)),
          SB.eq (SI.len (SL.v 3)) (SI.c (Int.ofNat 4)), SB.c true, SB.app 151 (SA.l (SL.v 0) (SA.i (SI.v 1) SA.nil)),
          SB.app 160
            (SA.l (SL.v 0) (SA.l (SL.v 1) (SA.l (SL.v 2) (SA.l (SL.v 3) (SA.i (SI.v 1) (SA.i (SI.v 0) SA.nil))))))],
      eqs := [Eqn.T (SB.c false)] },
    {
      pc :=
        [SB.not
            (SB.app 160
              (SA.l (SL.v 0)
                (SA.l (SL.app 121 (SA.l (SL.v 1) (SA.i (SI.v 1) SA.nil)))
                  (SA.l (SL.v 2) (SA.l (SL.v 3) (SA.i (SI.v 1) (SA.i (SI.v 0) SA.nil))))))),
          SB.le (SI.len (SL.app 111 (SA.l (SL.v 1) (SA.i (SI.v 1) SA.nil)))) (SI.len (SL.v 1)),
          SB.le (SI.len (SL.app 121 (SA.l (SL.v 1) (SA.i (SI.v 1) SA.nil)))) (SI.len (SL.v 1)),
          SB.eq (SI.sel (SL.v 9) (SI.v 0) 0) (SI.c (Int.ofNat 4)),
          SB.not (SB.eq (SI.sel (SL.v 9) (SI.v 0) 0) (SI.c (Int.ofNat 3))),
          SB.not (SB.eq (SI.sel (SL.v 9) (SI.v 0) 0) (SI.c (Int.ofNat 2))),
          SB.not (SB.eq (SI.sel (SL.v 9) (SI.v 0) 0) (SI.c (Int.ofNat 1))),
          SB.not (SB.eq (SI.sel (SL.v 9) (SI.v 0) 0) (SI.c (Int.ofNat 0))), SB.lt (SI.v 0) (SI.c (Int.ofNat 120)),
          SB.lt (SI.v 0) (SI.len (SL.v 9)), SB.le (SI.c (Int.ofNat 0)) (SI.v 0), SB.le (SI.v 0) (SI.c (Int.ofNat 120)),
          SB.le (SI.c (Int.ofNat 0)) (SI.v 1), SB.le (SI.v 1) (SI.v 0), SB.eq (SI.len (SL.v 0)) (SI.c (Int.ofNat 4)),
          SB.le (SI.len (SL.v 1)) (SI.v 0), SB.eq (SI.len (SL.v 2)) (SI.c (Int.ofNat 64)),
          SB.eq (SI.len (SL.v 3)) (SI.c (Int.ofNat 4)), SB.c true, SB.app 151 (SA.l (SL.v 0) (SA.i (SI.v 1) SA.nil)),
          SB.app 160
            (SA.l (SL.v 0) (SA.l (SL.v 1) (SA.l (SL.v 2) (SA.l (SL.v 3) (SA.i (SI.v 1) (SA.i (SI.v 0) SA.nil))))))],
      eqs := [Eqn.T (SB.c false)] },
    {
      pc :=
        [SB.not (SB.eq (SI.sel (SL.v 9) (SI.v 0) 0) (SI.c (Int.ofNat 4))),
          SB.not (SB.eq (SI.sel (SL.v 9) (SI.v 0) 0) (SI.c (Int.ofNat 3))),
          SB.not (SB.eq (SI.sel (SL.v 9) (SI.v 0) 0) (SI.c (Int.ofNat 2))),
          SB.not (SB.eq (SI.sel (SL.v 9) (SI.v 0) 0) (SI.c (Int.ofNat 1))),
          SB.not (SB.eq (SI.sel (SL.v 9) (SI.v 0) 0) (SI.c (Int.ofNat 0))), SB.lt (SI.v 0) (SI.c (Int.ofNat 120)),
          SB.lt (SI.v 0) (SI.len (SL.v 9)), SB.le (SI.c (Int.ofNat 0)) (SI.v 0), SB.le (SI.v 0) (SI.c (Int.ofNat 120)),
          SB.le (SI.c (Int.ofNat 0)) (SI.v 1), SB.le (SI.v 1) (SI.v 0), SB.eq (SI.len (SL.v 0)) (SI.c (Int.ofNat 4)),
          SB.le (SI.len (SL.v 1)) (SI.v 0), SB.eq (SI.len (SL.v 2)) (SI.c (Int.ofNat 64)),
          SB.eq (SI.len (SL.v 3)) (SI.c (Int.ofNat 4)), SB.c true, SB.app 151 (SA.l (SL.v 0) (SA.i (SI.v 1) SA.nil)),
          SB.app 160
            (SA.l (SL.v 0) (SA.l (SL.v 1) (SA.l (SL.v 2) (SA.l (SL.v 3) (SA.i (SI.v 1) (SA.i (SI.v 0) SA.nil))))))],
      eqs :=
        [Eqn.T
            (SB.lt (SI.sub (SI.c (Int.ofNat 120)) (SI.add (SI.v 0) (SI.c (Int.ofNat 1))))
              (SI.sub (SI.c (Int.ofNat 120)) (SI.v 0))),
          Eqn.T
            (SB.app 160
              (SA.l (SL.v 0)
                (SA.l (SL.v 1)
                  (SA.l (SL.v 2)
                    (SA.l (SL.v 3) (SA.i (SI.v 1) (SA.i (SI.add (SI.v 0) (SI.c (Int.ofNat 1))) SA.nil)))))))] }] := by kernel_rfl
theorem sf1_ok : sf1.ok Φ Try.prog := by
  refine ⟨by kernel_rfl, loop_rule (fun ρ => w2_ok ρ) (loopAt_sub (by kernel_rfl)) sf1_obs ?_⟩
  simp only [and_imp, List.forall_mem_cons, List.not_mem_nil, false_implies, implies_true, and_true, Ob.ok, holds, Eqn.ok, evB_eq, evB_lt, evB_le, evB_not, evB_and, evB_or, evB_eqL, evB_app, evB_v, evB_c, ev_sel, ev_len, ev_v, ev_c, ev_add, ev_sub, ev_mul, ev_quo, ev_rem, ev_bits, ev_wrap, evL_v, evL_lit, evL_app, ev_app, evA_l, evA_i, evA_nil, std_min, std_max, std_cat, std_take, std_drop, std_row, std_set, std_rep, std_find, std_put, std_del, std_flag, std_unflag, std_clr, std_left, std_copy, ints_cons, ints_nil, ofNat_lit, negSucc_lit, decide_eq_true_eq, Bool.and_eq_true, Bool.or_eq_true, Bool.not_eq_true', Bool.and_eq_false_iff, Bool.or_eq_false_iff, decide_eq_false_iff_not, aI100, aL100, aL110, aL111, aL112, aL113, aL114, aL120, aL121, aL131, aB130, aB199, aI140, aI141, aI142, aI143, aL115, aL140, aL141, aL142, aB150, aB151, aB152, aB153, aB154, aB155, aB160, aB161, aB162, std_rowT, std_setT, rowT_len, rowT_get]
  repeat' apply And.intro
  all_goals intro ρ hR
  all_goals intros
  all_goals first
    | (omega)
    | (have hs : sfB (ρ.l 0) (ρ.l 1) (ρ.l 2) (ρ.l 3) (ρ.i 1) (ρ.i 0) = true := by with_reducible assumption
       have hn : nearB (ρ.l 0) (ρ.i 1) = true := by with_reducible assumption
       have hP : ∀ r ∈ ρ.l 0, okRow [.i .i64] r := hR.row 2 rfl rfl
       have hN : ∀ r ∈ ρ.l 3, okRow [.i .i64] r := hR.row 6 rfl rfl
       have a3 := and3 (((ρ.l 9).getD (ρ.i 0).toNat []).getD 1 0)
       have a63 := and63 (((ρ.l 9).getD (ρ.i 0).toNat []).getD 2 0)
       exfalso
       omega)
    | (have hs : sfB (ρ.l 0) (ρ.l 1) (ρ.l 2) (ρ.l 3) (ρ.i 1) (ρ.i 0) = true := by with_reducible assumption
       have hn : nearB (ρ.l 0) (ρ.i 1) = true := by with_reducible assumption
       have hP : ∀ r ∈ ρ.l 0, okRow [.i .i64] r := hR.row 2 rfl rfl
       have hN : ∀ r ∈ ρ.l 3, okRow [.i .i64] r := hR.row 6 rfl rfl
       have a3 := and3 (((ρ.l 9).getD (ρ.i 0).toNat []).getD 1 0)
       have a63 := and63 (((ρ.l 9).getD (ρ.i 0).toNat []).getD 2 0)
       have hk : pinI (ρ.l 0) (Go.bits .and .i64 (((ρ.l 9).getD (ρ.i 0).toNat []).getD 1 0) 3) = 0 := by with_reducible assumption
       exact ⟨by omega, near_pin (P := ρ.l 0) (now := ρ.i 1) (c := (Go.bits .and .i64 (((ρ.l 9).getD (ρ.i 0).toNat []).getD 1 0) 3)) hP hn, sf_pin hs hP hN (by omega) (by omega) (by omega) (by omega) a3.1 a3.2 hk⟩)
    | (have hs : sfB (ρ.l 0) (ρ.l 1) (ρ.l 2) (ρ.l 3) (ρ.i 1) (ρ.i 0) = true := by with_reducible assumption
       have hn : nearB (ρ.l 0) (ρ.i 1) = true := by with_reducible assumption
       have hP : ∀ r ∈ ρ.l 0, okRow [.i .i64] r := hR.row 2 rfl rfl
       have hN : ∀ r ∈ ρ.l 3, okRow [.i .i64] r := hR.row 6 rfl rfl
       have a3 := and3 (((ρ.l 9).getD (ρ.i 0).toNat []).getD 1 0)
       have a63 := and63 (((ρ.l 9).getD (ρ.i 0).toNat []).getD 2 0)
       have hk : ¬ pinI (ρ.l 0) (Go.bits .and .i64 (((ρ.l 9).getD (ρ.i 0).toNat []).getD 1 0) 3) = 0 := by with_reducible assumption
       have e : pinL (ρ.l 0) (Go.bits .and .i64 (((ρ.l 9).getD (ρ.i 0).toNat []).getD 1 0) 3) (ρ.i 1) = ρ.l 0 := if_neg hk
       rw [e]
       exact ⟨by omega, hn, sf_more hs (by omega)⟩)
    | (have hs : sfB (ρ.l 0) (ρ.l 1) (ρ.l 2) (ρ.l 3) (ρ.i 1) (ρ.i 0) = true := by with_reducible assumption
       have hn : nearB (ρ.l 0) (ρ.i 1) = true := by with_reducible assumption
       have hP : ∀ r ∈ ρ.l 0, okRow [.i .i64] r := hR.row 2 rfl rfl
       have hN : ∀ r ∈ ρ.l 3, okRow [.i .i64] r := hR.row 6 rfl rfl
       have a3 := and3 (((ρ.l 9).getD (ρ.i 0).toNat []).getD 1 0)
       have a63 := and63 (((ρ.l 9).getD (ρ.i 0).toNat []).getD 2 0)
       have hk : unpI (ρ.l 0) (Go.bits .and .i64 (((ρ.l 9).getD (ρ.i 0).toNat []).getD 1 0) 3) = 0 := by with_reducible assumption
       exact ⟨by omega, near_unp (P := ρ.l 0) (now := ρ.i 1) (c := (Go.bits .and .i64 (((ρ.l 9).getD (ρ.i 0).toNat []).getD 1 0) 3)) hP hn, sf_unp hs hP hN (by omega) (by omega) (by omega) a3.1 a3.2 hk⟩)
    | (have hs : sfB (ρ.l 0) (ρ.l 1) (ρ.l 2) (ρ.l 3) (ρ.i 1) (ρ.i 0) = true := by with_reducible assumption
       have hn : nearB (ρ.l 0) (ρ.i 1) = true := by with_reducible assumption
       have hP : ∀ r ∈ ρ.l 0, okRow [.i .i64] r := hR.row 2 rfl rfl
       have hN : ∀ r ∈ ρ.l 3, okRow [.i .i64] r := hR.row 6 rfl rfl
       have a3 := and3 (((ρ.l 9).getD (ρ.i 0).toNat []).getD 1 0)
       have a63 := and63 (((ρ.l 9).getD (ρ.i 0).toNat []).getD 2 0)
       have hk : ¬ unpI (ρ.l 0) (Go.bits .and .i64 (((ρ.l 9).getD (ρ.i 0).toNat []).getD 1 0) 3) = 0 := by with_reducible assumption
       have e : unpL (ρ.l 0) (Go.bits .and .i64 (((ρ.l 9).getD (ρ.i 0).toNat []).getD 1 0) 3) = ρ.l 0 := if_neg hk
       rw [e]
       exact ⟨by omega, hn, sf_more hs (by omega)⟩)
    | (have hs : sfB (ρ.l 0) (ρ.l 1) (ρ.l 2) (ρ.l 3) (ρ.i 1) (ρ.i 0) = true := by with_reducible assumption
       have hn : nearB (ρ.l 0) (ρ.i 1) = true := by with_reducible assumption
       have hP : ∀ r ∈ ρ.l 0, okRow [.i .i64] r := hR.row 2 rfl rfl
       have hN : ∀ r ∈ ρ.l 3, okRow [.i .i64] r := hR.row 6 rfl rfl
       have a3 := and3 (((ρ.l 9).getD (ρ.i 0).toNat []).getD 1 0)
       have a63 := and63 (((ρ.l 9).getD (ρ.i 0).toNat []).getD 2 0)
       have hk : retI (ρ.l 1) (Go.bits .and .i64 (((ρ.l 9).getD (ρ.i 0).toNat []).getD 2 0) 63) = 0 := by with_reducible assumption
       exact ⟨by omega, sf_ret hs hn hN (by omega) (by omega) (by omega) (by omega) a63.1 a63.2 hk⟩)
    | (have hs : sfB (ρ.l 0) (ρ.l 1) (ρ.l 2) (ρ.l 3) (ρ.i 1) (ρ.i 0) = true := by with_reducible assumption
       have hn : nearB (ρ.l 0) (ρ.i 1) = true := by with_reducible assumption
       have hP : ∀ r ∈ ρ.l 0, okRow [.i .i64] r := hR.row 2 rfl rfl
       have hN : ∀ r ∈ ρ.l 3, okRow [.i .i64] r := hR.row 6 rfl rfl
       have a3 := and3 (((ρ.l 9).getD (ρ.i 0).toNat []).getD 1 0)
       have a63 := and63 (((ρ.l 9).getD (ρ.i 0).toNat []).getD 2 0)
       have hk : ¬ retI (ρ.l 1) (Go.bits .and .i64 (((ρ.l 9).getD (ρ.i 0).toNat []).getD 2 0) 63) = 0 := by with_reducible assumption
       have e : retL (ρ.l 1) (Go.bits .and .i64 (((ρ.l 9).getD (ρ.i 0).toNat []).getD 2 0) 63) (ρ.i 1) = ρ.l 1 := if_neg hk
       rw [e]
       exact ⟨by omega, sf_more hs (by omega)⟩)
    | (have hs : sfB (ρ.l 0) (ρ.l 1) (ρ.l 2) (ρ.l 3) (ρ.i 1) (ρ.i 0) = true := by with_reducible assumption
       have hn : nearB (ρ.l 0) (ρ.i 1) = true := by with_reducible assumption
       have hP : ∀ r ∈ ρ.l 0, okRow [.i .i64] r := hR.row 2 rfl rfl
       have hN : ∀ r ∈ ρ.l 3, okRow [.i .i64] r := hR.row 6 rfl rfl
       have a3 := and3 (((ρ.l 9).getD (ρ.i 0).toNat []).getD 1 0)
       have a63 := and63 (((ρ.l 9).getD (ρ.i 0).toNat []).getD 2 0)
       have hk : lateB ((ρ.l 0).drop (0 : Int).toNat) (ρ.i 1) = false := by with_reducible assumption
       exact ⟨by omega, late_near hk, sf_more (sf_next hs) (by omega)⟩)
    | (have hz : sfB (ρ.l 0) (keepT (oldP (ρ.i 1)) (ρ.l 1)) (ρ.l 1000) (ρ.l 3) (ρ.i 1) (ρ.i 0) = true := by with_reducible assumption
       exact ⟨by omega, sf_more hz (by omega)⟩)
    | (have hs : sfB (ρ.l 0) (ρ.l 1) (ρ.l 2) (ρ.l 3) (ρ.i 1) (ρ.i 0) = true := by with_reducible assumption
       have hn : nearB (ρ.l 0) (ρ.i 1) = true := by with_reducible assumption
       have hP : ∀ r ∈ ρ.l 0, okRow [.i .i64] r := hR.row 2 rfl rfl
       have hN : ∀ r ∈ ρ.l 3, okRow [.i .i64] r := hR.row 6 rfl rfl
       have a3 := and3 (((ρ.l 9).getD (ρ.i 0).toNat []).getD 1 0)
       have a63 := and63 (((ρ.l 9).getD (ρ.i 0).toNat []).getD 2 0)
       have e := free_gone hs (hR.keys 3 rfl rfl) hn (by omega) (by omega) (by omega)
       exfalso
       exact Bool.false_ne_true (‹goneL _ _ _ _ = false›.symm.trans e))
    | (have hs : sfB (ρ.l 0) (ρ.l 1) (ρ.l 2) (ρ.l 3) (ρ.i 1) (ρ.i 0) = true := by with_reducible assumption
       have hn : nearB (ρ.l 0) (ρ.i 1) = true := by with_reducible assumption
       have hP : ∀ r ∈ ρ.l 0, okRow [.i .i64] r := hR.row 2 rfl rfl
       have hN : ∀ r ∈ ρ.l 3, okRow [.i .i64] r := hR.row 6 rfl rfl
       have a3 := and3 (((ρ.l 9).getD (ρ.i 0).toNat []).getD 1 0)
       have a63 := and63 (((ρ.l 9).getD (ρ.i 0).toNat []).getD 2 0)
       refine ⟨by omega, ?_⟩
       with_reducible exact sf_more hs (by omega))
    | (have hs : sfB (ρ.l 0) (ρ.l 1) (ρ.l 2) (ρ.l 3) (ρ.i 1) (ρ.i 0) = true := by with_reducible assumption
       have hn : nearB (ρ.l 0) (ρ.i 1) = true := by with_reducible assumption
       have hP : ∀ r ∈ ρ.l 0, okRow [.i .i64] r := hR.row 2 rfl rfl
       have hN : ∀ r ∈ ρ.l 3, okRow [.i .i64] r := hR.row 6 rfl rfl
       have a3 := and3 (((ρ.l 9).getD (ρ.i 0).toNat []).getD 1 0)
       have a63 := and63 (((ρ.l 9).getD (ρ.i 0).toNat []).getD 2 0)
       exfalso
       exact Bool.false_ne_true (‹sfB _ (keepT (oldP (ρ.i 1)) (ρ.l 1)) _ _ _ _ = false›.symm.trans (sf_keep hs)))
theorem w3_ok (ρ : Env) : TblOK Φ ρ Try.prog w3 := addLp_ok (t10_ok ρ) sf1_ok
set_option maxRecDepth 100000 in
theorem lSafe0_obs : callObs Φ Try.prog w3 1000 lSafe0.f lSafe0.vs lSafe0.o lSafe0.pc lSafe0.outs = some
  [] := by kernel_rfl
theorem lSafe0_ok : lSafe0.ok Φ Try.prog := by
  refine call_rule (fun ρ => w3_ok ρ) lSafe0_obs ?_
  intro ob h; cases h
theorem lSafe_ok : lSafe.ok Φ Try.prog := drop_never rfl lSafe0_ok
end Go.SF.C10
