/- The law of Drop, shown. -/
import Derived.Test.YtjeafkeofbmgcaaQ1
import Derived.Test.YtjeafkeofbmgcaaC2
import Derived.Test.YtjeafkeofbmgcaaP3
import Derived.KernelRfl
namespace Go.SF.C19
open Go Go.SF Go.Proofs
set_option linter.unusedVariables false
set_option linter.unusedSimpArgs false

set_option maxRecDepth 100000 in
theorem dp1_obs : loopObs Φ Try.prog t6 1000 dp1.f (loopAt Try.prog dp1.f dp1.id) dp1.n dp1.T k3 dp1.outs = some
  [{
      pc :=
        [SB.eq
            (SI.len
              (SL.app 112
                (SA.l (SL.v 0)
                  (SA.i (SI.sel (SL.v 9) (SI.v 0) 4)
                    (SA.i (SI.sel (SL.v 9) (SI.v 0) 1) (SA.i (SI.c (Int.ofNat 1)) SA.nil))))))
            (SI.len (SL.v 0)),
          SB.not (SB.eq (SI.sel (SL.v 9) (SI.v 0) 5) (SI.c (Int.ofNat 0))),
          SB.or (SB.not (SB.eq (SI.sel (SL.v 9) (SI.v 0) 5) (SI.c (Int.ofNat 0))))
            (SB.eq (SI.sel (SL.v 9) (SI.v 0) 5) (SI.c (Int.ofNat 0))),
          SB.eq (SI.sel (SL.v 9) (SI.v 0) 0) (SI.c (Int.ofNat 1)), SB.lt (SI.v 0) (SI.c (Int.ofNat 60)),
          SB.lt (SI.v 0) (SI.len (SL.v 9)), SB.le (SI.c (Int.ofNat 0)) (SI.v 0), SB.le (SI.v 0) (SI.c (Int.ofNat 60)),
          SB.eq (SI.len (SL.v 0)) (SI.c (Int.ofNat 20))],
      eqs :=
        [Eqn.T
            (SB.lt (SI.sub (SI.c (Int.ofNat 60)) (SI.add (SI.v 0) (SI.c (Int.ofNat 1))))
              (SI.sub (SI.c (Int.ofNat 60)) (SI.v 0)))] },
    {
      pc :=
        [SB.eq
            (SI.len
              (SL.app 112
                (SA.l (SL.v 0)
                  (SA.i (SI.sel (SL.v 9) (SI.v 0) 4)
                    (SA.i (SI.sel (SL.v 9) (SI.v 0) 1) (SA.i (SI.c (Int.ofNat 0)) SA.nil))))))
            (SI.len (SL.v 0)),
          SB.eq (SI.sel (SL.v 9) (SI.v 0) 5) (SI.c (Int.ofNat 0)),
          SB.or (SB.not (SB.eq (SI.sel (SL.v 9) (SI.v 0) 5) (SI.c (Int.ofNat 0))))
            (SB.eq (SI.sel (SL.v 9) (SI.v 0) 5) (SI.c (Int.ofNat 0))),
          SB.eq (SI.sel (SL.v 9) (SI.v 0) 0) (SI.c (Int.ofNat 1)), SB.lt (SI.v 0) (SI.c (Int.ofNat 60)),
          SB.lt (SI.v 0) (SI.len (SL.v 9)), SB.le (SI.c (Int.ofNat 0)) (SI.v 0), SB.le (SI.v 0) (SI.c (Int.ofNat 60)),
          SB.eq (SI.len (SL.v 0)) (SI.c (Int.ofNat 20))],
      eqs :=
        [Eqn.T
            (SB.lt (SI.sub (SI.c (Int.ofNat 60)) (SI.add (SI.v 0) (SI.c (Int.ofNat 1))))
              (SI.sub (SI.c (Int.ofNat 60)) (SI.v 0)))] },
    {
      pc :=
        [SB.not
            (SB.or (SB.not (SB.eq (SI.sel (SL.v 9) (SI.v 0) 5) (SI.c (Int.ofNat 0))))
              (SB.eq (SI.sel (SL.v 9) (SI.v 0) 5) (SI.c (Int.ofNat 0)))),
          SB.eq (SI.sel (SL.v 9) (SI.v 0) 0) (SI.c (Int.ofNat 1)), SB.lt (SI.v 0) (SI.c (Int.ofNat 60)),
          SB.lt (SI.v 0) (SI.len (SL.v 9)), SB.le (SI.c (Int.ofNat 0)) (SI.v 0), SB.le (SI.v 0) (SI.c (Int.ofNat 60)),
          SB.eq (SI.len (SL.v 0)) (SI.c (Int.ofNat 20))],
      eqs := [Eqn.T (SB.c false)] },
    {
      pc :=
        [SB.eq
            (SI.len
              (SL.app 110
                (SA.l (SL.v 0)
                  (SA.i (SI.sel (SL.v 9) (SI.v 0) 1)
                    (SA.i (SI.sel (SL.v 9) (SI.v 0) 3)
                      (SA.i (SI.sel (SL.v 9) (SI.v 0) 2) (SA.i (SI.c (Int.ofNat 1)) SA.nil)))))))
            (SI.len (SL.v 0)),
          SB.not (SB.eq (SI.sel (SL.v 9) (SI.v 0) 5) (SI.c (Int.ofNat 0))),
          SB.or (SB.not (SB.eq (SI.sel (SL.v 9) (SI.v 0) 5) (SI.c (Int.ofNat 0))))
            (SB.eq (SI.sel (SL.v 9) (SI.v 0) 5) (SI.c (Int.ofNat 0))),
          SB.not (SB.eq (SI.sel (SL.v 9) (SI.v 0) 0) (SI.c (Int.ofNat 1))), SB.lt (SI.v 0) (SI.c (Int.ofNat 60)),
          SB.lt (SI.v 0) (SI.len (SL.v 9)), SB.le (SI.c (Int.ofNat 0)) (SI.v 0), SB.le (SI.v 0) (SI.c (Int.ofNat 60)),
          SB.eq (SI.len (SL.v 0)) (SI.c (Int.ofNat 20))],
      eqs :=
        [Eqn.T
            (SB.lt (SI.sub (SI.c (Int.ofNat 60)) (SI.add (SI.v 0) (SI.c (Int.ofNat 1))))
              (SI.sub (SI.c (Int.ofNat 60)) (SI.v 0)))] },
    {
      pc :=
        [SB.eq
            (SI.len
              (SL.app 110
                (SA.l (SL.v 0)
                  (SA.i (SI.sel (SL.v 9) (SI.v 0) 1)
                    (SA.i (SI.sel (SL.v 9) (SI.v 0) 3)
                      (SA.i (SI.sel (SL.v 9) (SI.v 0) 2) (SA.i (SI.c (Int.ofNat 0)) SA.nil)))))))
            (SI.len (SL.v 0)),
          SB.eq (SI.sel (SL.v 9) (SI.v 0) 5) (SI.c (Int.ofNat 0)),
          SB.or (SB.not (SB.eq (SI.sel (SL.v 9) (SI.v 0) 5) (SI.c (Int.ofNat 0))))
            (SB.eq (SI.sel (SL.v 9) (SI.v 0) 5) (SI.c (Int.ofNat 0))),
          SB.not (SB.eq (SI.sel (SL.v 9) (SI.v 0) 0) (SI.c (Int.ofNat 1))), SB.lt (SI.v 0) (SI.c (Int.ofNat 60)),
          SB.lt (SI.v 0) (SI.len (SL.v 9)), SB.le (SI.c (Int.ofNat 0)) (SI.v 0), SB.le (SI.v 0) (SI.c (Int.ofNat 60)),
          SB.eq (SI.len (SL.v 0)) (SI.c (Int.ofNat 20))],
      eqs :=
        [Eqn.T
            (SB.lt (SI.sub (SI.c (Int.ofNat 60)) (SI.add (SI.v 0) (SI.c (Int.ofNat 1))))
              (SI.sub (SI.c (Int.ofNat 60)) (SI.v 0)))] },
    {
      pc :=
        [SB.not
            (SB.or (SB.not (SB.eq (SI.sel (SL.v 9) (SI.v 0) 5) (SI.c (Int.ofNat 0))))
              (SB.eq (SI.sel (SL.v 9) (SI.v 0) 5) (SI.c (Int.ofNat 0)))),
          SB.not (SB.eq (SI.sel (SL.v 9) (SI.v 0) 0) (SI.c (Int.ofNat 1))), SB.lt (SI.v 0) (SI.c (Int.ofNat 60)),
          SB.lt (SI.v 0) (SI.len (SL.v 9)), SB.le (SI.c (Int.ofNat 0)) (SI.v 0), SB.le (SI.v 0) (SI.c (Int.ofNat 60)),
          SB.eq (SI.len (SL.v 0)) (SI.c (Int.ofNat 20))],
      eqs := [Eqn.T (SB.c false)] }] := by kernel_rfl
theorem dp1_ok : dp1.ok Φ Try.prog := by
  refine ⟨by kernel_rfl, loop_rule (fun ρ => t6_ok ρ) (loopAt_sub (by kernel_rfl)) dp1_obs ?_⟩
  simp only [and_imp, List.forall_mem_cons, List.not_mem_nil, false_implies, implies_true, and_true, Ob.ok, holds, Eqn.ok, evB_eq, evB_lt, evB_le, evB_not, evB_and, evB_or, evB_eqL, evB_app, evB_v, evB_c, ev_sel, ev_len, ev_v, ev_c, ev_add, ev_sub, ev_mul, ev_quo, ev_rem, ev_bits, ev_wrap, evL_v, evL_lit, evL_app, ev_app, evA_l, evA_i, evA_nil, std_min, std_max, std_cat, std_take, std_drop, std_row, std_set, std_rep, std_find, std_put, std_del, std_flag, std_unflag, std_clr, std_left, std_copy, ints_cons, ints_nil, ofNat_lit, negSucc_lit, decide_eq_true_eq, Bool.and_eq_true, Bool.or_eq_true, Bool.not_eq_true', Bool.and_eq_false_iff, Bool.or_eq_false_iff, decide_eq_false_iff_not, aI110, aI111, aI112, aI113, aI114, aL100, aL101, aL102, aL103, aL110, aL112, aL113, aL114, aL115, aL116, aB130, aB131, aB132, aB199]
  repeat' apply And.intro
  all_goals intro ρ hR
  all_goals intros
  all_goals first
    | (omega)
    | (exfalso
       simp_all
       done)
set_option maxRecDepth 100000 in
theorem dp2_obs : loopObs Φ Try.prog t6 1000 dp2.f (loopAt Try.prog dp2.f dp2.id) dp2.n dp2.T k4 dp2.outs = some
  [{
      pc :=
        [SB.app 130 (SA.l (SL.v 0) (SA.i (SI.v 0) SA.nil)), SB.lt (SI.v 0) (SI.c (Int.ofNat 20)),
          SB.le (SI.c (Int.ofNat 0)) (SI.v 0), SB.le (SI.v 0) (SI.c (Int.ofNat 20)),
          SB.eq (SI.len (SL.v 0)) (SI.c (Int.ofNat 20)), SB.le (SI.len (SL.v 1)) (SI.v 0), SB.c true,
          SB.eqL (SL.v 1) (SL.app 1 (SA.l (SL.v 0) (SA.i (SI.v 0) SA.nil)))],
      eqs :=
        [Eqn.T
            (SB.lt (SI.sub (SI.c (Int.ofNat 20)) (SI.add (SI.v 0) (SI.c (Int.ofNat 1))))
              (SI.sub (SI.c (Int.ofNat 20)) (SI.v 0))),
          Eqn.T
            (SB.eqL
              (SL.app 0
                (SA.l (SL.v 1)
                  (SA.l (SL.lit [[Int.ofNat 0, Int.ofNat 0, Int.ofNat 0, Int.ofNat 0, Int.ofNat 0]]) SA.nil)))
              (SL.app 1 (SA.l (SL.v 0) (SA.i (SI.add (SI.v 0) (SI.c (Int.ofNat 1))) SA.nil))))] },
    {
      pc :=
        [SB.eq (SI.sel (SL.v 0) (SI.v 0) 3) (SI.c (Int.ofNat 0)),
          SB.not (SB.app 130 (SA.l (SL.v 0) (SA.i (SI.v 0) SA.nil))), SB.lt (SI.v 0) (SI.c (Int.ofNat 20)),
          SB.le (SI.c (Int.ofNat 0)) (SI.v 0), SB.le (SI.v 0) (SI.c (Int.ofNat 20)),
          SB.eq (SI.len (SL.v 0)) (SI.c (Int.ofNat 20)), SB.le (SI.len (SL.v 1)) (SI.v 0), SB.c true,
          SB.eqL (SL.v 1) (SL.app 1 (SA.l (SL.v 0) (SA.i (SI.v 0) SA.nil)))],
      eqs :=
        [Eqn.T
            (SB.lt (SI.sub (SI.c (Int.ofNat 20)) (SI.add (SI.v 0) (SI.c (Int.ofNat 1))))
              (SI.sub (SI.c (Int.ofNat 20)) (SI.v 0))),
          Eqn.T
            (SB.eqL
              (SL.app 0
                (SA.l (SL.v 1)
                  (SA.l
                    (SL.app 3
                      (SA.i (SI.sel (SL.v 0) (SI.v 0) 0)
                        (SA.i (SI.sel (SL.v 0) (SI.v 0) 1)
                          (SA.i (SI.sel (SL.v 0) (SI.v 0) 2)
                            (SA.i (SI.c (Int.ofNat 0)) (SA.i (SI.sel (SL.v 0) (SI.v 0) 4) SA.nil))))))
                    SA.nil)))
              (SL.app 1 (SA.l (SL.v 0) (SA.i (SI.add (SI.v 0) (SI.c (Int.ofNat 1))) SA.nil))))] },
    {
      pc :=
        [SB.not (SB.eq (SI.sel (SL.v 0) (SI.v 0) 3) (SI.c (Int.ofNat 0))),
          SB.not (SB.app 130 (SA.l (SL.v 0) (SA.i (SI.v 0) SA.nil))), SB.lt (SI.v 0) (SI.c (Int.ofNat 20)),
          SB.le (SI.c (Int.ofNat 0)) (SI.v 0), SB.le (SI.v 0) (SI.c (Int.ofNat 20)),
          SB.eq (SI.len (SL.v 0)) (SI.c (Int.ofNat 20)), SB.le (SI.len (SL.v 1)) (SI.v 0), SB.c true,
          SB.eqL (SL.v 1) (SL.app 1 (SA.l (SL.v 0) (SA.i (SI.v 0) SA.nil)))],
      eqs :=
        [Eqn.T
            (SB.lt (SI.sub (SI.c (Int.ofNat 20)) (SI.add (SI.v 0) (SI.c (Int.ofNat 1))))
              (SI.sub (SI.c (Int.ofNat 20)) (SI.v 0))),
          Eqn.T
            (SB.eqL
              (SL.app 0
                (SA.l (SL.v 1)
                  (SA.l
                    (SL.app 3
                      (SA.i (SI.sel (SL.v 0) (SI.v 0) 0)
                        (SA.i (SI.sel (SL.v 0) (SI.v 0) 1)
                          (SA.i (SI.sel (SL.v 0) (SI.v 0) 2)
                            (SA.i (SI.c (Int.ofNat 1)) (SA.i (SI.sel (SL.v 0) (SI.v 0) 4) SA.nil))))))
                    SA.nil)))
              (SL.app 1 (SA.l (SL.v 0) (SA.i (SI.add (SI.v 0) (SI.c (Int.ofNat 1))) SA.nil))))] },
    {
      pc :=
        [SB.not (SB.lt (SI.v 0) (SI.c (Int.ofNat 20))), SB.le (SI.c (Int.ofNat 0)) (SI.v 0),
          SB.le (SI.v 0) (SI.c (Int.ofNat 20)), SB.eq (SI.len (SL.v 0)) (SI.c (Int.ofNat 20)),
          SB.le (SI.len (SL.v 1)) (SI.v 0), SB.c true,
          SB.eqL (SL.v 1) (SL.app 1 (SA.l (SL.v 0) (SA.i (SI.v 0) SA.nil)))],
      eqs := [Eqn.I (SI.len (SL.v 0)) (SI.len (SL.v 1)), Eqn.L (SL.v 0) (SL.v 1)] }] := by kernel_rfl
theorem dp2_ok : dp2.ok Φ Try.prog := by
  refine ⟨by kernel_rfl, loop_rule (fun ρ => t6_ok ρ) (loopAt_sub (by kernel_rfl)) dp2_obs ?_⟩
  simp only [and_imp, List.forall_mem_cons, List.not_mem_nil, false_implies, implies_true, and_true, Ob.ok, holds, Eqn.ok, evB_eq, evB_lt, evB_le, evB_not, evB_and, evB_or, evB_eqL, evB_app, evB_v, evB_c, ev_sel, ev_len, ev_v, ev_c, ev_add, ev_sub, ev_mul, ev_quo, ev_rem, ev_bits, ev_wrap, evL_v, evL_lit, evL_app, ev_app, evA_l, evA_i, evA_nil, std_min, std_max, std_cat, std_take, std_drop, std_row, std_set, std_rep, std_find, std_put, std_del, std_flag, std_unflag, std_clr, std_left, std_copy, ints_cons, ints_nil, ofNat_lit, negSucc_lit, decide_eq_true_eq, Bool.and_eq_true, Bool.or_eq_true, Bool.not_eq_true', Bool.and_eq_false_iff, Bool.or_eq_false_iff, decide_eq_false_iff_not, aI110, aI111, aI112, aI113, aI114, aL100, aL101, aL102, aL103, aL110, aL112, aL113, aL114, aL115, aL116, aB130, aB131, aB132, aB199]
  repeat' apply And.intro
  all_goals intro ρ hR
  all_goals intros
  all_goals first
    | (omega)
    | (have e1 : ρ.l 1 = List.take (ρ.i 0).toNat (ρ.l 0) := by with_reducible assumption
       have hT : ∀ r ∈ ρ.l 0, okRow K5 r := hR.row 1 rfl rfl
       have hn := none_row (T := ρ.l 0) (id := ρ.i 0) (by with_reducible assumption) (by omega) (by omega)
       exact ⟨by omega, by rw [e1, take_step (by omega) (by omega), hn]⟩)
    | (have e1 : ρ.l 1 = List.take (ρ.i 0).toNat (ρ.l 0) := by with_reducible assumption
       have hT : ∀ r ∈ ρ.l 0, okRow K5 r := hR.row 1 rfl rfl
       exact ⟨by omega, by rw [e1, take_step (by omega) (by omega), row5 hT (by omega) (by omega) (by omega)]⟩)
    | (have e1 : ρ.l 1 = List.take (ρ.i 0).toNat (ρ.l 0) := by with_reducible assumption
       have hT : ∀ r ∈ ρ.l 0, okRow K5 r := hR.row 1 rfl rfl
       have hb := bool3 hT (id := ρ.i 0) (by omega) (by omega)
       exact ⟨by omega, by rw [e1, take_step (by omega) (by omega), row5 hT (by omega) (by omega) (by omega)]⟩)
    | (have e1 : ρ.l 1 = List.take (ρ.i 0).toNat (ρ.l 0) := by with_reducible assumption
       rw [List.take_of_length_le (by omega)] at e1
       rw [e1]
       exact ⟨rfl, rfl⟩)
    | (have e1 : ρ.l 1 = List.take (ρ.i 0).toNat (ρ.l 0) := by with_reducible assumption
       rw [List.take_of_length_le (by omega)] at e1
       rw [e1])
set_option maxRecDepth 100000 in
theorem dp3_obs : loopObs Φ Try.prog t6 1000 dp3.f (loopAt Try.prog dp3.f dp3.id) dp3.n dp3.T k4 dp3.outs = some
  [{
      pc :=
        [SB.eq (SI.sel (SL.v 1) (SI.v 0) 0) (SI.v 3), SB.app 130 (SA.l (SL.v 0) (SA.i (SI.v 0) SA.nil)),
          SB.lt (SI.v 0) (SI.c (Int.ofNat 20)), SB.le (SI.c (Int.ofNat 0)) (SI.v 0),
          SB.le (SI.v 0) (SI.c (Int.ofNat 20)), SB.eq (SI.len (SL.v 0)) (SI.c (Int.ofNat 20)),
          SB.eq (SI.len (SL.v 1)) (SI.c (Int.ofNat 20)), SB.le (SI.c (Int.ofNat 1)) (SI.v 3),
          SB.le (SI.v 3) (SI.c (Int.ofNat 16)), SB.c true,
          SB.eqL (SL.v 0) (SL.app 116 (SA.l (SL.v 1) (SA.i (SI.v 3) SA.nil))),
          SB.eq (SI.v 1) (SI.len (SL.app 102 (SA.l (SL.v 1) (SA.i (SI.v 0) (SA.i (SI.v 3) SA.nil)))))],
      eqs :=
        [Eqn.T
            (SB.lt (SI.sub (SI.c (Int.ofNat 20)) (SI.add (SI.v 0) (SI.c (Int.ofNat 1))))
              (SI.sub (SI.c (Int.ofNat 20)) (SI.v 0))),
          Eqn.T
            (SB.eq (SI.wrap IntKind.i64 (SI.sub (SI.v 1) (SI.c (Int.ofNat 1))))
              (SI.len
                (SL.app 102 (SA.l (SL.v 1) (SA.i (SI.add (SI.v 0) (SI.c (Int.ofNat 1))) (SA.i (SI.v 3) SA.nil))))))] },
    {
      pc :=
        [SB.eq (SI.sel (SL.v 1) (SI.v 0) 2) (SI.v 3), SB.not (SB.eq (SI.sel (SL.v 1) (SI.v 0) 0) (SI.v 3)),
          SB.app 130 (SA.l (SL.v 0) (SA.i (SI.v 0) SA.nil)), SB.lt (SI.v 0) (SI.c (Int.ofNat 20)),
          SB.le (SI.c (Int.ofNat 0)) (SI.v 0), SB.le (SI.v 0) (SI.c (Int.ofNat 20)),
          SB.eq (SI.len (SL.v 0)) (SI.c (Int.ofNat 20)), SB.eq (SI.len (SL.v 1)) (SI.c (Int.ofNat 20)),
          SB.le (SI.c (Int.ofNat 1)) (SI.v 3), SB.le (SI.v 3) (SI.c (Int.ofNat 16)), SB.c true,
          SB.eqL (SL.v 0) (SL.app 116 (SA.l (SL.v 1) (SA.i (SI.v 3) SA.nil))),
          SB.eq (SI.v 1) (SI.len (SL.app 102 (SA.l (SL.v 1) (SA.i (SI.v 0) (SA.i (SI.v 3) SA.nil)))))],
      eqs :=
        [Eqn.T
            (SB.lt (SI.sub (SI.c (Int.ofNat 20)) (SI.add (SI.v 0) (SI.c (Int.ofNat 1))))
              (SI.sub (SI.c (Int.ofNat 20)) (SI.v 0))),
          Eqn.T
            (SB.eq (SI.wrap IntKind.i64 (SI.sub (SI.v 1) (SI.c (Int.ofNat 1))))
              (SI.len
                (SL.app 102 (SA.l (SL.v 1) (SA.i (SI.add (SI.v 0) (SI.c (Int.ofNat 1))) (SA.i (SI.v 3) SA.nil))))))] },
    {
      pc :=
        [SB.eq (SI.sel (SL.v 1) (SI.v 0) 4) (SI.c (Int.ofNat 0)),
          SB.eq (SI.sel (SL.v 1) (SI.v 0) 3) (SI.c (Int.ofNat 0)),
          SB.eq (SI.sel (SL.v 1) (SI.v 0) 2) (SI.c (Int.ofNat 0)),
          SB.eq (SI.sel (SL.v 1) (SI.v 0) 1) (SI.c (Int.ofNat 0)),
          SB.eq (SI.sel (SL.v 1) (SI.v 0) 0) (SI.c (Int.ofNat 0)), SB.not (SB.eq (SI.sel (SL.v 1) (SI.v 0) 2) (SI.v 3)),
          SB.not (SB.eq (SI.sel (SL.v 1) (SI.v 0) 0) (SI.v 3)), SB.app 130 (SA.l (SL.v 0) (SA.i (SI.v 0) SA.nil)),
          SB.lt (SI.v 0) (SI.c (Int.ofNat 20)), SB.le (SI.c (Int.ofNat 0)) (SI.v 0),
          SB.le (SI.v 0) (SI.c (Int.ofNat 20)), SB.eq (SI.len (SL.v 0)) (SI.c (Int.ofNat 20)),
          SB.eq (SI.len (SL.v 1)) (SI.c (Int.ofNat 20)), SB.le (SI.c (Int.ofNat 1)) (SI.v 3),
          SB.le (SI.v 3) (SI.c (Int.ofNat 16)), SB.c true,
          SB.eqL (SL.v 0) (SL.app 116 (SA.l (SL.v 1) (SA.i (SI.v 3) SA.nil))),
          SB.eq (SI.v 1) (SI.len (SL.app 102 (SA.l (SL.v 1) (SA.i (SI.v 0) (SA.i (SI.v 3) SA.nil)))))],
      eqs :=
        [Eqn.T
            (SB.lt (SI.sub (SI.c (Int.ofNat 20)) (SI.add (SI.v 0) (SI.c (Int.ofNat 1))))
              (SI.sub (SI.c (Int.ofNat 20)) (SI.v 0))),
          Eqn.T
            (SB.eq (SI.v 1)
              (SI.len
                (SL.app 102 (SA.l (SL.v 1) (SA.i (SI.add (SI.v 0) (SI.c (Int.ofNat 1))) (SA.i (SI.v 3) SA.nil))))))] },
    {
      pc :=
        [SB.not (SB.eq (SI.sel (SL.v 1) (SI.v 0) 4) (SI.c (Int.ofNat 0))),
          SB.eq (SI.sel (SL.v 1) (SI.v 0) 3) (SI.c (Int.ofNat 0)),
          SB.eq (SI.sel (SL.v 1) (SI.v 0) 2) (SI.c (Int.ofNat 0)),
          SB.eq (SI.sel (SL.v 1) (SI.v 0) 1) (SI.c (Int.ofNat 0)),
          SB.eq (SI.sel (SL.v 1) (SI.v 0) 0) (SI.c (Int.ofNat 0)), SB.not (SB.eq (SI.sel (SL.v 1) (SI.v 0) 2) (SI.v 3)),
          SB.not (SB.eq (SI.sel (SL.v 1) (SI.v 0) 0) (SI.v 3)), SB.app 130 (SA.l (SL.v 0) (SA.i (SI.v 0) SA.nil)),
          SB.lt (SI.v 0) (SI.c (Int.ofNat 20)), SB.le (SI.c (Int.ofNat 0)) (SI.v 0),
          SB.le (SI.v 0) (SI.c (Int.ofNat 20)), SB.eq (SI.len (SL.v 0)) (SI.c (Int.ofNat 20)),
          SB.eq (SI.len (SL.v 1)) (SI.c (Int.ofNat 20)), SB.le (SI.c (Int.ofNat 1)) (SI.v 3),
          SB.le (SI.v 3) (SI.c (Int.ofNat 16)), SB.c true,
          SB.eqL (SL.v 0) (SL.app 116 (SA.l (SL.v 1) (SA.i (SI.v 3) SA.nil))),
          SB.eq (SI.v 1) (SI.len (SL.app 102 (SA.l (SL.v 1) (SA.i (SI.v 0) (SA.i (SI.v 3) SA.nil)))))],
      eqs := [Eqn.T (SB.app 199 SA.nil)] },
    {
      pc :=
        [SB.not (SB.eq (SI.sel (SL.v 1) (SI.v 0) 3) (SI.c (Int.ofNat 0))),
          SB.eq (SI.sel (SL.v 1) (SI.v 0) 2) (SI.c (Int.ofNat 0)),
          SB.eq (SI.sel (SL.v 1) (SI.v 0) 1) (SI.c (Int.ofNat 0)),
          SB.eq (SI.sel (SL.v 1) (SI.v 0) 0) (SI.c (Int.ofNat 0)), SB.not (SB.eq (SI.sel (SL.v 1) (SI.v 0) 2) (SI.v 3)),
          SB.not (SB.eq (SI.sel (SL.v 1) (SI.v 0) 0) (SI.v 3)), SB.app 130 (SA.l (SL.v 0) (SA.i (SI.v 0) SA.nil)),
          SB.lt (SI.v 0) (SI.c (Int.ofNat 20)), SB.le (SI.c (Int.ofNat 0)) (SI.v 0),
          SB.le (SI.v 0) (SI.c (Int.ofNat 20)), SB.eq (SI.len (SL.v 0)) (SI.c (Int.ofNat 20)),
          SB.eq (SI.len (SL.v 1)) (SI.c (Int.ofNat 20)), SB.le (SI.c (Int.ofNat 1)) (SI.v 3),
          SB.le (SI.v 3) (SI.c (Int.ofNat 16)), SB.c true,
          SB.eqL (SL.v 0) (SL.app 116 (SA.l (SL.v 1) (SA.i (SI.v 3) SA.nil))),
          SB.eq (SI.v 1) (SI.len (SL.app 102 (SA.l (SL.v 1) (SA.i (SI.v 0) (SA.i (SI.v 3) SA.nil)))))],
      eqs := [Eqn.T (SB.app 199 SA.nil)] },
    {
      pc :=
        [SB.not (SB.eq (SI.sel (SL.v 1) (SI.v 0) 2) (SI.c (Int.ofNat 0))),
          SB.eq (SI.sel (SL.v 1) (SI.v 0) 1) (SI.c (Int.ofNat 0)),
          SB.eq (SI.sel (SL.v 1) (SI.v 0) 0) (SI.c (Int.ofNat 0)), SB.not (SB.eq (SI.sel (SL.v 1) (SI.v 0) 2) (SI.v 3)),
          SB.not (SB.eq (SI.sel (SL.v 1) (SI.v 0) 0) (SI.v 3)), SB.app 130 (SA.l (SL.v 0) (SA.i (SI.v 0) SA.nil)),
          SB.lt (SI.v 0) (SI.c (Int.ofNat 20)), SB.le (SI.c (Int.ofNat 0)) (SI.v 0),
          SB.le (SI.v 0) (SI.c (Int.ofNat 20)), SB.eq (SI.len (SL.v 0)) (SI.c (Int.ofNat 20)),
          SB.eq (SI.len (SL.v 1)) (SI.c (Int.ofNat 20)), SB.le (SI.c (Int.ofNat 1)) (SI.v 3),
          SB.le (SI.v 3) (SI.c (Int.ofNat 16)), SB.c true,
          SB.eqL (SL.v 0) (SL.app 116 (SA.l (SL.v 1) (SA.i (SI.v 3) SA.nil))),
          SB.eq (SI.v 1) (SI.len (SL.app 102 (SA.l (SL.v 1) (SA.i (SI.v 0) (SA.i (SI.v 3) SA.nil)))))],
      eqs := [Eqn.T (SB.app 199 SA.nil)] },
    {
      pc :=
        [SB.not (SB.eq (SI.sel (SL.v 1) (SI.v 0) 1) (SI.c (Int.ofNat 0))),
          SB.eq (SI.sel (SL.v 1) (SI.v 0) 0) (SI.c (Int.ofNat 0)), SB.not (SB.eq (SI.sel (SL.v 1) (SI.v 0) 2) (SI.v 3)),
          SB.not (SB.eq (SI.sel (SL.v 1) (SI.v 0) 0) (SI.v 3)), SB.app 130 (SA.l (SL.v 0) (SA.i (SI.v 0) SA.nil)),
          SB.lt (SI.v 0) (SI.c (Int.ofNat 20)), SB.le (SI.c (Int.ofNat 0)) (SI.v 0),
          SB.le (SI.v 0) (SI.c (Int.ofNat 20)), SB.eq (SI.len (SL.v 0)) (SI.c (Int.ofNat 20)),
          SB.eq (SI.len (SL.v 1)) (SI.c (Int.ofNat 20)), SB.le (SI.c (Int.ofNat 1)) (SI.v 3),
          SB.le (SI.v 3) (SI.c (Int.ofNat 16)), SB.c true,
          SB.eqL (SL.v 0) (SL.app 116 (SA.l (SL.v 1) (SA.i (SI.v 3) SA.nil))),
          SB.eq (SI.v 1) (SI.len (SL.app 102 (SA.l (SL.v 1) (SA.i (SI.v 0) (SA.i (SI.v 3) SA.nil)))))],
      eqs := [Eqn.T (SB.app 199 SA.nil)] },
    {
      pc :=
        [SB.not (SB.eq (SI.sel (SL.v 1) (SI.v 0) 0) (SI.c (Int.ofNat 0))),
          SB.not (SB.eq (SI.sel (SL.v 1) (SI.v 0) 2) (SI.v 3)), SB.not (SB.eq (SI.sel (SL.v 1) (SI.v 0) 0) (SI.v 3)),
          SB.app 130 (SA.l (SL.v 0) (SA.i (SI.v 0) SA.nil)), SB.lt (SI.v 0) (SI.c (Int.ofNat 20)),
          SB.le (SI.c (Int.ofNat 0)) (SI.v 0), SB.le (SI.v 0) (SI.c (Int.ofNat 20)),
          SB.eq (SI.len (SL.v 0)) (SI.c (Int.ofNat 20)), SB.eq (SI.len (SL.v 1)) (SI.c (Int.ofNat 20)),
          SB.le (SI.c (Int.ofNat 1)) (SI.v 3), SB.le (SI.v 3) (SI.c (Int.ofNat 16)), SB.c true,
          SB.eqL (SL.v 0) (SL.app 116 (SA.l (SL.v 1) (SA.i (SI.v 3) SA.nil))),
          SB.eq (SI.v 1) (SI.len (SL.app 102 (SA.l (SL.v 1) (SA.i (SI.v 0) (SA.i (SI.v 3) SA.nil)))))],
      eqs := [Eqn.T (SB.app 199 SA.nil)] },
    {
      pc :=
        [SB.eq (SI.sel (SL.v 1) (SI.v 0) 0) (SI.v 3), SB.not (SB.app 130 (SA.l (SL.v 0) (SA.i (SI.v 0) SA.nil))),
          SB.lt (SI.v 0) (SI.c (Int.ofNat 20)), SB.le (SI.c (Int.ofNat 0)) (SI.v 0),
          SB.le (SI.v 0) (SI.c (Int.ofNat 20)), SB.eq (SI.len (SL.v 0)) (SI.c (Int.ofNat 20)),
          SB.eq (SI.len (SL.v 1)) (SI.c (Int.ofNat 20)), SB.le (SI.c (Int.ofNat 1)) (SI.v 3),
          SB.le (SI.v 3) (SI.c (Int.ofNat 16)), SB.c true,
          SB.eqL (SL.v 0) (SL.app 116 (SA.l (SL.v 1) (SA.i (SI.v 3) SA.nil))),
          SB.eq (SI.v 1) (SI.len (SL.app 102 (SA.l (SL.v 1) (SA.i (SI.v 0) (SA.i (SI.v 3) SA.nil)))))],
      eqs := [Eqn.T (SB.app 199 SA.nil)] },
    {
      pc :=
        [SB.eq (SI.sel (SL.v 1) (SI.v 0) 2) (SI.v 3), SB.not (SB.eq (SI.sel (SL.v 1) (SI.v 0) 0) (SI.v 3)),
          SB.not (SB.app 130 (SA.l (SL.v 0) (SA.i (SI.v 0) SA.nil))), SB.lt (SI.v 0) (SI.c (Int.ofNat 20)),
          SB.le (SI.c (Int.ofNat 0)) (SI.v 0), SB.le (SI.v 0) (SI.c (Int.ofNat 20)),
          SB.eq (SI.len (SL.v 0)) (SI.c (Int.ofNat 20)), SB.eq (SI.len (SL.v 1)) (SI.c (Int.ofNat 20)),
          SB.le (SI.c (Int.ofNat 1)) (SI.v 3), SB.le (SI.v 3) (SI.c (Int.ofNat 16)), SB.c true,
          SB.eqL (SL.v 0) (SL.app 116 (SA.l (SL.v 1) (SA.i (SI.v 3) SA.nil))),
          SB.eq (SI.v 1) (SI.len (SL.app 102 (SA.l (SL.v 1) (SA.i (SI.v 0) (SA.i (SI.v 3) SA.nil)))))],
      eqs := [Eqn.T (SB.app 199 SA.nil)] },
    {
      pc :=
        [SB.eq (SI.sel (SL.v 0) (SI.v 0) 4) (SI.sel (SL.v 1) (SI.v 0) 4),
          SB.eq (SI.sel (SL.v 1) (SI.v 0) 3) (SI.c (Int.ofNat 0)),
          SB.eq (SI.sel (SL.v 0) (SI.v 0) 3) (SI.c (Int.ofNat 0)),
          SB.eq (SI.sel (SL.v 0) (SI.v 0) 2) (SI.sel (SL.v 1) (SI.v 0) 2),
          SB.eq (SI.sel (SL.v 0) (SI.v 0) 1) (SI.sel (SL.v 1) (SI.v 0) 1),
          SB.eq (SI.sel (SL.v 0) (SI.v 0) 0) (SI.sel (SL.v 1) (SI.v 0) 0),
          SB.not (SB.eq (SI.sel (SL.v 1) (SI.v 0) 2) (SI.v 3)), SB.not (SB.eq (SI.sel (SL.v 1) (SI.v 0) 0) (SI.v 3)),
          SB.not (SB.app 130 (SA.l (SL.v 0) (SA.i (SI.v 0) SA.nil))), SB.lt (SI.v 0) (SI.c (Int.ofNat 20)),
          SB.le (SI.c (Int.ofNat 0)) (SI.v 0), SB.le (SI.v 0) (SI.c (Int.ofNat 20)),
          SB.eq (SI.len (SL.v 0)) (SI.c (Int.ofNat 20)), SB.eq (SI.len (SL.v 1)) (SI.c (Int.ofNat 20)),
          SB.le (SI.c (Int.ofNat 1)) (SI.v 3), SB.le (SI.v 3) (SI.c (Int.ofNat 16)), SB.c true,
          SB.eqL (SL.v 0) (SL.app 116 (SA.l (SL.v 1) (SA.i (SI.v 3) SA.nil))),
          SB.eq (SI.v 1) (SI.len (SL.app 102 (SA.l (SL.v 1) (SA.i (SI.v 0) (SA.i (SI.v 3) SA.nil)))))],
      eqs :=
        [Eqn.T
            (SB.lt (SI.sub (SI.c (Int.ofNat 20)) (SI.add (SI.v 0) (SI.c (Int.ofNat 1))))
              (SI.sub (SI.c (Int.ofNat 20)) (SI.v 0))),
          Eqn.T
            (SB.eq (SI.v 1)
              (SI.len
                (SL.app 102 (SA.l (SL.v 1) (SA.i (SI.add (SI.v 0) (SI.c (Int.ofNat 1))) (SA.i (SI.v 3) SA.nil))))))] },
    {
      pc :=
        [SB.not (SB.eq (SI.sel (SL.v 0) (SI.v 0) 4) (SI.sel (SL.v 1) (SI.v 0) 4)),
          SB.eq (SI.sel (SL.v 1) (SI.v 0) 3) (SI.c (Int.ofNat 0)),
          SB.eq (SI.sel (SL.v 0) (SI.v 0) 3) (SI.c (Int.ofNat 0)),
          SB.eq (SI.sel (SL.v 0) (SI.v 0) 2) (SI.sel (SL.v 1) (SI.v 0) 2),
          SB.eq (SI.sel (SL.v 0) (SI.v 0) 1) (SI.sel (SL.v 1) (SI.v 0) 1),
          SB.eq (SI.sel (SL.v 0) (SI.v 0) 0) (SI.sel (SL.v 1) (SI.v 0) 0),
          SB.not (SB.eq (SI.sel (SL.v 1) (SI.v 0) 2) (SI.v 3)), SB.not (SB.eq (SI.sel (SL.v 1) (SI.v 0) 0) (SI.v 3)),
          SB.not (SB.app 130 (SA.l (SL.v 0) (SA.i (SI.v 0) SA.nil))), SB.lt (SI.v 0) (SI.c (Int.ofNat 20)),
          SB.le (SI.c (Int.ofNat 0)) (SI.v 0), SB.le (SI.v 0) (SI.c (Int.ofNat 20)),
          SB.eq (SI.len (SL.v 0)) (SI.c (Int.ofNat 20)), SB.eq (SI.len (SL.v 1)) (SI.c (Int.ofNat 20)),
          SB.le (SI.c (Int.ofNat 1)) (SI.v 3), SB.le (SI.v 3) (SI.c (Int.ofNat 16)), SB.c true,
          SB.eqL (SL.v 0) (SL.app 116 (SA.l (SL.v 1) (SA.i (SI.v 3) SA.nil))),
          SB.eq (SI.v 1) (SI.len (SL.app 102 (SA.l (SL.v 1) (SA.i (SI.v 0) (SA.i (SI.v 3) SA.nil)))))],
      eqs := [Eqn.T (SB.app 199 SA.nil)] },
    {
      pc :=
        [SB.not (SB.eq (SI.sel (SL.v 1) (SI.v 0) 3) (SI.c (Int.ofNat 0))),
          SB.eq (SI.sel (SL.v 0) (SI.v 0) 3) (SI.c (Int.ofNat 0)),
          SB.eq (SI.sel (SL.v 0) (SI.v 0) 2) (SI.sel (SL.v 1) (SI.v 0) 2),
          SB.eq (SI.sel (SL.v 0) (SI.v 0) 1) (SI.sel (SL.v 1) (SI.v 0) 1),
          SB.eq (SI.sel (SL.v 0) (SI.v 0) 0) (SI.sel (SL.v 1) (SI.v 0) 0),
          SB.not (SB.eq (SI.sel (SL.v 1) (SI.v 0) 2) (SI.v 3)), SB.not (SB.eq (SI.sel (SL.v 1) (SI.v 0) 0) (SI.v 3)),
          SB.not (SB.app 130 (SA.l (SL.v 0) (SA.i (SI.v 0) SA.nil))), SB.lt (SI.v 0) (SI.c (Int.ofNat 20)),
          SB.le (SI.c (Int.ofNat 0)) (SI.v 0), SB.le (SI.v 0) (SI.c (Int.ofNat 20)),
          SB.eq (SI.len (SL.v 0)) (SI.c (Int.ofNat 20)), SB.eq (SI.len (SL.v 1)) (SI.c (Int.ofNat 20)),
          SB.le (SI.c (Int.ofNat 1)) (SI.v 3), SB.le (SI.v 3) (SI.c (Int.ofNat 16)), SB.c true,
          SB.eqL (SL.v 0) (SL.app 116 (SA.l (SL.v 1) (SA.i (SI.v 3) SA.nil))),
          SB.eq (SI.v 1) (SI.len (SL.app 102 (SA.l (SL.v 1) (SA.i (SI.v 0) (SA.i (SI.v 3) SA.nil)))))],
      eqs := [Eqn.T (SB.app 199 SA.nil)] },
    {
      pc :=
        [SB.eq (SI.sel (SL.v 1) (SI.v 0) 3) (SI.c (Int.ofNat 0)),
          SB.not (SB.eq (SI.sel (SL.v 0) (SI.v 0) 3) (SI.c (Int.ofNat 0))),
          SB.eq (SI.sel (SL.v 0) (SI.v 0) 2) (SI.sel (SL.v 1) (SI.v 0) 2),
          SB.eq (SI.sel (SL.v 0) (SI.v 0) 1) (SI.sel (SL.v 1) (SI.v 0) 1),
          SB.eq (SI.sel (SL.v 0) (SI.v 0) 0) (SI.sel (SL.v 1) (SI.v 0) 0),
          SB.not (SB.eq (SI.sel (SL.v 1) (SI.v 0) 2) (SI.v 3)), SB.not (SB.eq (SI.sel (SL.v 1) (SI.v 0) 0) (SI.v 3)),
          SB.not (SB.app 130 (SA.l (SL.v 0) (SA.i (SI.v 0) SA.nil))), SB.lt (SI.v 0) (SI.c (Int.ofNat 20)),
          SB.le (SI.c (Int.ofNat 0)) (SI.v 0), SB.le (SI.v 0) (SI.c (Int.ofNat 20)),
          SB.eq (SI.len (SL.v 0)) (SI.c (Int.ofNat 20)), SB.eq (SI.len (SL.v 1)) (SI.c (Int.ofNat 20)),
          SB.le (SI.c (Int.ofNat 1)) (SI.v 3), SB.le (SI.v 3) (SI.c (Int.ofNat 16)), SB.c true,
          SB.eqL (SL.v 0) (SL.app 116 (SA.l (SL.v 1) (SA.i (SI.v 3) SA.nil))),
          SB.eq (SI.v 1) (SI.len (SL.app 102 (SA.l (SL.v 1) (SA.i (SI.v 0) (SA.i (SI.v 3) SA.nil)))))],
      eqs := [Eqn.T (SB.app 199 SA.nil)] },
    {
      pc :=
        [SB.eq (SI.sel (SL.v 0) (SI.v 0) 4) (SI.sel (SL.v 1) (SI.v 0) 4),
          SB.not (SB.eq (SI.sel (SL.v 1) (SI.v 0) 3) (SI.c (Int.ofNat 0))),
          SB.not (SB.eq (SI.sel (SL.v 0) (SI.v 0) 3) (SI.c (Int.ofNat 0))),
          SB.eq (SI.sel (SL.v 0) (SI.v 0) 2) (SI.sel (SL.v 1) (SI.v 0) 2),
          SB.eq (SI.sel (SL.v 0) (SI.v 0) 1) (SI.sel (SL.v 1) (SI.v 0) 1),
          SB.eq (SI.sel (SL.v 0) (SI.v 0) 0) (SI.sel (SL.v 1) (SI.v 0) 0),
          SB.not (SB.eq (SI.sel (SL.v 1) (SI.v 0) 2) (SI.v 3)), SB.not (SB.eq (SI.sel (SL.v 1) (SI.v 0) 0) (SI.v 3)),
          SB.not (SB.app 130 (SA.l (SL.v 0) (SA.i (SI.v 0) SA.nil))), SB.lt (SI.v 0) (SI.c (Int.ofNat 20)),
          SB.le (SI.c (Int.ofNat 0)) (SI.v 0), SB.le (SI.v 0) (SI.c (Int.ofNat 20)),
          SB.eq (SI.len (SL.v 0)) (SI.c (Int.ofNat 20)), SB.eq (SI.len (SL.v 1)) (SI.c (Int.ofNat 20)),
          SB.le (SI.c (Int.ofNat 1)) (SI.v 3), SB.le (SI.v 3) (SI.c (Int.ofNat 16)), SB.c true,
          SB.eqL (SL.v 0) (SL.app 116 (SA.l (SL.v 1) (SA.i (SI.v 3) SA.nil))),
          SB.eq (SI.v 1) (SI.len (SL.app 102 (SA.l (SL.v 1) (SA.i (SI.v 0) (SA.i (SI.v 3) SA.nil)))))],
      eqs :=
        [Eqn.T
            (SB.lt (SI.sub (SI.c (Int.ofNat 20)) (SI.add (SI.v 0) (SI.c (Int.ofNat 1))))
              (SI.sub (SI.c (Int.ofNat 20)) (SI.v 0))),
          Eqn.T
            (SB.eq (SI.v 1)
              (SI.len
                (SL.app 102 (SA.l (SL.v 1) (SA.i (SI.add (SI.v 0) (SI.c (Int.ofNat 1))) (SA.i (SI.v 3) SA.nil))))))] },
    {
      pc :=
        [SB.not (SB.eq (SI.sel (SL.v 0) (SI.v 0) 4) (SI.sel (SL.v 1) (SI.v 0) 4)),
          SB.not (SB.eq (SI.sel (SL.v 1) (SI.v 0) 3) (SI.c (Int.ofNat 0))),
          SB.not (SB.eq (SI.sel (SL.v 0) (SI.v 0) 3) (SI.c (Int.ofNat 0))),
          SB.eq (SI.sel (SL.v 0) (SI.v 0) 2) (SI.sel (SL.v 1) (SI.v 0) 2),
          SB.eq (SI.sel (SL.v 0) (SI.v 0) 1) (SI.sel (SL.v 1) (SI.v 0) 1),
          SB.eq (SI.sel (SL.v 0) (SI.v 0) 0) (SI.sel (SL.v 1) (SI.v 0) 0),
          SB.not (SB.eq (SI.sel (SL.v 1) (SI.v 0) 2) (SI.v 3)), SB.not (SB.eq (SI.sel (SL.v 1) (SI.v 0) 0) (SI.v 3)),
          SB.not (SB.app 130 (SA.l (SL.v 0) (SA.i (SI.v 0) SA.nil))), SB.lt (SI.v 0) (SI.c (Int.ofNat 20)),
          SB.le (SI.c (Int.ofNat 0)) (SI.v 0), SB.le (SI.v 0) (SI.c (Int.ofNat 20)),
          SB.eq (SI.len (SL.v 0)) (SI.c (Int.ofNat 20)), SB.eq (SI.len (SL.v 1)) (SI.c (Int.ofNat 20)),
          SB.le (SI.c (Int.ofNat 1)) (SI.v 3), SB.le (SI.v 3) (SI.c (Int.ofNat 16)), SB.c true,
          SB.eqL (SL.v 0) (SL.app 116 (SA.l (SL.v 1) (SA.i (SI.v 3) SA.nil))),
          SB.eq (SI.v 1) (SI.len (SL.app 102 (SA.l (SL.v 1) (SA.i (SI.v 0) (SA.i (SI.v 3) SA.nil)))))],
      eqs := [Eqn.T (SB.app 199 SA.nil)] },
    {
      pc :=
        [SB.not (SB.eq (SI.sel (SL.v 0) (SI.v 0) 2) (SI.sel (SL.v 1) (SI.v 0) 2)),
          SB.eq (SI.sel (SL.v 0) (SI.v 0) 1) (SI.sel (SL.v 1) (SI.v 0) 1),
          SB.eq (SI.sel (SL.v 0) (SI.v 0) 0) (SI.sel (SL.v 1) (SI.v 0) 0),
          SB.not (SB.eq (SI.sel (SL.v 1) (SI.v 0) 2) (SI.v 3)), SB.not (SB.eq (SI.sel (SL.v 1) (SI.v 0) 0) (SI.v 3)),
          SB.not (SB.app 130 (SA.l (SL.v 0) (SA.i (SI.v 0) SA.nil))), SB.lt (SI.v 0) (SI.c (Int.ofNat 20)),
          SB.le (SI.c (Int.ofNat 0)) (SI.v 0), SB.le (SI.v 0) (SI.c (Int.ofNat 20)),
          SB.eq (SI.len (SL.v 0)) (SI.c (Int.ofNat 20)), SB.eq (SI.len (SL.v 1)) (SI.c (Int.ofNat 20)),
          SB.le (SI.c (Int.ofNat 1)) (SI.v 3), SB.le (SI.v 3) (SI.c (Int.ofNat 16)), SB.c true,
          SB.eqL (SL.v 0) (SL.app 116 (SA.l (SL.v 1) (SA.i (SI.v 3) SA.nil))),
          SB.eq (SI.v 1) (SI.len (SL.app 102 (SA.l (SL.v 1) (SA.i (SI.v 0) (SA.i (SI.v 3) SA.nil)))))],
      eqs := [Eqn.T (SB.app 199 SA.nil)] },
    {
      pc :=
        [SB.not (SB.eq (SI.sel (SL.v 0) (SI.v 0) 1) (SI.sel (SL.v 1) (SI.v 0) 1)),
          SB.eq (SI.sel (SL.v 0) (SI.v 0) 0) (SI.sel (SL.v 1) (SI.v 0) 0),
          SB.not (SB.eq (SI.sel (SL.v 1) (SI.v 0) 2) (SI.v 3)), SB.not (SB.eq (SI.sel (SL.v 1) (SI.v 0) 0) (SI.v 3)),
          SB.not (SB.app 130 (SA.l (SL.v 0) (SA.i (SI.v 0) SA.nil))), SB.lt (SI.v 0) (SI.c (Int.ofNat 20)),
          SB.le (SI.c (Int.ofNat 0)) (SI.v 0), SB.le (SI.v 0) (SI.c (Int.ofNat 20)),
          SB.eq (SI.len (SL.v 0)) (SI.c (Int.ofNat 20)), SB.eq (SI.len (SL.v 1)) (SI.c (Int.ofNat 20)),
          SB.le (SI.c (Int.ofNat 1)) (SI.v 3), SB.le (SI.v 3) (SI.c (Int.ofNat 16)), SB.c true,
          SB.eqL (SL.v 0) (SL.app 116 (SA.l (SL.v 1) (SA.i (SI.v 3) SA.nil))),
          SB.eq (SI.v 1) (SI.len (SL.app 102 (SA.l (SL.v 1) (SA.i (SI.v 0) (SA.i (SI.v 3) SA.nil)))))],
      eqs := [Eqn.T (SB.app 199 SA.nil)] },
    {
      pc :=
        [SB.not (SB.eq (SI.sel (SL.v 0) (SI.v 0) 0) (SI.sel (SL.v 1) (SI.v 0) 0)),
          SB.not (SB.eq (SI.sel (SL.v 1) (SI.v 0) 2) (SI.v 3)), SB.not (SB.eq (SI.sel (SL.v 1) (SI.v 0) 0) (SI.v 3)),
          SB.not (SB.app 130 (SA.l (SL.v 0) (SA.i (SI.v 0) SA.nil))), SB.lt (SI.v 0) (SI.c (Int.ofNat 20)),
          SB.le (SI.c (Int.ofNat 0)) (SI.v 0), SB.le (SI.v 0) (SI.c (Int.ofNat 20)),
          SB.eq (SI.len (SL.v 0)) (SI.c (Int.ofNat 20)), SB.eq (SI.len (SL.v 1)) (SI.c (Int.ofNat 20)),
          SB.le (SI.c (Int.ofNat 1)) (SI.v 3), SB.le (SI.v 3) (SI.c (Int.ofNat 16)), SB.c true,
          SB.eqL (SL.v 0) (SL.app 116 (SA.l (SL.v 1) (SA.i (SI.v 3) SA.nil))),
          SB.eq (SI.v 1) (SI.len (SL.app 102 (SA.l (SL.v 1) (SA.i (SI.v 0) (SA.i (SI.v 3) SA.nil)))))],
      eqs := [Eqn.T (SB.app 199 SA.nil)] },
    {
      pc :=
        [SB.not (SB.lt (SI.v 0) (SI.c (Int.ofNat 20))), SB.le (SI.c (Int.ofNat 0)) (SI.v 0),
          SB.le (SI.v 0) (SI.c (Int.ofNat 20)), SB.eq (SI.len (SL.v 0)) (SI.c (Int.ofNat 20)),
          SB.eq (SI.len (SL.v 1)) (SI.c (Int.ofNat 20)), SB.le (SI.c (Int.ofNat 1)) (SI.v 3),
          SB.le (SI.v 3) (SI.c (Int.ofNat 16)), SB.c true,
          SB.eqL (SL.v 0) (SL.app 116 (SA.l (SL.v 1) (SA.i (SI.v 3) SA.nil))),
          SB.eq (SI.v 1) (SI.len (SL.app 102 (SA.l (SL.v 1) (SA.i (SI.v 0) (SA.i (SI.v 3) SA.nil)))))],
      eqs := [Eqn.I (SI.c (Int.ofNat 0)) (SI.v 1)] }] := by kernel_rfl
theorem dp3_ok : dp3.ok Φ Try.prog := by
  refine ⟨by kernel_rfl, loop_rule (fun ρ => t6_ok ρ) (loopAt_sub (by kernel_rfl)) dp3_obs ?_⟩
  simp only [and_imp, List.forall_mem_cons, List.not_mem_nil, false_implies, implies_true, and_true, Ob.ok, holds, Eqn.ok, evB_eq, evB_lt, evB_le, evB_not, evB_and, evB_or, evB_eqL, evB_app, evB_v, evB_c, ev_sel, ev_len, ev_v, ev_c, ev_add, ev_sub, ev_mul, ev_quo, ev_rem, ev_bits, ev_wrap, evL_v, evL_lit, evL_app, ev_app, evA_l, evA_i, evA_nil, std_min, std_max, std_cat, std_take, std_drop, std_row, std_set, std_rep, std_find, std_put, std_del, std_flag, std_unflag, std_clr, std_left, std_copy, ints_cons, ints_nil, ofNat_lit, negSucc_lit, decide_eq_true_eq, Bool.and_eq_true, Bool.or_eq_true, Bool.not_eq_true', Bool.and_eq_false_iff, Bool.or_eq_false_iff, decide_eq_false_iff_not, aI110, aI111, aI112, aI113, aI114, aL100, aL101, aL102, aL103, aL110, aL112, aL113, aL114, aL115, aL116, aB130, aB131, aB132, aB199]
  repeat' apply And.intro
  all_goals intro ρ hR
  all_goals intros
  all_goals first
    | (omega)
    | (have hT : ∀ r ∈ ρ.l 0, okRow K5 r := hR.row 1 rfl rfl
       have hW : ∀ r ∈ ρ.l 1, okRow K5 r := hR.row 2 rfl rfl
       have e0 : ρ.l 0 = clrG (ρ.i 3) (ρ.l 1) := by with_reducible assumption
       have hc := clr_at (W' := ρ.l 1) (g := ρ.i 3) (i := ρ.i 0) (by omega) (by omega)
       rw [← e0] at hc
       have hl := idx_len (p := ofG (ρ.i 3)) (T := List.drop (ρ.i 0).toNat (ρ.l 1)) (i := ρ.i 0)
       have hd := List.length_drop (l := ρ.l 1) (i := (ρ.i 0).toNat)
       have ho : ofG (ρ.i 3) ((ρ.l 1).getD (ρ.i 0).toNat []) = true := of_pos (by omega) (by omega)
       rw [if_pos ho] at hc
       have hz := none_Z hc
       have hx := idx_yes (p := ofG (ρ.i 3)) (T := ρ.l 1) (i := ρ.i 0) (by omega) (by omega) ho
       have hx := congrArg List.length hx
       rw [List.length_cons] at hx
       have hw : IntKind.i64.wrap (ρ.i 1 - 1) = ρ.i 1 - 1 := wrap_in (by simp only [kmin]; omega) (by simp only [kmax]; omega)
       exact ⟨by omega, by omega⟩)
    | (have hT : ∀ r ∈ ρ.l 0, okRow K5 r := hR.row 1 rfl rfl
       have hW : ∀ r ∈ ρ.l 1, okRow K5 r := hR.row 2 rfl rfl
       have e0 : ρ.l 0 = clrG (ρ.i 3) (ρ.l 1) := by with_reducible assumption
       have hc := clr_at (W' := ρ.l 1) (g := ρ.i 3) (i := ρ.i 0) (by omega) (by omega)
       rw [← e0] at hc
       have hl := idx_len (p := ofG (ρ.i 3)) (T := List.drop (ρ.i 0).toNat (ρ.l 1)) (i := ρ.i 0)
       have hd := List.length_drop (l := ρ.l 1) (i := (ρ.i 0).toNat)
       have ho : ofG (ρ.i 3) ((ρ.l 1).getD (ρ.i 0).toNat []) = true := of_pos (by omega) (by omega)
       rw [if_pos ho] at hc
       have hz := none_Z hc
       have hx := idx_yes (p := ofG (ρ.i 3)) (T := ρ.l 1) (i := ρ.i 0) (by omega) (by omega) ho
       have hx := congrArg List.length hx
       rw [List.length_cons] at hx
       have hw : IntKind.i64.wrap (ρ.i 1 - 1) = ρ.i 1 - 1 := wrap_in (by simp only [kmin]; omega) (by simp only [kmax]; omega)
       exfalso
       exact Bool.false_ne_true (‹noneB _ _ = false›.symm.trans hz))
    | (have hT : ∀ r ∈ ρ.l 0, okRow K5 r := hR.row 1 rfl rfl
       have hW : ∀ r ∈ ρ.l 1, okRow K5 r := hR.row 2 rfl rfl
       have e0 : ρ.l 0 = clrG (ρ.i 3) (ρ.l 1) := by with_reducible assumption
       have hc := clr_at (W' := ρ.l 1) (g := ρ.i 3) (i := ρ.i 0) (by omega) (by omega)
       rw [← e0] at hc
       have hl := idx_len (p := ofG (ρ.i 3)) (T := List.drop (ρ.i 0).toNat (ρ.l 1)) (i := ρ.i 0)
       have hd := List.length_drop (l := ρ.l 1) (i := (ρ.i 0).toNat)
       have ho : ofG (ρ.i 3) ((ρ.l 1).getD (ρ.i 0).toNat []) = false := of_not (by omega) (by omega)
       rw [if_neg (by rw [ho]; simp)] at hc
       have hx := idx_no (p := ofG (ρ.i 3)) (T := ρ.l 1) (i := ρ.i 0) (by omega) (by omega) ho
       have hx := congrArg List.length hx
       have b0 := bool3 hW (id := ρ.i 0) (by omega) (by omega)
       have c0 : ((ρ.l 0).getD (ρ.i 0).toNat []).getD 0 0 = ((ρ.l 1).getD (ρ.i 0).toNat []).getD 0 0 := by rw [hc]
       have c1 : ((ρ.l 0).getD (ρ.i 0).toNat []).getD 1 0 = ((ρ.l 1).getD (ρ.i 0).toNat []).getD 1 0 := by rw [hc]
       have c2 : ((ρ.l 0).getD (ρ.i 0).toNat []).getD 2 0 = ((ρ.l 1).getD (ρ.i 0).toNat []).getD 2 0 := by rw [hc]
       have c3 : ((ρ.l 0).getD (ρ.i 0).toNat []).getD 3 0 = ((ρ.l 1).getD (ρ.i 0).toNat []).getD 3 0 := by rw [hc]
       have c4 : ((ρ.l 0).getD (ρ.i 0).toNat []).getD 4 0 = ((ρ.l 1).getD (ρ.i 0).toNat []).getD 4 0 := by rw [hc]
       
       exact ⟨by omega, by omega⟩)
    | (have hT : ∀ r ∈ ρ.l 0, okRow K5 r := hR.row 1 rfl rfl
       have hW : ∀ r ∈ ρ.l 1, okRow K5 r := hR.row 2 rfl rfl
       have e0 : ρ.l 0 = clrG (ρ.i 3) (ρ.l 1) := by with_reducible assumption
       have hc := clr_at (W' := ρ.l 1) (g := ρ.i 3) (i := ρ.i 0) (by omega) (by omega)
       rw [← e0] at hc
       have hl := idx_len (p := ofG (ρ.i 3)) (T := List.drop (ρ.i 0).toNat (ρ.l 1)) (i := ρ.i 0)
       have hd := List.length_drop (l := ρ.l 1) (i := (ρ.i 0).toNat)
       have ho : ofG (ρ.i 3) ((ρ.l 1).getD (ρ.i 0).toNat []) = false := of_not (by omega) (by omega)
       rw [if_neg (by rw [ho]; simp)] at hc
       have hx := idx_no (p := ofG (ρ.i 3)) (T := ρ.l 1) (i := ρ.i 0) (by omega) (by omega) ho
       have hx := congrArg List.length hx
       have b0 := bool3 hW (id := ρ.i 0) (by omega) (by omega)
       have c0 : ((ρ.l 0).getD (ρ.i 0).toNat []).getD 0 0 = ((ρ.l 1).getD (ρ.i 0).toNat []).getD 0 0 := by rw [hc]
       have c1 : ((ρ.l 0).getD (ρ.i 0).toNat []).getD 1 0 = ((ρ.l 1).getD (ρ.i 0).toNat []).getD 1 0 := by rw [hc]
       have c2 : ((ρ.l 0).getD (ρ.i 0).toNat []).getD 2 0 = ((ρ.l 1).getD (ρ.i 0).toNat []).getD 2 0 := by rw [hc]
       have c3 : ((ρ.l 0).getD (ρ.i 0).toNat []).getD 3 0 = ((ρ.l 1).getD (ρ.i 0).toNat []).getD 3 0 := by rw [hc]
       have c4 : ((ρ.l 0).getD (ρ.i 0).toNat []).getD 4 0 = ((ρ.l 1).getD (ρ.i 0).toNat []).getD 4 0 := by rw [hc]
       
       exfalso
       omega)
    | (have hT : ∀ r ∈ ρ.l 0, okRow K5 r := hR.row 1 rfl rfl
       have hW : ∀ r ∈ ρ.l 1, okRow K5 r := hR.row 2 rfl rfl
       have e0 : ρ.l 0 = clrG (ρ.i 3) (ρ.l 1) := by with_reducible assumption
       have hc := clr_at (W' := ρ.l 1) (g := ρ.i 3) (i := ρ.i 0) (by omega) (by omega)
       rw [← e0] at hc
       have hl := idx_len (p := ofG (ρ.i 3)) (T := List.drop (ρ.i 0).toNat (ρ.l 1)) (i := ρ.i 0)
       have hd := List.length_drop (l := ρ.l 1) (i := (ρ.i 0).toNat)
       have ho : ofG (ρ.i 3) ((ρ.l 1).getD (ρ.i 0).toNat []) = false := of_not (by omega) (by omega)
       rw [if_neg (by rw [ho]; simp)] at hc
       have hx := idx_no (p := ofG (ρ.i 3)) (T := ρ.l 1) (i := ρ.i 0) (by omega) (by omega) ho
       have hx := congrArg List.length hx
       have b0 := bool3 hW (id := ρ.i 0) (by omega) (by omega)
       have c0 : ((ρ.l 0).getD (ρ.i 0).toNat []).getD 0 0 = ((ρ.l 1).getD (ρ.i 0).toNat []).getD 0 0 := by rw [hc]
       have c1 : ((ρ.l 0).getD (ρ.i 0).toNat []).getD 1 0 = ((ρ.l 1).getD (ρ.i 0).toNat []).getD 1 0 := by rw [hc]
       have c2 : ((ρ.l 0).getD (ρ.i 0).toNat []).getD 2 0 = ((ρ.l 1).getD (ρ.i 0).toNat []).getD 2 0 := by rw [hc]
       have c3 : ((ρ.l 0).getD (ρ.i 0).toNat []).getD 3 0 = ((ρ.l 1).getD (ρ.i 0).toNat []).getD 3 0 := by rw [hc]
       have c4 : ((ρ.l 0).getD (ρ.i 0).toNat []).getD 4 0 = ((ρ.l 1).getD (ρ.i 0).toNat []).getD 4 0 := by rw [hc]
       
       have hn := none_row (T := ρ.l 0) (id := ρ.i 0) (by with_reducible assumption) (by omega) (by omega)
       rw [hc] at hn
       exfalso
       have hz : allZ ((ρ.l 1).getD (ρ.i 0).toNat []) := by rw [hn]; exact ⟨rfl, rfl, rfl, rfl, rfl⟩
       unfold allZ at hz
       omega)
    | (have hx := idx_end (p := ofG (ρ.i 3)) (T := ρ.l 1) (i := ρ.i 0) (by omega)
       have hx := congrArg List.length hx
       rw [List.length_nil] at hx
       omega)
theorem t9_ok (ρ : Env) : TblOK Φ ρ Try.prog t9 := addLp_ok (addLp_ok (addLp_ok (t6_ok ρ) dp1_ok) dp2_ok) dp3_ok
set_option maxRecDepth 100000 in
theorem lDrops0_obs : callObs Φ Try.prog t9 1000 lDrops0.f lDrops0.vs lDrops0.o lDrops0.pc lDrops0.outs = some
  [{
      pc :=
        [SB.not
            (SB.eq
              (SI.len
                (SL.app 102
                  (SA.l
                    (SL.app 116
                      (SA.l (SL.v 1000)
                        (SA.i (SI.add (SI.rem (SI.v 0) (SI.c (Int.ofNat 16))) (SI.c (Int.ofNat 1))) SA.nil)))
                    (SA.i (SI.c (Int.ofNat 0))
                      (SA.i (SI.add (SI.rem (SI.v 0) (SI.c (Int.ofNat 16))) (SI.c (Int.ofNat 1))) SA.nil)))))
              (SI.c (Int.ofNat 0))),
          SB.le
            (SI.len
              (SL.app 102
                (SA.l
                  (SL.app 116
                    (SA.l (SL.v 1000)
                      (SA.i (SI.add (SI.rem (SI.v 0) (SI.c (Int.ofNat 16))) (SI.c (Int.ofNat 1))) SA.nil)))
                  (SA.i (SI.c (Int.ofNat 0))
                    (SA.i (SI.add (SI.rem (SI.v 0) (SI.c (Int.ofNat 16))) (SI.c (Int.ofNat 1))) SA.nil)))))
            (SI.len
              (SL.app 116
                (SA.l (SL.v 1000)
                  (SA.i (SI.add (SI.rem (SI.v 0) (SI.c (Int.ofNat 16))) (SI.c (Int.ofNat 1))) SA.nil)))),
          SB.eq
            (SI.len
              (SL.app 116
                (SA.l
                  (SL.app 116
                    (SA.l (SL.v 1000)
                      (SA.i (SI.add (SI.rem (SI.v 0) (SI.c (Int.ofNat 16))) (SI.c (Int.ofNat 1))) SA.nil)))
                  (SA.i (SI.add (SI.rem (SI.v 0) (SI.c (Int.ofNat 16))) (SI.c (Int.ofNat 1))) SA.nil))))
            (SI.len
              (SL.app 116
                (SA.l (SL.v 1000)
                  (SA.i (SI.add (SI.rem (SI.v 0) (SI.c (Int.ofNat 16))) (SI.c (Int.ofNat 1))) SA.nil)))),
          SB.le
            (SI.len
              (SL.app 102
                (SA.l (SL.v 1000)
                  (SA.i (SI.c (Int.ofNat 0))
                    (SA.i (SI.add (SI.rem (SI.v 0) (SI.c (Int.ofNat 16))) (SI.c (Int.ofNat 1))) SA.nil)))))
            (SI.len (SL.v 1000)),
          SB.eq
            (SI.len
              (SL.app 116
                (SA.l (SL.v 1000) (SA.i (SI.add (SI.rem (SI.v 0) (SI.c (Int.ofNat 16))) (SI.c (Int.ofNat 1))) SA.nil))))
            (SI.len (SL.v 1000)),
          SB.eqL (SL.lit []) (SL.app 1 (SA.l (SL.v 1000) (SA.i (SI.c (Int.ofNat 0)) SA.nil))),
          SB.eq (SI.len (SL.v 1000)) (SI.c (Int.ofNat 20)), SB.le (SI.c (Int.ofNat 0)) (SI.v 0),
          SB.le (SI.v 0) (SI.c (Int.ofNat 255))],
      eqs := [Eqn.T (SB.app 199 SA.nil)] },
    {
      pc :=
        [SB.not (SB.eqL (SL.lit []) (SL.app 1 (SA.l (SL.v 1000) (SA.i (SI.c (Int.ofNat 0)) SA.nil)))),
          SB.eq (SI.len (SL.v 1000)) (SI.c (Int.ofNat 20)), SB.le (SI.c (Int.ofNat 0)) (SI.v 0),
          SB.le (SI.v 0) (SI.c (Int.ofNat 255))],
      eqs := [Eqn.T (SB.c false)] }] := by kernel_rfl
theorem lDrops0_ok : lDrops0.ok Φ Try.prog := by
  refine call_rule (fun ρ => t9_ok ρ) lDrops0_obs ?_
  simp only [and_imp, List.forall_mem_cons, List.not_mem_nil, false_implies, implies_true, and_true, Ob.ok, holds, Eqn.ok, evB_eq, evB_lt, evB_le, evB_not, evB_and, evB_or, evB_eqL, evB_app, evB_v, evB_c, ev_sel, ev_len, ev_v, ev_c, ev_add, ev_sub, ev_mul, ev_quo, ev_rem, ev_bits, ev_wrap, evL_v, evL_lit, evL_app, ev_app, evA_l, evA_i, evA_nil, std_min, std_max, std_cat, std_take, std_drop, std_row, std_set, std_rep, std_find, std_put, std_del, std_flag, std_unflag, std_clr, std_left, std_copy, ints_cons, ints_nil, ofNat_lit, negSucc_lit, decide_eq_true_eq, Bool.and_eq_true, Bool.or_eq_true, Bool.not_eq_true', Bool.and_eq_false_iff, Bool.or_eq_false_iff, decide_eq_false_iff_not, aI110, aI111, aI112, aI113, aI114, aL100, aL101, aL102, aL103, aL110, aL112, aL113, aL114, aL115, aL116, aB130, aB131, aB132, aB199]
  repeat' apply And.intro
  all_goals intro ρ hR
  all_goals intros
  all_goals first
    | (exfalso
       exact absurd rfl (by assumption))
    | (exfalso
       have h := ‹¬ ((List.length (idxT (ofG _) _ (List.drop _ (clrG _ _))) : Nat) : Int) = 0›
       exact h (congrArg (fun x : Tab => (x.length : Int)) (of_clr _ _)))
theorem lDrops_ok : lDrops.ok Φ Try.prog := drop_never rfl lDrops0_ok
end Go.SF.C19
