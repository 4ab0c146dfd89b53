/- The loops of the sweep, shown. -/
import Derived.Test.YtlbppnfmahnnaaaC1
import Derived.KernelRfl
namespace Go.SF.C14
open Go Go.SF Go.Proofs
set_option linter.unusedVariables false
set_option linter.unusedSimpArgs false

set_option maxRecDepth 100000 in
theorem sw0_obs : loopObs Φ Try.prog noTbl 1000 sw0.f (loopAt Try.prog sw0.f sw0.id) sw0.n sw0.T i1 sw0.outs = some
  [{
      pc :=
        [SB.eq (SI.sel (SL.v 0) (SI.v 3) 1) (SI.v 1), SB.eq (SI.sel (SL.v 0) (SI.v 3) 0) (SI.v 0),
          SB.le (SI.c (Int.ofNat 0)) (SI.v 3), SB.le (SI.c (Int.negSucc 0)) (SI.v 3), SB.lt (SI.v 3) (SI.len (SL.v 0)),
          SB.lt (SI.len (SL.v 0)) (SI.c (Int.ofNat 100000))],
      eqs :=
        [Eqn.T
            (SB.lt (SI.sub (SI.v 3) (SI.c (Int.ofNat 1)))
              (SI.add (SI.len (SL.app 1 (SA.l (SL.v 0) (SA.i (SI.v 3) SA.nil))))
                (SI.len (SL.app 2 (SA.l (SL.v 0) (SA.i (SI.add (SI.v 3) (SI.c (Int.ofNat 1))) SA.nil)))))),
          Eqn.T
            (SB.lt
              (SI.add (SI.len (SL.app 1 (SA.l (SL.v 0) (SA.i (SI.v 3) SA.nil))))
                (SI.len (SL.app 2 (SA.l (SL.v 0) (SA.i (SI.add (SI.v 3) (SI.c (Int.ofNat 1))) SA.nil)))))
              (SI.c (Int.ofNat 100000)))] },
    {
      pc :=
        [SB.eq (SI.sel (SL.v 0) (SI.v 3) 1) (SI.v 1), SB.eq (SI.sel (SL.v 0) (SI.v 3) 0) (SI.v 0),
          SB.le (SI.c (Int.ofNat 0)) (SI.v 3), SB.le (SI.c (Int.negSucc 0)) (SI.v 3), SB.lt (SI.v 3) (SI.len (SL.v 0)),
          SB.lt (SI.len (SL.v 0)) (SI.c (Int.ofNat 100000))],
      eqs :=
        [Eqn.I (SI.app 100 (SA.l (SL.v 0) (SA.i (SI.v 3) (SA.i (SI.v 2) (SA.i (SI.v 0) (SA.i (SI.v 1) SA.nil))))))
            (SI.app 100
              (SA.l
                (SL.app 0
                  (SA.l (SL.app 1 (SA.l (SL.v 0) (SA.i (SI.v 3) SA.nil)))
                    (SA.l (SL.app 2 (SA.l (SL.v 0) (SA.i (SI.add (SI.v 3) (SI.c (Int.ofNat 1))) SA.nil))) SA.nil)))
                (SA.i (SI.sub (SI.v 3) (SI.c (Int.ofNat 1)))
                  (SA.i (SI.wrap IntKind.i64 (SI.add (SI.v 2) (SI.c (Int.ofNat 1))))
                    (SA.i (SI.v 0) (SA.i (SI.v 1) SA.nil)))))),
          Eqn.I (SI.len (SL.app 100 (SA.l (SL.v 0) (SA.i (SI.v 3) (SA.i (SI.v 0) (SA.i (SI.v 1) SA.nil))))))
            (SI.len
              (SL.app 100
                (SA.l
                  (SL.app 0
                    (SA.l (SL.app 1 (SA.l (SL.v 0) (SA.i (SI.v 3) SA.nil)))
                      (SA.l (SL.app 2 (SA.l (SL.v 0) (SA.i (SI.add (SI.v 3) (SI.c (Int.ofNat 1))) SA.nil))) SA.nil)))
                  (SA.i (SI.sub (SI.v 3) (SI.c (Int.ofNat 1))) (SA.i (SI.v 0) (SA.i (SI.v 1) SA.nil)))))),
          Eqn.L (SL.app 100 (SA.l (SL.v 0) (SA.i (SI.v 3) (SA.i (SI.v 0) (SA.i (SI.v 1) SA.nil)))))
            (SL.app 100
              (SA.l
                (SL.app 0
                  (SA.l (SL.app 1 (SA.l (SL.v 0) (SA.i (SI.v 3) SA.nil)))
                    (SA.l (SL.app 2 (SA.l (SL.v 0) (SA.i (SI.add (SI.v 3) (SI.c (Int.ofNat 1))) SA.nil))) SA.nil)))
                (SA.i (SI.sub (SI.v 3) (SI.c (Int.ofNat 1))) (SA.i (SI.v 0) (SA.i (SI.v 1) SA.nil)))))] },
    {
      pc :=
        [SB.not (SB.eq (SI.sel (SL.v 0) (SI.v 3) 1) (SI.v 1)), SB.eq (SI.sel (SL.v 0) (SI.v 3) 0) (SI.v 0),
          SB.le (SI.c (Int.ofNat 0)) (SI.v 3), SB.le (SI.c (Int.negSucc 0)) (SI.v 3), SB.lt (SI.v 3) (SI.len (SL.v 0)),
          SB.lt (SI.len (SL.v 0)) (SI.c (Int.ofNat 100000))],
      eqs :=
        [Eqn.I (SI.app 100 (SA.l (SL.v 0) (SA.i (SI.v 3) (SA.i (SI.v 2) (SA.i (SI.v 0) (SA.i (SI.v 1) SA.nil))))))
            (SI.app 100
              (SA.l (SL.v 0)
                (SA.i (SI.sub (SI.v 3) (SI.c (Int.ofNat 1))) (SA.i (SI.v 2) (SA.i (SI.v 0) (SA.i (SI.v 1) SA.nil)))))),
          Eqn.I (SI.len (SL.app 100 (SA.l (SL.v 0) (SA.i (SI.v 3) (SA.i (SI.v 0) (SA.i (SI.v 1) SA.nil))))))
            (SI.len
              (SL.app 100
                (SA.l (SL.v 0) (SA.i (SI.sub (SI.v 3) (SI.c (Int.ofNat 1))) (SA.i (SI.v 0) (SA.i (SI.v 1) SA.nil)))))),
          Eqn.L (SL.app 100 (SA.l (SL.v 0) (SA.i (SI.v 3) (SA.i (SI.v 0) (SA.i (SI.v 1) SA.nil)))))
            (SL.app 100
              (SA.l (SL.v 0) (SA.i (SI.sub (SI.v 3) (SI.c (Int.ofNat 1))) (SA.i (SI.v 0) (SA.i (SI.v 1) SA.nil)))))] },
    {
      pc :=
        [SB.not (SB.eq (SI.sel (SL.v 0) (SI.v 3) 0) (SI.v 0)), SB.le (SI.c (Int.ofNat 0)) (SI.v 3),
          SB.le (SI.c (Int.negSucc 0)) (SI.v 3), SB.lt (SI.v 3) (SI.len (SL.v 0)),
          SB.lt (SI.len (SL.v 0)) (SI.c (Int.ofNat 100000))],
      eqs :=
        [Eqn.I (SI.app 100 (SA.l (SL.v 0) (SA.i (SI.v 3) (SA.i (SI.v 2) (SA.i (SI.v 0) (SA.i (SI.v 1) SA.nil))))))
            (SI.app 100
              (SA.l (SL.v 0)
                (SA.i (SI.sub (SI.v 3) (SI.c (Int.ofNat 1))) (SA.i (SI.v 2) (SA.i (SI.v 0) (SA.i (SI.v 1) SA.nil)))))),
          Eqn.I (SI.len (SL.app 100 (SA.l (SL.v 0) (SA.i (SI.v 3) (SA.i (SI.v 0) (SA.i (SI.v 1) SA.nil))))))
            (SI.len
              (SL.app 100
                (SA.l (SL.v 0) (SA.i (SI.sub (SI.v 3) (SI.c (Int.ofNat 1))) (SA.i (SI.v 0) (SA.i (SI.v 1) SA.nil)))))),
          Eqn.L (SL.app 100 (SA.l (SL.v 0) (SA.i (SI.v 3) (SA.i (SI.v 0) (SA.i (SI.v 1) SA.nil)))))
            (SL.app 100
              (SA.l (SL.v 0) (SA.i (SI.sub (SI.v 3) (SI.c (Int.ofNat 1))) (SA.i (SI.v 0) (SA.i (SI.v 1) SA.nil)))))] },
    {
      pc :=
        [SB.not (SB.le (SI.c (Int.ofNat 0)) (SI.v 3)), SB.le (SI.c (Int.negSucc 0)) (SI.v 3),
          SB.lt (SI.v 3) (SI.len (SL.v 0)), SB.lt (SI.len (SL.v 0)) (SI.c (Int.ofNat 100000))],
      eqs :=
        [Eqn.I (SI.app 100 (SA.l (SL.v 0) (SA.i (SI.v 3) (SA.i (SI.v 2) (SA.i (SI.v 0) (SA.i (SI.v 1) SA.nil))))))
            (SI.v 2),
          Eqn.I (SI.len (SL.app 100 (SA.l (SL.v 0) (SA.i (SI.v 3) (SA.i (SI.v 0) (SA.i (SI.v 1) SA.nil))))))
            (SI.len (SL.v 0)),
          Eqn.L (SL.app 100 (SA.l (SL.v 0) (SA.i (SI.v 3) (SA.i (SI.v 0) (SA.i (SI.v 1) SA.nil))))) (SL.v 0)] }] := by kernel_rfl
theorem sw0_ok : sw0.ok Φ Try.prog := by
  refine ⟨by kernel_rfl, loop_rule (fun ρ => noTbl_ok) (loopAt_sub (by kernel_rfl)) sw0_obs ?_⟩
  simp only [and_imp, List.forall_mem_cons, List.not_mem_nil, false_implies, implies_true, and_true, Ob.ok, holds, Eqn.ok, evB_eq, evB_lt, evB_le, evB_not, evB_and, evB_or, evB_eqL, evB_app, evB_v, evB_c, ev_sel, ev_len, ev_v, ev_c, ev_add, ev_sub, ev_mul, ev_quo, ev_rem, ev_bits, ev_wrap, evL_v, evL_lit, evL_app, ev_app, evA_l, evA_i, evA_nil, std_min, std_max, std_cat, std_take, std_drop, std_row, std_set, std_rep, ints_cons, ints_nil, ofNat_lit, negSucc_lit, decide_eq_true_eq, Bool.and_eq_true, Bool.or_eq_true, Bool.not_eq_true', Bool.and_eq_false_iff, Bool.or_eq_false_iff, decide_eq_false_iff_not, aI100, aL100, aI101, aL101, aI102, aL102, aI111, aI112, aI120, aI130, aI131, aL110, aL111, aL112, aL120, aL140, aL141, aL142, aB100, aB130, aB160, aB162, aB199, aL161]
  repeat' apply And.intro
  all_goals intro ρ hR
  all_goals intros
  all_goals first
    | (have hp : pOf (ρ.i 0) (ρ.i 1) ((ρ.l 0).getD (ρ.i 3).toNat []) = true := by simp only [pOf, pTag, pFrame, at', Bool.and_eq_true, decide_eq_true_eq]; omega
       have h3 : 0 ≤ ρ.i 3 := by omega
       exact ⟨sweepN_yes h3 hp, by rw [sweepA_yes h3 hp], sweepA_yes h3 hp⟩)
    | (have hp : pOf (ρ.i 0) (ρ.i 1) ((ρ.l 0).getD (ρ.i 3).toNat []) = false := by simp only [pOf, pTag, pFrame, at', Bool.and_eq_false_iff, decide_eq_false_iff_not]; omega
       have h3 : 0 ≤ ρ.i 3 := by omega
       exact ⟨sweepN_no h3 hp, by rw [sweepA_no h3 hp], sweepA_no h3 hp⟩)
    | (exact ⟨sweepN_end (by omega), by rw [sweepA_end (by omega)], sweepA_end (by omega)⟩)
    | (simp only [List.length_take, List.length_drop]
       omega)
set_option maxRecDepth 100000 in
theorem sw1_obs : loopObs Φ Try.prog noTbl 1000 sw1.f (loopAt Try.prog sw1.f sw1.id) sw1.n sw1.T i1 sw1.outs = some
  [{
      pc :=
        [SB.eq (SI.sel (SL.v 0) (SI.v 3) 0) (SI.v 0), SB.le (SI.c (Int.ofNat 0)) (SI.v 3),
          SB.le (SI.c (Int.negSucc 0)) (SI.v 3), SB.lt (SI.v 3) (SI.len (SL.v 0)),
          SB.lt (SI.len (SL.v 0)) (SI.c (Int.ofNat 100000))],
      eqs :=
        [Eqn.T
            (SB.lt (SI.sub (SI.v 3) (SI.c (Int.ofNat 1)))
              (SI.add (SI.len (SL.app 1 (SA.l (SL.v 0) (SA.i (SI.v 3) SA.nil))))
                (SI.len (SL.app 2 (SA.l (SL.v 0) (SA.i (SI.add (SI.v 3) (SI.c (Int.ofNat 1))) SA.nil)))))),
          Eqn.T
            (SB.lt
              (SI.add (SI.len (SL.app 1 (SA.l (SL.v 0) (SA.i (SI.v 3) SA.nil))))
                (SI.len (SL.app 2 (SA.l (SL.v 0) (SA.i (SI.add (SI.v 3) (SI.c (Int.ofNat 1))) SA.nil)))))
              (SI.c (Int.ofNat 100000)))] },
    {
      pc :=
        [SB.eq (SI.sel (SL.v 0) (SI.v 3) 0) (SI.v 0), SB.le (SI.c (Int.ofNat 0)) (SI.v 3),
          SB.le (SI.c (Int.negSucc 0)) (SI.v 3), SB.lt (SI.v 3) (SI.len (SL.v 0)),
          SB.lt (SI.len (SL.v 0)) (SI.c (Int.ofNat 100000))],
      eqs :=
        [Eqn.I (SI.app 101 (SA.l (SL.v 0) (SA.i (SI.v 3) (SA.i (SI.v 2) (SA.i (SI.v 0) SA.nil)))))
            (SI.app 101
              (SA.l
                (SL.app 0
                  (SA.l (SL.app 1 (SA.l (SL.v 0) (SA.i (SI.v 3) SA.nil)))
                    (SA.l (SL.app 2 (SA.l (SL.v 0) (SA.i (SI.add (SI.v 3) (SI.c (Int.ofNat 1))) SA.nil))) SA.nil)))
                (SA.i (SI.sub (SI.v 3) (SI.c (Int.ofNat 1)))
                  (SA.i (SI.wrap IntKind.i64 (SI.add (SI.v 2) (SI.c (Int.ofNat 1)))) (SA.i (SI.v 0) SA.nil))))),
          Eqn.I (SI.len (SL.app 101 (SA.l (SL.v 0) (SA.i (SI.v 3) (SA.i (SI.v 0) SA.nil)))))
            (SI.len
              (SL.app 101
                (SA.l
                  (SL.app 0
                    (SA.l (SL.app 1 (SA.l (SL.v 0) (SA.i (SI.v 3) SA.nil)))
                      (SA.l (SL.app 2 (SA.l (SL.v 0) (SA.i (SI.add (SI.v 3) (SI.c (Int.ofNat 1))) SA.nil))) SA.nil)))
                  (SA.i (SI.sub (SI.v 3) (SI.c (Int.ofNat 1))) (SA.i (SI.v 0) SA.nil))))),
          Eqn.L (SL.app 101 (SA.l (SL.v 0) (SA.i (SI.v 3) (SA.i (SI.v 0) SA.nil))))
            (SL.app 101
              (SA.l
                (SL.app 0
                  (SA.l (SL.app 1 (SA.l (SL.v 0) (SA.i (SI.v 3) SA.nil)))
                    (SA.l (SL.app 2 (SA.l (SL.v 0) (SA.i (SI.add (SI.v 3) (SI.c (Int.ofNat 1))) SA.nil))) SA.nil)))
                (SA.i (SI.sub (SI.v 3) (SI.c (Int.ofNat 1))) (SA.i (SI.v 0) SA.nil))))] },
    {
      pc :=
        [SB.not (SB.eq (SI.sel (SL.v 0) (SI.v 3) 0) (SI.v 0)), SB.le (SI.c (Int.ofNat 0)) (SI.v 3),
          SB.le (SI.c (Int.negSucc 0)) (SI.v 3), SB.lt (SI.v 3) (SI.len (SL.v 0)),
          SB.lt (SI.len (SL.v 0)) (SI.c (Int.ofNat 100000))],
      eqs :=
        [Eqn.I (SI.app 101 (SA.l (SL.v 0) (SA.i (SI.v 3) (SA.i (SI.v 2) (SA.i (SI.v 0) SA.nil)))))
            (SI.app 101
              (SA.l (SL.v 0) (SA.i (SI.sub (SI.v 3) (SI.c (Int.ofNat 1))) (SA.i (SI.v 2) (SA.i (SI.v 0) SA.nil))))),
          Eqn.I (SI.len (SL.app 101 (SA.l (SL.v 0) (SA.i (SI.v 3) (SA.i (SI.v 0) SA.nil)))))
            (SI.len (SL.app 101 (SA.l (SL.v 0) (SA.i (SI.sub (SI.v 3) (SI.c (Int.ofNat 1))) (SA.i (SI.v 0) SA.nil))))),
          Eqn.L (SL.app 101 (SA.l (SL.v 0) (SA.i (SI.v 3) (SA.i (SI.v 0) SA.nil))))
            (SL.app 101 (SA.l (SL.v 0) (SA.i (SI.sub (SI.v 3) (SI.c (Int.ofNat 1))) (SA.i (SI.v 0) SA.nil))))] },
    {
      pc :=
        [SB.not (SB.le (SI.c (Int.ofNat 0)) (SI.v 3)), SB.le (SI.c (Int.negSucc 0)) (SI.v 3),
          SB.lt (SI.v 3) (SI.len (SL.v 0)), SB.lt (SI.len (SL.v 0)) (SI.c (Int.ofNat 100000))],
      eqs :=
        [Eqn.I (SI.app 101 (SA.l (SL.v 0) (SA.i (SI.v 3) (SA.i (SI.v 2) (SA.i (SI.v 0) SA.nil))))) (SI.v 2),
          Eqn.I (SI.len (SL.app 101 (SA.l (SL.v 0) (SA.i (SI.v 3) (SA.i (SI.v 0) SA.nil))))) (SI.len (SL.v 0)),
          Eqn.L (SL.app 101 (SA.l (SL.v 0) (SA.i (SI.v 3) (SA.i (SI.v 0) SA.nil)))) (SL.v 0)] }] := by kernel_rfl
theorem sw1_ok : sw1.ok Φ Try.prog := by
  refine ⟨by kernel_rfl, loop_rule (fun ρ => noTbl_ok) (loopAt_sub (by kernel_rfl)) sw1_obs ?_⟩
  simp only [and_imp, List.forall_mem_cons, List.not_mem_nil, false_implies, implies_true, and_true, Ob.ok, holds, Eqn.ok, evB_eq, evB_lt, evB_le, evB_not, evB_and, evB_or, evB_eqL, evB_app, evB_v, evB_c, ev_sel, ev_len, ev_v, ev_c, ev_add, ev_sub, ev_mul, ev_quo, ev_rem, ev_bits, ev_wrap, evL_v, evL_lit, evL_app, ev_app, evA_l, evA_i, evA_nil, std_min, std_max, std_cat, std_take, std_drop, std_row, std_set, std_rep, ints_cons, ints_nil, ofNat_lit, negSucc_lit, decide_eq_true_eq, Bool.and_eq_true, Bool.or_eq_true, Bool.not_eq_true', Bool.and_eq_false_iff, Bool.or_eq_false_iff, decide_eq_false_iff_not, aI100, aL100, aI101, aL101, aI102, aL102, aI111, aI112, aI120, aI130, aI131, aL110, aL111, aL112, aL120, aL140, aL141, aL142, aB100, aB130, aB160, aB162, aB199, aL161]
  repeat' apply And.intro
  all_goals intro ρ hR
  all_goals intros
  all_goals first
    | (have hp : pTag (ρ.i 0) ((ρ.l 0).getD (ρ.i 3).toNat []) = true := by simp only [pOf, pTag, pFrame, at', Bool.and_eq_true, decide_eq_true_eq]; omega
       have h3 : 0 ≤ ρ.i 3 := by omega
       exact ⟨sweepN_yes h3 hp, by rw [sweepA_yes h3 hp], sweepA_yes h3 hp⟩)
    | (have hp : pTag (ρ.i 0) ((ρ.l 0).getD (ρ.i 3).toNat []) = false := by simp only [pOf, pTag, pFrame, at', Bool.and_eq_false_iff, decide_eq_false_iff_not]; omega
       have h3 : 0 ≤ ρ.i 3 := by omega
       exact ⟨sweepN_no h3 hp, by rw [sweepA_no h3 hp], sweepA_no h3 hp⟩)
    | (exact ⟨sweepN_end (by omega), by rw [sweepA_end (by omega)], sweepA_end (by omega)⟩)
    | (simp only [List.length_take, List.length_drop]
       omega)
set_option maxRecDepth 100000 in
theorem sw2_obs : loopObs Φ Try.prog noTbl 1000 sw2.f (loopAt Try.prog sw2.f sw2.id) sw2.n sw2.T i1 sw2.outs = some
  [{
      pc :=
        [SB.eq (SI.sel (SL.v 0) (SI.v 3) 2) (SI.v 0), SB.le (SI.c (Int.ofNat 0)) (SI.v 3),
          SB.le (SI.c (Int.negSucc 0)) (SI.v 3), SB.lt (SI.v 3) (SI.len (SL.v 0)),
          SB.lt (SI.len (SL.v 0)) (SI.c (Int.ofNat 100000))],
      eqs :=
        [Eqn.T
            (SB.lt (SI.sub (SI.v 3) (SI.c (Int.ofNat 1)))
              (SI.add (SI.len (SL.app 1 (SA.l (SL.v 0) (SA.i (SI.v 3) SA.nil))))
                (SI.len (SL.app 2 (SA.l (SL.v 0) (SA.i (SI.add (SI.v 3) (SI.c (Int.ofNat 1))) SA.nil)))))),
          Eqn.T
            (SB.lt
              (SI.add (SI.len (SL.app 1 (SA.l (SL.v 0) (SA.i (SI.v 3) SA.nil))))
                (SI.len (SL.app 2 (SA.l (SL.v 0) (SA.i (SI.add (SI.v 3) (SI.c (Int.ofNat 1))) SA.nil)))))
              (SI.c (Int.ofNat 100000)))] },
    {
      pc :=
        [SB.eq (SI.sel (SL.v 0) (SI.v 3) 2) (SI.v 0), SB.le (SI.c (Int.ofNat 0)) (SI.v 3),
          SB.le (SI.c (Int.negSucc 0)) (SI.v 3), SB.lt (SI.v 3) (SI.len (SL.v 0)),
          SB.lt (SI.len (SL.v 0)) (SI.c (Int.ofNat 100000))],
      eqs :=
        [Eqn.I (SI.app 102 (SA.l (SL.v 0) (SA.i (SI.v 3) (SA.i (SI.v 2) (SA.i (SI.v 0) SA.nil)))))
            (SI.app 102
              (SA.l
                (SL.app 0
                  (SA.l (SL.app 1 (SA.l (SL.v 0) (SA.i (SI.v 3) SA.nil)))
                    (SA.l (SL.app 2 (SA.l (SL.v 0) (SA.i (SI.add (SI.v 3) (SI.c (Int.ofNat 1))) SA.nil))) SA.nil)))
                (SA.i (SI.sub (SI.v 3) (SI.c (Int.ofNat 1)))
                  (SA.i (SI.wrap IntKind.i64 (SI.add (SI.v 2) (SI.c (Int.ofNat 1)))) (SA.i (SI.v 0) SA.nil))))),
          Eqn.I (SI.len (SL.app 102 (SA.l (SL.v 0) (SA.i (SI.v 3) (SA.i (SI.v 0) SA.nil)))))
            (SI.len
              (SL.app 102
                (SA.l
                  (SL.app 0
                    (SA.l (SL.app 1 (SA.l (SL.v 0) (SA.i (SI.v 3) SA.nil)))
                      (SA.l (SL.app 2 (SA.l (SL.v 0) (SA.i (SI.add (SI.v 3) (SI.c (Int.ofNat 1))) SA.nil))) SA.nil)))
                  (SA.i (SI.sub (SI.v 3) (SI.c (Int.ofNat 1))) (SA.i (SI.v 0) SA.nil))))),
          Eqn.L (SL.app 102 (SA.l (SL.v 0) (SA.i (SI.v 3) (SA.i (SI.v 0) SA.nil))))
            (SL.app 102
              (SA.l
                (SL.app 0
                  (SA.l (SL.app 1 (SA.l (SL.v 0) (SA.i (SI.v 3) SA.nil)))
                    (SA.l (SL.app 2 (SA.l (SL.v 0) (SA.i (SI.add (SI.v 3) (SI.c (Int.ofNat 1))) SA.nil))) SA.nil)))
                (SA.i (SI.sub (SI.v 3) (SI.c (Int.ofNat 1))) (SA.i (SI.v 0) SA.nil))))] },
    {
      pc :=
        [SB.not (SB.eq (SI.sel (SL.v 0) (SI.v 3) 2) (SI.v 0)), SB.le (SI.c (Int.ofNat 0)) (SI.v 3),
          SB.le (SI.c (Int.negSucc 0)) (SI.v 3), SB.lt (SI.v 3) (SI.len (SL.v 0)),
          SB.lt (SI.len (SL.v 0)) (SI.c (Int.ofNat 100000))],
      eqs :=
        [Eqn.I (SI.app 102 (SA.l (SL.v 0) (SA.i (SI.v 3) (SA.i (SI.v 2) (SA.i (SI.v 0) SA.nil)))))
            (SI.app 102
              (SA.l (SL.v 0) (SA.i (SI.sub (SI.v 3) (SI.c (Int.ofNat 1))) (SA.i (SI.v 2) (SA.i (SI.v 0) SA.nil))))),
          Eqn.I (SI.len (SL.app 102 (SA.l (SL.v 0) (SA.i (SI.v 3) (SA.i (SI.v 0) SA.nil)))))
            (SI.len (SL.app 102 (SA.l (SL.v 0) (SA.i (SI.sub (SI.v 3) (SI.c (Int.ofNat 1))) (SA.i (SI.v 0) SA.nil))))),
          Eqn.L (SL.app 102 (SA.l (SL.v 0) (SA.i (SI.v 3) (SA.i (SI.v 0) SA.nil))))
            (SL.app 102 (SA.l (SL.v 0) (SA.i (SI.sub (SI.v 3) (SI.c (Int.ofNat 1))) (SA.i (SI.v 0) SA.nil))))] },
    {
      pc :=
        [SB.not (SB.le (SI.c (Int.ofNat 0)) (SI.v 3)), SB.le (SI.c (Int.negSucc 0)) (SI.v 3),
          SB.lt (SI.v 3) (SI.len (SL.v 0)), SB.lt (SI.len (SL.v 0)) (SI.c (Int.ofNat 100000))],
      eqs :=
        [Eqn.I (SI.app 102 (SA.l (SL.v 0) (SA.i (SI.v 3) (SA.i (SI.v 2) (SA.i (SI.v 0) SA.nil))))) (SI.v 2),
          Eqn.I (SI.len (SL.app 102 (SA.l (SL.v 0) (SA.i (SI.v 3) (SA.i (SI.v 0) SA.nil))))) (SI.len (SL.v 0)),
          Eqn.L (SL.app 102 (SA.l (SL.v 0) (SA.i (SI.v 3) (SA.i (SI.v 0) SA.nil)))) (SL.v 0)] }] := by kernel_rfl
theorem sw2_ok : sw2.ok Φ Try.prog := by
  refine ⟨by kernel_rfl, loop_rule (fun ρ => noTbl_ok) (loopAt_sub (by kernel_rfl)) sw2_obs ?_⟩
  simp only [and_imp, List.forall_mem_cons, List.not_mem_nil, false_implies, implies_true, and_true, Ob.ok, holds, Eqn.ok, evB_eq, evB_lt, evB_le, evB_not, evB_and, evB_or, evB_eqL, evB_app, evB_v, evB_c, ev_sel, ev_len, ev_v, ev_c, ev_add, ev_sub, ev_mul, ev_quo, ev_rem, ev_bits, ev_wrap, evL_v, evL_lit, evL_app, ev_app, evA_l, evA_i, evA_nil, std_min, std_max, std_cat, std_take, std_drop, std_row, std_set, std_rep, ints_cons, ints_nil, ofNat_lit, negSucc_lit, decide_eq_true_eq, Bool.and_eq_true, Bool.or_eq_true, Bool.not_eq_true', Bool.and_eq_false_iff, Bool.or_eq_false_iff, decide_eq_false_iff_not, aI100, aL100, aI101, aL101, aI102, aL102, aI111, aI112, aI120, aI130, aI131, aL110, aL111, aL112, aL120, aL140, aL141, aL142, aB100, aB130, aB160, aB162, aB199, aL161]
  repeat' apply And.intro
  all_goals intro ρ hR
  all_goals intros
  all_goals first
    | (have hp : pFrame (ρ.i 0) ((ρ.l 0).getD (ρ.i 3).toNat []) = true := by simp only [pOf, pTag, pFrame, at', Bool.and_eq_true, decide_eq_true_eq]; omega
       have h3 : 0 ≤ ρ.i 3 := by omega
       exact ⟨sweepN_yes h3 hp, by rw [sweepA_yes h3 hp], sweepA_yes h3 hp⟩)
    | (have hp : pFrame (ρ.i 0) ((ρ.l 0).getD (ρ.i 3).toNat []) = false := by simp only [pOf, pTag, pFrame, at', Bool.and_eq_false_iff, decide_eq_false_iff_not]; omega
       have h3 : 0 ≤ ρ.i 3 := by omega
       exact ⟨sweepN_no h3 hp, by rw [sweepA_no h3 hp], sweepA_no h3 hp⟩)
    | (exact ⟨sweepN_end (by omega), by rw [sweepA_end (by omega)], sweepA_end (by omega)⟩)
    | (simp only [List.length_take, List.length_drop]
       omega)
theorem t1_ok (ρ : Env) : TblOK Φ ρ Try.prog t1 := addLp_ok (addLp_ok (addLp_ok noTbl_ok sw0_ok) sw1_ok) sw2_ok
end Go.SF.C14
