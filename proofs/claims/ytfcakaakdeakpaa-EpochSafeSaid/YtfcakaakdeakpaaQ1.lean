/- Proofs of the contracts of some. -/
import Derived.Test.YtfcakaakdeakpaaC1
import Derived.KernelRfl
namespace Go.SF.C10
open Go Go.SF Go.Proofs
set_option linter.unusedVariables false
set_option linter.unusedSimpArgs false

set_option maxRecDepth 100000 in
theorem in0_obs : loopObs Φ Try.prog noTbl 1000 in0.f (loopAt Try.prog in0.f in0.id) in0.n in0.T i1 in0.outs = some
  [{
      pc :=
        [SB.eq
            (SI.len
              (SL.app 100
                (SA.l
                  (SL.app 4
                    (SA.l (SL.v 1)
                      (SA.i (SI.v 1)
                        (SA.i (SI.c (Int.ofNat 0))
                          (SA.i (SI.sel (SL.v 1) (SI.sub (SI.v 1) (SI.c (Int.ofNat 1))) 0) SA.nil)))))
                  (SA.i (SI.sub (SI.v 1) (SI.c (Int.ofNat 1))) (SA.i (SI.v 0) SA.nil)))))
            (SI.len (SL.v 1)),
          SB.le
            (SI.app 100
              (SA.l
                (SL.app 4
                  (SA.l (SL.v 1)
                    (SA.i (SI.v 1)
                      (SA.i (SI.c (Int.ofNat 0))
                        (SA.i (SI.sel (SL.v 1) (SI.sub (SI.v 1) (SI.c (Int.ofNat 1))) 0) SA.nil)))))
                (SA.i (SI.sub (SI.v 1) (SI.c (Int.ofNat 1))) (SA.i (SI.v 0) SA.nil))))
            (SI.sub (SI.v 1) (SI.c (Int.ofNat 1))),
          SB.le (SI.c (Int.ofNat 0))
            (SI.app 100
              (SA.l
                (SL.app 4
                  (SA.l (SL.v 1)
                    (SA.i (SI.v 1)
                      (SA.i (SI.c (Int.ofNat 0))
                        (SA.i (SI.sel (SL.v 1) (SI.sub (SI.v 1) (SI.c (Int.ofNat 1))) 0) SA.nil)))))
                (SA.i (SI.sub (SI.v 1) (SI.c (Int.ofNat 1))) (SA.i (SI.v 0) SA.nil)))),
          SB.lt (SI.v 0) (SI.sel (SL.v 1) (SI.sub (SI.v 1) (SI.c (Int.ofNat 1))) 0),
          SB.lt (SI.c (Int.ofNat 0)) (SI.v 1), SB.le (SI.c (Int.ofNat 0)) (SI.v 1), SB.lt (SI.v 1) (SI.len (SL.v 1)),
          SB.lt (SI.len (SL.v 1)) (SI.c (Int.ofNat 100000))],
      eqs :=
        [Eqn.T (SB.le (SI.c (Int.ofNat 0)) (SI.app 100 (SA.l (SL.v 1) (SA.i (SI.v 1) (SA.i (SI.v 0) SA.nil))))),
          Eqn.T (SB.le (SI.app 100 (SA.l (SL.v 1) (SA.i (SI.v 1) (SA.i (SI.v 0) SA.nil)))) (SI.v 1)),
          Eqn.T (SB.eq (SI.len (SL.app 100 (SA.l (SL.v 1) (SA.i (SI.v 1) (SA.i (SI.v 0) SA.nil))))) (SI.len (SL.v 1))),
          Eqn.I (SI.len (SL.app 100 (SA.l (SL.v 1) (SA.i (SI.v 1) (SA.i (SI.v 0) SA.nil)))))
            (SI.len
              (SL.app 100
                (SA.l
                  (SL.app 4
                    (SA.l (SL.v 1)
                      (SA.i (SI.v 1)
                        (SA.i (SI.c (Int.ofNat 0))
                          (SA.i (SI.sel (SL.v 1) (SI.sub (SI.v 1) (SI.c (Int.ofNat 1))) 0) SA.nil)))))
                  (SA.i (SI.sub (SI.v 1) (SI.c (Int.ofNat 1))) (SA.i (SI.v 0) SA.nil))))),
          Eqn.I (SI.app 100 (SA.l (SL.v 1) (SA.i (SI.v 1) (SA.i (SI.v 0) SA.nil))))
            (SI.app 100
              (SA.l
                (SL.app 4
                  (SA.l (SL.v 1)
                    (SA.i (SI.v 1)
                      (SA.i (SI.c (Int.ofNat 0))
                        (SA.i (SI.sel (SL.v 1) (SI.sub (SI.v 1) (SI.c (Int.ofNat 1))) 0) SA.nil)))))
                (SA.i (SI.sub (SI.v 1) (SI.c (Int.ofNat 1))) (SA.i (SI.v 0) SA.nil)))),
          Eqn.L (SL.app 100 (SA.l (SL.v 1) (SA.i (SI.v 1) (SA.i (SI.v 0) SA.nil))))
            (SL.app 100
              (SA.l
                (SL.app 4
                  (SA.l (SL.v 1)
                    (SA.i (SI.v 1)
                      (SA.i (SI.c (Int.ofNat 0))
                        (SA.i (SI.sel (SL.v 1) (SI.sub (SI.v 1) (SI.c (Int.ofNat 1))) 0) SA.nil)))))
                (SA.i (SI.sub (SI.v 1) (SI.c (Int.ofNat 1))) (SA.i (SI.v 0) SA.nil))))] },
    {
      pc :=
        [SB.not (SB.lt (SI.v 0) (SI.sel (SL.v 1) (SI.sub (SI.v 1) (SI.c (Int.ofNat 1))) 0)),
          SB.lt (SI.c (Int.ofNat 0)) (SI.v 1), SB.le (SI.c (Int.ofNat 0)) (SI.v 1), SB.lt (SI.v 1) (SI.len (SL.v 1)),
          SB.lt (SI.len (SL.v 1)) (SI.c (Int.ofNat 100000))],
      eqs :=
        [Eqn.T (SB.le (SI.c (Int.ofNat 0)) (SI.app 100 (SA.l (SL.v 1) (SA.i (SI.v 1) (SA.i (SI.v 0) SA.nil))))),
          Eqn.T (SB.le (SI.app 100 (SA.l (SL.v 1) (SA.i (SI.v 1) (SA.i (SI.v 0) SA.nil)))) (SI.v 1)),
          Eqn.T (SB.eq (SI.len (SL.app 100 (SA.l (SL.v 1) (SA.i (SI.v 1) (SA.i (SI.v 0) SA.nil))))) (SI.len (SL.v 1))),
          Eqn.I (SI.len (SL.app 100 (SA.l (SL.v 1) (SA.i (SI.v 1) (SA.i (SI.v 0) SA.nil))))) (SI.len (SL.v 1)),
          Eqn.I (SI.app 100 (SA.l (SL.v 1) (SA.i (SI.v 1) (SA.i (SI.v 0) SA.nil)))) (SI.v 1),
          Eqn.L (SL.app 100 (SA.l (SL.v 1) (SA.i (SI.v 1) (SA.i (SI.v 0) SA.nil)))) (SL.v 1)] },
    {
      pc :=
        [SB.not (SB.lt (SI.c (Int.ofNat 0)) (SI.v 1)), SB.le (SI.c (Int.ofNat 0)) (SI.v 1),
          SB.lt (SI.v 1) (SI.len (SL.v 1)), SB.lt (SI.len (SL.v 1)) (SI.c (Int.ofNat 100000))],
      eqs :=
        [Eqn.T (SB.le (SI.c (Int.ofNat 0)) (SI.app 100 (SA.l (SL.v 1) (SA.i (SI.v 1) (SA.i (SI.v 0) SA.nil))))),
          Eqn.T (SB.le (SI.app 100 (SA.l (SL.v 1) (SA.i (SI.v 1) (SA.i (SI.v 0) SA.nil)))) (SI.v 1)),
          Eqn.T (SB.eq (SI.len (SL.app 100 (SA.l (SL.v 1) (SA.i (SI.v 1) (SA.i (SI.v 0) SA.nil))))) (SI.len (SL.v 1))),
          Eqn.I (SI.len (SL.app 100 (SA.l (SL.v 1) (SA.i (SI.v 1) (SA.i (SI.v 0) SA.nil))))) (SI.len (SL.v 1)),
          Eqn.I (SI.app 100 (SA.l (SL.v 1) (SA.i (SI.v 1) (SA.i (SI.v 0) SA.nil)))) (SI.v 1),
          Eqn.L (SL.app 100 (SA.l (SL.v 1) (SA.i (SI.v 1) (SA.i (SI.v 0) SA.nil)))) (SL.v 1)] }] := by kernel_rfl
theorem in0_ok : in0.ok Φ Try.prog := by
  refine ⟨by kernel_rfl, loop_rule (fun ρ => noTbl_ok) (loopAt_sub (by kernel_rfl)) in0_obs ?_⟩
  simp only [and_imp, List.forall_mem_cons, List.not_mem_nil, false_implies, implies_true, and_true, Ob.ok, holds, Eqn.ok, evB_eq, evB_lt, evB_le, evB_not, evB_and, evB_or, evB_eqL, evB_app, evB_v, evB_c, ev_sel, ev_len, ev_v, ev_c, ev_add, ev_sub, ev_mul, ev_quo, ev_rem, ev_bits, ev_wrap, evL_v, evL_lit, evL_app, ev_app, evA_l, evA_i, evA_nil, std_min, std_max, std_cat, std_take, std_drop, std_row, std_set, std_rep, std_find, std_put, std_del, std_flag, std_unflag, std_clr, std_left, std_copy, ints_cons, ints_nil, ofNat_lit, negSucc_lit, decide_eq_true_eq, Bool.and_eq_true, Bool.or_eq_true, Bool.not_eq_true', Bool.and_eq_false_iff, Bool.or_eq_false_iff, decide_eq_false_iff_not, aI100, aL100, aL110, aL111, aL112, aL113, aL114, aL120, aL121, aL131, aB130, aB199, aI140, aI141, aI142, aI143, aL115, aL140, aL141, aL142, aB150, aB151, aB152, aB153, aB154, aB155]
  repeat' apply And.intro
  all_goals intro ρ hR
  all_goals intros
  all_goals first
    | (have hx : ρ.i 0 < cell (ρ.l 1) (ρ.i 1 - 1).toNat := by with_reducible assumption
       have h0 : 0 < ρ.i 1 := by omega
       have e1 := shA_yes h0 hx
       have e2 := shI_yes h0 hx
       have hl := shA_len (ρ.i 0) (ρ.i 1).toNat (ρ.l 1)
       have hi := shI_le (ρ.i 0) (ρ.i 1).toNat (ρ.l 1)
       refine ⟨by omega, by omega, by omega, ?_, ?_, ?_⟩
       · rw [e1]; rfl
       · rw [e2]; rfl
       · rw [e1]; rfl)
    | (have hx : ρ.i 1 = 0 ∨ ¬ ρ.i 0 < cell (ρ.l 1) (ρ.i 1 - 1).toNat := by
         first
           | exact .inr (by with_reducible assumption)
           | exact .inl (by omega)
       have e := sh_no (A := ρ.l 1) (x := ρ.i 0) (i := ρ.i 1) (by omega) hx
       have e1 := e.1
       have e2 := e.2
       rw [e1, e2]
       exact ⟨by omega, by omega, rfl, rfl, rfl, rfl⟩)
    | (omega)
set_option maxRecDepth 100000 in
theorem in1_obs : loopObs Φ Try.prog noTbl 1000 in1.f (loopAt Try.prog in1.f in1.id) in1.n in1.T i1 in1.outs = some
  [{
      pc :=
        [SB.eq
            (SI.len
              (SL.app 100
                (SA.l
                  (SL.app 4
                    (SA.l (SL.v 1)
                      (SA.i (SI.v 1)
                        (SA.i (SI.c (Int.ofNat 0))
                          (SA.i (SI.sel (SL.v 1) (SI.sub (SI.v 1) (SI.c (Int.ofNat 1))) 0) SA.nil)))))
                  (SA.i (SI.sub (SI.v 1) (SI.c (Int.ofNat 1))) (SA.i (SI.v 0) SA.nil)))))
            (SI.len (SL.v 1)),
          SB.le
            (SI.app 100
              (SA.l
                (SL.app 4
                  (SA.l (SL.v 1)
                    (SA.i (SI.v 1)
                      (SA.i (SI.c (Int.ofNat 0))
                        (SA.i (SI.sel (SL.v 1) (SI.sub (SI.v 1) (SI.c (Int.ofNat 1))) 0) SA.nil)))))
                (SA.i (SI.sub (SI.v 1) (SI.c (Int.ofNat 1))) (SA.i (SI.v 0) SA.nil))))
            (SI.sub (SI.v 1) (SI.c (Int.ofNat 1))),
          SB.le (SI.c (Int.ofNat 0))
            (SI.app 100
              (SA.l
                (SL.app 4
                  (SA.l (SL.v 1)
                    (SA.i (SI.v 1)
                      (SA.i (SI.c (Int.ofNat 0))
                        (SA.i (SI.sel (SL.v 1) (SI.sub (SI.v 1) (SI.c (Int.ofNat 1))) 0) SA.nil)))))
                (SA.i (SI.sub (SI.v 1) (SI.c (Int.ofNat 1))) (SA.i (SI.v 0) SA.nil)))),
          SB.lt (SI.v 0) (SI.sel (SL.v 1) (SI.sub (SI.v 1) (SI.c (Int.ofNat 1))) 0),
          SB.lt (SI.c (Int.ofNat 0)) (SI.v 1), SB.le (SI.c (Int.ofNat 0)) (SI.v 1), SB.lt (SI.v 1) (SI.len (SL.v 1)),
          SB.lt (SI.len (SL.v 1)) (SI.c (Int.ofNat 100000))],
      eqs :=
        [Eqn.T (SB.le (SI.c (Int.ofNat 0)) (SI.app 100 (SA.l (SL.v 1) (SA.i (SI.v 1) (SA.i (SI.v 0) SA.nil))))),
          Eqn.T (SB.le (SI.app 100 (SA.l (SL.v 1) (SA.i (SI.v 1) (SA.i (SI.v 0) SA.nil)))) (SI.v 1)),
          Eqn.T (SB.eq (SI.len (SL.app 100 (SA.l (SL.v 1) (SA.i (SI.v 1) (SA.i (SI.v 0) SA.nil))))) (SI.len (SL.v 1))),
          Eqn.I (SI.len (SL.app 100 (SA.l (SL.v 1) (SA.i (SI.v 1) (SA.i (SI.v 0) SA.nil)))))
            (SI.len
              (SL.app 100
                (SA.l
                  (SL.app 4
                    (SA.l (SL.v 1)
                      (SA.i (SI.v 1)
                        (SA.i (SI.c (Int.ofNat 0))
                          (SA.i (SI.sel (SL.v 1) (SI.sub (SI.v 1) (SI.c (Int.ofNat 1))) 0) SA.nil)))))
                  (SA.i (SI.sub (SI.v 1) (SI.c (Int.ofNat 1))) (SA.i (SI.v 0) SA.nil))))),
          Eqn.I (SI.app 100 (SA.l (SL.v 1) (SA.i (SI.v 1) (SA.i (SI.v 0) SA.nil))))
            (SI.app 100
              (SA.l
                (SL.app 4
                  (SA.l (SL.v 1)
                    (SA.i (SI.v 1)
                      (SA.i (SI.c (Int.ofNat 0))
                        (SA.i (SI.sel (SL.v 1) (SI.sub (SI.v 1) (SI.c (Int.ofNat 1))) 0) SA.nil)))))
                (SA.i (SI.sub (SI.v 1) (SI.c (Int.ofNat 1))) (SA.i (SI.v 0) SA.nil)))),
          Eqn.L (SL.app 100 (SA.l (SL.v 1) (SA.i (SI.v 1) (SA.i (SI.v 0) SA.nil))))
            (SL.app 100
              (SA.l
                (SL.app 4
                  (SA.l (SL.v 1)
                    (SA.i (SI.v 1)
                      (SA.i (SI.c (Int.ofNat 0))
                        (SA.i (SI.sel (SL.v 1) (SI.sub (SI.v 1) (SI.c (Int.ofNat 1))) 0) SA.nil)))))
                (SA.i (SI.sub (SI.v 1) (SI.c (Int.ofNat 1))) (SA.i (SI.v 0) SA.nil))))] },
    {
      pc :=
        [SB.not (SB.lt (SI.v 0) (SI.sel (SL.v 1) (SI.sub (SI.v 1) (SI.c (Int.ofNat 1))) 0)),
          SB.lt (SI.c (Int.ofNat 0)) (SI.v 1), SB.le (SI.c (Int.ofNat 0)) (SI.v 1), SB.lt (SI.v 1) (SI.len (SL.v 1)),
          SB.lt (SI.len (SL.v 1)) (SI.c (Int.ofNat 100000))],
      eqs :=
        [Eqn.T (SB.le (SI.c (Int.ofNat 0)) (SI.app 100 (SA.l (SL.v 1) (SA.i (SI.v 1) (SA.i (SI.v 0) SA.nil))))),
          Eqn.T (SB.le (SI.app 100 (SA.l (SL.v 1) (SA.i (SI.v 1) (SA.i (SI.v 0) SA.nil)))) (SI.v 1)),
          Eqn.T (SB.eq (SI.len (SL.app 100 (SA.l (SL.v 1) (SA.i (SI.v 1) (SA.i (SI.v 0) SA.nil))))) (SI.len (SL.v 1))),
          Eqn.I (SI.len (SL.app 100 (SA.l (SL.v 1) (SA.i (SI.v 1) (SA.i (SI.v 0) SA.nil))))) (SI.len (SL.v 1)),
          Eqn.I (SI.app 100 (SA.l (SL.v 1) (SA.i (SI.v 1) (SA.i (SI.v 0) SA.nil)))) (SI.v 1),
          Eqn.L (SL.app 100 (SA.l (SL.v 1) (SA.i (SI.v 1) (SA.i (SI.v 0) SA.nil)))) (SL.v 1)] },
    {
      pc :=
        [SB.not (SB.lt (SI.c (Int.ofNat 0)) (SI.v 1)), SB.le (SI.c (Int.ofNat 0)) (SI.v 1),
          SB.lt (SI.v 1) (SI.len (SL.v 1)), SB.lt (SI.len (SL.v 1)) (SI.c (Int.ofNat 100000))],
      eqs :=
        [Eqn.T (SB.le (SI.c (Int.ofNat 0)) (SI.app 100 (SA.l (SL.v 1) (SA.i (SI.v 1) (SA.i (SI.v 0) SA.nil))))),
          Eqn.T (SB.le (SI.app 100 (SA.l (SL.v 1) (SA.i (SI.v 1) (SA.i (SI.v 0) SA.nil)))) (SI.v 1)),
          Eqn.T (SB.eq (SI.len (SL.app 100 (SA.l (SL.v 1) (SA.i (SI.v 1) (SA.i (SI.v 0) SA.nil))))) (SI.len (SL.v 1))),
          Eqn.I (SI.len (SL.app 100 (SA.l (SL.v 1) (SA.i (SI.v 1) (SA.i (SI.v 0) SA.nil))))) (SI.len (SL.v 1)),
          Eqn.I (SI.app 100 (SA.l (SL.v 1) (SA.i (SI.v 1) (SA.i (SI.v 0) SA.nil)))) (SI.v 1),
          Eqn.L (SL.app 100 (SA.l (SL.v 1) (SA.i (SI.v 1) (SA.i (SI.v 0) SA.nil)))) (SL.v 1)] }] := by kernel_rfl
theorem in1_ok : in1.ok Φ Try.prog := by
  refine ⟨by kernel_rfl, loop_rule (fun ρ => noTbl_ok) (loopAt_sub (by kernel_rfl)) in1_obs ?_⟩
  simp only [and_imp, List.forall_mem_cons, List.not_mem_nil, false_implies, implies_true, and_true, Ob.ok, holds, Eqn.ok, evB_eq, evB_lt, evB_le, evB_not, evB_and, evB_or, evB_eqL, evB_app, evB_v, evB_c, ev_sel, ev_len, ev_v, ev_c, ev_add, ev_sub, ev_mul, ev_quo, ev_rem, ev_bits, ev_wrap, evL_v, evL_lit, evL_app, ev_app, evA_l, evA_i, evA_nil, std_min, std_max, std_cat, std_take, std_drop, std_row, std_set, std_rep, std_find, std_put, std_del, std_flag, std_unflag, std_clr, std_left, std_copy, ints_cons, ints_nil, ofNat_lit, negSucc_lit, decide_eq_true_eq, Bool.and_eq_true, Bool.or_eq_true, Bool.not_eq_true', Bool.and_eq_false_iff, Bool.or_eq_false_iff, decide_eq_false_iff_not, aI100, aL100, aL110, aL111, aL112, aL113, aL114, aL120, aL121, aL131, aB130, aB199, aI140, aI141, aI142, aI143, aL115, aL140, aL141, aL142, aB150, aB151, aB152, aB153, aB154, aB155]
  repeat' apply And.intro
  all_goals intro ρ hR
  all_goals intros
  all_goals first
    | (have hx : ρ.i 0 < cell (ρ.l 1) (ρ.i 1 - 1).toNat := by with_reducible assumption
       have h0 : 0 < ρ.i 1 := by omega
       have e1 := shA_yes h0 hx
       have e2 := shI_yes h0 hx
       have hl := shA_len (ρ.i 0) (ρ.i 1).toNat (ρ.l 1)
       have hi := shI_le (ρ.i 0) (ρ.i 1).toNat (ρ.l 1)
       refine ⟨by omega, by omega, by omega, ?_, ?_, ?_⟩
       · rw [e1]; rfl
       · rw [e2]; rfl
       · rw [e1]; rfl)
    | (have hx : ρ.i 1 = 0 ∨ ¬ ρ.i 0 < cell (ρ.l 1) (ρ.i 1 - 1).toNat := by
         first
           | exact .inr (by with_reducible assumption)
           | exact .inl (by omega)
       have e := sh_no (A := ρ.l 1) (x := ρ.i 0) (i := ρ.i 1) (by omega) hx
       have e1 := e.1
       have e2 := e.2
       rw [e1, e2]
       exact ⟨by omega, by omega, rfl, rfl, rfl, rfl⟩)
    | (omega)
theorem t1_ok (ρ : Env) : TblOK Φ ρ Try.prog t1 := addLp_ok (addLp_ok noTbl_ok in0_ok) in1_ok
end Go.SF.C10
