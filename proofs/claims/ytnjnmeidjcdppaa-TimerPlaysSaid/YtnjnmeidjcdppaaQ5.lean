/- The document's answer, shown. -/
import Derived.Test.YtnjnmeidjcdppaaQ2
import Derived.Test.YtnjnmeidjcdppaaC5
import Derived.Test.YtnjnmeidjcdppaaP7
import Derived.KernelRfl
namespace Go.SF.C18
open Go Go.SF Go.Proofs
set_option linter.unusedVariables false
set_option linter.unusedSimpArgs false

set_option maxRecDepth 100000 in
theorem rNew_obs : callObs Φ Try.prog noTbl 1000 rNew.f rNew.vs rNew.o rNew.pc rNew.outs = some
  [] := by kernel_rfl
theorem rNew_ok : rNew.ok Φ Try.prog := by
  refine call_rule (fun ρ => noTbl_ok) rNew_obs ?_
  intro ob h; cases h
set_option maxRecDepth 100000 in
theorem rd0_obs : loopObs Φ Try.prog noTbl 1000 rd0.f (loopAt Try.prog rd0.f rd0.id) rd0.n rd0.T i7 rd0.outs = some
  [{
      pc :=
        [SB.eq (SI.sel (SL.v 2) (SI.v 1) 0) (SI.v 0), SB.lt (SI.v 1) (SI.len (SL.v 2)),
          SB.le (SI.c (Int.ofNat 0)) (SI.v 1), SB.le (SI.v 1) (SI.len (SL.v 2)),
          SB.lt (SI.len (SL.v 2)) (SI.c (Int.ofNat 90000)), SB.le (SI.len (SL.v 5)) (SI.v 1), SB.c true,
          SB.eqL (SL.v 5) (SL.app 150 (SA.l (SL.app 1 (SA.l (SL.v 2) (SA.i (SI.v 1) SA.nil))) (SA.i (SI.v 0) SA.nil)))],
      eqs :=
        [Eqn.T
            (SB.lt (SI.sub (SI.len (SL.v 2)) (SI.add (SI.v 1) (SI.c (Int.ofNat 1))))
              (SI.sub (SI.len (SL.v 2)) (SI.v 1))),
          Eqn.T (SB.lt (SI.c (Int.ofNat 0)) (SI.sub (SI.len (SL.v 2)) (SI.v 1))),
          Eqn.T
            (SB.eqL (SL.v 5)
              (SL.app 150
                (SA.l (SL.app 1 (SA.l (SL.v 2) (SA.i (SI.add (SI.v 1) (SI.c (Int.ofNat 1))) SA.nil)))
                  (SA.i (SI.v 0) SA.nil))))] },
    {
      pc :=
        [SB.not (SB.eq (SI.sel (SL.v 2) (SI.v 1) 0) (SI.v 0)), SB.lt (SI.v 1) (SI.len (SL.v 2)),
          SB.le (SI.c (Int.ofNat 0)) (SI.v 1), SB.le (SI.v 1) (SI.len (SL.v 2)),
          SB.lt (SI.len (SL.v 2)) (SI.c (Int.ofNat 90000)), SB.le (SI.len (SL.v 5)) (SI.v 1), SB.c true,
          SB.eqL (SL.v 5) (SL.app 150 (SA.l (SL.app 1 (SA.l (SL.v 2) (SA.i (SI.v 1) SA.nil))) (SA.i (SI.v 0) SA.nil)))],
      eqs :=
        [Eqn.T
            (SB.lt (SI.sub (SI.len (SL.v 2)) (SI.add (SI.v 1) (SI.c (Int.ofNat 1))))
              (SI.sub (SI.len (SL.v 2)) (SI.v 1))),
          Eqn.T (SB.lt (SI.c (Int.ofNat 0)) (SI.sub (SI.len (SL.v 2)) (SI.v 1))),
          Eqn.T
            (SB.eqL
              (SL.app 0
                (SA.l (SL.v 5)
                  (SA.l
                    (SL.app 3
                      (SA.i (SI.sel (SL.v 2) (SI.v 1) 0)
                        (SA.i (SI.sel (SL.v 2) (SI.v 1) 1) (SA.i (SI.sel (SL.v 2) (SI.v 1) 2) SA.nil))))
                    SA.nil)))
              (SL.app 150
                (SA.l (SL.app 1 (SA.l (SL.v 2) (SA.i (SI.add (SI.v 1) (SI.c (Int.ofNat 1))) SA.nil)))
                  (SA.i (SI.v 0) SA.nil))))] },
    {
      pc :=
        [SB.not (SB.lt (SI.v 1) (SI.len (SL.v 2))), SB.le (SI.c (Int.ofNat 0)) (SI.v 1),
          SB.le (SI.v 1) (SI.len (SL.v 2)), SB.lt (SI.len (SL.v 2)) (SI.c (Int.ofNat 90000)),
          SB.le (SI.len (SL.v 5)) (SI.v 1), SB.c true,
          SB.eqL (SL.v 5) (SL.app 150 (SA.l (SL.app 1 (SA.l (SL.v 2) (SA.i (SI.v 1) SA.nil))) (SA.i (SI.v 0) SA.nil)))],
      eqs :=
        [Eqn.T (SB.le (SI.len (SL.app 150 (SA.l (SL.v 2) (SA.i (SI.v 0) SA.nil)))) (SI.len (SL.v 2))),
          Eqn.I (SI.len (SL.app 150 (SA.l (SL.v 2) (SA.i (SI.v 0) SA.nil)))) (SI.len (SL.v 5)),
          Eqn.L (SL.app 150 (SA.l (SL.v 2) (SA.i (SI.v 0) SA.nil))) (SL.v 5)] }] := by kernel_rfl
theorem rd0_ok : rd0.ok Φ Try.prog := by
  refine ⟨by kernel_rfl, loop_rule (fun ρ => noTbl_ok) (loopAt_sub (by kernel_rfl)) rd0_obs ?_⟩
  simp only [and_imp, List.forall_mem_cons, List.not_mem_nil, false_implies, implies_true, and_true, Ob.ok, holds, Eqn.ok, evB_eq, evB_lt, evB_le, evB_not, evB_and, evB_or, evB_eqL, evB_app, evB_v, evB_c, ev_sel, ev_len, ev_v, ev_c, ev_add, ev_sub, ev_mul, ev_quo, ev_rem, ev_bits, ev_wrap, evL_v, evL_lit, evL_app, ev_app, evA_l, evA_i, evA_nil, std_min, std_max, std_cat, std_take, std_drop, std_row, std_set, std_rep, std_find, std_put, std_del, std_flag, std_unflag, std_clr, std_left, std_copy, ints_cons, ints_nil, ofNat_lit, negSucc_lit, decide_eq_true_eq, Bool.and_eq_true, Bool.or_eq_true, Bool.not_eq_true', Bool.and_eq_false_iff, Bool.or_eq_false_iff, decide_eq_false_iff_not, aI110, aI111, aI112, aI113, aI114, aI115, aI120, aI121, aI122, aL110, aL116, aL120, aL122, aL123, aL124, aL125, aB130, aB132, aB140, aB141, aB142, aL126, aL127, aL128, aB199, aI150, aI151, aI152, aL150, aL151, aL152, aL153, aL154, aL155, aL156, aL157, aL158, aB150, aB151, aB152, aB153]
  repeat' apply And.intro
  all_goals intro ρ hR
  all_goals intros
  all_goals first
    | (omega)
    | (have e5 : ρ.l 5 = disL (List.take (ρ.i 1).toNat (ρ.l 2)) (ρ.i 0) := by with_reducible assumption
       have t := take_step (A := ρ.l 2) (i := ρ.i 1) (by omega) (by omega)
       rw [e5]
       exact ⟨by omega, by omega, (dis_same (by with_reducible assumption) t).symm⟩)
    | (have e5 : ρ.l 5 = disL (List.take (ρ.i 1).toNat (ρ.l 2)) (ρ.i 0) := by with_reducible assumption
       have hr : ∀ r ∈ ρ.l 2, okRow K3 r := hR.row 1 rfl rfl
       have t := take_step (A := ρ.l 2) (i := ρ.i 1) (by omega) (by omega)
       rw [e5, row3 (hr _ (getD_mem (by omega) (by omega)))]
       exact ⟨by omega, by omega, (dis_more (by with_reducible assumption) t).symm⟩)
    | (have e5 : ρ.l 5 = disL (List.take (ρ.i 1).toNat (ρ.l 2)) (ρ.i 0) := by with_reducible assumption
       rw [List.take_of_length_le (by omega)] at e5
       rw [e5]
       exact ⟨by have := disL_len (ρ.l 2) (ρ.i 0); omega, rfl, rfl⟩)
theorem r1_ok (ρ : Env) : TblOK Φ ρ Try.prog r1 := addLp_ok noTbl_ok rd0_ok
set_option maxRecDepth 100000 in
theorem rDis_obs : callObs Φ Try.prog r1 1000 rDis.f rDis.vs rDis.o rDis.pc rDis.outs = some
  [{
      pc :=
        [SB.not
            (SB.eqL (SL.lit [])
              (SL.app 150 (SA.l (SL.app 1 (SA.l (SL.v 2) (SA.i (SI.c (Int.ofNat 0)) SA.nil))) (SA.i (SI.v 0) SA.nil)))),
          SB.lt (SI.len (SL.v 2)) (SI.c (Int.ofNat 90000))],
      eqs := [Eqn.T (SB.c false)] }] := by kernel_rfl
theorem rDis_ok : rDis.ok Φ Try.prog := by
  refine call_rule (fun ρ => r1_ok ρ) rDis_obs ?_
  simp only [and_imp, List.forall_mem_cons, List.not_mem_nil, false_implies, implies_true, and_true, Ob.ok, holds, Eqn.ok, evB_eq, evB_lt, evB_le, evB_not, evB_and, evB_or, evB_eqL, evB_app, evB_v, evB_c, ev_sel, ev_len, ev_v, ev_c, ev_add, ev_sub, ev_mul, ev_quo, ev_rem, ev_bits, ev_wrap, evL_v, evL_lit, evL_app, ev_app, evA_l, evA_i, evA_nil, std_min, std_max, std_cat, std_take, std_drop, std_row, std_set, std_rep, std_find, std_put, std_del, std_flag, std_unflag, std_clr, std_left, std_copy, ints_cons, ints_nil, ofNat_lit, negSucc_lit, decide_eq_true_eq, Bool.and_eq_true, Bool.or_eq_true, Bool.not_eq_true', Bool.and_eq_false_iff, Bool.or_eq_false_iff, decide_eq_false_iff_not, aI110, aI111, aI112, aI113, aI114, aI115, aI120, aI121, aI122, aL110, aL116, aL120, aL122, aL123, aL124, aL125, aB130, aB132, aB140, aB141, aB142, aL126, aL127, aL128, aB199, aI150, aI151, aI152, aL150, aL151, aL152, aL153, aL154, aL155, aL156, aL157, aL158, aB150, aB151, aB152, aB153]
  repeat' apply And.intro
  all_goals intro ρ hR
  all_goals intros
  all_goals first
    | (exfalso
       exact absurd rfl (by assumption))
set_option maxRecDepth 100000 in
theorem rp0_obs : loopObs Φ Try.prog r1 1000 rp0.f (loopAt Try.prog rp0.f rp0.id) rp0.n rp0.T i8 rp0.outs = some
  [{
      pc :=
        [SB.lt (SI.sel (SL.v 2) (SI.v 3) 1) (SI.v 1), SB.lt (SI.v 3) (SI.len (SL.v 2)),
          SB.le (SI.c (Int.ofNat 0)) (SI.v 3), SB.le (SI.v 3) (SI.len (SL.v 2)),
          SB.lt (SI.len (SL.v 2)) (SI.c (Int.ofNat 90000)), SB.le (SI.len (SL.v 5)) (SI.v 3), SB.c true,
          SB.eqL (SL.v 5) (SL.app 1 (SA.l (SL.v 2) (SA.i (SI.v 3) SA.nil)))],
      eqs :=
        [Eqn.T
            (SB.lt (SI.sub (SI.len (SL.v 2)) (SI.add (SI.v 3) (SI.c (Int.ofNat 1))))
              (SI.sub (SI.len (SL.v 2)) (SI.v 3))),
          Eqn.T (SB.lt (SI.c (Int.ofNat 0)) (SI.sub (SI.len (SL.v 2)) (SI.v 3))),
          Eqn.T
            (SB.eqL
              (SL.app 0
                (SA.l (SL.v 5)
                  (SA.l
                    (SL.app 3
                      (SA.i (SI.sel (SL.v 2) (SI.v 3) 0)
                        (SA.i (SI.sel (SL.v 2) (SI.v 3) 1) (SA.i (SI.sel (SL.v 2) (SI.v 3) 2) SA.nil))))
                    SA.nil)))
              (SL.app 1 (SA.l (SL.v 2) (SA.i (SI.add (SI.v 3) (SI.c (Int.ofNat 1))) SA.nil))))] },
    {
      pc :=
        [SB.eq
            (SI.len
              (SL.app 1
                (SA.l (SL.v 2)
                  (SA.i
                    (SI.app 120
                      (SA.l (SL.v 2)
                        (SA.i (SI.v 0) (SA.i (SI.v 1) (SA.i (SI.add (SI.v 3) (SI.c (Int.ofNat 1))) SA.nil)))))
                    SA.nil))))
            (SI.app 120
              (SA.l (SL.v 2) (SA.i (SI.v 0) (SA.i (SI.v 1) (SA.i (SI.add (SI.v 3) (SI.c (Int.ofNat 1))) SA.nil))))),
          SB.le
            (SI.app 120
              (SA.l (SL.v 2) (SA.i (SI.v 0) (SA.i (SI.v 1) (SA.i (SI.add (SI.v 3) (SI.c (Int.ofNat 1))) SA.nil)))))
            (SI.len (SL.v 2)),
          SB.le (SI.c (Int.ofNat 0))
            (SI.app 120
              (SA.l (SL.v 2) (SA.i (SI.v 0) (SA.i (SI.v 1) (SA.i (SI.add (SI.v 3) (SI.c (Int.ofNat 1))) SA.nil))))),
          SB.lt (SI.sel (SL.v 2) (SI.v 3) 1) (SI.v 1), SB.lt (SI.v 3) (SI.len (SL.v 2)),
          SB.le (SI.c (Int.ofNat 0)) (SI.v 3), SB.le (SI.v 3) (SI.len (SL.v 2)),
          SB.lt (SI.len (SL.v 2)) (SI.c (Int.ofNat 90000)), SB.le (SI.len (SL.v 5)) (SI.v 3), SB.c true,
          SB.eqL (SL.v 5) (SL.app 1 (SA.l (SL.v 2) (SA.i (SI.v 3) SA.nil)))],
      eqs :=
        [Eqn.T
            (SB.le (SI.c (Int.ofNat 0))
              (SI.app 120 (SA.l (SL.v 2) (SA.i (SI.v 0) (SA.i (SI.v 1) (SA.i (SI.v 3) SA.nil)))))),
          Eqn.T
            (SB.le (SI.app 120 (SA.l (SL.v 2) (SA.i (SI.v 0) (SA.i (SI.v 1) (SA.i (SI.v 3) SA.nil)))))
              (SI.len (SL.v 2))),
          Eqn.T
            (SB.eq
              (SI.len
                (SL.app 1
                  (SA.l (SL.v 2)
                    (SA.i (SI.app 120 (SA.l (SL.v 2) (SA.i (SI.v 0) (SA.i (SI.v 1) (SA.i (SI.v 3) SA.nil))))) SA.nil))))
              (SI.app 120 (SA.l (SL.v 2) (SA.i (SI.v 0) (SA.i (SI.v 1) (SA.i (SI.v 3) SA.nil)))))),
          Eqn.I
            (SI.len
              (SL.app 1
                (SA.l (SL.v 2)
                  (SA.i (SI.app 120 (SA.l (SL.v 2) (SA.i (SI.v 0) (SA.i (SI.v 1) (SA.i (SI.v 3) SA.nil))))) SA.nil))))
            (SI.len
              (SL.app 1
                (SA.l (SL.v 2)
                  (SA.i
                    (SI.app 120
                      (SA.l (SL.v 2)
                        (SA.i (SI.v 0) (SA.i (SI.v 1) (SA.i (SI.add (SI.v 3) (SI.c (Int.ofNat 1))) SA.nil)))))
                    SA.nil)))),
          Eqn.I (SI.app 120 (SA.l (SL.v 2) (SA.i (SI.v 0) (SA.i (SI.v 1) (SA.i (SI.v 3) SA.nil)))))
            (SI.app 120
              (SA.l (SL.v 2) (SA.i (SI.v 0) (SA.i (SI.v 1) (SA.i (SI.add (SI.v 3) (SI.c (Int.ofNat 1))) SA.nil))))),
          Eqn.L
            (SL.app 1
              (SA.l (SL.v 2)
                (SA.i (SI.app 120 (SA.l (SL.v 2) (SA.i (SI.v 0) (SA.i (SI.v 1) (SA.i (SI.v 3) SA.nil))))) SA.nil)))
            (SL.app 1
              (SA.l (SL.v 2)
                (SA.i
                  (SI.app 120
                    (SA.l (SL.v 2)
                      (SA.i (SI.v 0) (SA.i (SI.v 1) (SA.i (SI.add (SI.v 3) (SI.c (Int.ofNat 1))) SA.nil)))))
                  SA.nil)))] },
    {
      pc :=
        [SB.lt (SI.sel (SL.v 2) (SI.v 3) 0) (SI.v 0), SB.eq (SI.sel (SL.v 2) (SI.v 3) 1) (SI.v 1),
          SB.not (SB.lt (SI.sel (SL.v 2) (SI.v 3) 1) (SI.v 1)), SB.lt (SI.v 3) (SI.len (SL.v 2)),
          SB.le (SI.c (Int.ofNat 0)) (SI.v 3), SB.le (SI.v 3) (SI.len (SL.v 2)),
          SB.lt (SI.len (SL.v 2)) (SI.c (Int.ofNat 90000)), SB.le (SI.len (SL.v 5)) (SI.v 3), SB.c true,
          SB.eqL (SL.v 5) (SL.app 1 (SA.l (SL.v 2) (SA.i (SI.v 3) SA.nil)))],
      eqs :=
        [Eqn.T
            (SB.lt (SI.sub (SI.len (SL.v 2)) (SI.add (SI.v 3) (SI.c (Int.ofNat 1))))
              (SI.sub (SI.len (SL.v 2)) (SI.v 3))),
          Eqn.T (SB.lt (SI.c (Int.ofNat 0)) (SI.sub (SI.len (SL.v 2)) (SI.v 3))),
          Eqn.T
            (SB.eqL
              (SL.app 0
                (SA.l (SL.v 5)
                  (SA.l
                    (SL.app 3
                      (SA.i (SI.sel (SL.v 2) (SI.v 3) 0)
                        (SA.i (SI.sel (SL.v 2) (SI.v 3) 1) (SA.i (SI.sel (SL.v 2) (SI.v 3) 2) SA.nil))))
                    SA.nil)))
              (SL.app 1 (SA.l (SL.v 2) (SA.i (SI.add (SI.v 3) (SI.c (Int.ofNat 1))) SA.nil))))] },
    {
      pc :=
        [SB.eq
            (SI.len
              (SL.app 1
                (SA.l (SL.v 2)
                  (SA.i
                    (SI.app 120
                      (SA.l (SL.v 2)
                        (SA.i (SI.v 0) (SA.i (SI.v 1) (SA.i (SI.add (SI.v 3) (SI.c (Int.ofNat 1))) SA.nil)))))
                    SA.nil))))
            (SI.app 120
              (SA.l (SL.v 2) (SA.i (SI.v 0) (SA.i (SI.v 1) (SA.i (SI.add (SI.v 3) (SI.c (Int.ofNat 1))) SA.nil))))),
          SB.le
            (SI.app 120
              (SA.l (SL.v 2) (SA.i (SI.v 0) (SA.i (SI.v 1) (SA.i (SI.add (SI.v 3) (SI.c (Int.ofNat 1))) SA.nil)))))
            (SI.len (SL.v 2)),
          SB.le (SI.c (Int.ofNat 0))
            (SI.app 120
              (SA.l (SL.v 2) (SA.i (SI.v 0) (SA.i (SI.v 1) (SA.i (SI.add (SI.v 3) (SI.c (Int.ofNat 1))) SA.nil))))),
          SB.lt (SI.sel (SL.v 2) (SI.v 3) 0) (SI.v 0), SB.eq (SI.sel (SL.v 2) (SI.v 3) 1) (SI.v 1),
          SB.not (SB.lt (SI.sel (SL.v 2) (SI.v 3) 1) (SI.v 1)), SB.lt (SI.v 3) (SI.len (SL.v 2)),
          SB.le (SI.c (Int.ofNat 0)) (SI.v 3), SB.le (SI.v 3) (SI.len (SL.v 2)),
          SB.lt (SI.len (SL.v 2)) (SI.c (Int.ofNat 90000)), SB.le (SI.len (SL.v 5)) (SI.v 3), SB.c true,
          SB.eqL (SL.v 5) (SL.app 1 (SA.l (SL.v 2) (SA.i (SI.v 3) SA.nil)))],
      eqs :=
        [Eqn.T
            (SB.le (SI.c (Int.ofNat 0))
              (SI.app 120 (SA.l (SL.v 2) (SA.i (SI.v 0) (SA.i (SI.v 1) (SA.i (SI.v 3) SA.nil)))))),
          Eqn.T
            (SB.le (SI.app 120 (SA.l (SL.v 2) (SA.i (SI.v 0) (SA.i (SI.v 1) (SA.i (SI.v 3) SA.nil)))))
              (SI.len (SL.v 2))),
          Eqn.T
            (SB.eq
              (SI.len
                (SL.app 1
                  (SA.l (SL.v 2)
                    (SA.i (SI.app 120 (SA.l (SL.v 2) (SA.i (SI.v 0) (SA.i (SI.v 1) (SA.i (SI.v 3) SA.nil))))) SA.nil))))
              (SI.app 120 (SA.l (SL.v 2) (SA.i (SI.v 0) (SA.i (SI.v 1) (SA.i (SI.v 3) SA.nil)))))),
          Eqn.I
            (SI.len
              (SL.app 1
                (SA.l (SL.v 2)
                  (SA.i (SI.app 120 (SA.l (SL.v 2) (SA.i (SI.v 0) (SA.i (SI.v 1) (SA.i (SI.v 3) SA.nil))))) SA.nil))))
            (SI.len
              (SL.app 1
                (SA.l (SL.v 2)
                  (SA.i
                    (SI.app 120
                      (SA.l (SL.v 2)
                        (SA.i (SI.v 0) (SA.i (SI.v 1) (SA.i (SI.add (SI.v 3) (SI.c (Int.ofNat 1))) SA.nil)))))
                    SA.nil)))),
          Eqn.I (SI.app 120 (SA.l (SL.v 2) (SA.i (SI.v 0) (SA.i (SI.v 1) (SA.i (SI.v 3) SA.nil)))))
            (SI.app 120
              (SA.l (SL.v 2) (SA.i (SI.v 0) (SA.i (SI.v 1) (SA.i (SI.add (SI.v 3) (SI.c (Int.ofNat 1))) SA.nil))))),
          Eqn.L
            (SL.app 1
              (SA.l (SL.v 2)
                (SA.i (SI.app 120 (SA.l (SL.v 2) (SA.i (SI.v 0) (SA.i (SI.v 1) (SA.i (SI.v 3) SA.nil))))) SA.nil)))
            (SL.app 1
              (SA.l (SL.v 2)
                (SA.i
                  (SI.app 120
                    (SA.l (SL.v 2)
                      (SA.i (SI.v 0) (SA.i (SI.v 1) (SA.i (SI.add (SI.v 3) (SI.c (Int.ofNat 1))) SA.nil)))))
                  SA.nil)))] },
    {
      pc :=
        [SB.not (SB.lt (SI.sel (SL.v 2) (SI.v 3) 0) (SI.v 0)), SB.eq (SI.sel (SL.v 2) (SI.v 3) 1) (SI.v 1),
          SB.not (SB.lt (SI.sel (SL.v 2) (SI.v 3) 1) (SI.v 1)), SB.lt (SI.v 3) (SI.len (SL.v 2)),
          SB.le (SI.c (Int.ofNat 0)) (SI.v 3), SB.le (SI.v 3) (SI.len (SL.v 2)),
          SB.lt (SI.len (SL.v 2)) (SI.c (Int.ofNat 90000)), SB.le (SI.len (SL.v 5)) (SI.v 3), SB.c true,
          SB.eqL (SL.v 5) (SL.app 1 (SA.l (SL.v 2) (SA.i (SI.v 3) SA.nil)))],
      eqs :=
        [Eqn.T
            (SB.le (SI.c (Int.ofNat 0))
              (SI.app 120 (SA.l (SL.v 2) (SA.i (SI.v 0) (SA.i (SI.v 1) (SA.i (SI.v 3) SA.nil)))))),
          Eqn.T
            (SB.le (SI.app 120 (SA.l (SL.v 2) (SA.i (SI.v 0) (SA.i (SI.v 1) (SA.i (SI.v 3) SA.nil)))))
              (SI.len (SL.v 2))),
          Eqn.T
            (SB.eq
              (SI.len
                (SL.app 1
                  (SA.l (SL.v 2)
                    (SA.i (SI.app 120 (SA.l (SL.v 2) (SA.i (SI.v 0) (SA.i (SI.v 1) (SA.i (SI.v 3) SA.nil))))) SA.nil))))
              (SI.app 120 (SA.l (SL.v 2) (SA.i (SI.v 0) (SA.i (SI.v 1) (SA.i (SI.v 3) SA.nil)))))),
          Eqn.I
            (SI.len
              (SL.app 1
                (SA.l (SL.v 2)
                  (SA.i (SI.app 120 (SA.l (SL.v 2) (SA.i (SI.v 0) (SA.i (SI.v 1) (SA.i (SI.v 3) SA.nil))))) SA.nil))))
            (SI.len (SL.v 5)),
          Eqn.I (SI.app 120 (SA.l (SL.v 2) (SA.i (SI.v 0) (SA.i (SI.v 1) (SA.i (SI.v 3) SA.nil))))) (SI.v 3),
          Eqn.L
            (SL.app 1
              (SA.l (SL.v 2)
                (SA.i (SI.app 120 (SA.l (SL.v 2) (SA.i (SI.v 0) (SA.i (SI.v 1) (SA.i (SI.v 3) SA.nil))))) SA.nil)))
            (SL.v 5)] },
    {
      pc :=
        [SB.not (SB.eq (SI.sel (SL.v 2) (SI.v 3) 1) (SI.v 1)), SB.not (SB.lt (SI.sel (SL.v 2) (SI.v 3) 1) (SI.v 1)),
          SB.lt (SI.v 3) (SI.len (SL.v 2)), SB.le (SI.c (Int.ofNat 0)) (SI.v 3), SB.le (SI.v 3) (SI.len (SL.v 2)),
          SB.lt (SI.len (SL.v 2)) (SI.c (Int.ofNat 90000)), SB.le (SI.len (SL.v 5)) (SI.v 3), SB.c true,
          SB.eqL (SL.v 5) (SL.app 1 (SA.l (SL.v 2) (SA.i (SI.v 3) SA.nil)))],
      eqs :=
        [Eqn.T
            (SB.le (SI.c (Int.ofNat 0))
              (SI.app 120 (SA.l (SL.v 2) (SA.i (SI.v 0) (SA.i (SI.v 1) (SA.i (SI.v 3) SA.nil)))))),
          Eqn.T
            (SB.le (SI.app 120 (SA.l (SL.v 2) (SA.i (SI.v 0) (SA.i (SI.v 1) (SA.i (SI.v 3) SA.nil)))))
              (SI.len (SL.v 2))),
          Eqn.T
            (SB.eq
              (SI.len
                (SL.app 1
                  (SA.l (SL.v 2)
                    (SA.i (SI.app 120 (SA.l (SL.v 2) (SA.i (SI.v 0) (SA.i (SI.v 1) (SA.i (SI.v 3) SA.nil))))) SA.nil))))
              (SI.app 120 (SA.l (SL.v 2) (SA.i (SI.v 0) (SA.i (SI.v 1) (SA.i (SI.v 3) SA.nil)))))),
          Eqn.I
            (SI.len
              (SL.app 1
                (SA.l (SL.v 2)
                  (SA.i (SI.app 120 (SA.l (SL.v 2) (SA.i (SI.v 0) (SA.i (SI.v 1) (SA.i (SI.v 3) SA.nil))))) SA.nil))))
            (SI.len (SL.v 5)),
          Eqn.I (SI.app 120 (SA.l (SL.v 2) (SA.i (SI.v 0) (SA.i (SI.v 1) (SA.i (SI.v 3) SA.nil))))) (SI.v 3),
          Eqn.L
            (SL.app 1
              (SA.l (SL.v 2)
                (SA.i (SI.app 120 (SA.l (SL.v 2) (SA.i (SI.v 0) (SA.i (SI.v 1) (SA.i (SI.v 3) SA.nil))))) SA.nil)))
            (SL.v 5)] },
    {
      pc :=
        [SB.not (SB.lt (SI.v 3) (SI.len (SL.v 2))), SB.le (SI.c (Int.ofNat 0)) (SI.v 3),
          SB.le (SI.v 3) (SI.len (SL.v 2)), SB.lt (SI.len (SL.v 2)) (SI.c (Int.ofNat 90000)),
          SB.le (SI.len (SL.v 5)) (SI.v 3), SB.c true,
          SB.eqL (SL.v 5) (SL.app 1 (SA.l (SL.v 2) (SA.i (SI.v 3) SA.nil)))],
      eqs :=
        [Eqn.T
            (SB.le (SI.c (Int.ofNat 0))
              (SI.app 120 (SA.l (SL.v 2) (SA.i (SI.v 0) (SA.i (SI.v 1) (SA.i (SI.v 3) SA.nil)))))),
          Eqn.T
            (SB.le (SI.app 120 (SA.l (SL.v 2) (SA.i (SI.v 0) (SA.i (SI.v 1) (SA.i (SI.v 3) SA.nil)))))
              (SI.len (SL.v 2))),
          Eqn.T
            (SB.eq
              (SI.len
                (SL.app 1
                  (SA.l (SL.v 2)
                    (SA.i (SI.app 120 (SA.l (SL.v 2) (SA.i (SI.v 0) (SA.i (SI.v 1) (SA.i (SI.v 3) SA.nil))))) SA.nil))))
              (SI.app 120 (SA.l (SL.v 2) (SA.i (SI.v 0) (SA.i (SI.v 1) (SA.i (SI.v 3) SA.nil)))))),
          Eqn.I
            (SI.len
              (SL.app 1
                (SA.l (SL.v 2)
                  (SA.i (SI.app 120 (SA.l (SL.v 2) (SA.i (SI.v 0) (SA.i (SI.v 1) (SA.i (SI.v 3) SA.nil))))) SA.nil))))
            (SI.len (SL.v 5)),
          Eqn.I (SI.app 120 (SA.l (SL.v 2) (SA.i (SI.v 0) (SA.i (SI.v 1) (SA.i (SI.v 3) SA.nil))))) (SI.v 3),
          Eqn.L
            (SL.app 1
              (SA.l (SL.v 2)
                (SA.i (SI.app 120 (SA.l (SL.v 2) (SA.i (SI.v 0) (SA.i (SI.v 1) (SA.i (SI.v 3) SA.nil))))) SA.nil)))
            (SL.v 5)] }] := by kernel_rfl
theorem rp0_ok : rp0.ok Φ Try.prog := by
  refine ⟨by kernel_rfl, loop_rule (fun ρ => r1_ok ρ) (loopAt_sub (by kernel_rfl)) rp0_obs ?_⟩
  simp only [and_imp, List.forall_mem_cons, List.not_mem_nil, false_implies, implies_true, and_true, Ob.ok, holds, Eqn.ok, evB_eq, evB_lt, evB_le, evB_not, evB_and, evB_or, evB_eqL, evB_app, evB_v, evB_c, ev_sel, ev_len, ev_v, ev_c, ev_add, ev_sub, ev_mul, ev_quo, ev_rem, ev_bits, ev_wrap, evL_v, evL_lit, evL_app, ev_app, evA_l, evA_i, evA_nil, std_min, std_max, std_cat, std_take, std_drop, std_row, std_set, std_rep, std_find, std_put, std_del, std_flag, std_unflag, std_clr, std_left, std_copy, ints_cons, ints_nil, ofNat_lit, negSucc_lit, decide_eq_true_eq, Bool.and_eq_true, Bool.or_eq_true, Bool.not_eq_true', Bool.and_eq_false_iff, Bool.or_eq_false_iff, decide_eq_false_iff_not, aI110, aI111, aI112, aI113, aI114, aI115, aI120, aI121, aI122, aL110, aL116, aL120, aL122, aL123, aL124, aL125, aB130, aB132, aB140, aB141, aB142, aL126, aL127, aL128, aB199, aI150, aI151, aI152, aL150, aL151, aL152, aL153, aL154, aL155, aL156, aL157, aL158, aB150, aB151, aB152, aB153]
  repeat' apply And.intro
  all_goals intro ρ hR
  all_goals intros
  all_goals first
    | (omega)
    | (have e5 : ρ.l 5 = List.take (ρ.i 3).toNat (ρ.l 2) := by with_reducible assumption
       have hr : ∀ r ∈ ρ.l 2, okRow K3 r := hR.row 1 rfl rfl
       rw [e5, row3 (hr _ (getD_mem (by omega) (by omega))), take_step (by omega) (by omega)]
       exact ⟨by omega, by omega, rfl⟩)
    | (have ll := List.length_take (i := (ρ.i 3).toNat) (l := ρ.l 2)
       have e := rank_step (L := ρ.l 2) (id := ρ.i 0) (a := ρ.i 1) (i := ρ.i 3) (by omega) (by omega) (by simp only [aheadB, Bool.or_eq_true, Bool.and_eq_true, decide_eq_true_eq]; omega)
       rw [e]
       exact ⟨by omega, by omega, by omega, rfl, rfl, rfl⟩)
    | (have ll := List.length_take (i := (ρ.i 3).toNat) (l := ρ.l 2)
       have e5 : ρ.l 5 = List.take (ρ.i 3).toNat (ρ.l 2) := by with_reducible assumption
       have e := rank_stop (L := ρ.l 2) (id := ρ.i 0) (a := ρ.i 1) (i := ρ.i 3) (by omega) (.inr (by simp only [aheadB, Bool.or_eq_false_iff, Bool.and_eq_false_iff, decide_eq_false_iff_not]; omega))
       rw [e, e5]
       exact ⟨by omega, by omega, by omega, rfl, rfl, rfl⟩)
    | (have ll := List.length_take (i := (ρ.i 3).toNat) (l := ρ.l 2)
       have e5 : ρ.l 5 = List.take (ρ.i 3).toNat (ρ.l 2) := by with_reducible assumption
       have e := rank_stop (L := ρ.l 2) (id := ρ.i 0) (a := ρ.i 1) (i := ρ.i 3) (by omega) (.inl (by omega))
       rw [e, e5]
       exact ⟨by omega, by omega, by omega, rfl, rfl, rfl⟩)
theorem r2_ok (ρ : Env) : TblOK Φ ρ Try.prog r2 := addLp_ok (addFn_ok (r1_ok ρ) rDis_ok) rp0_ok
set_option maxRecDepth 100000 in
theorem rPut_obs : callObs Φ Try.prog r2 1000 rPut.f rPut.vs rPut.o rPut.pc rPut.outs = some
  [{
      pc :=
        [SB.eq
            (SI.len
              (SL.app 1
                (SA.l (SL.app 150 (SA.l (SL.v 2) (SA.i (SI.v 0) SA.nil)))
                  (SA.i
                    (SI.app 120
                      (SA.l (SL.app 150 (SA.l (SL.v 2) (SA.i (SI.v 0) SA.nil)))
                        (SA.i (SI.v 0) (SA.i (SI.v 1) (SA.i (SI.c (Int.ofNat 0)) SA.nil)))))
                    SA.nil))))
            (SI.app 120
              (SA.l (SL.app 150 (SA.l (SL.v 2) (SA.i (SI.v 0) SA.nil)))
                (SA.i (SI.v 0) (SA.i (SI.v 1) (SA.i (SI.c (Int.ofNat 0)) SA.nil))))),
          SB.le
            (SI.app 120
              (SA.l (SL.app 150 (SA.l (SL.v 2) (SA.i (SI.v 0) SA.nil)))
                (SA.i (SI.v 0) (SA.i (SI.v 1) (SA.i (SI.c (Int.ofNat 0)) SA.nil)))))
            (SI.len (SL.app 150 (SA.l (SL.v 2) (SA.i (SI.v 0) SA.nil)))),
          SB.le (SI.c (Int.ofNat 0))
            (SI.app 120
              (SA.l (SL.app 150 (SA.l (SL.v 2) (SA.i (SI.v 0) SA.nil)))
                (SA.i (SI.v 0) (SA.i (SI.v 1) (SA.i (SI.c (Int.ofNat 0)) SA.nil))))),
          SB.eqL (SL.lit [])
            (SL.app 1 (SA.l (SL.app 150 (SA.l (SL.v 2) (SA.i (SI.v 0) SA.nil))) (SA.i (SI.c (Int.ofNat 0)) SA.nil))),
          SB.le (SI.len (SL.app 150 (SA.l (SL.v 2) (SA.i (SI.v 0) SA.nil)))) (SI.len (SL.v 2)),
          SB.lt (SI.len (SL.v 2)) (SI.c (Int.ofNat 90000))],
      eqs :=
        [Eqn.T
            (SB.le (SI.len (SL.app 151 (SA.l (SL.v 2) (SA.i (SI.v 0) (SA.i (SI.v 1) (SA.i (SI.v 2) SA.nil))))))
              (SI.add (SI.len (SL.v 2)) (SI.c (Int.ofNat 1)))),
          Eqn.I (SI.len (SL.app 151 (SA.l (SL.v 2) (SA.i (SI.v 0) (SA.i (SI.v 1) (SA.i (SI.v 2) SA.nil))))))
            (SI.add
              (SI.add
                (SI.len
                  (SL.app 1
                    (SA.l (SL.app 150 (SA.l (SL.v 2) (SA.i (SI.v 0) SA.nil)))
                      (SA.i
                        (SI.app 120
                          (SA.l (SL.app 150 (SA.l (SL.v 2) (SA.i (SI.v 0) SA.nil)))
                            (SA.i (SI.v 0) (SA.i (SI.v 1) (SA.i (SI.c (Int.ofNat 0)) SA.nil)))))
                        SA.nil))))
                (SI.c (Int.ofNat 1)))
              (SI.len
                (SL.app 2
                  (SA.l (SL.app 150 (SA.l (SL.v 2) (SA.i (SI.v 0) SA.nil)))
                    (SA.i
                      (SI.app 120
                        (SA.l (SL.app 150 (SA.l (SL.v 2) (SA.i (SI.v 0) SA.nil)))
                          (SA.i (SI.v 0) (SA.i (SI.v 1) (SA.i (SI.c (Int.ofNat 0)) SA.nil)))))
                      SA.nil))))),
          Eqn.L (SL.app 151 (SA.l (SL.v 2) (SA.i (SI.v 0) (SA.i (SI.v 1) (SA.i (SI.v 2) SA.nil)))))
            (SL.app 0
              (SA.l
                (SL.app 0
                  (SA.l
                    (SL.app 1
                      (SA.l (SL.app 150 (SA.l (SL.v 2) (SA.i (SI.v 0) SA.nil)))
                        (SA.i
                          (SI.app 120
                            (SA.l (SL.app 150 (SA.l (SL.v 2) (SA.i (SI.v 0) SA.nil)))
                              (SA.i (SI.v 0) (SA.i (SI.v 1) (SA.i (SI.c (Int.ofNat 0)) SA.nil)))))
                          SA.nil)))
                    (SA.l (SL.app 3 (SA.i (SI.v 0) (SA.i (SI.v 1) (SA.i (SI.v 2) SA.nil)))) SA.nil)))
                (SA.l
                  (SL.app 2
                    (SA.l (SL.app 150 (SA.l (SL.v 2) (SA.i (SI.v 0) SA.nil)))
                      (SA.i
                        (SI.app 120
                          (SA.l (SL.app 150 (SA.l (SL.v 2) (SA.i (SI.v 0) SA.nil)))
                            (SA.i (SI.v 0) (SA.i (SI.v 1) (SA.i (SI.c (Int.ofNat 0)) SA.nil)))))
                        SA.nil)))
                  SA.nil)))] },
    {
      pc :=
        [SB.not
            (SB.eqL (SL.lit [])
              (SL.app 1 (SA.l (SL.app 150 (SA.l (SL.v 2) (SA.i (SI.v 0) SA.nil))) (SA.i (SI.c (Int.ofNat 0)) SA.nil)))),
          SB.le (SI.len (SL.app 150 (SA.l (SL.v 2) (SA.i (SI.v 0) SA.nil)))) (SI.len (SL.v 2)),
          SB.lt (SI.len (SL.v 2)) (SI.c (Int.ofNat 90000))],
      eqs := [Eqn.T (SB.c false)] }] := by kernel_rfl
theorem rPut_ok : rPut.ok Φ Try.prog := by
  refine call_rule (fun ρ => r2_ok ρ) rPut_obs ?_
  simp only [and_imp, List.forall_mem_cons, List.not_mem_nil, false_implies, implies_true, and_true, Ob.ok, holds, Eqn.ok, evB_eq, evB_lt, evB_le, evB_not, evB_and, evB_or, evB_eqL, evB_app, evB_v, evB_c, ev_sel, ev_len, ev_v, ev_c, ev_add, ev_sub, ev_mul, ev_quo, ev_rem, ev_bits, ev_wrap, evL_v, evL_lit, evL_app, ev_app, evA_l, evA_i, evA_nil, std_min, std_max, std_cat, std_take, std_drop, std_row, std_set, std_rep, std_find, std_put, std_del, std_flag, std_unflag, std_clr, std_left, std_copy, ints_cons, ints_nil, ofNat_lit, negSucc_lit, decide_eq_true_eq, Bool.and_eq_true, Bool.or_eq_true, Bool.not_eq_true', Bool.and_eq_false_iff, Bool.or_eq_false_iff, decide_eq_false_iff_not, aI110, aI111, aI112, aI113, aI114, aI115, aI120, aI121, aI122, aL110, aL116, aL120, aL122, aL123, aL124, aL125, aB130, aB132, aB140, aB141, aB142, aL126, aL127, aL128, aB199, aI150, aI151, aI152, aL150, aL151, aL152, aL153, aL154, aL155, aL156, aL157, aL158, aB150, aB151, aB152, aB153]
  repeat' apply And.intro
  all_goals intro ρ hR
  all_goals intros
  all_goals first
    | (exfalso
       exact absurd rfl (by assumption))
    | (have hl := putL_len (ρ.l 2) (ρ.i 0) (ρ.i 1) (ρ.i 2)
       have e : putL (ρ.l 2) (ρ.i 0) (ρ.i 1) (ρ.i 2) = _ := insF_eq (ρ.i 0) (ρ.i 1) (ρ.i 2) (disL (ρ.l 2) (ρ.i 0))
       have e2 := congrArg (fun x : Tab => (x.length : Int)) e
       simp only [List.length_append, List.length_cons] at e2
       exact ⟨by omega, by omega, by rw [e]; simp⟩)
theorem r3_ok (ρ : Env) : TblOK Φ ρ Try.prog r3 := addFn_ok (r2_ok ρ) rPut_ok
set_option maxRecDepth 100000 in
theorem rArm_obs : callObs Φ Try.prog r3 1000 rArm.f rArm.vs rArm.o rArm.pc rArm.outs = some
  [{ pc := [SB.lt (SI.v 0) (SI.c (Int.ofNat 0)), SB.lt (SI.len (SL.v 2)) (SI.c (Int.ofNat 90000))],
      eqs :=
        [Eqn.T
            (SB.le
              (SI.len
                (SL.app 152 (SA.l (SL.v 2) (SA.i (SI.v 0) (SA.i (SI.v 1) (SA.i (SI.v 2) (SA.i (SI.v 9) SA.nil)))))))
              (SI.add (SI.len (SL.v 2)) (SI.c (Int.ofNat 1)))),
          Eqn.I (SI.app 110 (SA.i (SI.v 0) (SA.i (SI.v 1) (SA.i (SI.v 2) (SA.i (SI.v 9) SA.nil)))))
            (SI.c (Int.ofNat 1)),
          Eqn.I
            (SI.len (SL.app 152 (SA.l (SL.v 2) (SA.i (SI.v 0) (SA.i (SI.v 1) (SA.i (SI.v 2) (SA.i (SI.v 9) SA.nil)))))))
            (SI.len (SL.v 2)),
          Eqn.L (SL.app 152 (SA.l (SL.v 2) (SA.i (SI.v 0) (SA.i (SI.v 1) (SA.i (SI.v 2) (SA.i (SI.v 9) SA.nil))))))
            (SL.v 2)] },
    {
      pc :=
        [SB.lt (SI.v 2) (SI.c (Int.ofNat 0)), SB.not (SB.lt (SI.v 0) (SI.c (Int.ofNat 0))),
          SB.lt (SI.len (SL.v 2)) (SI.c (Int.ofNat 90000))],
      eqs :=
        [Eqn.T
            (SB.le
              (SI.len
                (SL.app 152 (SA.l (SL.v 2) (SA.i (SI.v 0) (SA.i (SI.v 1) (SA.i (SI.v 2) (SA.i (SI.v 9) SA.nil)))))))
              (SI.add (SI.len (SL.v 2)) (SI.c (Int.ofNat 1)))),
          Eqn.I (SI.app 110 (SA.i (SI.v 0) (SA.i (SI.v 1) (SA.i (SI.v 2) (SA.i (SI.v 9) SA.nil)))))
            (SI.c (Int.ofNat 1)),
          Eqn.I
            (SI.len (SL.app 152 (SA.l (SL.v 2) (SA.i (SI.v 0) (SA.i (SI.v 1) (SA.i (SI.v 2) (SA.i (SI.v 9) SA.nil)))))))
            (SI.len (SL.v 2)),
          Eqn.L (SL.app 152 (SA.l (SL.v 2) (SA.i (SI.v 0) (SA.i (SI.v 1) (SA.i (SI.v 2) (SA.i (SI.v 9) SA.nil))))))
            (SL.v 2)] },
    {
      pc :=
        [SB.lt (SI.c (Int.ofNat 1073741824)) (SI.v 2), SB.not (SB.lt (SI.v 2) (SI.c (Int.ofNat 0))),
          SB.not (SB.lt (SI.v 0) (SI.c (Int.ofNat 0))), SB.lt (SI.len (SL.v 2)) (SI.c (Int.ofNat 90000))],
      eqs :=
        [Eqn.T
            (SB.le
              (SI.len
                (SL.app 152 (SA.l (SL.v 2) (SA.i (SI.v 0) (SA.i (SI.v 1) (SA.i (SI.v 2) (SA.i (SI.v 9) SA.nil)))))))
              (SI.add (SI.len (SL.v 2)) (SI.c (Int.ofNat 1)))),
          Eqn.I (SI.app 110 (SA.i (SI.v 0) (SA.i (SI.v 1) (SA.i (SI.v 2) (SA.i (SI.v 9) SA.nil)))))
            (SI.c (Int.ofNat 1)),
          Eqn.I
            (SI.len (SL.app 152 (SA.l (SL.v 2) (SA.i (SI.v 0) (SA.i (SI.v 1) (SA.i (SI.v 2) (SA.i (SI.v 9) SA.nil)))))))
            (SI.len (SL.v 2)),
          Eqn.L (SL.app 152 (SA.l (SL.v 2) (SA.i (SI.v 0) (SA.i (SI.v 1) (SA.i (SI.v 2) (SA.i (SI.v 9) SA.nil))))))
            (SL.v 2)] },
    {
      pc :=
        [SB.le (SI.v 1) (SI.v 9), SB.not (SB.lt (SI.c (Int.ofNat 1073741824)) (SI.v 2)),
          SB.not (SB.lt (SI.v 2) (SI.c (Int.ofNat 0))), SB.not (SB.lt (SI.v 0) (SI.c (Int.ofNat 0))),
          SB.lt (SI.len (SL.v 2)) (SI.c (Int.ofNat 90000))],
      eqs :=
        [Eqn.T
            (SB.le
              (SI.len
                (SL.app 152 (SA.l (SL.v 2) (SA.i (SI.v 0) (SA.i (SI.v 1) (SA.i (SI.v 2) (SA.i (SI.v 9) SA.nil)))))))
              (SI.add (SI.len (SL.v 2)) (SI.c (Int.ofNat 1)))),
          Eqn.I (SI.app 110 (SA.i (SI.v 0) (SA.i (SI.v 1) (SA.i (SI.v 2) (SA.i (SI.v 9) SA.nil)))))
            (SI.c (Int.ofNat 1)),
          Eqn.I
            (SI.len (SL.app 152 (SA.l (SL.v 2) (SA.i (SI.v 0) (SA.i (SI.v 1) (SA.i (SI.v 2) (SA.i (SI.v 9) SA.nil)))))))
            (SI.len (SL.v 2)),
          Eqn.L (SL.app 152 (SA.l (SL.v 2) (SA.i (SI.v 0) (SA.i (SI.v 1) (SA.i (SI.v 2) (SA.i (SI.v 9) SA.nil))))))
            (SL.v 2)] },
    {
      pc :=
        [SB.lt (SI.c (Int.ofNat 1099511627776)) (SI.v 1), SB.not (SB.le (SI.v 1) (SI.v 9)),
          SB.not (SB.lt (SI.c (Int.ofNat 1073741824)) (SI.v 2)), SB.not (SB.lt (SI.v 2) (SI.c (Int.ofNat 0))),
          SB.not (SB.lt (SI.v 0) (SI.c (Int.ofNat 0))), SB.lt (SI.len (SL.v 2)) (SI.c (Int.ofNat 90000))],
      eqs :=
        [Eqn.T
            (SB.le
              (SI.len
                (SL.app 152 (SA.l (SL.v 2) (SA.i (SI.v 0) (SA.i (SI.v 1) (SA.i (SI.v 2) (SA.i (SI.v 9) SA.nil)))))))
              (SI.add (SI.len (SL.v 2)) (SI.c (Int.ofNat 1)))),
          Eqn.I (SI.app 110 (SA.i (SI.v 0) (SA.i (SI.v 1) (SA.i (SI.v 2) (SA.i (SI.v 9) SA.nil)))))
            (SI.c (Int.ofNat 1)),
          Eqn.I
            (SI.len (SL.app 152 (SA.l (SL.v 2) (SA.i (SI.v 0) (SA.i (SI.v 1) (SA.i (SI.v 2) (SA.i (SI.v 9) SA.nil)))))))
            (SI.len (SL.v 2)),
          Eqn.L (SL.app 152 (SA.l (SL.v 2) (SA.i (SI.v 0) (SA.i (SI.v 1) (SA.i (SI.v 2) (SA.i (SI.v 9) SA.nil))))))
            (SL.v 2)] },
    {
      pc :=
        [SB.le (SI.len (SL.app 151 (SA.l (SL.v 2) (SA.i (SI.v 0) (SA.i (SI.v 1) (SA.i (SI.v 2) SA.nil))))))
            (SI.add (SI.len (SL.v 2)) (SI.c (Int.ofNat 1))),
          SB.not (SB.lt (SI.c (Int.ofNat 1099511627776)) (SI.v 1)), SB.not (SB.le (SI.v 1) (SI.v 9)),
          SB.not (SB.lt (SI.c (Int.ofNat 1073741824)) (SI.v 2)), SB.not (SB.lt (SI.v 2) (SI.c (Int.ofNat 0))),
          SB.not (SB.lt (SI.v 0) (SI.c (Int.ofNat 0))), SB.lt (SI.len (SL.v 2)) (SI.c (Int.ofNat 90000))],
      eqs :=
        [Eqn.T
            (SB.le
              (SI.len
                (SL.app 152 (SA.l (SL.v 2) (SA.i (SI.v 0) (SA.i (SI.v 1) (SA.i (SI.v 2) (SA.i (SI.v 9) SA.nil)))))))
              (SI.add (SI.len (SL.v 2)) (SI.c (Int.ofNat 1)))),
          Eqn.I (SI.app 110 (SA.i (SI.v 0) (SA.i (SI.v 1) (SA.i (SI.v 2) (SA.i (SI.v 9) SA.nil)))))
            (SI.c (Int.ofNat 0)),
          Eqn.I
            (SI.len (SL.app 152 (SA.l (SL.v 2) (SA.i (SI.v 0) (SA.i (SI.v 1) (SA.i (SI.v 2) (SA.i (SI.v 9) SA.nil)))))))
            (SI.len (SL.app 151 (SA.l (SL.v 2) (SA.i (SI.v 0) (SA.i (SI.v 1) (SA.i (SI.v 2) SA.nil)))))),
          Eqn.L (SL.app 152 (SA.l (SL.v 2) (SA.i (SI.v 0) (SA.i (SI.v 1) (SA.i (SI.v 2) (SA.i (SI.v 9) SA.nil))))))
            (SL.app 151 (SA.l (SL.v 2) (SA.i (SI.v 0) (SA.i (SI.v 1) (SA.i (SI.v 2) SA.nil)))))] }] := by kernel_rfl
theorem rArm_ok : rArm.ok Φ Try.prog := by
  refine call_rule (fun ρ => r3_ok ρ) rArm_obs ?_
  simp only [and_imp, List.forall_mem_cons, List.not_mem_nil, false_implies, implies_true, and_true, Ob.ok, holds, Eqn.ok, evB_eq, evB_lt, evB_le, evB_not, evB_and, evB_or, evB_eqL, evB_app, evB_v, evB_c, ev_sel, ev_len, ev_v, ev_c, ev_add, ev_sub, ev_mul, ev_quo, ev_rem, ev_bits, ev_wrap, evL_v, evL_lit, evL_app, ev_app, evA_l, evA_i, evA_nil, std_min, std_max, std_cat, std_take, std_drop, std_row, std_set, std_rep, std_find, std_put, std_del, std_flag, std_unflag, std_clr, std_left, std_copy, ints_cons, ints_nil, ofNat_lit, negSucc_lit, decide_eq_true_eq, Bool.and_eq_true, Bool.or_eq_true, Bool.not_eq_true', Bool.and_eq_false_iff, Bool.or_eq_false_iff, decide_eq_false_iff_not, aI110, aI111, aI112, aI113, aI114, aI115, aI120, aI121, aI122, aL110, aL116, aL120, aL122, aL123, aL124, aL125, aB130, aB132, aB140, aB141, aB142, aL126, aL127, aL128, aB199, aI150, aI151, aI152, aL150, aL151, aL152, aL153, aL154, aL155, aL156, aL157, aL158, aB150, aB151, aB152, aB153]
  repeat' apply And.intro
  all_goals intro ρ hR
  all_goals intros
  all_goals first
    | (obtain ⟨e1, e2⟩ := armL_no (L := ρ.l 2) (id := ρ.i 0) (a := ρ.i 1) (e := ρ.i 2) (now := ρ.i 9) (by omega)
       rw [e2]
       exact ⟨by omega, e1, rfl, rfl⟩)
    | (obtain ⟨e1, e2⟩ := armL_yes (L := ρ.l 2) (id := ρ.i 0) (a := ρ.i 1) (e := ρ.i 2) (now := ρ.i 9) (by omega)
       rw [e2]
       exact ⟨by omega, e1, rfl, rfl⟩)
set_option maxRecDepth 100000 in
theorem rNext_obs : callObs Φ Try.prog noTbl 1000 rNext.f rNext.vs rNext.o rNext.pc rNext.outs = some
  [] := by kernel_rfl
theorem rNext_ok : rNext.ok Φ Try.prog := by
  refine call_rule (fun ρ => noTbl_ok) rNext_obs ?_
  intro ob h; cases h
set_option maxRecDepth 100000 in
theorem rt0_obs : loopObs Φ Try.prog r3 1000 rt0.f (loopAt Try.prog rt0.f rt0.id) rt0.n rt0.T i11 rt0.outs = some
  [{
      pc :=
        [SB.lt (SI.c (Int.ofNat 0)) (SI.sel (SL.v 2) (SI.c (Int.ofNat 0)) 2),
          SB.le (SI.sel (SL.v 2) (SI.c (Int.ofNat 0)) 1) (SI.v 0), SB.lt (SI.c (Int.ofNat 0)) (SI.len (SL.v 2)),
          SB.le (SI.c (Int.ofNat 0)) (SI.v 0), SB.le (SI.v 0) (SI.c (Int.ofNat 549755813888)),
          SB.lt (SI.add (SI.len (SL.v 5)) (SI.len (SL.v 2))) (SI.c (Int.ofNat 80000)),
          SB.lt (SI.add (SI.len (SL.v 4)) (SI.len (SL.v 2))) (SI.c (Int.ofNat 80000)),
          SB.lt (SI.len (SL.v 5)) (SI.c (Int.ofNat 80000)), SB.lt (SI.len (SL.v 4)) (SI.c (Int.ofNat 80000)),
          SB.lt (SI.len (SL.v 2)) (SI.c (Int.ofNat 80000)), SB.c true,
          SB.app 152 (SA.l (SL.v 2) (SA.i (SI.c (Int.ofNat 0)) SA.nil))],
      eqs :=
        [Eqn.T (SB.lt (SI.len (SL.app 2 (SA.l (SL.v 2) (SA.i (SI.c (Int.ofNat 1)) SA.nil)))) (SI.len (SL.v 2))),
          Eqn.T
            (SB.lt
              (SI.add (SI.add (SI.len (SL.v 5)) (SI.c (Int.ofNat 1)))
                (SI.len (SL.app 2 (SA.l (SL.v 2) (SA.i (SI.c (Int.ofNat 1)) SA.nil)))))
              (SI.c (Int.ofNat 80000))),
          Eqn.T
            (SB.lt
              (SI.add (SI.add (SI.len (SL.v 4)) (SI.c (Int.ofNat 1)))
                (SI.len (SL.app 2 (SA.l (SL.v 2) (SA.i (SI.c (Int.ofNat 1)) SA.nil)))))
              (SI.c (Int.ofNat 80000))),
          Eqn.T (SB.lt (SI.add (SI.len (SL.v 5)) (SI.c (Int.ofNat 1))) (SI.c (Int.ofNat 80000))),
          Eqn.T (SB.lt (SI.add (SI.len (SL.v 4)) (SI.c (Int.ofNat 1))) (SI.c (Int.ofNat 80000))),
          Eqn.T
            (SB.app 152
              (SA.l (SL.app 2 (SA.l (SL.v 2) (SA.i (SI.c (Int.ofNat 1)) SA.nil)))
                (SA.i (SI.c (Int.ofNat 0)) SA.nil)))] },
    {
      pc :=
        [SB.lt
            (SI.len
              (SL.app 156 (SA.l (SL.app 2 (SA.l (SL.v 2) (SA.i (SI.c (Int.ofNat 1)) SA.nil))) (SA.i (SI.v 0) SA.nil))))
            (SI.c (Int.ofNat 80000)),
          SB.lt
            (SI.add
              (SI.len
                (SL.app 156
                  (SA.l (SL.app 2 (SA.l (SL.v 2) (SA.i (SI.c (Int.ofNat 1)) SA.nil))) (SA.i (SI.v 0) SA.nil))))
              (SI.add (SI.add (SI.len (SL.v 4)) (SI.c (Int.ofNat 1)))
                (SI.len
                  (SL.app 155
                    (SA.l (SL.app 2 (SA.l (SL.v 2) (SA.i (SI.c (Int.ofNat 1)) SA.nil))) (SA.i (SI.v 0) SA.nil))))))
            (SI.c (Int.ofNat 80000)),
          SB.lt
            (SI.add (SI.add (SI.len (SL.v 4)) (SI.c (Int.ofNat 1)))
              (SI.len
                (SL.app 155
                  (SA.l (SL.app 2 (SA.l (SL.v 2) (SA.i (SI.c (Int.ofNat 1)) SA.nil))) (SA.i (SI.v 0) SA.nil)))))
            (SI.c (Int.ofNat 80000)),
          SB.lt
            (SI.add (SI.add (SI.len (SL.v 5)) (SI.c (Int.ofNat 1)))
              (SI.len
                (SL.app 154
                  (SA.l (SL.app 2 (SA.l (SL.v 2) (SA.i (SI.c (Int.ofNat 1)) SA.nil))) (SA.i (SI.v 0) SA.nil)))))
            (SI.c (Int.ofNat 80000)),
          SB.lt (SI.c (Int.ofNat 0)) (SI.sel (SL.v 2) (SI.c (Int.ofNat 0)) 2),
          SB.le (SI.sel (SL.v 2) (SI.c (Int.ofNat 0)) 1) (SI.v 0), SB.lt (SI.c (Int.ofNat 0)) (SI.len (SL.v 2)),
          SB.le (SI.c (Int.ofNat 0)) (SI.v 0), SB.le (SI.v 0) (SI.c (Int.ofNat 549755813888)),
          SB.lt (SI.add (SI.len (SL.v 5)) (SI.len (SL.v 2))) (SI.c (Int.ofNat 80000)),
          SB.lt (SI.add (SI.len (SL.v 4)) (SI.len (SL.v 2))) (SI.c (Int.ofNat 80000)),
          SB.lt (SI.len (SL.v 5)) (SI.c (Int.ofNat 80000)), SB.lt (SI.len (SL.v 4)) (SI.c (Int.ofNat 80000)),
          SB.lt (SI.len (SL.v 2)) (SI.c (Int.ofNat 80000)), SB.c true,
          SB.app 152 (SA.l (SL.v 2) (SA.i (SI.c (Int.ofNat 0)) SA.nil))],
      eqs :=
        [Eqn.T
            (SB.lt (SI.len (SL.app 0 (SA.l (SL.v 5) (SA.l (SL.app 154 (SA.l (SL.v 2) (SA.i (SI.v 0) SA.nil))) SA.nil))))
              (SI.c (Int.ofNat 80000))),
          Eqn.T
            (SB.lt (SI.len (SL.app 0 (SA.l (SL.v 4) (SA.l (SL.app 155 (SA.l (SL.v 2) (SA.i (SI.v 0) SA.nil))) SA.nil))))
              (SI.c (Int.ofNat 80000))),
          Eqn.T
            (SB.lt
              (SI.add (SI.len (SL.app 156 (SA.l (SL.v 2) (SA.i (SI.v 0) SA.nil))))
                (SI.len (SL.app 0 (SA.l (SL.v 4) (SA.l (SL.app 155 (SA.l (SL.v 2) (SA.i (SI.v 0) SA.nil))) SA.nil)))))
              (SI.c (Int.ofNat 80000))),
          Eqn.T (SB.lt (SI.len (SL.app 156 (SA.l (SL.v 2) (SA.i (SI.v 0) SA.nil)))) (SI.c (Int.ofNat 80000))),
          Eqn.I (SI.len (SL.app 0 (SA.l (SL.v 5) (SA.l (SL.app 154 (SA.l (SL.v 2) (SA.i (SI.v 0) SA.nil))) SA.nil))))
            (SI.add (SI.add (SI.len (SL.v 5)) (SI.c (Int.ofNat 1)))
              (SI.len
                (SL.app 154
                  (SA.l (SL.app 2 (SA.l (SL.v 2) (SA.i (SI.c (Int.ofNat 1)) SA.nil))) (SA.i (SI.v 0) SA.nil))))),
          Eqn.I (SI.len (SL.app 0 (SA.l (SL.v 4) (SA.l (SL.app 155 (SA.l (SL.v 2) (SA.i (SI.v 0) SA.nil))) SA.nil))))
            (SI.add (SI.add (SI.len (SL.v 4)) (SI.c (Int.ofNat 1)))
              (SI.len
                (SL.app 155
                  (SA.l (SL.app 2 (SA.l (SL.v 2) (SA.i (SI.c (Int.ofNat 1)) SA.nil))) (SA.i (SI.v 0) SA.nil))))),
          Eqn.I (SI.len (SL.app 156 (SA.l (SL.v 2) (SA.i (SI.v 0) SA.nil))))
            (SI.len
              (SL.app 156 (SA.l (SL.app 2 (SA.l (SL.v 2) (SA.i (SI.c (Int.ofNat 1)) SA.nil))) (SA.i (SI.v 0) SA.nil)))),
          Eqn.L (SL.app 0 (SA.l (SL.v 5) (SA.l (SL.app 154 (SA.l (SL.v 2) (SA.i (SI.v 0) SA.nil))) SA.nil)))
            (SL.app 0
              (SA.l
                (SL.app 0
                  (SA.l (SL.v 5)
                    (SA.l
                      (SL.app 3
                        (SA.i (SI.sel (SL.v 2) (SI.c (Int.ofNat 0)) 0)
                          (SA.i (SI.sel (SL.v 2) (SI.c (Int.ofNat 0)) 1)
                            (SA.i
                              (SI.wrap IntKind.i64
                                (SI.add
                                  (SI.wrap IntKind.i64
                                    (SI.quo
                                      (SI.wrap IntKind.i64 (SI.sub (SI.v 0) (SI.sel (SL.v 2) (SI.c (Int.ofNat 0)) 1)))
                                      (SI.sel (SL.v 2) (SI.c (Int.ofNat 0)) 2)))
                                  (SI.c (Int.ofNat 1))))
                              SA.nil))))
                      SA.nil)))
                (SA.l
                  (SL.app 154
                    (SA.l (SL.app 2 (SA.l (SL.v 2) (SA.i (SI.c (Int.ofNat 1)) SA.nil))) (SA.i (SI.v 0) SA.nil)))
                  SA.nil))),
          Eqn.L (SL.app 0 (SA.l (SL.v 4) (SA.l (SL.app 155 (SA.l (SL.v 2) (SA.i (SI.v 0) SA.nil))) SA.nil)))
            (SL.app 0
              (SA.l
                (SL.app 0
                  (SA.l (SL.v 4)
                    (SA.l
                      (SL.app 3
                        (SA.i (SI.sel (SL.v 2) (SI.c (Int.ofNat 0)) 0)
                          (SA.i
                            (SI.wrap IntKind.i64
                              (SI.add (SI.sel (SL.v 2) (SI.c (Int.ofNat 0)) 1)
                                (SI.wrap IntKind.i64
                                  (SI.mul
                                    (SI.wrap IntKind.i64
                                      (SI.add
                                        (SI.wrap IntKind.i64
                                          (SI.quo
                                            (SI.wrap IntKind.i64
                                              (SI.sub (SI.v 0) (SI.sel (SL.v 2) (SI.c (Int.ofNat 0)) 1)))
                                            (SI.sel (SL.v 2) (SI.c (Int.ofNat 0)) 2)))
                                        (SI.c (Int.ofNat 1))))
                                    (SI.sel (SL.v 2) (SI.c (Int.ofNat 0)) 2)))))
                            (SA.i (SI.sel (SL.v 2) (SI.c (Int.ofNat 0)) 2) SA.nil))))
                      SA.nil)))
                (SA.l
                  (SL.app 155
                    (SA.l (SL.app 2 (SA.l (SL.v 2) (SA.i (SI.c (Int.ofNat 1)) SA.nil))) (SA.i (SI.v 0) SA.nil)))
                  SA.nil))),
          Eqn.L (SL.app 156 (SA.l (SL.v 2) (SA.i (SI.v 0) SA.nil)))
            (SL.app 156 (SA.l (SL.app 2 (SA.l (SL.v 2) (SA.i (SI.c (Int.ofNat 1)) SA.nil))) (SA.i (SI.v 0) SA.nil)))] },
    {
      pc :=
        [SB.not (SB.lt (SI.c (Int.ofNat 0)) (SI.sel (SL.v 2) (SI.c (Int.ofNat 0)) 2)),
          SB.le (SI.sel (SL.v 2) (SI.c (Int.ofNat 0)) 1) (SI.v 0), SB.lt (SI.c (Int.ofNat 0)) (SI.len (SL.v 2)),
          SB.le (SI.c (Int.ofNat 0)) (SI.v 0), SB.le (SI.v 0) (SI.c (Int.ofNat 549755813888)),
          SB.lt (SI.add (SI.len (SL.v 5)) (SI.len (SL.v 2))) (SI.c (Int.ofNat 80000)),
          SB.lt (SI.add (SI.len (SL.v 4)) (SI.len (SL.v 2))) (SI.c (Int.ofNat 80000)),
          SB.lt (SI.len (SL.v 5)) (SI.c (Int.ofNat 80000)), SB.lt (SI.len (SL.v 4)) (SI.c (Int.ofNat 80000)),
          SB.lt (SI.len (SL.v 2)) (SI.c (Int.ofNat 80000)), SB.c true,
          SB.app 152 (SA.l (SL.v 2) (SA.i (SI.c (Int.ofNat 0)) SA.nil))],
      eqs :=
        [Eqn.T (SB.lt (SI.len (SL.app 2 (SA.l (SL.v 2) (SA.i (SI.c (Int.ofNat 1)) SA.nil)))) (SI.len (SL.v 2))),
          Eqn.T
            (SB.lt
              (SI.add (SI.add (SI.len (SL.v 5)) (SI.c (Int.ofNat 1)))
                (SI.len (SL.app 2 (SA.l (SL.v 2) (SA.i (SI.c (Int.ofNat 1)) SA.nil)))))
              (SI.c (Int.ofNat 80000))),
          Eqn.T
            (SB.lt (SI.add (SI.len (SL.v 4)) (SI.len (SL.app 2 (SA.l (SL.v 2) (SA.i (SI.c (Int.ofNat 1)) SA.nil)))))
              (SI.c (Int.ofNat 80000))),
          Eqn.T (SB.lt (SI.add (SI.len (SL.v 5)) (SI.c (Int.ofNat 1))) (SI.c (Int.ofNat 80000))),
          Eqn.T
            (SB.app 152
              (SA.l (SL.app 2 (SA.l (SL.v 2) (SA.i (SI.c (Int.ofNat 1)) SA.nil)))
                (SA.i (SI.c (Int.ofNat 0)) SA.nil)))] },
    {
      pc :=
        [SB.lt
            (SI.len
              (SL.app 156 (SA.l (SL.app 2 (SA.l (SL.v 2) (SA.i (SI.c (Int.ofNat 1)) SA.nil))) (SA.i (SI.v 0) SA.nil))))
            (SI.c (Int.ofNat 80000)),
          SB.lt
            (SI.add
              (SI.len
                (SL.app 156
                  (SA.l (SL.app 2 (SA.l (SL.v 2) (SA.i (SI.c (Int.ofNat 1)) SA.nil))) (SA.i (SI.v 0) SA.nil))))
              (SI.add (SI.len (SL.v 4))
                (SI.len
                  (SL.app 155
                    (SA.l (SL.app 2 (SA.l (SL.v 2) (SA.i (SI.c (Int.ofNat 1)) SA.nil))) (SA.i (SI.v 0) SA.nil))))))
            (SI.c (Int.ofNat 80000)),
          SB.lt
            (SI.add (SI.len (SL.v 4))
              (SI.len
                (SL.app 155
                  (SA.l (SL.app 2 (SA.l (SL.v 2) (SA.i (SI.c (Int.ofNat 1)) SA.nil))) (SA.i (SI.v 0) SA.nil)))))
            (SI.c (Int.ofNat 80000)),
          SB.lt
            (SI.add (SI.add (SI.len (SL.v 5)) (SI.c (Int.ofNat 1)))
              (SI.len
                (SL.app 154
                  (SA.l (SL.app 2 (SA.l (SL.v 2) (SA.i (SI.c (Int.ofNat 1)) SA.nil))) (SA.i (SI.v 0) SA.nil)))))
            (SI.c (Int.ofNat 80000)),
          SB.not (SB.lt (SI.c (Int.ofNat 0)) (SI.sel (SL.v 2) (SI.c (Int.ofNat 0)) 2)),
          SB.le (SI.sel (SL.v 2) (SI.c (Int.ofNat 0)) 1) (SI.v 0), SB.lt (SI.c (Int.ofNat 0)) (SI.len (SL.v 2)),
          SB.le (SI.c (Int.ofNat 0)) (SI.v 0), SB.le (SI.v 0) (SI.c (Int.ofNat 549755813888)),
          SB.lt (SI.add (SI.len (SL.v 5)) (SI.len (SL.v 2))) (SI.c (Int.ofNat 80000)),
          SB.lt (SI.add (SI.len (SL.v 4)) (SI.len (SL.v 2))) (SI.c (Int.ofNat 80000)),
          SB.lt (SI.len (SL.v 5)) (SI.c (Int.ofNat 80000)), SB.lt (SI.len (SL.v 4)) (SI.c (Int.ofNat 80000)),
          SB.lt (SI.len (SL.v 2)) (SI.c (Int.ofNat 80000)), SB.c true,
          SB.app 152 (SA.l (SL.v 2) (SA.i (SI.c (Int.ofNat 0)) SA.nil))],
      eqs :=
        [Eqn.T
            (SB.lt (SI.len (SL.app 0 (SA.l (SL.v 5) (SA.l (SL.app 154 (SA.l (SL.v 2) (SA.i (SI.v 0) SA.nil))) SA.nil))))
              (SI.c (Int.ofNat 80000))),
          Eqn.T
            (SB.lt (SI.len (SL.app 0 (SA.l (SL.v 4) (SA.l (SL.app 155 (SA.l (SL.v 2) (SA.i (SI.v 0) SA.nil))) SA.nil))))
              (SI.c (Int.ofNat 80000))),
          Eqn.T
            (SB.lt
              (SI.add (SI.len (SL.app 156 (SA.l (SL.v 2) (SA.i (SI.v 0) SA.nil))))
                (SI.len (SL.app 0 (SA.l (SL.v 4) (SA.l (SL.app 155 (SA.l (SL.v 2) (SA.i (SI.v 0) SA.nil))) SA.nil)))))
              (SI.c (Int.ofNat 80000))),
          Eqn.T (SB.lt (SI.len (SL.app 156 (SA.l (SL.v 2) (SA.i (SI.v 0) SA.nil)))) (SI.c (Int.ofNat 80000))),
          Eqn.I (SI.len (SL.app 0 (SA.l (SL.v 5) (SA.l (SL.app 154 (SA.l (SL.v 2) (SA.i (SI.v 0) SA.nil))) SA.nil))))
            (SI.add (SI.add (SI.len (SL.v 5)) (SI.c (Int.ofNat 1)))
              (SI.len
                (SL.app 154
                  (SA.l (SL.app 2 (SA.l (SL.v 2) (SA.i (SI.c (Int.ofNat 1)) SA.nil))) (SA.i (SI.v 0) SA.nil))))),
          Eqn.I (SI.len (SL.app 0 (SA.l (SL.v 4) (SA.l (SL.app 155 (SA.l (SL.v 2) (SA.i (SI.v 0) SA.nil))) SA.nil))))
            (SI.add (SI.len (SL.v 4))
              (SI.len
                (SL.app 155
                  (SA.l (SL.app 2 (SA.l (SL.v 2) (SA.i (SI.c (Int.ofNat 1)) SA.nil))) (SA.i (SI.v 0) SA.nil))))),
          Eqn.I (SI.len (SL.app 156 (SA.l (SL.v 2) (SA.i (SI.v 0) SA.nil))))
            (SI.len
              (SL.app 156 (SA.l (SL.app 2 (SA.l (SL.v 2) (SA.i (SI.c (Int.ofNat 1)) SA.nil))) (SA.i (SI.v 0) SA.nil)))),
          Eqn.L (SL.app 0 (SA.l (SL.v 5) (SA.l (SL.app 154 (SA.l (SL.v 2) (SA.i (SI.v 0) SA.nil))) SA.nil)))
            (SL.app 0
              (SA.l
                (SL.app 0
                  (SA.l (SL.v 5)
                    (SA.l
                      (SL.app 3
                        (SA.i (SI.sel (SL.v 2) (SI.c (Int.ofNat 0)) 0)
                          (SA.i (SI.sel (SL.v 2) (SI.c (Int.ofNat 0)) 1) (SA.i (SI.c (Int.ofNat 1)) SA.nil))))
                      SA.nil)))
                (SA.l
                  (SL.app 154
                    (SA.l (SL.app 2 (SA.l (SL.v 2) (SA.i (SI.c (Int.ofNat 1)) SA.nil))) (SA.i (SI.v 0) SA.nil)))
                  SA.nil))),
          Eqn.L (SL.app 0 (SA.l (SL.v 4) (SA.l (SL.app 155 (SA.l (SL.v 2) (SA.i (SI.v 0) SA.nil))) SA.nil)))
            (SL.app 0
              (SA.l (SL.v 4)
                (SA.l
                  (SL.app 155
                    (SA.l (SL.app 2 (SA.l (SL.v 2) (SA.i (SI.c (Int.ofNat 1)) SA.nil))) (SA.i (SI.v 0) SA.nil)))
                  SA.nil))),
          Eqn.L (SL.app 156 (SA.l (SL.v 2) (SA.i (SI.v 0) SA.nil)))
            (SL.app 156 (SA.l (SL.app 2 (SA.l (SL.v 2) (SA.i (SI.c (Int.ofNat 1)) SA.nil))) (SA.i (SI.v 0) SA.nil)))] },
    {
      pc :=
        [SB.not (SB.le (SI.sel (SL.v 2) (SI.c (Int.ofNat 0)) 1) (SI.v 0)), SB.lt (SI.c (Int.ofNat 0)) (SI.len (SL.v 2)),
          SB.le (SI.c (Int.ofNat 0)) (SI.v 0), SB.le (SI.v 0) (SI.c (Int.ofNat 549755813888)),
          SB.lt (SI.add (SI.len (SL.v 5)) (SI.len (SL.v 2))) (SI.c (Int.ofNat 80000)),
          SB.lt (SI.add (SI.len (SL.v 4)) (SI.len (SL.v 2))) (SI.c (Int.ofNat 80000)),
          SB.lt (SI.len (SL.v 5)) (SI.c (Int.ofNat 80000)), SB.lt (SI.len (SL.v 4)) (SI.c (Int.ofNat 80000)),
          SB.lt (SI.len (SL.v 2)) (SI.c (Int.ofNat 80000)), SB.c true,
          SB.app 152 (SA.l (SL.v 2) (SA.i (SI.c (Int.ofNat 0)) SA.nil))],
      eqs :=
        [Eqn.T
            (SB.lt (SI.len (SL.app 0 (SA.l (SL.v 5) (SA.l (SL.app 154 (SA.l (SL.v 2) (SA.i (SI.v 0) SA.nil))) SA.nil))))
              (SI.c (Int.ofNat 80000))),
          Eqn.T
            (SB.lt (SI.len (SL.app 0 (SA.l (SL.v 4) (SA.l (SL.app 155 (SA.l (SL.v 2) (SA.i (SI.v 0) SA.nil))) SA.nil))))
              (SI.c (Int.ofNat 80000))),
          Eqn.T
            (SB.lt
              (SI.add (SI.len (SL.app 156 (SA.l (SL.v 2) (SA.i (SI.v 0) SA.nil))))
                (SI.len (SL.app 0 (SA.l (SL.v 4) (SA.l (SL.app 155 (SA.l (SL.v 2) (SA.i (SI.v 0) SA.nil))) SA.nil)))))
              (SI.c (Int.ofNat 80000))),
          Eqn.T (SB.lt (SI.len (SL.app 156 (SA.l (SL.v 2) (SA.i (SI.v 0) SA.nil)))) (SI.c (Int.ofNat 80000))),
          Eqn.I (SI.len (SL.app 0 (SA.l (SL.v 5) (SA.l (SL.app 154 (SA.l (SL.v 2) (SA.i (SI.v 0) SA.nil))) SA.nil))))
            (SI.len (SL.v 5)),
          Eqn.I (SI.len (SL.app 0 (SA.l (SL.v 4) (SA.l (SL.app 155 (SA.l (SL.v 2) (SA.i (SI.v 0) SA.nil))) SA.nil))))
            (SI.len (SL.v 4)),
          Eqn.I (SI.len (SL.app 156 (SA.l (SL.v 2) (SA.i (SI.v 0) SA.nil)))) (SI.len (SL.v 2)),
          Eqn.L (SL.app 0 (SA.l (SL.v 5) (SA.l (SL.app 154 (SA.l (SL.v 2) (SA.i (SI.v 0) SA.nil))) SA.nil))) (SL.v 5),
          Eqn.L (SL.app 0 (SA.l (SL.v 4) (SA.l (SL.app 155 (SA.l (SL.v 2) (SA.i (SI.v 0) SA.nil))) SA.nil))) (SL.v 4),
          Eqn.L (SL.app 156 (SA.l (SL.v 2) (SA.i (SI.v 0) SA.nil))) (SL.v 2)] },
    {
      pc :=
        [SB.not (SB.lt (SI.c (Int.ofNat 0)) (SI.len (SL.v 2))), SB.le (SI.c (Int.ofNat 0)) (SI.v 0),
          SB.le (SI.v 0) (SI.c (Int.ofNat 549755813888)),
          SB.lt (SI.add (SI.len (SL.v 5)) (SI.len (SL.v 2))) (SI.c (Int.ofNat 80000)),
          SB.lt (SI.add (SI.len (SL.v 4)) (SI.len (SL.v 2))) (SI.c (Int.ofNat 80000)),
          SB.lt (SI.len (SL.v 5)) (SI.c (Int.ofNat 80000)), SB.lt (SI.len (SL.v 4)) (SI.c (Int.ofNat 80000)),
          SB.lt (SI.len (SL.v 2)) (SI.c (Int.ofNat 80000)), SB.c true,
          SB.app 152 (SA.l (SL.v 2) (SA.i (SI.c (Int.ofNat 0)) SA.nil))],
      eqs :=
        [Eqn.T
            (SB.lt (SI.len (SL.app 0 (SA.l (SL.v 5) (SA.l (SL.app 154 (SA.l (SL.v 2) (SA.i (SI.v 0) SA.nil))) SA.nil))))
              (SI.c (Int.ofNat 80000))),
          Eqn.T
            (SB.lt (SI.len (SL.app 0 (SA.l (SL.v 4) (SA.l (SL.app 155 (SA.l (SL.v 2) (SA.i (SI.v 0) SA.nil))) SA.nil))))
              (SI.c (Int.ofNat 80000))),
          Eqn.T
            (SB.lt
              (SI.add (SI.len (SL.app 156 (SA.l (SL.v 2) (SA.i (SI.v 0) SA.nil))))
                (SI.len (SL.app 0 (SA.l (SL.v 4) (SA.l (SL.app 155 (SA.l (SL.v 2) (SA.i (SI.v 0) SA.nil))) SA.nil)))))
              (SI.c (Int.ofNat 80000))),
          Eqn.T (SB.lt (SI.len (SL.app 156 (SA.l (SL.v 2) (SA.i (SI.v 0) SA.nil)))) (SI.c (Int.ofNat 80000))),
          Eqn.I (SI.len (SL.app 0 (SA.l (SL.v 5) (SA.l (SL.app 154 (SA.l (SL.v 2) (SA.i (SI.v 0) SA.nil))) SA.nil))))
            (SI.len (SL.v 5)),
          Eqn.I (SI.len (SL.app 0 (SA.l (SL.v 4) (SA.l (SL.app 155 (SA.l (SL.v 2) (SA.i (SI.v 0) SA.nil))) SA.nil))))
            (SI.len (SL.v 4)),
          Eqn.I (SI.len (SL.app 156 (SA.l (SL.v 2) (SA.i (SI.v 0) SA.nil)))) (SI.len (SL.v 2)),
          Eqn.L (SL.app 0 (SA.l (SL.v 5) (SA.l (SL.app 154 (SA.l (SL.v 2) (SA.i (SI.v 0) SA.nil))) SA.nil))) (SL.v 5),
          Eqn.L (SL.app 0 (SA.l (SL.v 4) (SA.l (SL.app 155 (SA.l (SL.v 2) (SA.i (SI.v 0) SA.nil))) SA.nil))) (SL.v 4),
          Eqn.L (SL.app 156 (SA.l (SL.v 2) (SA.i (SI.v 0) SA.nil))) (SL.v 2)] }] := by kernel_rfl
theorem rt0_ok : rt0.ok Φ Try.prog := by
  refine ⟨by kernel_rfl, loop_rule (fun ρ => r3_ok ρ) (loopAt_sub (by kernel_rfl)) rt0_obs ?_⟩
  simp only [and_imp, List.forall_mem_cons, List.not_mem_nil, false_implies, implies_true, and_true, Ob.ok, holds, Eqn.ok, evB_eq, evB_lt, evB_le, evB_not, evB_and, evB_or, evB_eqL, evB_app, evB_v, evB_c, ev_sel, ev_len, ev_v, ev_c, ev_add, ev_sub, ev_mul, ev_quo, ev_rem, ev_bits, ev_wrap, evL_v, evL_lit, evL_app, ev_app, evA_l, evA_i, evA_nil, std_min, std_max, std_cat, std_take, std_drop, std_row, std_set, std_rep, std_find, std_put, std_del, std_flag, std_unflag, std_clr, std_left, std_copy, ints_cons, ints_nil, ofNat_lit, negSucc_lit, decide_eq_true_eq, Bool.and_eq_true, Bool.or_eq_true, Bool.not_eq_true', Bool.and_eq_false_iff, Bool.or_eq_false_iff, decide_eq_false_iff_not, aI110, aI111, aI112, aI113, aI114, aI115, aI120, aI121, aI122, aL110, aL116, aL120, aL122, aL123, aL124, aL125, aB130, aB132, aB140, aB141, aB142, aL126, aL127, aL128, aB199, aI150, aI151, aI152, aL150, aL151, aL152, aL153, aL154, aL155, aL156, aL157, aL158, aB150, aB151, aB152, aB153]
  repeat' apply And.intro
  all_goals intro ρ hR
  all_goals intros
  all_goals first
    | (have ht := tim_drop (L := ρ.l 2) (n := 0) (by with_reducible assumption)
       have ld := List.length_drop (i := (1 : Int).toNat) (l := ρ.l 2)
       rw [show (1 : Int).toNat = 1 from rfl] at *
       refine ⟨by omega, ?_⟩
       repeat' apply And.intro
       all_goals first | omega | exact ht)
    | (have hd := due_cons (L := ρ.l 2) (now := ρ.i 0) (by omega) (by omega)
       have l1 := due_len (ρ.l 2) (ρ.i 0)
       have l2 := due_len ((ρ.l 2).drop (1 : Int).toNat) (ρ.i 0)
       have l3 := out_len (ρ.i 0) (dueL (ρ.l 2) (ρ.i 0))
       have l4 := aga_len (ρ.i 0) (dueL (ρ.l 2) (ρ.i 0))
       have l5 := out_len (ρ.i 0) (dueL ((ρ.l 2).drop (1 : Int).toNat) (ρ.i 0))
       have l6 := aga_len (ρ.i 0) (dueL ((ρ.l 2).drop (1 : Int).toNat) (ρ.i 0))
       have hz : ¬ ((ρ.l 2).getD (0 : Int).toNat []).getD 2 0 = 0 := by omega
       rw [hd.1, hd.2, out_cons, aga_cons _ _ hz, if_neg hz]
       rw [hd.1] at l1 l3 l4
       rw [hd.2] at l1
       simp only [List.length_append, List.length_cons] at *
       repeat' apply And.intro
       all_goals first | exact True.intro | omega | rfl | (simp [timesI]; done) | (simp [nextI, timesI]; done))
    | (have hd := due_cons (L := ρ.l 2) (now := ρ.i 0) (by omega) (by omega)
       have l1 := due_len (ρ.l 2) (ρ.i 0)
       have l2 := due_len ((ρ.l 2).drop (1 : Int).toNat) (ρ.i 0)
       have l3 := out_len (ρ.i 0) (dueL (ρ.l 2) (ρ.i 0))
       have l4 := aga_len (ρ.i 0) (dueL (ρ.l 2) (ρ.i 0))
       have l5 := out_len (ρ.i 0) (dueL ((ρ.l 2).drop (1 : Int).toNat) (ρ.i 0))
       have l6 := aga_len (ρ.i 0) (dueL ((ρ.l 2).drop (1 : Int).toNat) (ρ.i 0))
       have hz : ((ρ.l 2).getD (0 : Int).toNat []).getD 2 0 = 0 := by have := tim_head (L := ρ.l 2) (n := 0) (by with_reducible assumption) (by omega); omega
       rw [hd.1, hd.2, out_cons, aga_skip _ _ hz, if_pos hz]
       rw [hd.1] at l1 l3 l4
       rw [hd.2] at l1
       simp only [List.length_append, List.length_cons] at *
       repeat' apply And.intro
       all_goals first | exact True.intro | omega | rfl | (simp [timesI]; done) | (simp [nextI, timesI]; done))
    | (have hd := due_none (L := ρ.l 2) (now := ρ.i 0) (by omega)
       rw [hd.1, hd.2]
       simp only [outL, agaL, List.map_nil, List.filterMap_nil, List.append_nil]
       repeat' apply And.intro
       all_goals first | exact True.intro | omega | rfl | (simp [timesI]; done) | (simp [nextI, timesI]; done))
set_option maxRecDepth 100000 in
theorem rt1_obs : loopObs Φ Try.prog r3 1000 rt1.f (loopAt Try.prog rt1.f rt1.id) rt1.n rt1.T i9 rt1.outs = some
  [{
      pc :=
        [SB.le
            (SI.len
              (SL.app 151
                (SA.l (SL.v 2)
                  (SA.i (SI.sel (SL.v 4) (SI.v 1) 0)
                    (SA.i (SI.sel (SL.v 4) (SI.v 1) 1) (SA.i (SI.sel (SL.v 4) (SI.v 1) 2) SA.nil))))))
            (SI.add (SI.len (SL.v 2)) (SI.c (Int.ofNat 1))),
          SB.lt (SI.v 1) (SI.len (SL.v 4)), SB.le (SI.c (Int.ofNat 0)) (SI.v 1), SB.le (SI.v 1) (SI.len (SL.v 4)),
          SB.lt (SI.len (SL.v 4)) (SI.c (Int.ofNat 80000)), SB.c true,
          SB.lt (SI.sub (SI.add (SI.len (SL.v 2)) (SI.len (SL.v 4))) (SI.v 1)) (SI.c (Int.ofNat 80000)),
          SB.lt (SI.len (SL.v 2)) (SI.c (Int.ofNat 80000))],
      eqs :=
        [Eqn.T
            (SB.lt (SI.sub (SI.len (SL.v 4)) (SI.add (SI.v 1) (SI.c (Int.ofNat 1))))
              (SI.sub (SI.len (SL.v 4)) (SI.v 1))),
          Eqn.T (SB.lt (SI.c (Int.ofNat 0)) (SI.sub (SI.len (SL.v 4)) (SI.v 1))),
          Eqn.T
            (SB.lt
              (SI.sub
                (SI.add
                  (SI.len
                    (SL.app 151
                      (SA.l (SL.v 2)
                        (SA.i (SI.sel (SL.v 4) (SI.v 1) 0)
                          (SA.i (SI.sel (SL.v 4) (SI.v 1) 1) (SA.i (SI.sel (SL.v 4) (SI.v 1) 2) SA.nil))))))
                  (SI.len (SL.v 4)))
                (SI.add (SI.v 1) (SI.c (Int.ofNat 1))))
              (SI.c (Int.ofNat 80000))),
          Eqn.T
            (SB.lt
              (SI.len
                (SL.app 151
                  (SA.l (SL.v 2)
                    (SA.i (SI.sel (SL.v 4) (SI.v 1) 0)
                      (SA.i (SI.sel (SL.v 4) (SI.v 1) 1) (SA.i (SI.sel (SL.v 4) (SI.v 1) 2) SA.nil))))))
              (SI.c (Int.ofNat 80000)))] },
    {
      pc :=
        [SB.lt
            (SI.len
              (SL.app 157
                (SA.l
                  (SL.app 151
                    (SA.l (SL.v 2)
                      (SA.i (SI.sel (SL.v 4) (SI.v 1) 0)
                        (SA.i (SI.sel (SL.v 4) (SI.v 1) 1) (SA.i (SI.sel (SL.v 4) (SI.v 1) 2) SA.nil)))))
                  (SA.l (SL.v 4) (SA.i (SI.add (SI.v 1) (SI.c (Int.ofNat 1))) SA.nil)))))
            (SI.c (Int.ofNat 80000)),
          SB.le
            (SI.len
              (SL.app 151
                (SA.l (SL.v 2)
                  (SA.i (SI.sel (SL.v 4) (SI.v 1) 0)
                    (SA.i (SI.sel (SL.v 4) (SI.v 1) 1) (SA.i (SI.sel (SL.v 4) (SI.v 1) 2) SA.nil))))))
            (SI.add (SI.len (SL.v 2)) (SI.c (Int.ofNat 1))),
          SB.lt (SI.v 1) (SI.len (SL.v 4)), SB.le (SI.c (Int.ofNat 0)) (SI.v 1), SB.le (SI.v 1) (SI.len (SL.v 4)),
          SB.lt (SI.len (SL.v 4)) (SI.c (Int.ofNat 80000)), SB.c true,
          SB.lt (SI.sub (SI.add (SI.len (SL.v 2)) (SI.len (SL.v 4))) (SI.v 1)) (SI.c (Int.ofNat 80000)),
          SB.lt (SI.len (SL.v 2)) (SI.c (Int.ofNat 80000))],
      eqs :=
        [Eqn.T
            (SB.lt (SI.len (SL.app 157 (SA.l (SL.v 2) (SA.l (SL.v 4) (SA.i (SI.v 1) SA.nil)))))
              (SI.c (Int.ofNat 80000))),
          Eqn.I (SI.len (SL.app 157 (SA.l (SL.v 2) (SA.l (SL.v 4) (SA.i (SI.v 1) SA.nil)))))
            (SI.len
              (SL.app 157
                (SA.l
                  (SL.app 151
                    (SA.l (SL.v 2)
                      (SA.i (SI.sel (SL.v 4) (SI.v 1) 0)
                        (SA.i (SI.sel (SL.v 4) (SI.v 1) 1) (SA.i (SI.sel (SL.v 4) (SI.v 1) 2) SA.nil)))))
                  (SA.l (SL.v 4) (SA.i (SI.add (SI.v 1) (SI.c (Int.ofNat 1))) SA.nil))))),
          Eqn.L (SL.app 157 (SA.l (SL.v 2) (SA.l (SL.v 4) (SA.i (SI.v 1) SA.nil))))
            (SL.app 157
              (SA.l
                (SL.app 151
                  (SA.l (SL.v 2)
                    (SA.i (SI.sel (SL.v 4) (SI.v 1) 0)
                      (SA.i (SI.sel (SL.v 4) (SI.v 1) 1) (SA.i (SI.sel (SL.v 4) (SI.v 1) 2) SA.nil)))))
                (SA.l (SL.v 4) (SA.i (SI.add (SI.v 1) (SI.c (Int.ofNat 1))) SA.nil))))] },
    {
      pc :=
        [SB.not (SB.lt (SI.v 1) (SI.len (SL.v 4))), SB.le (SI.c (Int.ofNat 0)) (SI.v 1),
          SB.le (SI.v 1) (SI.len (SL.v 4)), SB.lt (SI.len (SL.v 4)) (SI.c (Int.ofNat 80000)), SB.c true,
          SB.lt (SI.sub (SI.add (SI.len (SL.v 2)) (SI.len (SL.v 4))) (SI.v 1)) (SI.c (Int.ofNat 80000)),
          SB.lt (SI.len (SL.v 2)) (SI.c (Int.ofNat 80000))],
      eqs :=
        [Eqn.T
            (SB.lt (SI.len (SL.app 157 (SA.l (SL.v 2) (SA.l (SL.v 4) (SA.i (SI.v 1) SA.nil)))))
              (SI.c (Int.ofNat 80000))),
          Eqn.I (SI.len (SL.app 157 (SA.l (SL.v 2) (SA.l (SL.v 4) (SA.i (SI.v 1) SA.nil))))) (SI.len (SL.v 2)),
          Eqn.L (SL.app 157 (SA.l (SL.v 2) (SA.l (SL.v 4) (SA.i (SI.v 1) SA.nil)))) (SL.v 2)] }] := by kernel_rfl
theorem rt1_ok : rt1.ok Φ Try.prog := by
  refine ⟨by kernel_rfl, loop_rule (fun ρ => r3_ok ρ) (loopAt_sub (by kernel_rfl)) rt1_obs ?_⟩
  simp only [and_imp, List.forall_mem_cons, List.not_mem_nil, false_implies, implies_true, and_true, Ob.ok, holds, Eqn.ok, evB_eq, evB_lt, evB_le, evB_not, evB_and, evB_or, evB_eqL, evB_app, evB_v, evB_c, ev_sel, ev_len, ev_v, ev_c, ev_add, ev_sub, ev_mul, ev_quo, ev_rem, ev_bits, ev_wrap, evL_v, evL_lit, evL_app, ev_app, evA_l, evA_i, evA_nil, std_min, std_max, std_cat, std_take, std_drop, std_row, std_set, std_rep, std_find, std_put, std_del, std_flag, std_unflag, std_clr, std_left, std_copy, ints_cons, ints_nil, ofNat_lit, negSucc_lit, decide_eq_true_eq, Bool.and_eq_true, Bool.or_eq_true, Bool.not_eq_true', Bool.and_eq_false_iff, Bool.or_eq_false_iff, decide_eq_false_iff_not, aI110, aI111, aI112, aI113, aI114, aI115, aI120, aI121, aI122, aL110, aL116, aL120, aL122, aL123, aL124, aL125, aB130, aB132, aB140, aB141, aB142, aL126, aL127, aL128, aB199, aI150, aI151, aI152, aL150, aL151, aL152, aL153, aL154, aL155, aL156, aL157, aL158, aB150, aB151, aB152, aB153]
  repeat' apply And.intro
  all_goals intro ρ hR
  all_goals intros
  all_goals first
    | (omega)
    | (have e := putAll_step (L := ρ.l 2) (G := ρ.l 4) (i := ρ.i 1) (by omega) (by omega)
       rw [e]
       exact ⟨by with_reducible assumption, rfl, rfl⟩)
    | (have e := putAll_end (L := ρ.l 2) (G := ρ.l 4) (i := ρ.i 1) (by omega)
       rw [e]
       exact ⟨by omega, rfl, rfl⟩)
theorem r4_ok (ρ : Env) : TblOK Φ ρ Try.prog r4 := addLp_ok (addLp_ok (r3_ok ρ) rt0_ok) rt1_ok
set_option maxRecDepth 100000 in
theorem rTick_obs : callObs Φ Try.prog r4 1000 rTick.f rTick.vs rTick.o rTick.pc rTick.outs = some
  [{
      pc :=
        [SB.lt
            (SI.len
              (SL.app 157
                (SA.l (SL.app 156 (SA.l (SL.v 2) (SA.i (SI.v 0) SA.nil)))
                  (SA.l (SL.app 155 (SA.l (SL.v 2) (SA.i (SI.v 0) SA.nil))) (SA.i (SI.c (Int.ofNat 0)) SA.nil)))))
            (SI.c (Int.ofNat 80000)),
          SB.lt (SI.len (SL.app 156 (SA.l (SL.v 2) (SA.i (SI.v 0) SA.nil)))) (SI.c (Int.ofNat 80000)),
          SB.lt
            (SI.add (SI.len (SL.app 156 (SA.l (SL.v 2) (SA.i (SI.v 0) SA.nil))))
              (SI.len (SL.app 155 (SA.l (SL.v 2) (SA.i (SI.v 0) SA.nil)))))
            (SI.c (Int.ofNat 80000)),
          SB.lt (SI.len (SL.app 155 (SA.l (SL.v 2) (SA.i (SI.v 0) SA.nil)))) (SI.c (Int.ofNat 80000)),
          SB.lt (SI.len (SL.app 154 (SA.l (SL.v 2) (SA.i (SI.v 0) SA.nil)))) (SI.c (Int.ofNat 80000)),
          SB.not (SB.lt (SI.c (Int.ofNat 549755813888)) (SI.v 0)), SB.not (SB.lt (SI.v 0) (SI.v 9)),
          SB.le (SI.c (Int.ofNat 0)) (SI.v 9), SB.lt (SI.len (SL.v 2)) (SI.c (Int.ofNat 70000)), SB.c true,
          SB.app 152 (SA.l (SL.v 2) (SA.i (SI.c (Int.ofNat 0)) SA.nil))],
      eqs :=
        [Eqn.T (SB.lt (SI.len (SL.app 153 (SA.l (SL.v 2) (SA.i (SI.v 0) SA.nil)))) (SI.c (Int.ofNat 80000))),
          Eqn.I (SI.len (SL.app 153 (SA.l (SL.v 2) (SA.i (SI.v 0) SA.nil))))
            (SI.len
              (SL.app 157
                (SA.l (SL.app 156 (SA.l (SL.v 2) (SA.i (SI.v 0) SA.nil)))
                  (SA.l (SL.app 155 (SA.l (SL.v 2) (SA.i (SI.v 0) SA.nil))) (SA.i (SI.c (Int.ofNat 0)) SA.nil))))),
          Eqn.L (SL.app 153 (SA.l (SL.v 2) (SA.i (SI.v 0) SA.nil)))
            (SL.app 157
              (SA.l (SL.app 156 (SA.l (SL.v 2) (SA.i (SI.v 0) SA.nil)))
                (SA.l (SL.app 155 (SA.l (SL.v 2) (SA.i (SI.v 0) SA.nil))) (SA.i (SI.c (Int.ofNat 0)) SA.nil))))] }] := by kernel_rfl
theorem rTick_ok : rTick.ok Φ Try.prog := by
  refine call_rule (fun ρ => r4_ok ρ) rTick_obs ?_
  simp only [and_imp, List.forall_mem_cons, List.not_mem_nil, false_implies, implies_true, and_true, Ob.ok, holds, Eqn.ok, evB_eq, evB_lt, evB_le, evB_not, evB_and, evB_or, evB_eqL, evB_app, evB_v, evB_c, ev_sel, ev_len, ev_v, ev_c, ev_add, ev_sub, ev_mul, ev_quo, ev_rem, ev_bits, ev_wrap, evL_v, evL_lit, evL_app, ev_app, evA_l, evA_i, evA_nil, std_min, std_max, std_cat, std_take, std_drop, std_row, std_set, std_rep, std_find, std_put, std_del, std_flag, std_unflag, std_clr, std_left, std_copy, ints_cons, ints_nil, ofNat_lit, negSucc_lit, decide_eq_true_eq, Bool.and_eq_true, Bool.or_eq_true, Bool.not_eq_true', Bool.and_eq_false_iff, Bool.or_eq_false_iff, decide_eq_false_iff_not, aI110, aI111, aI112, aI113, aI114, aI115, aI120, aI121, aI122, aL110, aL116, aL120, aL122, aL123, aL124, aL125, aB130, aB132, aB140, aB141, aB142, aL126, aL127, aL128, aB199, aI150, aI151, aI152, aL150, aL151, aL152, aL153, aL154, aL155, aL156, aL157, aL158, aB150, aB151, aB152, aB153]
  repeat' apply And.intro
  all_goals intro ρ hR
  all_goals intros
  all_goals first
    | (have h : ((putAll (restL (ρ.l 2) (ρ.i 0)) (List.drop (Int.toNat 0) (agaL (ρ.i 0) (dueL (ρ.l 2) (ρ.i 0))))).length : Int) < 80000 := by with_reducible assumption
       have e : putAll (restL (ρ.l 2) (ρ.i 0)) (List.drop (Int.toNat 0) (agaL (ρ.i 0) (dueL (ρ.l 2) (ρ.i 0)))) = tckL (ρ.l 2) (ρ.i 0) := rfl
       rw [e] at *
       exact ⟨h, rfl, rfl⟩)
set_option maxRecDepth 100000 in
theorem rc0_obs : loopObs Φ Try.prog noTbl 1000 rc0.f (loopAt Try.prog rc0.f rc0.id) rc0.n rc0.T i10 rc0.outs = some
  [{
      pc :=
        [SB.eq (SI.sel (SL.v 3) (SI.v 1) 0) (SI.v 0), SB.lt (SI.v 1) (SI.len (SL.v 3)),
          SB.le (SI.c (Int.ofNat 0)) (SI.v 1), SB.le (SI.v 1) (SI.len (SL.v 3)),
          SB.lt (SI.len (SL.v 3)) (SI.c (Int.ofNat 90000))],
      eqs :=
        [Eqn.T (SB.app 153 (SA.l (SL.v 3) (SA.i (SI.v 0) (SA.i (SI.v 1) SA.nil)))),
          Eqn.I (SI.app 150 (SA.l (SL.v 3) (SA.i (SI.v 0) (SA.i (SI.v 1) SA.nil)))) (SI.sel (SL.v 3) (SI.v 1) 1)] },
    {
      pc :=
        [SB.not (SB.eq (SI.sel (SL.v 3) (SI.v 1) 0) (SI.v 0)), SB.lt (SI.v 1) (SI.len (SL.v 3)),
          SB.le (SI.c (Int.ofNat 0)) (SI.v 1), SB.le (SI.v 1) (SI.len (SL.v 3)),
          SB.lt (SI.len (SL.v 3)) (SI.c (Int.ofNat 90000))],
      eqs :=
        [Eqn.T
            (SB.lt (SI.sub (SI.len (SL.v 3)) (SI.add (SI.v 1) (SI.c (Int.ofNat 1))))
              (SI.sub (SI.len (SL.v 3)) (SI.v 1))),
          Eqn.T (SB.lt (SI.c (Int.ofNat 0)) (SI.sub (SI.len (SL.v 3)) (SI.v 1)))] },
    {
      pc :=
        [SB.app 153 (SA.l (SL.v 3) (SA.i (SI.v 0) (SA.i (SI.add (SI.v 1) (SI.c (Int.ofNat 1))) SA.nil))),
          SB.not (SB.eq (SI.sel (SL.v 3) (SI.v 1) 0) (SI.v 0)), SB.lt (SI.v 1) (SI.len (SL.v 3)),
          SB.le (SI.c (Int.ofNat 0)) (SI.v 1), SB.le (SI.v 1) (SI.len (SL.v 3)),
          SB.lt (SI.len (SL.v 3)) (SI.c (Int.ofNat 90000))],
      eqs :=
        [Eqn.T (SB.app 153 (SA.l (SL.v 3) (SA.i (SI.v 0) (SA.i (SI.v 1) SA.nil)))),
          Eqn.I (SI.app 150 (SA.l (SL.v 3) (SA.i (SI.v 0) (SA.i (SI.v 1) SA.nil))))
            (SI.app 150 (SA.l (SL.v 3) (SA.i (SI.v 0) (SA.i (SI.add (SI.v 1) (SI.c (Int.ofNat 1))) SA.nil))))] },
    {
      pc :=
        [SB.eq (SI.app 150 (SA.l (SL.v 3) (SA.i (SI.v 0) (SA.i (SI.add (SI.v 1) (SI.c (Int.ofNat 1))) SA.nil))))
            (SI.c (Int.ofNat 0)),
          SB.not (SB.app 153 (SA.l (SL.v 3) (SA.i (SI.v 0) (SA.i (SI.add (SI.v 1) (SI.c (Int.ofNat 1))) SA.nil)))),
          SB.not (SB.eq (SI.sel (SL.v 3) (SI.v 1) 0) (SI.v 0)), SB.lt (SI.v 1) (SI.len (SL.v 3)),
          SB.le (SI.c (Int.ofNat 0)) (SI.v 1), SB.le (SI.v 1) (SI.len (SL.v 3)),
          SB.lt (SI.len (SL.v 3)) (SI.c (Int.ofNat 90000))],
      eqs :=
        [Eqn.T (SB.not (SB.app 153 (SA.l (SL.v 3) (SA.i (SI.v 0) (SA.i (SI.v 1) SA.nil))))),
          Eqn.T (SB.eq (SI.app 150 (SA.l (SL.v 3) (SA.i (SI.v 0) (SA.i (SI.v 1) SA.nil)))) (SI.c (Int.ofNat 0)))] },
    {
      pc :=
        [SB.not (SB.lt (SI.v 1) (SI.len (SL.v 3))), SB.le (SI.c (Int.ofNat 0)) (SI.v 1),
          SB.le (SI.v 1) (SI.len (SL.v 3)), SB.lt (SI.len (SL.v 3)) (SI.c (Int.ofNat 90000))],
      eqs :=
        [Eqn.T (SB.not (SB.app 153 (SA.l (SL.v 3) (SA.i (SI.v 0) (SA.i (SI.v 1) SA.nil))))),
          Eqn.T (SB.eq (SI.app 150 (SA.l (SL.v 3) (SA.i (SI.v 0) (SA.i (SI.v 1) SA.nil)))) (SI.c (Int.ofNat 0)))] }] := by kernel_rfl
theorem rc0_ok : rc0.ok Φ Try.prog := by
  refine ⟨by kernel_rfl, loop_rule (fun ρ => noTbl_ok) (loopAt_sub (by kernel_rfl)) rc0_obs ?_⟩
  simp only [and_imp, List.forall_mem_cons, List.not_mem_nil, false_implies, implies_true, and_true, Ob.ok, holds, Eqn.ok, evB_eq, evB_lt, evB_le, evB_not, evB_and, evB_or, evB_eqL, evB_app, evB_v, evB_c, ev_sel, ev_len, ev_v, ev_c, ev_add, ev_sub, ev_mul, ev_quo, ev_rem, ev_bits, ev_wrap, evL_v, evL_lit, evL_app, ev_app, evA_l, evA_i, evA_nil, std_min, std_max, std_cat, std_take, std_drop, std_row, std_set, std_rep, std_find, std_put, std_del, std_flag, std_unflag, std_clr, std_left, std_copy, ints_cons, ints_nil, ofNat_lit, negSucc_lit, decide_eq_true_eq, Bool.and_eq_true, Bool.or_eq_true, Bool.not_eq_true', Bool.and_eq_false_iff, Bool.or_eq_false_iff, decide_eq_false_iff_not, aI110, aI111, aI112, aI113, aI114, aI115, aI120, aI121, aI122, aL110, aL116, aL120, aL122, aL123, aL124, aL125, aB130, aB132, aB140, aB141, aB142, aL126, aL127, aL128, aB199, aI150, aI151, aI152, aL150, aL151, aL152, aL153, aL154, aL155, aL156, aL157, aL158, aB150, aB151, aB152, aB153]
  repeat' apply And.intro
  all_goals intro ρ hR
  all_goals intros
  all_goals first
    | (omega)
    | (exact cr_yes (by omega) (by omega) (by with_reducible assumption))
    | (have hk : ¬ ((ρ.l 3).getD (ρ.i 1).toNat []).getD 0 0 = ρ.i 0 := by with_reducible assumption
       obtain ⟨e1, e2⟩ := cr_no (D := ρ.l 3) (id := ρ.i 0) (i := ρ.i 1) (by omega) (by omega) hk
       rw [e1, e2]
       refine ⟨?_, ?_⟩
       · with_reducible assumption
       · first | omega | rfl)
    | (exact cr_end (by omega))
theorem r5_ok (ρ : Env) : TblOK Φ ρ Try.prog r5 := addLp_ok noTbl_ok rc0_ok
set_option maxRecDepth 100000 in
theorem rs0_obs : loopObs Φ Try.prog noTbl 1000 rs0.f (loopAt Try.prog rs0.f rs0.id) rs0.n rs0.T i10 rs0.outs = some
  [{
      pc :=
        [SB.eq (SI.sel (SL.v 3) (SI.v 1) 0) (SI.v 0), SB.lt (SI.v 1) (SI.len (SL.v 3)),
          SB.le (SI.c (Int.ofNat 0)) (SI.v 1), SB.le (SI.v 1) (SI.len (SL.v 3)),
          SB.lt (SI.len (SL.v 3)) (SI.c (Int.ofNat 90000))],
      eqs :=
        [Eqn.T (SB.app 153 (SA.l (SL.v 3) (SA.i (SI.v 0) (SA.i (SI.v 1) SA.nil)))),
          Eqn.T
            (SB.eq (SI.len (SL.app 158 (SA.l (SL.v 3) (SA.i (SI.v 0) (SA.i (SI.v 2) (SA.i (SI.v 1) SA.nil))))))
              (SI.len (SL.v 3))),
          Eqn.I (SI.len (SL.app 158 (SA.l (SL.v 3) (SA.i (SI.v 0) (SA.i (SI.v 2) (SA.i (SI.v 1) SA.nil))))))
            (SI.len (SL.v 3)),
          Eqn.L (SL.app 158 (SA.l (SL.v 3) (SA.i (SI.v 0) (SA.i (SI.v 2) (SA.i (SI.v 1) SA.nil)))))
            (SL.app 4 (SA.l (SL.v 3) (SA.i (SI.v 1) (SA.i (SI.c (Int.ofNat 1)) (SA.i (SI.v 2) SA.nil)))))] },
    {
      pc :=
        [SB.not (SB.eq (SI.sel (SL.v 3) (SI.v 1) 0) (SI.v 0)), SB.lt (SI.v 1) (SI.len (SL.v 3)),
          SB.le (SI.c (Int.ofNat 0)) (SI.v 1), SB.le (SI.v 1) (SI.len (SL.v 3)),
          SB.lt (SI.len (SL.v 3)) (SI.c (Int.ofNat 90000))],
      eqs :=
        [Eqn.T
            (SB.lt (SI.sub (SI.len (SL.v 3)) (SI.add (SI.v 1) (SI.c (Int.ofNat 1))))
              (SI.sub (SI.len (SL.v 3)) (SI.v 1))),
          Eqn.T (SB.lt (SI.c (Int.ofNat 0)) (SI.sub (SI.len (SL.v 3)) (SI.v 1)))] },
    {
      pc :=
        [SB.eq
            (SI.len
              (SL.app 158
                (SA.l (SL.v 3) (SA.i (SI.v 0) (SA.i (SI.v 2) (SA.i (SI.add (SI.v 1) (SI.c (Int.ofNat 1))) SA.nil))))))
            (SI.len (SL.v 3)),
          SB.app 153 (SA.l (SL.v 3) (SA.i (SI.v 0) (SA.i (SI.add (SI.v 1) (SI.c (Int.ofNat 1))) SA.nil))),
          SB.not (SB.eq (SI.sel (SL.v 3) (SI.v 1) 0) (SI.v 0)), SB.lt (SI.v 1) (SI.len (SL.v 3)),
          SB.le (SI.c (Int.ofNat 0)) (SI.v 1), SB.le (SI.v 1) (SI.len (SL.v 3)),
          SB.lt (SI.len (SL.v 3)) (SI.c (Int.ofNat 90000))],
      eqs :=
        [Eqn.T (SB.app 153 (SA.l (SL.v 3) (SA.i (SI.v 0) (SA.i (SI.v 1) SA.nil)))),
          Eqn.T
            (SB.eq (SI.len (SL.app 158 (SA.l (SL.v 3) (SA.i (SI.v 0) (SA.i (SI.v 2) (SA.i (SI.v 1) SA.nil))))))
              (SI.len (SL.v 3))),
          Eqn.I (SI.len (SL.app 158 (SA.l (SL.v 3) (SA.i (SI.v 0) (SA.i (SI.v 2) (SA.i (SI.v 1) SA.nil))))))
            (SI.len
              (SL.app 158
                (SA.l (SL.v 3) (SA.i (SI.v 0) (SA.i (SI.v 2) (SA.i (SI.add (SI.v 1) (SI.c (Int.ofNat 1))) SA.nil)))))),
          Eqn.L (SL.app 158 (SA.l (SL.v 3) (SA.i (SI.v 0) (SA.i (SI.v 2) (SA.i (SI.v 1) SA.nil)))))
            (SL.app 158
              (SA.l (SL.v 3) (SA.i (SI.v 0) (SA.i (SI.v 2) (SA.i (SI.add (SI.v 1) (SI.c (Int.ofNat 1))) SA.nil)))))] },
    {
      pc :=
        [SB.not (SB.app 153 (SA.l (SL.v 3) (SA.i (SI.v 0) (SA.i (SI.add (SI.v 1) (SI.c (Int.ofNat 1))) SA.nil)))),
          SB.not (SB.eq (SI.sel (SL.v 3) (SI.v 1) 0) (SI.v 0)), SB.lt (SI.v 1) (SI.len (SL.v 3)),
          SB.le (SI.c (Int.ofNat 0)) (SI.v 1), SB.le (SI.v 1) (SI.len (SL.v 3)),
          SB.lt (SI.len (SL.v 3)) (SI.c (Int.ofNat 90000))],
      eqs := [Eqn.T (SB.not (SB.app 153 (SA.l (SL.v 3) (SA.i (SI.v 0) (SA.i (SI.v 1) SA.nil)))))] },
    {
      pc :=
        [SB.not (SB.lt (SI.v 1) (SI.len (SL.v 3))), SB.le (SI.c (Int.ofNat 0)) (SI.v 1),
          SB.le (SI.v 1) (SI.len (SL.v 3)), SB.lt (SI.len (SL.v 3)) (SI.c (Int.ofNat 90000))],
      eqs := [Eqn.T (SB.not (SB.app 153 (SA.l (SL.v 3) (SA.i (SI.v 0) (SA.i (SI.v 1) SA.nil)))))] }] := by kernel_rfl
theorem rs0_ok : rs0.ok Φ Try.prog := by
  refine ⟨by kernel_rfl, loop_rule (fun ρ => noTbl_ok) (loopAt_sub (by kernel_rfl)) rs0_obs ?_⟩
  simp only [and_imp, List.forall_mem_cons, List.not_mem_nil, false_implies, implies_true, and_true, Ob.ok, holds, Eqn.ok, evB_eq, evB_lt, evB_le, evB_not, evB_and, evB_or, evB_eqL, evB_app, evB_v, evB_c, ev_sel, ev_len, ev_v, ev_c, ev_add, ev_sub, ev_mul, ev_quo, ev_rem, ev_bits, ev_wrap, evL_v, evL_lit, evL_app, ev_app, evA_l, evA_i, evA_nil, std_min, std_max, std_cat, std_take, std_drop, std_row, std_set, std_rep, std_find, std_put, std_del, std_flag, std_unflag, std_clr, std_left, std_copy, ints_cons, ints_nil, ofNat_lit, negSucc_lit, decide_eq_true_eq, Bool.and_eq_true, Bool.or_eq_true, Bool.not_eq_true', Bool.and_eq_false_iff, Bool.or_eq_false_iff, decide_eq_false_iff_not, aI110, aI111, aI112, aI113, aI114, aI115, aI120, aI121, aI122, aL110, aL116, aL120, aL122, aL123, aL124, aL125, aB130, aB132, aB140, aB141, aB142, aL126, aL127, aL128, aB199, aI150, aI151, aI152, aL150, aL151, aL152, aL153, aL154, aL155, aL156, aL157, aL158, aB150, aB151, aB152, aB153]
  repeat' apply And.intro
  all_goals intro ρ hR
  all_goals intros
  all_goals first
    | (omega)
    | (have hr : ∀ r ∈ ρ.l 3, okRow [.i .i64, .i .i64] r := hR.row 2 rfl rfl
       have e := set_yes (n := ρ.i 2) hr (i := ρ.i 1) (id := ρ.i 0) (by omega) (by omega) (by with_reducible assumption)
       rw [e]
       exact ⟨(cr_yes (by omega) (by omega) (by with_reducible assumption)).1, by simp, by simp, rfl⟩)
    | (obtain ⟨e1, _⟩ := cr_no (D := ρ.l 3) (id := ρ.i 0) (i := ρ.i 1) (by omega) (by omega) (by with_reducible assumption)
       have e2 := set_no (D := ρ.l 3) (id := ρ.i 0) (n := ρ.i 2) (i := ρ.i 1) (by omega) (by omega) (by with_reducible assumption)
       rw [e1, e2]
       exact ⟨by with_reducible assumption, by with_reducible assumption, rfl, rfl⟩)
    | (obtain ⟨e1, _⟩ := cr_no (D := ρ.l 3) (id := ρ.i 0) (i := ρ.i 1) (by omega) (by omega) (by with_reducible assumption)
       rw [e1]
       with_reducible assumption)
    | (exact (cr_end (D := ρ.l 3) (id := ρ.i 0) (i := ρ.i 1) (by omega)).1)
theorem r6_ok (ρ : Env) : TblOK Φ ρ Try.prog r6 := addLp_ok noTbl_ok rs0_ok
set_option maxRecDepth 100000 in
theorem rCredit_obs : callObs Φ Try.prog r5 1000 rCredit.f rCredit.vs rCredit.o rCredit.pc rCredit.outs = some
  [{
      pc :=
        [SB.eq (SI.app 150 (SA.l (SL.v 3) (SA.i (SI.v 0) (SA.i (SI.c (Int.ofNat 0)) SA.nil)))) (SI.c (Int.ofNat 0)),
          SB.not (SB.app 153 (SA.l (SL.v 3) (SA.i (SI.v 0) (SA.i (SI.c (Int.ofNat 0)) SA.nil)))),
          SB.lt (SI.len (SL.v 3)) (SI.c (Int.ofNat 90000))],
      eqs :=
        [Eqn.I (SI.app 150 (SA.l (SL.v 3) (SA.i (SI.v 0) (SA.i (SI.c (Int.ofNat 0)) SA.nil)))) (SI.c (Int.ofNat 0))] }] := by kernel_rfl
theorem rCredit_ok : rCredit.ok Φ Try.prog := by
  refine call_rule (fun ρ => r5_ok ρ) rCredit_obs ?_
  simp only [and_imp, List.forall_mem_cons, List.not_mem_nil, false_implies, implies_true, and_true, Ob.ok, holds, Eqn.ok, evB_eq, evB_lt, evB_le, evB_not, evB_and, evB_or, evB_eqL, evB_app, evB_v, evB_c, ev_sel, ev_len, ev_v, ev_c, ev_add, ev_sub, ev_mul, ev_quo, ev_rem, ev_bits, ev_wrap, evL_v, evL_lit, evL_app, ev_app, evA_l, evA_i, evA_nil, std_min, std_max, std_cat, std_take, std_drop, std_row, std_set, std_rep, std_find, std_put, std_del, std_flag, std_unflag, std_clr, std_left, std_copy, ints_cons, ints_nil, ofNat_lit, negSucc_lit, decide_eq_true_eq, Bool.and_eq_true, Bool.or_eq_true, Bool.not_eq_true', Bool.and_eq_false_iff, Bool.or_eq_false_iff, decide_eq_false_iff_not, aI110, aI111, aI112, aI113, aI114, aI115, aI120, aI121, aI122, aL110, aL116, aL120, aL122, aL123, aL124, aL125, aB130, aB132, aB140, aB141, aB142, aL126, aL127, aL128, aB199, aI150, aI151, aI152, aL150, aL151, aL152, aL153, aL154, aL155, aL156, aL157, aL158, aB150, aB151, aB152, aB153]
  repeat' apply And.intro
  all_goals intro ρ hR
  all_goals intros
  all_goals first
    | (with_reducible assumption)
set_option maxRecDepth 100000 in
theorem rSet_obs : callObs Φ Try.prog r6 1000 rSet.f rSet.vs rSet.o rSet.pc rSet.outs = some
  [{
      pc :=
        [SB.not (SB.app 153 (SA.l (SL.v 3) (SA.i (SI.v 0) (SA.i (SI.c (Int.ofNat 0)) SA.nil)))),
          SB.lt (SI.len (SL.v 3)) (SI.c (Int.ofNat 90000))],
      eqs :=
        [Eqn.T
            (SB.le
              (SI.len (SL.app 158 (SA.l (SL.v 3) (SA.i (SI.v 0) (SA.i (SI.v 2) (SA.i (SI.c (Int.ofNat 0)) SA.nil))))))
              (SI.add (SI.len (SL.v 3)) (SI.c (Int.ofNat 1)))),
          Eqn.I (SI.len (SL.app 158 (SA.l (SL.v 3) (SA.i (SI.v 0) (SA.i (SI.v 2) (SA.i (SI.c (Int.ofNat 0)) SA.nil))))))
            (SI.add (SI.len (SL.v 3)) (SI.c (Int.ofNat 1))),
          Eqn.L (SL.app 158 (SA.l (SL.v 3) (SA.i (SI.v 0) (SA.i (SI.v 2) (SA.i (SI.c (Int.ofNat 0)) SA.nil)))))
            (SL.app 0 (SA.l (SL.v 3) (SA.l (SL.app 3 (SA.i (SI.v 0) (SA.i (SI.v 2) SA.nil))) SA.nil)))] }] := by kernel_rfl
theorem rSet_ok : rSet.ok Φ Try.prog := by
  refine call_rule (fun ρ => r6_ok ρ) rSet_obs ?_
  simp only [and_imp, List.forall_mem_cons, List.not_mem_nil, false_implies, implies_true, and_true, Ob.ok, holds, Eqn.ok, evB_eq, evB_lt, evB_le, evB_not, evB_and, evB_or, evB_eqL, evB_app, evB_v, evB_c, ev_sel, ev_len, ev_v, ev_c, ev_add, ev_sub, ev_mul, ev_quo, ev_rem, ev_bits, ev_wrap, evL_v, evL_lit, evL_app, ev_app, evA_l, evA_i, evA_nil, std_min, std_max, std_cat, std_take, std_drop, std_row, std_set, std_rep, std_find, std_put, std_del, std_flag, std_unflag, std_clr, std_left, std_copy, ints_cons, ints_nil, ofNat_lit, negSucc_lit, decide_eq_true_eq, Bool.and_eq_true, Bool.or_eq_true, Bool.not_eq_true', Bool.and_eq_false_iff, Bool.or_eq_false_iff, decide_eq_false_iff_not, aI110, aI111, aI112, aI113, aI114, aI115, aI120, aI121, aI122, aL110, aL116, aL120, aL122, aL123, aL124, aL125, aB130, aB132, aB140, aB141, aB142, aL126, aL127, aL128, aB199, aI150, aI151, aI152, aL150, aL151, aL152, aL153, aL154, aL155, aL156, aL157, aL158, aB150, aB151, aB152, aB153]
  repeat' apply And.intro
  all_goals intro ρ hR
  all_goals intros
  all_goals first
    | (have e := set_none (n := ρ.i 2) (D := ρ.l 3) (id := ρ.i 0) (by with_reducible assumption)
       rw [e]
       simp)
theorem r7_ok (ρ : Env) : TblOK Φ ρ Try.prog r7 := addFn_ok (addFn_ok (r5_ok ρ) rCredit_ok) rSet_ok
set_option maxRecDepth 100000 in
theorem rCharge_obs : callObs Φ Try.prog r7 1000 rCharge.f rCharge.vs rCharge.o rCharge.pc rCharge.outs = some
  [{
      pc :=
        [SB.le
            (SI.len
              (SL.app 158
                (SA.l (SL.v 3)
                  (SA.i (SI.v 0)
                    (SA.i
                      (SI.app 1
                        (SA.i
                          (SI.wrap IntKind.i64
                            (SI.sub (SI.app 150 (SA.l (SL.v 3) (SA.i (SI.v 0) (SA.i (SI.c (Int.ofNat 0)) SA.nil))))
                              (SI.app 1
                                (SA.i (SI.c (Int.ofNat 0))
                                  (SA.i (SI.app 0 (SA.i (SI.v 1) (SA.i (SI.c (Int.ofNat 1073741824)) SA.nil)))
                                    SA.nil)))))
                          (SA.i (SI.c (Int.negSucc 1073741823)) SA.nil)))
                      (SA.i (SI.c (Int.ofNat 0)) SA.nil))))))
            (SI.add (SI.len (SL.v 3)) (SI.c (Int.ofNat 1))),
          SB.lt (SI.len (SL.v 3)) (SI.c (Int.ofNat 90000))],
      eqs :=
        [Eqn.T
            (SB.le
              (SI.len
                (SL.app 158
                  (SA.l (SL.v 3)
                    (SA.i (SI.v 0)
                      (SA.i (SI.app 151 (SA.l (SL.v 3) (SA.i (SI.v 0) (SA.i (SI.v 1) SA.nil))))
                        (SA.i (SI.c (Int.ofNat 0)) SA.nil))))))
              (SI.add (SI.len (SL.v 3)) (SI.c (Int.ofNat 1)))),
          Eqn.I (SI.app 151 (SA.l (SL.v 3) (SA.i (SI.v 0) (SA.i (SI.v 1) SA.nil))))
            (SI.app 1
              (SA.i
                (SI.wrap IntKind.i64
                  (SI.sub (SI.app 150 (SA.l (SL.v 3) (SA.i (SI.v 0) (SA.i (SI.c (Int.ofNat 0)) SA.nil))))
                    (SI.app 1
                      (SA.i (SI.c (Int.ofNat 0))
                        (SA.i (SI.app 0 (SA.i (SI.v 1) (SA.i (SI.c (Int.ofNat 1073741824)) SA.nil))) SA.nil)))))
                (SA.i (SI.c (Int.negSucc 1073741823)) SA.nil))),
          Eqn.B (SB.lt (SI.app 151 (SA.l (SL.v 3) (SA.i (SI.v 0) (SA.i (SI.v 1) SA.nil)))) (SI.c (Int.ofNat 1)))
            (SB.lt
              (SI.app 1
                (SA.i
                  (SI.wrap IntKind.i64
                    (SI.sub (SI.app 150 (SA.l (SL.v 3) (SA.i (SI.v 0) (SA.i (SI.c (Int.ofNat 0)) SA.nil))))
                      (SI.app 1
                        (SA.i (SI.c (Int.ofNat 0))
                          (SA.i (SI.app 0 (SA.i (SI.v 1) (SA.i (SI.c (Int.ofNat 1073741824)) SA.nil))) SA.nil)))))
                  (SA.i (SI.c (Int.negSucc 1073741823)) SA.nil)))
              (SI.c (Int.ofNat 1))),
          Eqn.I
            (SI.len
              (SL.app 158
                (SA.l (SL.v 3)
                  (SA.i (SI.v 0)
                    (SA.i (SI.app 151 (SA.l (SL.v 3) (SA.i (SI.v 0) (SA.i (SI.v 1) SA.nil))))
                      (SA.i (SI.c (Int.ofNat 0)) SA.nil))))))
            (SI.len
              (SL.app 158
                (SA.l (SL.v 3)
                  (SA.i (SI.v 0)
                    (SA.i
                      (SI.app 1
                        (SA.i
                          (SI.wrap IntKind.i64
                            (SI.sub (SI.app 150 (SA.l (SL.v 3) (SA.i (SI.v 0) (SA.i (SI.c (Int.ofNat 0)) SA.nil))))
                              (SI.app 1
                                (SA.i (SI.c (Int.ofNat 0))
                                  (SA.i (SI.app 0 (SA.i (SI.v 1) (SA.i (SI.c (Int.ofNat 1073741824)) SA.nil)))
                                    SA.nil)))))
                          (SA.i (SI.c (Int.negSucc 1073741823)) SA.nil)))
                      (SA.i (SI.c (Int.ofNat 0)) SA.nil)))))),
          Eqn.L
            (SL.app 158
              (SA.l (SL.v 3)
                (SA.i (SI.v 0)
                  (SA.i (SI.app 151 (SA.l (SL.v 3) (SA.i (SI.v 0) (SA.i (SI.v 1) SA.nil))))
                    (SA.i (SI.c (Int.ofNat 0)) SA.nil)))))
            (SL.app 158
              (SA.l (SL.v 3)
                (SA.i (SI.v 0)
                  (SA.i
                    (SI.app 1
                      (SA.i
                        (SI.wrap IntKind.i64
                          (SI.sub (SI.app 150 (SA.l (SL.v 3) (SA.i (SI.v 0) (SA.i (SI.c (Int.ofNat 0)) SA.nil))))
                            (SI.app 1
                              (SA.i (SI.c (Int.ofNat 0))
                                (SA.i (SI.app 0 (SA.i (SI.v 1) (SA.i (SI.c (Int.ofNat 1073741824)) SA.nil))) SA.nil)))))
                        (SA.i (SI.c (Int.negSucc 1073741823)) SA.nil)))
                    (SA.i (SI.c (Int.ofNat 0)) SA.nil)))))] }] := by kernel_rfl
theorem rCharge_ok : rCharge.ok Φ Try.prog := by
  refine call_rule (fun ρ => r7_ok ρ) rCharge_obs ?_
  simp only [and_imp, List.forall_mem_cons, List.not_mem_nil, false_implies, implies_true, and_true, Ob.ok, holds, Eqn.ok, evB_eq, evB_lt, evB_le, evB_not, evB_and, evB_or, evB_eqL, evB_app, evB_v, evB_c, ev_sel, ev_len, ev_v, ev_c, ev_add, ev_sub, ev_mul, ev_quo, ev_rem, ev_bits, ev_wrap, evL_v, evL_lit, evL_app, ev_app, evA_l, evA_i, evA_nil, std_min, std_max, std_cat, std_take, std_drop, std_row, std_set, std_rep, std_find, std_put, std_del, std_flag, std_unflag, std_clr, std_left, std_copy, ints_cons, ints_nil, ofNat_lit, negSucc_lit, decide_eq_true_eq, Bool.and_eq_true, Bool.or_eq_true, Bool.not_eq_true', Bool.and_eq_false_iff, Bool.or_eq_false_iff, decide_eq_false_iff_not, aI110, aI111, aI112, aI113, aI114, aI115, aI120, aI121, aI122, aL110, aL116, aL120, aL122, aL123, aL124, aL125, aB130, aB132, aB140, aB141, aB142, aL126, aL127, aL128, aB199, aI150, aI151, aI152, aL150, aL151, aL152, aL153, aL154, aL155, aL156, aL157, aL158, aB150, aB151, aB152, aB153]
  repeat' apply And.intro
  all_goals intro ρ hR
  all_goals intros
  all_goals first
    | (rw [show (-(1073741823 + 1) : Int) = -1073741824 from rfl] at *
       simp only [Int.max_comm _ (-1073741824)] at *
       repeat' apply And.intro
       all_goals first | exact True.intro | assumption | rfl)
set_option maxRecDepth 100000 in
theorem rRefill_obs : callObs Φ Try.prog r7 1000 rRefill.f rRefill.vs rRefill.o rRefill.pc rRefill.outs = some
  [{
      pc :=
        [SB.le
            (SI.len
              (SL.app 158
                (SA.l (SL.v 3)
                  (SA.i (SI.v 0)
                    (SA.i
                      (SI.app 0
                        (SA.i
                          (SI.wrap IntKind.i64
                            (SI.add (SI.app 150 (SA.l (SL.v 3) (SA.i (SI.v 0) (SA.i (SI.c (Int.ofNat 0)) SA.nil))))
                              (SI.wrap IntKind.i64
                                (SI.mul (SI.v 8)
                                  (SI.app 1
                                    (SA.i (SI.c (Int.ofNat 1))
                                      (SA.i (SI.app 0 (SA.i (SI.v 1) (SA.i (SI.c (Int.ofNat 1000)) SA.nil)))
                                        SA.nil)))))))
                          (SA.i
                            (SI.wrap IntKind.i64
                              (SI.mul (SI.v 8)
                                (SI.app 1
                                  (SA.i (SI.c (Int.ofNat 1))
                                    (SA.i (SI.app 0 (SA.i (SI.v 1) (SA.i (SI.c (Int.ofNat 1000)) SA.nil))) SA.nil)))))
                            SA.nil)))
                      (SA.i (SI.c (Int.ofNat 0)) SA.nil))))))
            (SI.add (SI.len (SL.v 3)) (SI.c (Int.ofNat 1))),
          SB.lt (SI.len (SL.v 3)) (SI.c (Int.ofNat 90000))],
      eqs :=
        [Eqn.T
            (SB.le
              (SI.len
                (SL.app 158
                  (SA.l (SL.v 3)
                    (SA.i (SI.v 0)
                      (SA.i (SI.app 152 (SA.l (SL.v 3) (SA.i (SI.v 0) (SA.i (SI.v 8) (SA.i (SI.v 1) SA.nil)))))
                        (SA.i (SI.c (Int.ofNat 0)) SA.nil))))))
              (SI.add (SI.len (SL.v 3)) (SI.c (Int.ofNat 1)))),
          Eqn.I (SI.app 152 (SA.l (SL.v 3) (SA.i (SI.v 0) (SA.i (SI.v 8) (SA.i (SI.v 1) SA.nil)))))
            (SI.app 0
              (SA.i
                (SI.wrap IntKind.i64
                  (SI.add (SI.app 150 (SA.l (SL.v 3) (SA.i (SI.v 0) (SA.i (SI.c (Int.ofNat 0)) SA.nil))))
                    (SI.wrap IntKind.i64
                      (SI.mul (SI.v 8)
                        (SI.app 1
                          (SA.i (SI.c (Int.ofNat 1))
                            (SA.i (SI.app 0 (SA.i (SI.v 1) (SA.i (SI.c (Int.ofNat 1000)) SA.nil))) SA.nil)))))))
                (SA.i
                  (SI.wrap IntKind.i64
                    (SI.mul (SI.v 8)
                      (SI.app 1
                        (SA.i (SI.c (Int.ofNat 1))
                          (SA.i (SI.app 0 (SA.i (SI.v 1) (SA.i (SI.c (Int.ofNat 1000)) SA.nil))) SA.nil)))))
                  SA.nil))),
          Eqn.I
            (SI.len
              (SL.app 158
                (SA.l (SL.v 3)
                  (SA.i (SI.v 0)
                    (SA.i (SI.app 152 (SA.l (SL.v 3) (SA.i (SI.v 0) (SA.i (SI.v 8) (SA.i (SI.v 1) SA.nil)))))
                      (SA.i (SI.c (Int.ofNat 0)) SA.nil))))))
            (SI.len
              (SL.app 158
                (SA.l (SL.v 3)
                  (SA.i (SI.v 0)
                    (SA.i
                      (SI.app 0
                        (SA.i
                          (SI.wrap IntKind.i64
                            (SI.add (SI.app 150 (SA.l (SL.v 3) (SA.i (SI.v 0) (SA.i (SI.c (Int.ofNat 0)) SA.nil))))
                              (SI.wrap IntKind.i64
                                (SI.mul (SI.v 8)
                                  (SI.app 1
                                    (SA.i (SI.c (Int.ofNat 1))
                                      (SA.i (SI.app 0 (SA.i (SI.v 1) (SA.i (SI.c (Int.ofNat 1000)) SA.nil)))
                                        SA.nil)))))))
                          (SA.i
                            (SI.wrap IntKind.i64
                              (SI.mul (SI.v 8)
                                (SI.app 1
                                  (SA.i (SI.c (Int.ofNat 1))
                                    (SA.i (SI.app 0 (SA.i (SI.v 1) (SA.i (SI.c (Int.ofNat 1000)) SA.nil))) SA.nil)))))
                            SA.nil)))
                      (SA.i (SI.c (Int.ofNat 0)) SA.nil)))))),
          Eqn.L
            (SL.app 158
              (SA.l (SL.v 3)
                (SA.i (SI.v 0)
                  (SA.i (SI.app 152 (SA.l (SL.v 3) (SA.i (SI.v 0) (SA.i (SI.v 8) (SA.i (SI.v 1) SA.nil)))))
                    (SA.i (SI.c (Int.ofNat 0)) SA.nil)))))
            (SL.app 158
              (SA.l (SL.v 3)
                (SA.i (SI.v 0)
                  (SA.i
                    (SI.app 0
                      (SA.i
                        (SI.wrap IntKind.i64
                          (SI.add (SI.app 150 (SA.l (SL.v 3) (SA.i (SI.v 0) (SA.i (SI.c (Int.ofNat 0)) SA.nil))))
                            (SI.wrap IntKind.i64
                              (SI.mul (SI.v 8)
                                (SI.app 1
                                  (SA.i (SI.c (Int.ofNat 1))
                                    (SA.i (SI.app 0 (SA.i (SI.v 1) (SA.i (SI.c (Int.ofNat 1000)) SA.nil))) SA.nil)))))))
                        (SA.i
                          (SI.wrap IntKind.i64
                            (SI.mul (SI.v 8)
                              (SI.app 1
                                (SA.i (SI.c (Int.ofNat 1))
                                  (SA.i (SI.app 0 (SA.i (SI.v 1) (SA.i (SI.c (Int.ofNat 1000)) SA.nil))) SA.nil)))))
                          SA.nil)))
                    (SA.i (SI.c (Int.ofNat 0)) SA.nil)))))] }] := by kernel_rfl
theorem rRefill_ok : rRefill.ok Φ Try.prog := by
  refine call_rule (fun ρ => r7_ok ρ) rRefill_obs ?_
  simp only [and_imp, List.forall_mem_cons, List.not_mem_nil, false_implies, implies_true, and_true, Ob.ok, holds, Eqn.ok, evB_eq, evB_lt, evB_le, evB_not, evB_and, evB_or, evB_eqL, evB_app, evB_v, evB_c, ev_sel, ev_len, ev_v, ev_c, ev_add, ev_sub, ev_mul, ev_quo, ev_rem, ev_bits, ev_wrap, evL_v, evL_lit, evL_app, ev_app, evA_l, evA_i, evA_nil, std_min, std_max, std_cat, std_take, std_drop, std_row, std_set, std_rep, std_find, std_put, std_del, std_flag, std_unflag, std_clr, std_left, std_copy, ints_cons, ints_nil, ofNat_lit, negSucc_lit, decide_eq_true_eq, Bool.and_eq_true, Bool.or_eq_true, Bool.not_eq_true', Bool.and_eq_false_iff, Bool.or_eq_false_iff, decide_eq_false_iff_not, aI110, aI111, aI112, aI113, aI114, aI115, aI120, aI121, aI122, aL110, aL116, aL120, aL122, aL123, aL124, aL125, aB130, aB132, aB140, aB141, aB142, aL126, aL127, aL128, aB199, aI150, aI151, aI152, aL150, aL151, aL152, aL153, aL154, aL155, aL156, aL157, aL158, aB150, aB151, aB152, aB153]
  repeat' apply And.intro
  all_goals intro ρ hR
  all_goals intros
  all_goals first
    | (unfold moreI
       have h : ((setG (ρ.l 3) (ρ.i 0) (min (IntKind.i64.wrap (crG (ρ.l 3) (ρ.i 0) 0 + IntKind.i64.wrap (ρ.i 8 * max 1 (min (ρ.i 1) 1000)))) (IntKind.i64.wrap (ρ.i 8 * max 1 (min (ρ.i 1) 1000)))) 0).length : Int) ≤ ((ρ.l 3).length : Int) + 1 := by with_reducible assumption
       rw [Int.min_comm (IntKind.i64.wrap (crG (ρ.l 3) (ρ.i 0) 0 + IntKind.i64.wrap (ρ.i 8 * max 1 (min (ρ.i 1) 1000))))] at h ⊢
       exact ⟨h, rfl, rfl, rfl⟩)
theorem s1_ok (ρ : Env) : TblOK Φ ρ Try.prog s1 := addFn_ok (addFn_ok (addFn_ok (addFn_ok (addFn_ok (addFn_ok (addFn_ok (addFn_ok (t10_ok ρ) rNew_ok) rDis_ok) rArm_ok) rNext_ok) rTick_ok) rCredit_ok) rCharge_ok) rRefill_ok
end Go.SF.C18
