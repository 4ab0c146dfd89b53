/- The laws of no queues, of the order, shown. -/
import Derived.Test.YtmkklciobehohaaQ1
import Derived.Test.YtmkklciobehohaaC2
import Derived.Test.YtmkklciobehohaaP5
import Derived.KernelRfl
namespace Go.SF.C17
open Go Go.SF Go.Proofs
set_option linter.unusedVariables false
set_option linter.unusedSimpArgs false

theorem t7_ok (ρ : Env) : TblOK Φ ρ Try.prog t7 := addFn_ok (t6_ok ρ) cKnown_ok
theorem t8_ok (ρ : Env) : TblOK Φ ρ Try.prog t8 := addFn_ok noTbl_ok cKnown_ok
set_option maxRecDepth 100000 in
theorem lNil_obs : callObs Φ Try.prog t8 1000 lNil.f lNil.vs lNil.o lNil.pc lNil.outs = some
  [] := by kernel_rfl
theorem lNil_ok : lNil.ok Φ Try.prog := by
  refine call_rule (fun ρ => t8_ok ρ) lNil_obs ?_
  intro ob h; cases h
set_option maxRecDepth 100000 in
theorem fi1_obs : loopObs Φ Try.prog t7 1000 fi1.f (loopAt Try.prog fi1.f fi1.id) fi1.n fi1.T k2 fi1.outs = some
  [{
      pc :=
        [SB.app 130
            (SA.l
              (SL.app 110
                (SA.l (SL.v 0)
                  (SA.i (SI.c (Int.ofNat 0))
                    (SA.i (SI.add (SI.v 2) (SI.c (Int.ofNat 100))) (SA.i (SI.c (Int.ofNat 64)) SA.nil)))))
              (SA.l (SL.v 1000) (SA.i (SI.c (Int.ofNat 64)) SA.nil))),
          SB.eq
            (SI.len
              (SL.app 110
                (SA.l (SL.v 0)
                  (SA.i (SI.c (Int.ofNat 0))
                    (SA.i (SI.add (SI.v 2) (SI.c (Int.ofNat 100))) (SA.i (SI.c (Int.ofNat 64)) SA.nil))))))
            (SI.len (SL.v 0)),
          SB.lt (SI.v 2) (SI.v 0), SB.le (SI.c (Int.ofNat 1)) (SI.v 0), SB.le (SI.v 0) (SI.c (Int.ofNat 64)),
          SB.eq (SI.len (SL.v 0)) (SI.c (Int.ofNat 2)), SB.le (SI.c (Int.ofNat 0)) (SI.v 2), SB.c true,
          SB.le (SI.c (Int.ofNat 0)) (SI.v 1), SB.lt (SI.v 1) (SI.v 0), SB.le (SI.v 2) (SI.v 0),
          SB.eqL (SL.v 0)
            (SL.app 120 (SA.i (SI.c (Int.ofNat 100)) (SA.i (SI.add (SI.v 2) (SI.c (Int.ofNat 100))) SA.nil))),
          SB.app 130 (SA.l (SL.v 0) (SA.l (SL.v 1) (SA.i (SI.c (Int.ofNat 64)) SA.nil)))],
      eqs :=
        [Eqn.T (SB.lt (SI.sub (SI.v 0) (SI.add (SI.v 2) (SI.c (Int.ofNat 1)))) (SI.sub (SI.v 0) (SI.v 2))),
          Eqn.T (SB.lt (SI.c (Int.ofNat 0)) (SI.sub (SI.v 0) (SI.v 2))),
          Eqn.T
            (SB.eqL
              (SL.app 110
                (SA.l (SL.v 0)
                  (SA.i (SI.c (Int.ofNat 0))
                    (SA.i (SI.add (SI.v 2) (SI.c (Int.ofNat 100))) (SA.i (SI.c (Int.ofNat 64)) SA.nil)))))
              (SL.app 120 (SA.i (SI.c (Int.ofNat 100)) (SA.i (SI.add (SI.v 2) (SI.c (Int.ofNat 101))) SA.nil))))] },
    {
      pc :=
        [SB.eq (SI.add (SI.v 2) (SI.c (Int.ofNat 1))) (SI.v 0),
          SB.app 130
            (SA.l
              (SL.app 110
                (SA.l (SL.v 0)
                  (SA.i (SI.c (Int.ofNat 0))
                    (SA.i (SI.add (SI.v 2) (SI.c (Int.ofNat 100))) (SA.i (SI.c (Int.ofNat 64)) SA.nil)))))
              (SA.l (SL.v 1000) (SA.i (SI.c (Int.ofNat 64)) SA.nil))),
          SB.eq
            (SI.len
              (SL.app 110
                (SA.l (SL.v 0)
                  (SA.i (SI.c (Int.ofNat 0))
                    (SA.i (SI.add (SI.v 2) (SI.c (Int.ofNat 100))) (SA.i (SI.c (Int.ofNat 64)) SA.nil))))))
            (SI.len (SL.v 0)),
          SB.lt (SI.v 2) (SI.v 0), SB.le (SI.c (Int.ofNat 1)) (SI.v 0), SB.le (SI.v 0) (SI.c (Int.ofNat 64)),
          SB.eq (SI.len (SL.v 0)) (SI.c (Int.ofNat 2)), SB.le (SI.c (Int.ofNat 0)) (SI.v 2), SB.c true,
          SB.le (SI.c (Int.ofNat 0)) (SI.v 1), SB.lt (SI.v 1) (SI.v 0), SB.le (SI.v 2) (SI.v 0),
          SB.eqL (SL.v 0)
            (SL.app 120 (SA.i (SI.c (Int.ofNat 100)) (SA.i (SI.add (SI.v 2) (SI.c (Int.ofNat 100))) SA.nil))),
          SB.app 130 (SA.l (SL.v 0) (SA.l (SL.v 1) (SA.i (SI.c (Int.ofNat 64)) SA.nil)))],
      eqs :=
        [Eqn.T
            (SB.eq
              (SI.len (SL.app 120 (SA.i (SI.c (Int.ofNat 100)) (SA.i (SI.add (SI.v 0) (SI.c (Int.ofNat 100))) SA.nil))))
              (SI.c (Int.ofNat 2))),
          Eqn.T
            (SB.app 130
              (SA.l (SL.app 120 (SA.i (SI.c (Int.ofNat 100)) (SA.i (SI.add (SI.v 0) (SI.c (Int.ofNat 100))) SA.nil)))
                (SA.l (SL.v 1000) (SA.i (SI.c (Int.ofNat 64)) SA.nil)))),
          Eqn.I
            (SI.len (SL.app 120 (SA.i (SI.c (Int.ofNat 100)) (SA.i (SI.add (SI.v 0) (SI.c (Int.ofNat 100))) SA.nil))))
            (SI.len
              (SL.app 110
                (SA.l (SL.v 0)
                  (SA.i (SI.c (Int.ofNat 0))
                    (SA.i (SI.add (SI.v 2) (SI.c (Int.ofNat 100))) (SA.i (SI.c (Int.ofNat 64)) SA.nil)))))),
          Eqn.L (SL.app 120 (SA.i (SI.c (Int.ofNat 100)) (SA.i (SI.add (SI.v 0) (SI.c (Int.ofNat 100))) SA.nil)))
            (SL.app 110
              (SA.l (SL.v 0)
                (SA.i (SI.c (Int.ofNat 0))
                  (SA.i (SI.add (SI.v 2) (SI.c (Int.ofNat 100))) (SA.i (SI.c (Int.ofNat 64)) SA.nil)))))] }] := by kernel_rfl
theorem fi1_ok : fi1.ok Φ Try.prog := by
  refine ⟨by kernel_rfl, loop_rule (fun ρ => t7_ok ρ) (loopAt_sub (by kernel_rfl)) fi1_obs ?_⟩
  simp only [and_imp, List.forall_mem_cons, List.not_mem_nil, false_implies, implies_true, and_true, Ob.ok, holds, Eqn.ok, evB_eq, evB_lt, evB_le, evB_not, evB_and, evB_or, evB_eqL, evB_app, evB_v, evB_c, ev_sel, ev_len, ev_v, ev_c, ev_add, ev_sub, ev_mul, ev_quo, ev_rem, ev_bits, ev_wrap, evL_v, evL_lit, evL_app, ev_app, evA_l, evA_i, evA_nil, std_min, std_max, std_cat, std_take, std_drop, std_row, std_set, std_rep, std_find, std_put, std_del, std_flag, std_unflag, std_clr, std_left, std_copy, ints_cons, ints_nil, ofNat_lit, negSucc_lit, decide_eq_true_eq, Bool.and_eq_true, Bool.or_eq_true, Bool.not_eq_true', Bool.and_eq_false_iff, Bool.or_eq_false_iff, decide_eq_false_iff_not, std_rowT, std_setT, lenR_rowT, rowT_get, aI100, aI101, aI102, aI103, aI104, aI105, aI106, aI107, aI110, aI111, aI112, aI113, aI114, aL110, aL111, aL112, aL113, aL115, aL116, aL120, aL121, aB130, aB131, aB132, aB133, aB134, aB135, aB136, aB199]
  repeat' apply And.intro
  all_goals intro ρ hR
  all_goals intros
  all_goals first
    | (omega)
    | (have hT : ρ.l 0 = seqT 100 (ρ.i 2 + 100) := by with_reducible assumption
       have hp := seq_push (i := ρ.i 2) (by omega) (by omega)
       rw [hT, hp]
       exact ⟨by omega, by omega, rfl⟩)
    | (have hT : ρ.l 0 = seqT 100 (ρ.i 2 + 100) := by with_reducible assumption
       have hp := seq_push (i := ρ.i 2) (by omega) (by omega)
       have hi := ‹invB _ (ρ.l 1000) 64 = true›
       rw [hT, hp] at hi
       have e : ρ.i 0 + 100 = ρ.i 2 + 101 := by omega
       rw [hT, hp, e]
       exact ⟨rfl, hi, rfl, rfl⟩)
    | (have hT : ρ.l 0 = seqT 100 (ρ.i 2 + 100) := by with_reducible assumption
       have e : ρ.i 0 + 100 = ρ.i 2 + 100 := by omega
       rw [e, hT]
       exact ⟨rfl, by rw [← hT]; with_reducible assumption, rfl, rfl⟩)
set_option maxRecDepth 100000 in
theorem fi2_obs : loopObs Φ Try.prog t7 1000 fi2.f (loopAt Try.prog fi2.f fi2.id) fi2.n fi2.T k3 fi2.outs = some
  [{
      pc :=
        [SB.not (SB.app 132 (SA.l (SL.v 0) SA.nil)), SB.lt (SI.v 2) (SI.v 1), SB.le (SI.c (Int.ofNat 1)) (SI.v 0),
          SB.le (SI.v 0) (SI.c (Int.ofNat 64)), SB.eq (SI.len (SL.v 0)) (SI.c (Int.ofNat 2)),
          SB.le (SI.c (Int.ofNat 0)) (SI.v 2), SB.c true, SB.le (SI.c (Int.ofNat 0)) (SI.v 1), SB.lt (SI.v 1) (SI.v 0),
          SB.le (SI.v 2) (SI.v 1),
          SB.eqL (SL.v 0)
            (SL.app 120
              (SA.i (SI.c (Int.ofNat 100)) (SA.i (SI.sub (SI.add (SI.v 0) (SI.c (Int.ofNat 100))) (SI.v 2)) SA.nil))),
          SB.app 130 (SA.l (SL.v 0) (SA.l (SL.v 1) (SA.i (SI.c (Int.ofNat 64)) SA.nil)))],
      eqs := [Eqn.T (SB.app 199 SA.nil)] },
    {
      pc :=
        [SB.eq (SI.app 111 (SA.l (SL.v 0) (SA.i (SI.c (Int.ofNat 1)) SA.nil))) (SI.c (Int.ofNat 0)),
          SB.eq (SI.app 112 (SA.l (SL.v 0) (SA.i (SI.c (Int.ofNat 1)) SA.nil)))
            (SI.sub (SI.add (SI.v 0) (SI.c (Int.ofNat 99))) (SI.v 2)),
          SB.app 130
            (SA.l (SL.app 111 (SA.l (SL.v 0) (SA.i (SI.c (Int.ofNat 1)) SA.nil)))
              (SA.l (SL.v 1000) (SA.i (SI.c (Int.ofNat 64)) SA.nil))),
          SB.eq (SI.len (SL.app 111 (SA.l (SL.v 0) (SA.i (SI.c (Int.ofNat 1)) SA.nil)))) (SI.len (SL.v 0)),
          SB.lt (SI.app 111 (SA.l (SL.v 0) (SA.i (SI.c (Int.ofNat 1)) SA.nil))) (SI.len (SL.v 0)),
          SB.le (SI.c (Int.ofNat 0)) (SI.app 111 (SA.l (SL.v 0) (SA.i (SI.c (Int.ofNat 1)) SA.nil))),
          SB.app 132 (SA.l (SL.v 0) SA.nil), SB.lt (SI.v 2) (SI.v 1), SB.le (SI.c (Int.ofNat 1)) (SI.v 0),
          SB.le (SI.v 0) (SI.c (Int.ofNat 64)), SB.eq (SI.len (SL.v 0)) (SI.c (Int.ofNat 2)),
          SB.le (SI.c (Int.ofNat 0)) (SI.v 2), SB.c true, SB.le (SI.c (Int.ofNat 0)) (SI.v 1), SB.lt (SI.v 1) (SI.v 0),
          SB.le (SI.v 2) (SI.v 1),
          SB.eqL (SL.v 0)
            (SL.app 120
              (SA.i (SI.c (Int.ofNat 100)) (SA.i (SI.sub (SI.add (SI.v 0) (SI.c (Int.ofNat 100))) (SI.v 2)) SA.nil))),
          SB.app 130 (SA.l (SL.v 0) (SA.l (SL.v 1) (SA.i (SI.c (Int.ofNat 64)) SA.nil)))],
      eqs :=
        [Eqn.T (SB.lt (SI.sub (SI.v 1) (SI.add (SI.v 2) (SI.c (Int.ofNat 1)))) (SI.sub (SI.v 1) (SI.v 2))),
          Eqn.T (SB.lt (SI.c (Int.ofNat 0)) (SI.sub (SI.v 1) (SI.v 2))),
          Eqn.T
            (SB.eqL (SL.app 111 (SA.l (SL.v 0) (SA.i (SI.c (Int.ofNat 1)) SA.nil)))
              (SL.app 120
                (SA.i (SI.c (Int.ofNat 100))
                  (SA.i (SI.sub (SI.add (SI.v 0) (SI.c (Int.ofNat 100))) (SI.add (SI.v 2) (SI.c (Int.ofNat 1))))
                    SA.nil))))] },
    {
      pc :=
        [SB.eq (SI.add (SI.v 2) (SI.c (Int.ofNat 1))) (SI.v 1),
          SB.eq (SI.app 111 (SA.l (SL.v 0) (SA.i (SI.c (Int.ofNat 1)) SA.nil))) (SI.c (Int.ofNat 0)),
          SB.eq (SI.app 112 (SA.l (SL.v 0) (SA.i (SI.c (Int.ofNat 1)) SA.nil)))
            (SI.sub (SI.add (SI.v 0) (SI.c (Int.ofNat 99))) (SI.v 2)),
          SB.app 130
            (SA.l (SL.app 111 (SA.l (SL.v 0) (SA.i (SI.c (Int.ofNat 1)) SA.nil)))
              (SA.l (SL.v 1000) (SA.i (SI.c (Int.ofNat 64)) SA.nil))),
          SB.eq (SI.len (SL.app 111 (SA.l (SL.v 0) (SA.i (SI.c (Int.ofNat 1)) SA.nil)))) (SI.len (SL.v 0)),
          SB.lt (SI.app 111 (SA.l (SL.v 0) (SA.i (SI.c (Int.ofNat 1)) SA.nil))) (SI.len (SL.v 0)),
          SB.le (SI.c (Int.ofNat 0)) (SI.app 111 (SA.l (SL.v 0) (SA.i (SI.c (Int.ofNat 1)) SA.nil))),
          SB.app 132 (SA.l (SL.v 0) SA.nil), SB.lt (SI.v 2) (SI.v 1), SB.le (SI.c (Int.ofNat 1)) (SI.v 0),
          SB.le (SI.v 0) (SI.c (Int.ofNat 64)), SB.eq (SI.len (SL.v 0)) (SI.c (Int.ofNat 2)),
          SB.le (SI.c (Int.ofNat 0)) (SI.v 2), SB.c true, SB.le (SI.c (Int.ofNat 0)) (SI.v 1), SB.lt (SI.v 1) (SI.v 0),
          SB.le (SI.v 2) (SI.v 1),
          SB.eqL (SL.v 0)
            (SL.app 120
              (SA.i (SI.c (Int.ofNat 100)) (SA.i (SI.sub (SI.add (SI.v 0) (SI.c (Int.ofNat 100))) (SI.v 2)) SA.nil))),
          SB.app 130 (SA.l (SL.v 0) (SA.l (SL.v 1) (SA.i (SI.c (Int.ofNat 64)) SA.nil)))],
      eqs :=
        [Eqn.T
            (SB.eq
              (SI.len
                (SL.app 120
                  (SA.i (SI.c (Int.ofNat 100))
                    (SA.i (SI.sub (SI.add (SI.v 0) (SI.c (Int.ofNat 100))) (SI.v 1)) SA.nil))))
              (SI.c (Int.ofNat 2))),
          Eqn.T
            (SB.app 130
              (SA.l
                (SL.app 120
                  (SA.i (SI.c (Int.ofNat 100))
                    (SA.i (SI.sub (SI.add (SI.v 0) (SI.c (Int.ofNat 100))) (SI.v 1)) SA.nil)))
                (SA.l (SL.v 1000) (SA.i (SI.c (Int.ofNat 64)) SA.nil)))),
          Eqn.I
            (SI.len
              (SL.app 120
                (SA.i (SI.c (Int.ofNat 100)) (SA.i (SI.sub (SI.add (SI.v 0) (SI.c (Int.ofNat 100))) (SI.v 1)) SA.nil))))
            (SI.len (SL.app 111 (SA.l (SL.v 0) (SA.i (SI.c (Int.ofNat 1)) SA.nil)))),
          Eqn.L
            (SL.app 120
              (SA.i (SI.c (Int.ofNat 100)) (SA.i (SI.sub (SI.add (SI.v 0) (SI.c (Int.ofNat 100))) (SI.v 1)) SA.nil)))
            (SL.app 111 (SA.l (SL.v 0) (SA.i (SI.c (Int.ofNat 1)) SA.nil)))] },
    {
      pc :=
        [SB.not (SB.eq (SI.app 111 (SA.l (SL.v 0) (SA.i (SI.c (Int.ofNat 1)) SA.nil))) (SI.c (Int.ofNat 0))),
          SB.eq (SI.app 112 (SA.l (SL.v 0) (SA.i (SI.c (Int.ofNat 1)) SA.nil)))
            (SI.sub (SI.add (SI.v 0) (SI.c (Int.ofNat 99))) (SI.v 2)),
          SB.app 130
            (SA.l (SL.app 111 (SA.l (SL.v 0) (SA.i (SI.c (Int.ofNat 1)) SA.nil)))
              (SA.l (SL.v 1000) (SA.i (SI.c (Int.ofNat 64)) SA.nil))),
          SB.eq (SI.len (SL.app 111 (SA.l (SL.v 0) (SA.i (SI.c (Int.ofNat 1)) SA.nil)))) (SI.len (SL.v 0)),
          SB.lt (SI.app 111 (SA.l (SL.v 0) (SA.i (SI.c (Int.ofNat 1)) SA.nil))) (SI.len (SL.v 0)),
          SB.le (SI.c (Int.ofNat 0)) (SI.app 111 (SA.l (SL.v 0) (SA.i (SI.c (Int.ofNat 1)) SA.nil))),
          SB.app 132 (SA.l (SL.v 0) SA.nil), SB.lt (SI.v 2) (SI.v 1), SB.le (SI.c (Int.ofNat 1)) (SI.v 0),
          SB.le (SI.v 0) (SI.c (Int.ofNat 64)), SB.eq (SI.len (SL.v 0)) (SI.c (Int.ofNat 2)),
          SB.le (SI.c (Int.ofNat 0)) (SI.v 2), SB.c true, SB.le (SI.c (Int.ofNat 0)) (SI.v 1), SB.lt (SI.v 1) (SI.v 0),
          SB.le (SI.v 2) (SI.v 1),
          SB.eqL (SL.v 0)
            (SL.app 120
              (SA.i (SI.c (Int.ofNat 100)) (SA.i (SI.sub (SI.add (SI.v 0) (SI.c (Int.ofNat 100))) (SI.v 2)) SA.nil))),
          SB.app 130 (SA.l (SL.v 0) (SA.l (SL.v 1) (SA.i (SI.c (Int.ofNat 64)) SA.nil)))],
      eqs := [Eqn.T (SB.app 199 SA.nil)] },
    {
      pc :=
        [SB.not
            (SB.eq (SI.app 112 (SA.l (SL.v 0) (SA.i (SI.c (Int.ofNat 1)) SA.nil)))
              (SI.sub (SI.add (SI.v 0) (SI.c (Int.ofNat 99))) (SI.v 2))),
          SB.app 130
            (SA.l (SL.app 111 (SA.l (SL.v 0) (SA.i (SI.c (Int.ofNat 1)) SA.nil)))
              (SA.l (SL.v 1000) (SA.i (SI.c (Int.ofNat 64)) SA.nil))),
          SB.eq (SI.len (SL.app 111 (SA.l (SL.v 0) (SA.i (SI.c (Int.ofNat 1)) SA.nil)))) (SI.len (SL.v 0)),
          SB.lt (SI.app 111 (SA.l (SL.v 0) (SA.i (SI.c (Int.ofNat 1)) SA.nil))) (SI.len (SL.v 0)),
          SB.le (SI.c (Int.ofNat 0)) (SI.app 111 (SA.l (SL.v 0) (SA.i (SI.c (Int.ofNat 1)) SA.nil))),
          SB.app 132 (SA.l (SL.v 0) SA.nil), SB.lt (SI.v 2) (SI.v 1), SB.le (SI.c (Int.ofNat 1)) (SI.v 0),
          SB.le (SI.v 0) (SI.c (Int.ofNat 64)), SB.eq (SI.len (SL.v 0)) (SI.c (Int.ofNat 2)),
          SB.le (SI.c (Int.ofNat 0)) (SI.v 2), SB.c true, SB.le (SI.c (Int.ofNat 0)) (SI.v 1), SB.lt (SI.v 1) (SI.v 0),
          SB.le (SI.v 2) (SI.v 1),
          SB.eqL (SL.v 0)
            (SL.app 120
              (SA.i (SI.c (Int.ofNat 100)) (SA.i (SI.sub (SI.add (SI.v 0) (SI.c (Int.ofNat 100))) (SI.v 2)) SA.nil))),
          SB.app 130 (SA.l (SL.v 0) (SA.l (SL.v 1) (SA.i (SI.c (Int.ofNat 64)) SA.nil)))],
      eqs := [Eqn.T (SB.app 199 SA.nil)] }] := by kernel_rfl
theorem fi2_ok : fi2.ok Φ Try.prog := by
  refine ⟨by kernel_rfl, loop_rule (fun ρ => t7_ok ρ) (loopAt_sub (by kernel_rfl)) fi2_obs ?_⟩
  simp only [and_imp, List.forall_mem_cons, List.not_mem_nil, false_implies, implies_true, and_true, Ob.ok, holds, Eqn.ok, evB_eq, evB_lt, evB_le, evB_not, evB_and, evB_or, evB_eqL, evB_app, evB_v, evB_c, ev_sel, ev_len, ev_v, ev_c, ev_add, ev_sub, ev_mul, ev_quo, ev_rem, ev_bits, ev_wrap, evL_v, evL_lit, evL_app, ev_app, evA_l, evA_i, evA_nil, std_min, std_max, std_cat, std_take, std_drop, std_row, std_set, std_rep, std_find, std_put, std_del, std_flag, std_unflag, std_clr, std_left, std_copy, ints_cons, ints_nil, ofNat_lit, negSucc_lit, decide_eq_true_eq, Bool.and_eq_true, Bool.or_eq_true, Bool.not_eq_true', Bool.and_eq_false_iff, Bool.or_eq_false_iff, decide_eq_false_iff_not, std_rowT, std_setT, lenR_rowT, rowT_get, aI100, aI101, aI102, aI103, aI104, aI105, aI106, aI107, aI110, aI111, aI112, aI113, aI114, aL110, aL111, aL112, aL113, aL115, aL116, aL120, aL121, aB130, aB131, aB132, aB133, aB134, aB135, aB136, aB199]
  repeat' apply And.intro
  all_goals intro ρ hR
  all_goals intros
  all_goals first
    | (omega)
    | (have hT : ρ.l 0 = seqT 100 (ρ.i 0 + 100 - ρ.i 2) := by with_reducible assumption
       have hp := seq_any (a := 100) (b := ρ.i 0 + 100 - ρ.i 2) (by omega)
       rw [← hT] at hp
       exfalso
       exact Bool.false_ne_true (‹anyB _ = false›.symm.trans hp))
    | (have hT : ρ.l 0 = seqT 100 (ρ.i 0 + 100 - ρ.i 2) := by with_reducible assumption
       obtain ⟨p1, p2, p3⟩ := seq_pop1 (a := 100) (b := ρ.i 0 + 100 - ρ.i 2) (by omega)
       rw [hT, p3]
       exact ⟨by omega, by omega, by congr 1; omega⟩)
    | (have hT : ρ.l 0 = seqT 100 (ρ.i 0 + 100 - ρ.i 2) := by with_reducible assumption
       obtain ⟨p1, p2, p3⟩ := seq_pop1 (a := 100) (b := ρ.i 0 + 100 - ρ.i 2) (by omega)
       have hi := ‹invB _ (ρ.l 1000) 64 = true›
       rw [hT, p3] at hi
       have e : ρ.i 0 + 100 - ρ.i 1 = ρ.i 0 + 100 - ρ.i 2 - 1 := by omega
       rw [hT, p3, e]
       exact ⟨rfl, hi, rfl, rfl⟩)
    | (have hT : ρ.l 0 = seqT 100 (ρ.i 0 + 100 - ρ.i 2) := by with_reducible assumption
       obtain ⟨p1, p2, p3⟩ := seq_pop1 (a := 100) (b := ρ.i 0 + 100 - ρ.i 2) (by omega)
       rw [← hT] at p1 p2
       exfalso
       omega)
    | (have hT : ρ.l 0 = seqT 100 (ρ.i 0 + 100 - ρ.i 2) := by with_reducible assumption
       have e : ρ.i 0 + 100 - ρ.i 1 = ρ.i 0 + 100 - ρ.i 2 := by omega
       rw [e, hT]
       exact ⟨rfl, by rw [← hT]; with_reducible assumption, rfl, rfl⟩)
set_option maxRecDepth 100000 in
theorem fi3_obs : loopObs Φ Try.prog t7 1000 fi3.f (loopAt Try.prog fi3.f fi3.id) fi3.n fi3.T k4 fi3.outs = some
  [{
      pc :=
        [SB.not (SB.app 132 (SA.l (SL.v 0) SA.nil)), SB.lt (SI.v 2) (SI.sub (SI.v 0) (SI.v 1)),
          SB.le (SI.c (Int.ofNat 1)) (SI.v 0), SB.le (SI.v 0) (SI.c (Int.ofNat 64)),
          SB.eq (SI.len (SL.v 0)) (SI.c (Int.ofNat 2)), SB.le (SI.c (Int.ofNat 0)) (SI.v 2), SB.c true,
          SB.le (SI.c (Int.ofNat 0)) (SI.v 1), SB.lt (SI.v 1) (SI.v 0), SB.le (SI.v 2) (SI.sub (SI.v 0) (SI.v 1)),
          SB.eqL (SL.v 0)
            (SL.app 120
              (SA.i (SI.add (SI.v 2) (SI.c (Int.ofNat 100)))
                (SA.i (SI.sub (SI.add (SI.v 0) (SI.c (Int.ofNat 100))) (SI.v 1)) SA.nil))),
          SB.app 130 (SA.l (SL.v 0) (SA.l (SL.v 1) (SA.i (SI.c (Int.ofNat 64)) SA.nil)))],
      eqs := [Eqn.T (SB.app 199 SA.nil)] },
    {
      pc :=
        [SB.eq (SI.app 111 (SA.l (SL.v 0) (SA.i (SI.c (Int.ofNat 0)) SA.nil))) (SI.c (Int.ofNat 0)),
          SB.eq (SI.app 112 (SA.l (SL.v 0) (SA.i (SI.c (Int.ofNat 0)) SA.nil)))
            (SI.add (SI.v 2) (SI.c (Int.ofNat 100))),
          SB.app 130
            (SA.l (SL.app 111 (SA.l (SL.v 0) (SA.i (SI.c (Int.ofNat 0)) SA.nil)))
              (SA.l (SL.v 1000) (SA.i (SI.c (Int.ofNat 64)) SA.nil))),
          SB.eq (SI.len (SL.app 111 (SA.l (SL.v 0) (SA.i (SI.c (Int.ofNat 0)) SA.nil)))) (SI.len (SL.v 0)),
          SB.lt (SI.app 111 (SA.l (SL.v 0) (SA.i (SI.c (Int.ofNat 0)) SA.nil))) (SI.len (SL.v 0)),
          SB.le (SI.c (Int.ofNat 0)) (SI.app 111 (SA.l (SL.v 0) (SA.i (SI.c (Int.ofNat 0)) SA.nil))),
          SB.app 132 (SA.l (SL.v 0) SA.nil), SB.lt (SI.v 2) (SI.sub (SI.v 0) (SI.v 1)),
          SB.le (SI.c (Int.ofNat 1)) (SI.v 0), SB.le (SI.v 0) (SI.c (Int.ofNat 64)),
          SB.eq (SI.len (SL.v 0)) (SI.c (Int.ofNat 2)), SB.le (SI.c (Int.ofNat 0)) (SI.v 2), SB.c true,
          SB.le (SI.c (Int.ofNat 0)) (SI.v 1), SB.lt (SI.v 1) (SI.v 0), SB.le (SI.v 2) (SI.sub (SI.v 0) (SI.v 1)),
          SB.eqL (SL.v 0)
            (SL.app 120
              (SA.i (SI.add (SI.v 2) (SI.c (Int.ofNat 100)))
                (SA.i (SI.sub (SI.add (SI.v 0) (SI.c (Int.ofNat 100))) (SI.v 1)) SA.nil))),
          SB.app 130 (SA.l (SL.v 0) (SA.l (SL.v 1) (SA.i (SI.c (Int.ofNat 64)) SA.nil)))],
      eqs :=
        [Eqn.T
            (SB.lt (SI.sub (SI.sub (SI.v 0) (SI.v 1)) (SI.add (SI.v 2) (SI.c (Int.ofNat 1))))
              (SI.sub (SI.sub (SI.v 0) (SI.v 1)) (SI.v 2))),
          Eqn.T (SB.lt (SI.c (Int.ofNat 0)) (SI.sub (SI.sub (SI.v 0) (SI.v 1)) (SI.v 2))),
          Eqn.T
            (SB.eqL (SL.app 111 (SA.l (SL.v 0) (SA.i (SI.c (Int.ofNat 0)) SA.nil)))
              (SL.app 120
                (SA.i (SI.add (SI.v 2) (SI.c (Int.ofNat 101)))
                  (SA.i (SI.sub (SI.add (SI.v 0) (SI.c (Int.ofNat 100))) (SI.v 1)) SA.nil))))] },
    {
      pc :=
        [SB.eq (SI.add (SI.v 2) (SI.c (Int.ofNat 1))) (SI.sub (SI.v 0) (SI.v 1)),
          SB.eq (SI.app 111 (SA.l (SL.v 0) (SA.i (SI.c (Int.ofNat 0)) SA.nil))) (SI.c (Int.ofNat 0)),
          SB.eq (SI.app 112 (SA.l (SL.v 0) (SA.i (SI.c (Int.ofNat 0)) SA.nil)))
            (SI.add (SI.v 2) (SI.c (Int.ofNat 100))),
          SB.app 130
            (SA.l (SL.app 111 (SA.l (SL.v 0) (SA.i (SI.c (Int.ofNat 0)) SA.nil)))
              (SA.l (SL.v 1000) (SA.i (SI.c (Int.ofNat 64)) SA.nil))),
          SB.eq (SI.len (SL.app 111 (SA.l (SL.v 0) (SA.i (SI.c (Int.ofNat 0)) SA.nil)))) (SI.len (SL.v 0)),
          SB.lt (SI.app 111 (SA.l (SL.v 0) (SA.i (SI.c (Int.ofNat 0)) SA.nil))) (SI.len (SL.v 0)),
          SB.le (SI.c (Int.ofNat 0)) (SI.app 111 (SA.l (SL.v 0) (SA.i (SI.c (Int.ofNat 0)) SA.nil))),
          SB.app 132 (SA.l (SL.v 0) SA.nil), SB.lt (SI.v 2) (SI.sub (SI.v 0) (SI.v 1)),
          SB.le (SI.c (Int.ofNat 1)) (SI.v 0), SB.le (SI.v 0) (SI.c (Int.ofNat 64)),
          SB.eq (SI.len (SL.v 0)) (SI.c (Int.ofNat 2)), SB.le (SI.c (Int.ofNat 0)) (SI.v 2), SB.c true,
          SB.le (SI.c (Int.ofNat 0)) (SI.v 1), SB.lt (SI.v 1) (SI.v 0), SB.le (SI.v 2) (SI.sub (SI.v 0) (SI.v 1)),
          SB.eqL (SL.v 0)
            (SL.app 120
              (SA.i (SI.add (SI.v 2) (SI.c (Int.ofNat 100)))
                (SA.i (SI.sub (SI.add (SI.v 0) (SI.c (Int.ofNat 100))) (SI.v 1)) SA.nil))),
          SB.app 130 (SA.l (SL.v 0) (SA.l (SL.v 1) (SA.i (SI.c (Int.ofNat 64)) SA.nil)))],
      eqs :=
        [Eqn.T
            (SB.eq
              (SI.len
                (SL.app 120
                  (SA.i (SI.sub (SI.add (SI.v 0) (SI.c (Int.ofNat 100))) (SI.v 1))
                    (SA.i (SI.sub (SI.add (SI.v 0) (SI.c (Int.ofNat 100))) (SI.v 1)) SA.nil))))
              (SI.c (Int.ofNat 2))),
          Eqn.T
            (SB.app 130
              (SA.l
                (SL.app 120
                  (SA.i (SI.sub (SI.add (SI.v 0) (SI.c (Int.ofNat 100))) (SI.v 1))
                    (SA.i (SI.sub (SI.add (SI.v 0) (SI.c (Int.ofNat 100))) (SI.v 1)) SA.nil)))
                (SA.l (SL.v 1000) (SA.i (SI.c (Int.ofNat 64)) SA.nil)))),
          Eqn.I
            (SI.len
              (SL.app 120
                (SA.i (SI.sub (SI.add (SI.v 0) (SI.c (Int.ofNat 100))) (SI.v 1))
                  (SA.i (SI.sub (SI.add (SI.v 0) (SI.c (Int.ofNat 100))) (SI.v 1)) SA.nil))))
            (SI.len (SL.app 111 (SA.l (SL.v 0) (SA.i (SI.c (Int.ofNat 0)) SA.nil)))),
          Eqn.L
            (SL.app 120
              (SA.i (SI.sub (SI.add (SI.v 0) (SI.c (Int.ofNat 100))) (SI.v 1))
                (SA.i (SI.sub (SI.add (SI.v 0) (SI.c (Int.ofNat 100))) (SI.v 1)) SA.nil)))
            (SL.app 111 (SA.l (SL.v 0) (SA.i (SI.c (Int.ofNat 0)) SA.nil)))] },
    {
      pc :=
        [SB.not (SB.eq (SI.app 111 (SA.l (SL.v 0) (SA.i (SI.c (Int.ofNat 0)) SA.nil))) (SI.c (Int.ofNat 0))),
          SB.eq (SI.app 112 (SA.l (SL.v 0) (SA.i (SI.c (Int.ofNat 0)) SA.nil)))
            (SI.add (SI.v 2) (SI.c (Int.ofNat 100))),
          SB.app 130
            (SA.l (SL.app 111 (SA.l (SL.v 0) (SA.i (SI.c (Int.ofNat 0)) SA.nil)))
              (SA.l (SL.v 1000) (SA.i (SI.c (Int.ofNat 64)) SA.nil))),
          SB.eq (SI.len (SL.app 111 (SA.l (SL.v 0) (SA.i (SI.c (Int.ofNat 0)) SA.nil)))) (SI.len (SL.v 0)),
          SB.lt (SI.app 111 (SA.l (SL.v 0) (SA.i (SI.c (Int.ofNat 0)) SA.nil))) (SI.len (SL.v 0)),
          SB.le (SI.c (Int.ofNat 0)) (SI.app 111 (SA.l (SL.v 0) (SA.i (SI.c (Int.ofNat 0)) SA.nil))),
          SB.app 132 (SA.l (SL.v 0) SA.nil), SB.lt (SI.v 2) (SI.sub (SI.v 0) (SI.v 1)),
          SB.le (SI.c (Int.ofNat 1)) (SI.v 0), SB.le (SI.v 0) (SI.c (Int.ofNat 64)),
          SB.eq (SI.len (SL.v 0)) (SI.c (Int.ofNat 2)), SB.le (SI.c (Int.ofNat 0)) (SI.v 2), SB.c true,
          SB.le (SI.c (Int.ofNat 0)) (SI.v 1), SB.lt (SI.v 1) (SI.v 0), SB.le (SI.v 2) (SI.sub (SI.v 0) (SI.v 1)),
          SB.eqL (SL.v 0)
            (SL.app 120
              (SA.i (SI.add (SI.v 2) (SI.c (Int.ofNat 100)))
                (SA.i (SI.sub (SI.add (SI.v 0) (SI.c (Int.ofNat 100))) (SI.v 1)) SA.nil))),
          SB.app 130 (SA.l (SL.v 0) (SA.l (SL.v 1) (SA.i (SI.c (Int.ofNat 64)) SA.nil)))],
      eqs := [Eqn.T (SB.app 199 SA.nil)] },
    {
      pc :=
        [SB.not
            (SB.eq (SI.app 112 (SA.l (SL.v 0) (SA.i (SI.c (Int.ofNat 0)) SA.nil)))
              (SI.add (SI.v 2) (SI.c (Int.ofNat 100)))),
          SB.app 130
            (SA.l (SL.app 111 (SA.l (SL.v 0) (SA.i (SI.c (Int.ofNat 0)) SA.nil)))
              (SA.l (SL.v 1000) (SA.i (SI.c (Int.ofNat 64)) SA.nil))),
          SB.eq (SI.len (SL.app 111 (SA.l (SL.v 0) (SA.i (SI.c (Int.ofNat 0)) SA.nil)))) (SI.len (SL.v 0)),
          SB.lt (SI.app 111 (SA.l (SL.v 0) (SA.i (SI.c (Int.ofNat 0)) SA.nil))) (SI.len (SL.v 0)),
          SB.le (SI.c (Int.ofNat 0)) (SI.app 111 (SA.l (SL.v 0) (SA.i (SI.c (Int.ofNat 0)) SA.nil))),
          SB.app 132 (SA.l (SL.v 0) SA.nil), SB.lt (SI.v 2) (SI.sub (SI.v 0) (SI.v 1)),
          SB.le (SI.c (Int.ofNat 1)) (SI.v 0), SB.le (SI.v 0) (SI.c (Int.ofNat 64)),
          SB.eq (SI.len (SL.v 0)) (SI.c (Int.ofNat 2)), SB.le (SI.c (Int.ofNat 0)) (SI.v 2), SB.c true,
          SB.le (SI.c (Int.ofNat 0)) (SI.v 1), SB.lt (SI.v 1) (SI.v 0), SB.le (SI.v 2) (SI.sub (SI.v 0) (SI.v 1)),
          SB.eqL (SL.v 0)
            (SL.app 120
              (SA.i (SI.add (SI.v 2) (SI.c (Int.ofNat 100)))
                (SA.i (SI.sub (SI.add (SI.v 0) (SI.c (Int.ofNat 100))) (SI.v 1)) SA.nil))),
          SB.app 130 (SA.l (SL.v 0) (SA.l (SL.v 1) (SA.i (SI.c (Int.ofNat 64)) SA.nil)))],
      eqs := [Eqn.T (SB.app 199 SA.nil)] }] := by kernel_rfl
theorem fi3_ok : fi3.ok Φ Try.prog := by
  refine ⟨by kernel_rfl, loop_rule (fun ρ => t7_ok ρ) (loopAt_sub (by kernel_rfl)) fi3_obs ?_⟩
  simp only [and_imp, List.forall_mem_cons, List.not_mem_nil, false_implies, implies_true, and_true, Ob.ok, holds, Eqn.ok, evB_eq, evB_lt, evB_le, evB_not, evB_and, evB_or, evB_eqL, evB_app, evB_v, evB_c, ev_sel, ev_len, ev_v, ev_c, ev_add, ev_sub, ev_mul, ev_quo, ev_rem, ev_bits, ev_wrap, evL_v, evL_lit, evL_app, ev_app, evA_l, evA_i, evA_nil, std_min, std_max, std_cat, std_take, std_drop, std_row, std_set, std_rep, std_find, std_put, std_del, std_flag, std_unflag, std_clr, std_left, std_copy, ints_cons, ints_nil, ofNat_lit, negSucc_lit, decide_eq_true_eq, Bool.and_eq_true, Bool.or_eq_true, Bool.not_eq_true', Bool.and_eq_false_iff, Bool.or_eq_false_iff, decide_eq_false_iff_not, std_rowT, std_setT, lenR_rowT, rowT_get, aI100, aI101, aI102, aI103, aI104, aI105, aI106, aI107, aI110, aI111, aI112, aI113, aI114, aL110, aL111, aL112, aL113, aL115, aL116, aL120, aL121, aB130, aB131, aB132, aB133, aB134, aB135, aB136, aB199]
  repeat' apply And.intro
  all_goals intro ρ hR
  all_goals intros
  all_goals first
    | (omega)
    | (have hT : ρ.l 0 = seqT (ρ.i 2 + 100) (ρ.i 0 + 100 - ρ.i 1) := by with_reducible assumption
       have hp := seq_any (a := ρ.i 2 + 100) (b := ρ.i 0 + 100 - ρ.i 1) (by omega)
       rw [← hT] at hp
       exfalso
       exact Bool.false_ne_true (‹anyB _ = false›.symm.trans hp))
    | (have hT : ρ.l 0 = seqT (ρ.i 2 + 100) (ρ.i 0 + 100 - ρ.i 1) := by with_reducible assumption
       obtain ⟨p1, p2, p3⟩ := seq_pop0 (a := ρ.i 2 + 100) (b := ρ.i 0 + 100 - ρ.i 1) (by omega)
       rw [hT, p3]
       exact ⟨by omega, by omega, by congr 1; omega⟩)
    | (have hT : ρ.l 0 = seqT (ρ.i 2 + 100) (ρ.i 0 + 100 - ρ.i 1) := by with_reducible assumption
       obtain ⟨p1, p2, p3⟩ := seq_pop0 (a := ρ.i 2 + 100) (b := ρ.i 0 + 100 - ρ.i 1) (by omega)
       have hi := ‹invB _ (ρ.l 1000) 64 = true›
       rw [hT, p3] at hi
       have e : ρ.i 2 + 100 + 1 = ρ.i 0 + 100 - ρ.i 1 := by omega
       rw [e] at hi p3
       rw [hT, p3]
       exact ⟨rfl, hi, rfl, rfl⟩)
    | (have hT : ρ.l 0 = seqT (ρ.i 2 + 100) (ρ.i 0 + 100 - ρ.i 1) := by with_reducible assumption
       obtain ⟨p1, p2, p3⟩ := seq_pop0 (a := ρ.i 2 + 100) (b := ρ.i 0 + 100 - ρ.i 1) (by omega)
       rw [← hT] at p1 p2
       exfalso
       omega)
    | (have hT : ρ.l 0 = seqT (ρ.i 2 + 100) (ρ.i 0 + 100 - ρ.i 1) := by with_reducible assumption
       have e : ρ.i 2 + 100 = ρ.i 0 + 100 - ρ.i 1 := by omega
       rw [e] at hT
       rw [hT]
       exact ⟨rfl, by rw [← hT]; with_reducible assumption, rfl, rfl⟩)
theorem t9_ok (ρ : Env) : TblOK Φ ρ Try.prog t9 := addLp_ok (addLp_ok (addLp_ok (t7_ok ρ) fi1_ok) fi2_ok) fi3_ok
set_option maxRecDepth 100000 in
theorem lFifo0_obs : callObs Φ Try.prog t9 1000 lFifo0.f lFifo0.vs lFifo0.o lFifo0.pc lFifo0.outs = some
  [{
      pc :=
        [SB.not
            (SB.eq
              (SI.app 104
                (SA.l
                  (SL.app 120
                    (SA.i
                      (SI.sub (SI.add (SI.rem (SI.v 0) (SI.c (Int.ofNat 64))) (SI.c (Int.ofNat 101)))
                        (SI.rem (SI.v 1) (SI.add (SI.rem (SI.v 0) (SI.c (Int.ofNat 64))) (SI.c (Int.ofNat 1)))))
                      (SA.i
                        (SI.sub (SI.add (SI.rem (SI.v 0) (SI.c (Int.ofNat 64))) (SI.c (Int.ofNat 101)))
                          (SI.rem (SI.v 1) (SI.add (SI.rem (SI.v 0) (SI.c (Int.ofNat 64))) (SI.c (Int.ofNat 1)))))
                        SA.nil)))
                  SA.nil))
              (SI.c (Int.ofNat 0))),
          SB.app 130
            (SA.l
              (SL.app 120
                (SA.i
                  (SI.sub (SI.add (SI.rem (SI.v 0) (SI.c (Int.ofNat 64))) (SI.c (Int.ofNat 101)))
                    (SI.rem (SI.v 1) (SI.add (SI.rem (SI.v 0) (SI.c (Int.ofNat 64))) (SI.c (Int.ofNat 1)))))
                  (SA.i
                    (SI.sub (SI.add (SI.rem (SI.v 0) (SI.c (Int.ofNat 64))) (SI.c (Int.ofNat 101)))
                      (SI.rem (SI.v 1) (SI.add (SI.rem (SI.v 0) (SI.c (Int.ofNat 64))) (SI.c (Int.ofNat 1)))))
                    SA.nil)))
              (SA.l (SL.v 2000) (SA.i (SI.c (Int.ofNat 64)) SA.nil))),
          SB.eq
            (SI.len
              (SL.app 120
                (SA.i
                  (SI.sub (SI.add (SI.rem (SI.v 0) (SI.c (Int.ofNat 64))) (SI.c (Int.ofNat 101)))
                    (SI.rem (SI.v 1) (SI.add (SI.rem (SI.v 0) (SI.c (Int.ofNat 64))) (SI.c (Int.ofNat 1)))))
                  (SA.i
                    (SI.sub (SI.add (SI.rem (SI.v 0) (SI.c (Int.ofNat 64))) (SI.c (Int.ofNat 101)))
                      (SI.rem (SI.v 1) (SI.add (SI.rem (SI.v 0) (SI.c (Int.ofNat 64))) (SI.c (Int.ofNat 1)))))
                    SA.nil))))
            (SI.c (Int.ofNat 2)),
          SB.eqL
            (SL.app 120
              (SA.i (SI.c (Int.ofNat 100))
                (SA.i (SI.add (SI.rem (SI.v 0) (SI.c (Int.ofNat 64))) (SI.c (Int.ofNat 101))) SA.nil)))
            (SL.app 120
              (SA.i (SI.c (Int.ofNat 100))
                (SA.i
                  (SI.sub (SI.add (SI.rem (SI.v 0) (SI.c (Int.ofNat 64))) (SI.c (Int.ofNat 101)))
                    (SI.rem (SI.v 1) (SI.add (SI.rem (SI.v 0) (SI.c (Int.ofNat 64))) (SI.c (Int.ofNat 1)))))
                  SA.nil))),
          SB.eq (SI.rem (SI.v 1) (SI.add (SI.rem (SI.v 0) (SI.c (Int.ofNat 64))) (SI.c (Int.ofNat 1))))
            (SI.c (Int.ofNat 0)),
          SB.app 130
            (SA.l
              (SL.app 120
                (SA.i (SI.c (Int.ofNat 100))
                  (SA.i (SI.add (SI.rem (SI.v 0) (SI.c (Int.ofNat 64))) (SI.c (Int.ofNat 101))) SA.nil)))
              (SA.l (SL.v 1000) (SA.i (SI.c (Int.ofNat 64)) SA.nil))),
          SB.eq
            (SI.len
              (SL.app 120
                (SA.i (SI.c (Int.ofNat 100))
                  (SA.i (SI.add (SI.rem (SI.v 0) (SI.c (Int.ofNat 64))) (SI.c (Int.ofNat 101))) SA.nil))))
            (SI.c (Int.ofNat 2)),
          SB.le (SI.c (Int.ofNat 0))
            (SI.rem (SI.v 1) (SI.add (SI.rem (SI.v 0) (SI.c (Int.ofNat 64))) (SI.c (Int.ofNat 1)))),
          SB.lt (SI.rem (SI.v 1) (SI.add (SI.rem (SI.v 0) (SI.c (Int.ofNat 64))) (SI.c (Int.ofNat 1))))
            (SI.add (SI.rem (SI.v 0) (SI.c (Int.ofNat 64))) (SI.c (Int.ofNat 1))),
          SB.le (SI.c (Int.ofNat 0)) (SI.v 0), SB.le (SI.v 0) (SI.c (Int.ofNat 255)),
          SB.le (SI.c (Int.ofNat 0)) (SI.v 1), SB.le (SI.v 1) (SI.c (Int.ofNat 255))],
      eqs := [Eqn.T (SB.app 199 SA.nil)] },
    {
      pc :=
        [SB.not
            (SB.eqL
              (SL.app 120
                (SA.i (SI.c (Int.ofNat 100))
                  (SA.i (SI.add (SI.rem (SI.v 0) (SI.c (Int.ofNat 64))) (SI.c (Int.ofNat 101))) SA.nil)))
              (SL.app 120
                (SA.i (SI.c (Int.ofNat 100))
                  (SA.i
                    (SI.sub (SI.add (SI.rem (SI.v 0) (SI.c (Int.ofNat 64))) (SI.c (Int.ofNat 101)))
                      (SI.rem (SI.v 1) (SI.add (SI.rem (SI.v 0) (SI.c (Int.ofNat 64))) (SI.c (Int.ofNat 1)))))
                    SA.nil)))),
          SB.eq (SI.rem (SI.v 1) (SI.add (SI.rem (SI.v 0) (SI.c (Int.ofNat 64))) (SI.c (Int.ofNat 1))))
            (SI.c (Int.ofNat 0)),
          SB.app 130
            (SA.l
              (SL.app 120
                (SA.i (SI.c (Int.ofNat 100))
                  (SA.i (SI.add (SI.rem (SI.v 0) (SI.c (Int.ofNat 64))) (SI.c (Int.ofNat 101))) SA.nil)))
              (SA.l (SL.v 1000) (SA.i (SI.c (Int.ofNat 64)) SA.nil))),
          SB.eq
            (SI.len
              (SL.app 120
                (SA.i (SI.c (Int.ofNat 100))
                  (SA.i (SI.add (SI.rem (SI.v 0) (SI.c (Int.ofNat 64))) (SI.c (Int.ofNat 101))) SA.nil))))
            (SI.c (Int.ofNat 2)),
          SB.le (SI.c (Int.ofNat 0))
            (SI.rem (SI.v 1) (SI.add (SI.rem (SI.v 0) (SI.c (Int.ofNat 64))) (SI.c (Int.ofNat 1)))),
          SB.lt (SI.rem (SI.v 1) (SI.add (SI.rem (SI.v 0) (SI.c (Int.ofNat 64))) (SI.c (Int.ofNat 1))))
            (SI.add (SI.rem (SI.v 0) (SI.c (Int.ofNat 64))) (SI.c (Int.ofNat 1))),
          SB.le (SI.c (Int.ofNat 0)) (SI.v 0), SB.le (SI.v 0) (SI.c (Int.ofNat 255)),
          SB.le (SI.c (Int.ofNat 0)) (SI.v 1), SB.le (SI.v 1) (SI.c (Int.ofNat 255))],
      eqs := [Eqn.T (SB.c false)] },
    {
      pc :=
        [SB.not
            (SB.eq
              (SI.app 104
                (SA.l
                  (SL.app 120
                    (SA.i (SI.c (Int.ofNat 100))
                      (SA.i
                        (SI.sub (SI.add (SI.rem (SI.v 0) (SI.c (Int.ofNat 64))) (SI.c (Int.ofNat 101)))
                          (SI.rem (SI.v 1) (SI.add (SI.rem (SI.v 0) (SI.c (Int.ofNat 64))) (SI.c (Int.ofNat 1)))))
                        SA.nil)))
                  SA.nil))
              (SI.c (Int.ofNat 0))),
          SB.eq
            (SI.sub (SI.add (SI.rem (SI.v 0) (SI.c (Int.ofNat 64))) (SI.c (Int.ofNat 1)))
              (SI.rem (SI.v 1) (SI.add (SI.rem (SI.v 0) (SI.c (Int.ofNat 64))) (SI.c (Int.ofNat 1)))))
            (SI.c (Int.ofNat 0)),
          SB.le (SI.c (Int.ofNat 0))
            (SI.sub (SI.add (SI.rem (SI.v 0) (SI.c (Int.ofNat 64))) (SI.c (Int.ofNat 1)))
              (SI.rem (SI.v 1) (SI.add (SI.rem (SI.v 0) (SI.c (Int.ofNat 64))) (SI.c (Int.ofNat 1))))),
          SB.app 130
            (SA.l
              (SL.app 120
                (SA.i (SI.c (Int.ofNat 100))
                  (SA.i
                    (SI.sub (SI.add (SI.rem (SI.v 0) (SI.c (Int.ofNat 64))) (SI.c (Int.ofNat 101)))
                      (SI.rem (SI.v 1) (SI.add (SI.rem (SI.v 0) (SI.c (Int.ofNat 64))) (SI.c (Int.ofNat 1)))))
                    SA.nil)))
              (SA.l (SL.v 2000) (SA.i (SI.c (Int.ofNat 64)) SA.nil))),
          SB.eq
            (SI.len
              (SL.app 120
                (SA.i (SI.c (Int.ofNat 100))
                  (SA.i
                    (SI.sub (SI.add (SI.rem (SI.v 0) (SI.c (Int.ofNat 64))) (SI.c (Int.ofNat 101)))
                      (SI.rem (SI.v 1) (SI.add (SI.rem (SI.v 0) (SI.c (Int.ofNat 64))) (SI.c (Int.ofNat 1)))))
                    SA.nil))))
            (SI.c (Int.ofNat 2)),
          SB.app 130
            (SA.l
              (SL.app 120
                (SA.i (SI.c (Int.ofNat 100))
                  (SA.i (SI.add (SI.rem (SI.v 0) (SI.c (Int.ofNat 64))) (SI.c (Int.ofNat 101))) SA.nil)))
              (SA.l (SL.v 1000) (SA.i (SI.c (Int.ofNat 64)) SA.nil))),
          SB.eq
            (SI.len
              (SL.app 120
                (SA.i (SI.c (Int.ofNat 100))
                  (SA.i (SI.add (SI.rem (SI.v 0) (SI.c (Int.ofNat 64))) (SI.c (Int.ofNat 101))) SA.nil))))
            (SI.c (Int.ofNat 2)),
          SB.le (SI.c (Int.ofNat 0))
            (SI.rem (SI.v 1) (SI.add (SI.rem (SI.v 0) (SI.c (Int.ofNat 64))) (SI.c (Int.ofNat 1)))),
          SB.lt (SI.rem (SI.v 1) (SI.add (SI.rem (SI.v 0) (SI.c (Int.ofNat 64))) (SI.c (Int.ofNat 1))))
            (SI.add (SI.rem (SI.v 0) (SI.c (Int.ofNat 64))) (SI.c (Int.ofNat 1))),
          SB.le (SI.c (Int.ofNat 0)) (SI.v 0), SB.le (SI.v 0) (SI.c (Int.ofNat 255)),
          SB.le (SI.c (Int.ofNat 0)) (SI.v 1), SB.le (SI.v 1) (SI.c (Int.ofNat 255))],
      eqs := [Eqn.T (SB.app 199 SA.nil)] },
    {
      pc :=
        [SB.not
            (SB.eq
              (SI.app 104
                (SA.l
                  (SL.app 120
                    (SA.i
                      (SI.sub (SI.add (SI.rem (SI.v 0) (SI.c (Int.ofNat 64))) (SI.c (Int.ofNat 101)))
                        (SI.rem (SI.v 1) (SI.add (SI.rem (SI.v 0) (SI.c (Int.ofNat 64))) (SI.c (Int.ofNat 1)))))
                      (SA.i
                        (SI.sub (SI.add (SI.rem (SI.v 0) (SI.c (Int.ofNat 64))) (SI.c (Int.ofNat 101)))
                          (SI.rem (SI.v 1) (SI.add (SI.rem (SI.v 0) (SI.c (Int.ofNat 64))) (SI.c (Int.ofNat 1)))))
                        SA.nil)))
                  SA.nil))
              (SI.c (Int.ofNat 0))),
          SB.app 130
            (SA.l
              (SL.app 120
                (SA.i
                  (SI.sub (SI.add (SI.rem (SI.v 0) (SI.c (Int.ofNat 64))) (SI.c (Int.ofNat 101)))
                    (SI.rem (SI.v 1) (SI.add (SI.rem (SI.v 0) (SI.c (Int.ofNat 64))) (SI.c (Int.ofNat 1)))))
                  (SA.i
                    (SI.sub (SI.add (SI.rem (SI.v 0) (SI.c (Int.ofNat 64))) (SI.c (Int.ofNat 101)))
                      (SI.rem (SI.v 1) (SI.add (SI.rem (SI.v 0) (SI.c (Int.ofNat 64))) (SI.c (Int.ofNat 1)))))
                    SA.nil)))
              (SA.l (SL.v 3000) (SA.i (SI.c (Int.ofNat 64)) SA.nil))),
          SB.eq
            (SI.len
              (SL.app 120
                (SA.i
                  (SI.sub (SI.add (SI.rem (SI.v 0) (SI.c (Int.ofNat 64))) (SI.c (Int.ofNat 101)))
                    (SI.rem (SI.v 1) (SI.add (SI.rem (SI.v 0) (SI.c (Int.ofNat 64))) (SI.c (Int.ofNat 1)))))
                  (SA.i
                    (SI.sub (SI.add (SI.rem (SI.v 0) (SI.c (Int.ofNat 64))) (SI.c (Int.ofNat 101)))
                      (SI.rem (SI.v 1) (SI.add (SI.rem (SI.v 0) (SI.c (Int.ofNat 64))) (SI.c (Int.ofNat 1)))))
                    SA.nil))))
            (SI.c (Int.ofNat 2)),
          SB.le (SI.c (Int.ofNat 0))
            (SI.sub (SI.add (SI.rem (SI.v 0) (SI.c (Int.ofNat 64))) (SI.c (Int.ofNat 1)))
              (SI.rem (SI.v 1) (SI.add (SI.rem (SI.v 0) (SI.c (Int.ofNat 64))) (SI.c (Int.ofNat 1))))),
          SB.app 130
            (SA.l
              (SL.app 120
                (SA.i (SI.c (Int.ofNat 100))
                  (SA.i
                    (SI.sub (SI.add (SI.rem (SI.v 0) (SI.c (Int.ofNat 64))) (SI.c (Int.ofNat 101)))
                      (SI.rem (SI.v 1) (SI.add (SI.rem (SI.v 0) (SI.c (Int.ofNat 64))) (SI.c (Int.ofNat 1)))))
                    SA.nil)))
              (SA.l (SL.v 2000) (SA.i (SI.c (Int.ofNat 64)) SA.nil))),
          SB.eq
            (SI.len
              (SL.app 120
                (SA.i (SI.c (Int.ofNat 100))
                  (SA.i
                    (SI.sub (SI.add (SI.rem (SI.v 0) (SI.c (Int.ofNat 64))) (SI.c (Int.ofNat 101)))
                      (SI.rem (SI.v 1) (SI.add (SI.rem (SI.v 0) (SI.c (Int.ofNat 64))) (SI.c (Int.ofNat 1)))))
                    SA.nil))))
            (SI.c (Int.ofNat 2)),
          SB.app 130
            (SA.l
              (SL.app 120
                (SA.i (SI.c (Int.ofNat 100))
                  (SA.i (SI.add (SI.rem (SI.v 0) (SI.c (Int.ofNat 64))) (SI.c (Int.ofNat 101))) SA.nil)))
              (SA.l (SL.v 1000) (SA.i (SI.c (Int.ofNat 64)) SA.nil))),
          SB.eq
            (SI.len
              (SL.app 120
                (SA.i (SI.c (Int.ofNat 100))
                  (SA.i (SI.add (SI.rem (SI.v 0) (SI.c (Int.ofNat 64))) (SI.c (Int.ofNat 101))) SA.nil))))
            (SI.c (Int.ofNat 2)),
          SB.le (SI.c (Int.ofNat 0))
            (SI.rem (SI.v 1) (SI.add (SI.rem (SI.v 0) (SI.c (Int.ofNat 64))) (SI.c (Int.ofNat 1)))),
          SB.lt (SI.rem (SI.v 1) (SI.add (SI.rem (SI.v 0) (SI.c (Int.ofNat 64))) (SI.c (Int.ofNat 1))))
            (SI.add (SI.rem (SI.v 0) (SI.c (Int.ofNat 64))) (SI.c (Int.ofNat 1))),
          SB.le (SI.c (Int.ofNat 0)) (SI.v 0), SB.le (SI.v 0) (SI.c (Int.ofNat 255)),
          SB.le (SI.c (Int.ofNat 0)) (SI.v 1), SB.le (SI.v 1) (SI.c (Int.ofNat 255))],
      eqs := [Eqn.T (SB.app 199 SA.nil)] },
    {
      pc :=
        [SB.not
            (SB.le (SI.c (Int.ofNat 0))
              (SI.sub (SI.add (SI.rem (SI.v 0) (SI.c (Int.ofNat 64))) (SI.c (Int.ofNat 1)))
                (SI.rem (SI.v 1) (SI.add (SI.rem (SI.v 0) (SI.c (Int.ofNat 64))) (SI.c (Int.ofNat 1)))))),
          SB.app 130
            (SA.l
              (SL.app 120
                (SA.i (SI.c (Int.ofNat 100))
                  (SA.i
                    (SI.sub (SI.add (SI.rem (SI.v 0) (SI.c (Int.ofNat 64))) (SI.c (Int.ofNat 101)))
                      (SI.rem (SI.v 1) (SI.add (SI.rem (SI.v 0) (SI.c (Int.ofNat 64))) (SI.c (Int.ofNat 1)))))
                    SA.nil)))
              (SA.l (SL.v 2000) (SA.i (SI.c (Int.ofNat 64)) SA.nil))),
          SB.eq
            (SI.len
              (SL.app 120
                (SA.i (SI.c (Int.ofNat 100))
                  (SA.i
                    (SI.sub (SI.add (SI.rem (SI.v 0) (SI.c (Int.ofNat 64))) (SI.c (Int.ofNat 101)))
                      (SI.rem (SI.v 1) (SI.add (SI.rem (SI.v 0) (SI.c (Int.ofNat 64))) (SI.c (Int.ofNat 1)))))
                    SA.nil))))
            (SI.c (Int.ofNat 2)),
          SB.app 130
            (SA.l
              (SL.app 120
                (SA.i (SI.c (Int.ofNat 100))
                  (SA.i (SI.add (SI.rem (SI.v 0) (SI.c (Int.ofNat 64))) (SI.c (Int.ofNat 101))) SA.nil)))
              (SA.l (SL.v 1000) (SA.i (SI.c (Int.ofNat 64)) SA.nil))),
          SB.eq
            (SI.len
              (SL.app 120
                (SA.i (SI.c (Int.ofNat 100))
                  (SA.i (SI.add (SI.rem (SI.v 0) (SI.c (Int.ofNat 64))) (SI.c (Int.ofNat 101))) SA.nil))))
            (SI.c (Int.ofNat 2)),
          SB.le (SI.c (Int.ofNat 0))
            (SI.rem (SI.v 1) (SI.add (SI.rem (SI.v 0) (SI.c (Int.ofNat 64))) (SI.c (Int.ofNat 1)))),
          SB.lt (SI.rem (SI.v 1) (SI.add (SI.rem (SI.v 0) (SI.c (Int.ofNat 64))) (SI.c (Int.ofNat 1))))
            (SI.add (SI.rem (SI.v 0) (SI.c (Int.ofNat 64))) (SI.c (Int.ofNat 1))),
          SB.le (SI.c (Int.ofNat 0)) (SI.v 0), SB.le (SI.v 0) (SI.c (Int.ofNat 255)),
          SB.le (SI.c (Int.ofNat 0)) (SI.v 1), SB.le (SI.v 1) (SI.c (Int.ofNat 255))],
      eqs := [Eqn.T (SB.c false)] },
    {
      pc :=
        [SB.not
            (SB.le (SI.c (Int.ofNat 0))
              (SI.rem (SI.v 1) (SI.add (SI.rem (SI.v 0) (SI.c (Int.ofNat 64))) (SI.c (Int.ofNat 1))))),
          SB.le (SI.c (Int.ofNat 0)) (SI.v 0), SB.le (SI.v 0) (SI.c (Int.ofNat 255)),
          SB.le (SI.c (Int.ofNat 0)) (SI.v 1), SB.le (SI.v 1) (SI.c (Int.ofNat 255))],
      eqs := [Eqn.T (SB.c false)] },
    {
      pc :=
        [SB.not
            (SB.lt (SI.rem (SI.v 1) (SI.add (SI.rem (SI.v 0) (SI.c (Int.ofNat 64))) (SI.c (Int.ofNat 1))))
              (SI.add (SI.rem (SI.v 0) (SI.c (Int.ofNat 64))) (SI.c (Int.ofNat 1)))),
          SB.le (SI.c (Int.ofNat 0)) (SI.v 0), SB.le (SI.v 0) (SI.c (Int.ofNat 255)),
          SB.le (SI.c (Int.ofNat 0)) (SI.v 1), SB.le (SI.v 1) (SI.c (Int.ofNat 255))],
      eqs := [Eqn.T (SB.c false)] }] := by kernel_rfl
theorem lFifo0_ok : lFifo0.ok Φ Try.prog := by
  refine call_rule (fun ρ => t9_ok ρ) lFifo0_obs ?_
  simp only [and_imp, List.forall_mem_cons, List.not_mem_nil, false_implies, implies_true, and_true, Ob.ok, holds, Eqn.ok, evB_eq, evB_lt, evB_le, evB_not, evB_and, evB_or, evB_eqL, evB_app, evB_v, evB_c, ev_sel, ev_len, ev_v, ev_c, ev_add, ev_sub, ev_mul, ev_quo, ev_rem, ev_bits, ev_wrap, evL_v, evL_lit, evL_app, ev_app, evA_l, evA_i, evA_nil, std_min, std_max, std_cat, std_take, std_drop, std_row, std_set, std_rep, std_find, std_put, std_del, std_flag, std_unflag, std_clr, std_left, std_copy, ints_cons, ints_nil, ofNat_lit, negSucc_lit, decide_eq_true_eq, Bool.and_eq_true, Bool.or_eq_true, Bool.not_eq_true', Bool.and_eq_false_iff, Bool.or_eq_false_iff, decide_eq_false_iff_not, std_rowT, std_setT, lenR_rowT, rowT_get, aI100, aI101, aI102, aI103, aI104, aI105, aI106, aI107, aI110, aI111, aI112, aI113, aI114, aL110, aL111, aL112, aL113, aL115, aL116, aL120, aL121, aB130, aB131, aB132, aB133, aB134, aB135, aB136, aB199]
  repeat' apply And.intro
  all_goals intro ρ hR
  all_goals intros
  all_goals first
    | (exfalso
       have h := ‹¬ total (seqT _ _) = 0›
       rw [seq_total (by omega)] at h
       omega)
    | (have hz : (ρ.i 1).tmod ((ρ.i 0).tmod 64 + 1) = 0 := by with_reducible assumption
       exfalso
       have h := ‹¬ seqT _ _ = seqT _ _›
       rw [hz] at h
       exact h (by congr 1; omega))
    | (have h0 := Int.tmod_nonneg (a := ρ.i 0) 64 (by omega)
       have h1 := Int.tmod_lt_of_pos (ρ.i 0) (b := 64) (by decide)
       have h2 := Int.tmod_nonneg (a := ρ.i 1) ((ρ.i 0).tmod 64 + 1) (by omega)
       have h3 := Int.tmod_lt_of_pos (ρ.i 1) (b := (ρ.i 0).tmod 64 + 1) (by omega)
       exfalso
       omega)
theorem lFifo_ok : lFifo.ok Φ Try.prog := drop_never rfl lFifo0_ok
end Go.SF.C17
