/- Proofs of the laws of what is late, and of what ends. -/
import Derived.Test.YtfcakaakdeakpaaQ6
import Derived.Test.YtfcakaakdeakpaaC3
import Derived.KernelRfl
namespace Go.SF.C10
open Go Go.SF Go.Proofs
set_option linter.unusedVariables false
set_option linter.unusedSimpArgs false

set_option maxRecDepth 100000 in
theorem lt2_obs : loopObs Φ Try.prog t10 1000 lt2.f (loopAt Try.prog lt2.f lt2.id) lt2.n lt2.T i6 lt2.outs = some
  [{
      pc :=
        [SB.v 0,
          SB.or (SB.or (SB.lt (SI.v 2) (SI.c (Int.ofNat 0))) (SB.le (SI.len (SL.v 0)) (SI.v 2)))
            (SB.eq (SI.sel (SL.v 0) (SI.v 2) 0) (SI.c (Int.negSucc 0))),
          SB.lt (SI.v 2) (SI.c (Int.ofNat 4)), SB.le (SI.c (Int.ofNat 0)) (SI.v 0),
          SB.le (SI.v 0) (SI.c (Int.ofNat 120)), SB.le (SI.c (Int.ofNat 0)) (SI.v 1), SB.le (SI.v 1) (SI.v 0),
          SB.eq (SI.len (SL.v 0)) (SI.c (Int.ofNat 4)), SB.le (SI.len (SL.v 1)) (SI.v 0),
          SB.app 151 (SA.l (SL.v 0) (SA.i (SI.v 1) SA.nil)), SB.le (SI.c (Int.ofNat 0)) (SI.v 2),
          SB.le (SI.v 2) (SI.c (Int.ofNat 4))],
      eqs :=
        [Eqn.T
            (SB.lt (SI.sub (SI.c (Int.ofNat 4)) (SI.add (SI.v 2) (SI.c (Int.ofNat 1))))
              (SI.sub (SI.c (Int.ofNat 4)) (SI.v 2)))] },
    {
      pc :=
        [SB.v 0,
          SB.or (SB.or (SB.lt (SI.v 2) (SI.c (Int.ofNat 0))) (SB.le (SI.len (SL.v 0)) (SI.v 2)))
            (SB.eq (SI.sel (SL.v 0) (SI.v 2) 0) (SI.c (Int.negSucc 0))),
          SB.lt (SI.v 2) (SI.c (Int.ofNat 4)), SB.le (SI.c (Int.ofNat 0)) (SI.v 0),
          SB.le (SI.v 0) (SI.c (Int.ofNat 120)), SB.le (SI.c (Int.ofNat 0)) (SI.v 1), SB.le (SI.v 1) (SI.v 0),
          SB.eq (SI.len (SL.v 0)) (SI.c (Int.ofNat 4)), SB.le (SI.len (SL.v 1)) (SI.v 0),
          SB.app 151 (SA.l (SL.v 0) (SA.i (SI.v 1) SA.nil)), SB.le (SI.c (Int.ofNat 0)) (SI.v 2),
          SB.le (SI.v 2) (SI.c (Int.ofNat 4))],
      eqs := [Eqn.B (SB.or (SB.v 0) (SB.app 130 (SA.l (SL.v 0) (SA.i (SI.v 2) (SA.i (SI.v 1) SA.nil))))) (SB.c true)] },
    {
      pc :=
        [SB.not (SB.v 0),
          SB.or (SB.or (SB.lt (SI.v 2) (SI.c (Int.ofNat 0))) (SB.le (SI.len (SL.v 0)) (SI.v 2)))
            (SB.eq (SI.sel (SL.v 0) (SI.v 2) 0) (SI.c (Int.negSucc 0))),
          SB.lt (SI.v 2) (SI.c (Int.ofNat 4)), SB.le (SI.c (Int.ofNat 0)) (SI.v 0),
          SB.le (SI.v 0) (SI.c (Int.ofNat 120)), SB.le (SI.c (Int.ofNat 0)) (SI.v 1), SB.le (SI.v 1) (SI.v 0),
          SB.eq (SI.len (SL.v 0)) (SI.c (Int.ofNat 4)), SB.le (SI.len (SL.v 1)) (SI.v 0),
          SB.app 151 (SA.l (SL.v 0) (SA.i (SI.v 1) SA.nil)), SB.le (SI.c (Int.ofNat 0)) (SI.v 2),
          SB.le (SI.v 2) (SI.c (Int.ofNat 4))],
      eqs :=
        [Eqn.T
            (SB.lt (SI.sub (SI.c (Int.ofNat 4)) (SI.add (SI.v 2) (SI.c (Int.ofNat 1))))
              (SI.sub (SI.c (Int.ofNat 4)) (SI.v 2)))] },
    {
      pc :=
        [SB.not (SB.v 0),
          SB.or (SB.or (SB.lt (SI.v 2) (SI.c (Int.ofNat 0))) (SB.le (SI.len (SL.v 0)) (SI.v 2)))
            (SB.eq (SI.sel (SL.v 0) (SI.v 2) 0) (SI.c (Int.negSucc 0))),
          SB.lt (SI.v 2) (SI.c (Int.ofNat 4)), SB.le (SI.c (Int.ofNat 0)) (SI.v 0),
          SB.le (SI.v 0) (SI.c (Int.ofNat 120)), SB.le (SI.c (Int.ofNat 0)) (SI.v 1), SB.le (SI.v 1) (SI.v 0),
          SB.eq (SI.len (SL.v 0)) (SI.c (Int.ofNat 4)), SB.le (SI.len (SL.v 1)) (SI.v 0),
          SB.app 151 (SA.l (SL.v 0) (SA.i (SI.v 1) SA.nil)), SB.le (SI.c (Int.ofNat 0)) (SI.v 2),
          SB.le (SI.v 2) (SI.c (Int.ofNat 4))],
      eqs :=
        [Eqn.B (SB.or (SB.v 0) (SB.app 130 (SA.l (SL.v 0) (SA.i (SI.v 2) (SA.i (SI.v 1) SA.nil)))))
            (SB.app 130 (SA.l (SL.v 0) (SA.i (SI.add (SI.v 2) (SI.c (Int.ofNat 1))) (SA.i (SI.v 1) SA.nil))))] },
    {
      pc :=
        [SB.lt (SI.v 1) (SI.sel (SL.v 0) (SI.v 2) 0),
          SB.not (SB.eq (SI.sel (SL.v 0) (SI.v 2) 0) (SI.c (Int.negSucc 0))), SB.lt (SI.v 2) (SI.c (Int.ofNat 4)),
          SB.le (SI.c (Int.ofNat 0)) (SI.v 0), SB.le (SI.v 0) (SI.c (Int.ofNat 120)),
          SB.le (SI.c (Int.ofNat 0)) (SI.v 1), SB.le (SI.v 1) (SI.v 0), SB.eq (SI.len (SL.v 0)) (SI.c (Int.ofNat 4)),
          SB.le (SI.len (SL.v 1)) (SI.v 0), SB.app 151 (SA.l (SL.v 0) (SA.i (SI.v 1) SA.nil)),
          SB.le (SI.c (Int.ofNat 0)) (SI.v 2), SB.le (SI.v 2) (SI.c (Int.ofNat 4))],
      eqs := [Eqn.T (SB.app 199 SA.nil)] },
    {
      pc :=
        [SB.lt (SI.sel (SL.v 0) (SI.v 2) 0) (SI.sub (SI.v 1) (SI.c (Int.ofNat 1))),
          SB.not (SB.lt (SI.v 1) (SI.sel (SL.v 0) (SI.v 2) 0)),
          SB.not (SB.eq (SI.sel (SL.v 0) (SI.v 2) 0) (SI.c (Int.negSucc 0))), SB.lt (SI.v 2) (SI.c (Int.ofNat 4)),
          SB.le (SI.c (Int.ofNat 0)) (SI.v 0), SB.le (SI.v 0) (SI.c (Int.ofNat 120)),
          SB.le (SI.c (Int.ofNat 0)) (SI.v 1), SB.le (SI.v 1) (SI.v 0), SB.eq (SI.len (SL.v 0)) (SI.c (Int.ofNat 4)),
          SB.le (SI.len (SL.v 1)) (SI.v 0), SB.app 151 (SA.l (SL.v 0) (SA.i (SI.v 1) SA.nil)),
          SB.le (SI.c (Int.ofNat 0)) (SI.v 2), SB.le (SI.v 2) (SI.c (Int.ofNat 4))],
      eqs := [Eqn.T (SB.app 199 SA.nil)] },
    {
      pc :=
        [SB.v 0, SB.not (SB.lt (SI.sel (SL.v 0) (SI.v 2) 0) (SI.sub (SI.v 1) (SI.c (Int.ofNat 1)))),
          SB.not (SB.lt (SI.v 1) (SI.sel (SL.v 0) (SI.v 2) 0)),
          SB.not (SB.eq (SI.sel (SL.v 0) (SI.v 2) 0) (SI.c (Int.negSucc 0))), SB.lt (SI.v 2) (SI.c (Int.ofNat 4)),
          SB.le (SI.c (Int.ofNat 0)) (SI.v 0), SB.le (SI.v 0) (SI.c (Int.ofNat 120)),
          SB.le (SI.c (Int.ofNat 0)) (SI.v 1), SB.le (SI.v 1) (SI.v 0), SB.eq (SI.len (SL.v 0)) (SI.c (Int.ofNat 4)),
          SB.le (SI.len (SL.v 1)) (SI.v 0), SB.app 151 (SA.l (SL.v 0) (SA.i (SI.v 1) SA.nil)),
          SB.le (SI.c (Int.ofNat 0)) (SI.v 2), SB.le (SI.v 2) (SI.c (Int.ofNat 4))],
      eqs :=
        [Eqn.T
            (SB.lt (SI.sub (SI.c (Int.ofNat 4)) (SI.add (SI.v 2) (SI.c (Int.ofNat 1))))
              (SI.sub (SI.c (Int.ofNat 4)) (SI.v 2)))] },
    {
      pc :=
        [SB.v 0, SB.not (SB.lt (SI.sel (SL.v 0) (SI.v 2) 0) (SI.sub (SI.v 1) (SI.c (Int.ofNat 1)))),
          SB.not (SB.lt (SI.v 1) (SI.sel (SL.v 0) (SI.v 2) 0)),
          SB.not (SB.eq (SI.sel (SL.v 0) (SI.v 2) 0) (SI.c (Int.negSucc 0))), SB.lt (SI.v 2) (SI.c (Int.ofNat 4)),
          SB.le (SI.c (Int.ofNat 0)) (SI.v 0), SB.le (SI.v 0) (SI.c (Int.ofNat 120)),
          SB.le (SI.c (Int.ofNat 0)) (SI.v 1), SB.le (SI.v 1) (SI.v 0), SB.eq (SI.len (SL.v 0)) (SI.c (Int.ofNat 4)),
          SB.le (SI.len (SL.v 1)) (SI.v 0), SB.app 151 (SA.l (SL.v 0) (SA.i (SI.v 1) SA.nil)),
          SB.le (SI.c (Int.ofNat 0)) (SI.v 2), SB.le (SI.v 2) (SI.c (Int.ofNat 4))],
      eqs := [Eqn.B (SB.or (SB.v 0) (SB.app 130 (SA.l (SL.v 0) (SA.i (SI.v 2) (SA.i (SI.v 1) SA.nil))))) (SB.c true)] },
    {
      pc :=
        [SB.not (SB.v 0), SB.not (SB.lt (SI.sel (SL.v 0) (SI.v 2) 0) (SI.sub (SI.v 1) (SI.c (Int.ofNat 1)))),
          SB.not (SB.lt (SI.v 1) (SI.sel (SL.v 0) (SI.v 2) 0)),
          SB.not (SB.eq (SI.sel (SL.v 0) (SI.v 2) 0) (SI.c (Int.negSucc 0))), SB.lt (SI.v 2) (SI.c (Int.ofNat 4)),
          SB.le (SI.c (Int.ofNat 0)) (SI.v 0), SB.le (SI.v 0) (SI.c (Int.ofNat 120)),
          SB.le (SI.c (Int.ofNat 0)) (SI.v 1), SB.le (SI.v 1) (SI.v 0), SB.eq (SI.len (SL.v 0)) (SI.c (Int.ofNat 4)),
          SB.le (SI.len (SL.v 1)) (SI.v 0), SB.app 151 (SA.l (SL.v 0) (SA.i (SI.v 1) SA.nil)),
          SB.le (SI.c (Int.ofNat 0)) (SI.v 2), SB.le (SI.v 2) (SI.c (Int.ofNat 4))],
      eqs :=
        [Eqn.T
            (SB.lt (SI.sub (SI.c (Int.ofNat 4)) (SI.add (SI.v 2) (SI.c (Int.ofNat 1))))
              (SI.sub (SI.c (Int.ofNat 4)) (SI.v 2)))] },
    {
      pc :=
        [SB.not (SB.v 0), SB.not (SB.lt (SI.sel (SL.v 0) (SI.v 2) 0) (SI.sub (SI.v 1) (SI.c (Int.ofNat 1)))),
          SB.not (SB.lt (SI.v 1) (SI.sel (SL.v 0) (SI.v 2) 0)),
          SB.not (SB.eq (SI.sel (SL.v 0) (SI.v 2) 0) (SI.c (Int.negSucc 0))), SB.lt (SI.v 2) (SI.c (Int.ofNat 4)),
          SB.le (SI.c (Int.ofNat 0)) (SI.v 0), SB.le (SI.v 0) (SI.c (Int.ofNat 120)),
          SB.le (SI.c (Int.ofNat 0)) (SI.v 1), SB.le (SI.v 1) (SI.v 0), SB.eq (SI.len (SL.v 0)) (SI.c (Int.ofNat 4)),
          SB.le (SI.len (SL.v 1)) (SI.v 0), SB.app 151 (SA.l (SL.v 0) (SA.i (SI.v 1) SA.nil)),
          SB.le (SI.c (Int.ofNat 0)) (SI.v 2), SB.le (SI.v 2) (SI.c (Int.ofNat 4))],
      eqs :=
        [Eqn.B (SB.or (SB.v 0) (SB.app 130 (SA.l (SL.v 0) (SA.i (SI.v 2) (SA.i (SI.v 1) SA.nil)))))
            (SB.or (SB.not (SB.eq (SI.sel (SL.v 0) (SI.v 2) 0) (SI.v 1)))
              (SB.app 130 (SA.l (SL.v 0) (SA.i (SI.add (SI.v 2) (SI.c (Int.ofNat 1))) (SA.i (SI.v 1) SA.nil)))))] },
    {
      pc :=
        [SB.not (SB.lt (SI.v 2) (SI.c (Int.ofNat 4))), SB.le (SI.c (Int.ofNat 0)) (SI.v 0),
          SB.le (SI.v 0) (SI.c (Int.ofNat 120)), SB.le (SI.c (Int.ofNat 0)) (SI.v 1), SB.le (SI.v 1) (SI.v 0),
          SB.eq (SI.len (SL.v 0)) (SI.c (Int.ofNat 4)), SB.le (SI.len (SL.v 1)) (SI.v 0),
          SB.app 151 (SA.l (SL.v 0) (SA.i (SI.v 1) SA.nil)), SB.le (SI.c (Int.ofNat 0)) (SI.v 2),
          SB.le (SI.v 2) (SI.c (Int.ofNat 4))],
      eqs := [Eqn.B (SB.or (SB.v 0) (SB.app 130 (SA.l (SL.v 0) (SA.i (SI.v 2) (SA.i (SI.v 1) SA.nil))))) (SB.v 0)] }] := by kernel_rfl
theorem lt2_ok : lt2.ok Φ Try.prog := by
  refine ⟨by kernel_rfl, loop_rule (fun ρ => t10_ok ρ) (loopAt_sub (by kernel_rfl)) lt2_obs ?_⟩
  simp only [and_imp, List.forall_mem_cons, List.not_mem_nil, false_implies, implies_true, and_true, Ob.ok, holds, Eqn.ok, evB_eq, evB_lt, evB_le, evB_not, evB_and, evB_or, evB_eqL, evB_app, evB_v, evB_c, ev_sel, ev_len, ev_v, ev_c, ev_add, ev_sub, ev_mul, ev_quo, ev_rem, ev_bits, ev_wrap, evL_v, evL_lit, evL_app, ev_app, evA_l, evA_i, evA_nil, std_min, std_max, std_cat, std_take, std_drop, std_row, std_set, std_rep, std_find, std_put, std_del, std_flag, std_unflag, std_clr, std_left, ints_cons, ints_nil, ofNat_lit, negSucc_lit, decide_eq_true_eq, Bool.and_eq_true, Bool.or_eq_true, Bool.not_eq_true', Bool.and_eq_false_iff, Bool.or_eq_false_iff, decide_eq_false_iff_not, aI100, aL100, aL110, aL111, aL112, aL113, aL114, aL120, aL121, aL131, aB130, aB199, aI140, aI141, aI142, aI143, aL115, aL140, aL141, aL142, aB150, aB151, aB152, aB153, aB154, aB155]
  repeat' apply And.intro
  all_goals intro ρ hR
  all_goals intros
  all_goals first
    | (omega)
    | (rw [late_end (by omega)]
       simp_all)
    | (exfalso
       have h := near_at (P := ρ.l 0) (now := ρ.i 1) (c := ρ.i 2) (by with_reducible assumption) (by omega) (by omega)
       omega)
    | (have hc : (List.getD (ρ.l 0) (ρ.i 2).toNat []).getD 0 0 = -1 := by omega
       rw [late_step (P := ρ.l 0) (now := ρ.i 1) (i := ρ.i 2) (by omega) (by omega), hc]
       simp_all
       done)
    | (rw [late_step (P := ρ.l 0) (now := ρ.i 1) (i := ρ.i 2) (by omega) (by omega)]
       simp_all
       done)
    | (simp_all
       done)
theorem t11_ok (ρ : Env) : TblOK Φ ρ Try.prog t11 := addLp_ok (t10_ok ρ) lt2_ok
set_option maxRecDepth 100000 in
theorem lt1_obs : loopObs Φ Try.prog t11 1000 lt1.f (loopAt Try.prog lt1.f lt1.id) lt1.n lt1.T i7 lt1.outs = some
  [{
      pc :=
        [SB.app 151
            (SA.l
              (SL.app 140
                (SA.l (SL.v 0)
                  (SA.i (SI.bits BinOp.and IntKind.i64 (SI.sel (SL.v 9) (SI.v 0) 1) (SI.c (Int.ofNat 3)))
                    (SA.i (SI.v 1) SA.nil))))
              (SA.i (SI.v 1) SA.nil)),
          SB.eq
            (SI.len
              (SL.app 140
                (SA.l (SL.v 0)
                  (SA.i (SI.bits BinOp.and IntKind.i64 (SI.sel (SL.v 9) (SI.v 0) 1) (SI.c (Int.ofNat 3)))
                    (SA.i (SI.v 1) SA.nil)))))
            (SI.len (SL.v 0)),
          SB.eq (SI.sel (SL.v 9) (SI.v 0) 0) (SI.c (Int.ofNat 0)), SB.lt (SI.v 0) (SI.c (Int.ofNat 120)),
          SB.lt (SI.v 0) (SI.len (SL.v 9)), SB.le (SI.c (Int.ofNat 0)) (SI.v 0), SB.le (SI.v 0) (SI.c (Int.ofNat 120)),
          SB.le (SI.c (Int.ofNat 0)) (SI.v 1), SB.le (SI.v 1) (SI.v 0), SB.eq (SI.len (SL.v 0)) (SI.c (Int.ofNat 4)),
          SB.le (SI.len (SL.v 1)) (SI.v 0), SB.app 151 (SA.l (SL.v 0) (SA.i (SI.v 1) SA.nil))],
      eqs :=
        [Eqn.T
            (SB.lt (SI.sub (SI.c (Int.ofNat 120)) (SI.add (SI.v 0) (SI.c (Int.ofNat 1))))
              (SI.sub (SI.c (Int.ofNat 120)) (SI.v 0)))] },
    {
      pc :=
        [SB.not
            (SB.app 151
              (SA.l
                (SL.app 140
                  (SA.l (SL.v 0)
                    (SA.i (SI.bits BinOp.and IntKind.i64 (SI.sel (SL.v 9) (SI.v 0) 1) (SI.c (Int.ofNat 3)))
                      (SA.i (SI.v 1) SA.nil))))
                (SA.i (SI.v 1) SA.nil))),
          SB.eq
            (SI.len
              (SL.app 140
                (SA.l (SL.v 0)
                  (SA.i (SI.bits BinOp.and IntKind.i64 (SI.sel (SL.v 9) (SI.v 0) 1) (SI.c (Int.ofNat 3)))
                    (SA.i (SI.v 1) SA.nil)))))
            (SI.len (SL.v 0)),
          SB.eq (SI.sel (SL.v 9) (SI.v 0) 0) (SI.c (Int.ofNat 0)), SB.lt (SI.v 0) (SI.c (Int.ofNat 120)),
          SB.lt (SI.v 0) (SI.len (SL.v 9)), SB.le (SI.c (Int.ofNat 0)) (SI.v 0), SB.le (SI.v 0) (SI.c (Int.ofNat 120)),
          SB.le (SI.c (Int.ofNat 0)) (SI.v 1), SB.le (SI.v 1) (SI.v 0), SB.eq (SI.len (SL.v 0)) (SI.c (Int.ofNat 4)),
          SB.le (SI.len (SL.v 1)) (SI.v 0), SB.app 151 (SA.l (SL.v 0) (SA.i (SI.v 1) SA.nil))],
      eqs := [Eqn.T (SB.c false)] },
    {
      pc :=
        [SB.app 151
            (SA.l
              (SL.app 141
                (SA.l (SL.v 0)
                  (SA.i (SI.bits BinOp.and IntKind.i64 (SI.sel (SL.v 9) (SI.v 0) 1) (SI.c (Int.ofNat 3))) SA.nil)))
              (SA.i (SI.v 1) SA.nil)),
          SB.eq
            (SI.len
              (SL.app 141
                (SA.l (SL.v 0)
                  (SA.i (SI.bits BinOp.and IntKind.i64 (SI.sel (SL.v 9) (SI.v 0) 1) (SI.c (Int.ofNat 3))) SA.nil))))
            (SI.len (SL.v 0)),
          SB.eq (SI.sel (SL.v 9) (SI.v 0) 0) (SI.c (Int.ofNat 1)),
          SB.not (SB.eq (SI.sel (SL.v 9) (SI.v 0) 0) (SI.c (Int.ofNat 0))), SB.lt (SI.v 0) (SI.c (Int.ofNat 120)),
          SB.lt (SI.v 0) (SI.len (SL.v 9)), SB.le (SI.c (Int.ofNat 0)) (SI.v 0), SB.le (SI.v 0) (SI.c (Int.ofNat 120)),
          SB.le (SI.c (Int.ofNat 0)) (SI.v 1), SB.le (SI.v 1) (SI.v 0), SB.eq (SI.len (SL.v 0)) (SI.c (Int.ofNat 4)),
          SB.le (SI.len (SL.v 1)) (SI.v 0), SB.app 151 (SA.l (SL.v 0) (SA.i (SI.v 1) SA.nil))],
      eqs :=
        [Eqn.T
            (SB.lt (SI.sub (SI.c (Int.ofNat 120)) (SI.add (SI.v 0) (SI.c (Int.ofNat 1))))
              (SI.sub (SI.c (Int.ofNat 120)) (SI.v 0)))] },
    {
      pc :=
        [SB.not
            (SB.app 151
              (SA.l
                (SL.app 141
                  (SA.l (SL.v 0)
                    (SA.i (SI.bits BinOp.and IntKind.i64 (SI.sel (SL.v 9) (SI.v 0) 1) (SI.c (Int.ofNat 3))) SA.nil)))
                (SA.i (SI.v 1) SA.nil))),
          SB.eq
            (SI.len
              (SL.app 141
                (SA.l (SL.v 0)
                  (SA.i (SI.bits BinOp.and IntKind.i64 (SI.sel (SL.v 9) (SI.v 0) 1) (SI.c (Int.ofNat 3))) SA.nil))))
            (SI.len (SL.v 0)),
          SB.eq (SI.sel (SL.v 9) (SI.v 0) 0) (SI.c (Int.ofNat 1)),
          SB.not (SB.eq (SI.sel (SL.v 9) (SI.v 0) 0) (SI.c (Int.ofNat 0))), SB.lt (SI.v 0) (SI.c (Int.ofNat 120)),
          SB.lt (SI.v 0) (SI.len (SL.v 9)), SB.le (SI.c (Int.ofNat 0)) (SI.v 0), SB.le (SI.v 0) (SI.c (Int.ofNat 120)),
          SB.le (SI.c (Int.ofNat 0)) (SI.v 1), SB.le (SI.v 1) (SI.v 0), SB.eq (SI.len (SL.v 0)) (SI.c (Int.ofNat 4)),
          SB.le (SI.len (SL.v 1)) (SI.v 0), SB.app 151 (SA.l (SL.v 0) (SA.i (SI.v 1) SA.nil))],
      eqs := [Eqn.T (SB.c false)] },
    {
      pc :=
        [SB.app 130 (SA.l (SL.v 0) (SA.i (SI.c (Int.ofNat 0)) (SA.i (SI.v 1) SA.nil))),
          SB.eq (SI.sel (SL.v 9) (SI.v 0) 0) (SI.c (Int.ofNat 3)),
          SB.not (SB.eq (SI.sel (SL.v 9) (SI.v 0) 0) (SI.c (Int.ofNat 1))),
          SB.not (SB.eq (SI.sel (SL.v 9) (SI.v 0) 0) (SI.c (Int.ofNat 0))), SB.lt (SI.v 0) (SI.c (Int.ofNat 120)),
          SB.lt (SI.v 0) (SI.len (SL.v 9)), SB.le (SI.c (Int.ofNat 0)) (SI.v 0), SB.le (SI.v 0) (SI.c (Int.ofNat 120)),
          SB.le (SI.c (Int.ofNat 0)) (SI.v 1), SB.le (SI.v 1) (SI.v 0), SB.eq (SI.len (SL.v 0)) (SI.c (Int.ofNat 4)),
          SB.le (SI.len (SL.v 1)) (SI.v 0), SB.app 151 (SA.l (SL.v 0) (SA.i (SI.v 1) SA.nil))],
      eqs :=
        [Eqn.T
            (SB.lt (SI.sub (SI.c (Int.ofNat 120)) (SI.add (SI.v 0) (SI.c (Int.ofNat 1))))
              (SI.sub (SI.c (Int.ofNat 120)) (SI.v 0)))] },
    {
      pc :=
        [SB.not (SB.app 130 (SA.l (SL.v 0) (SA.i (SI.c (Int.ofNat 0)) (SA.i (SI.v 1) SA.nil)))),
          SB.eq (SI.sel (SL.v 9) (SI.v 0) 0) (SI.c (Int.ofNat 3)),
          SB.not (SB.eq (SI.sel (SL.v 9) (SI.v 0) 0) (SI.c (Int.ofNat 1))),
          SB.not (SB.eq (SI.sel (SL.v 9) (SI.v 0) 0) (SI.c (Int.ofNat 0))), SB.lt (SI.v 0) (SI.c (Int.ofNat 120)),
          SB.lt (SI.v 0) (SI.len (SL.v 9)), SB.le (SI.c (Int.ofNat 0)) (SI.v 0), SB.le (SI.v 0) (SI.c (Int.ofNat 120)),
          SB.le (SI.c (Int.ofNat 0)) (SI.v 1), SB.le (SI.v 1) (SI.v 0), SB.eq (SI.len (SL.v 0)) (SI.c (Int.ofNat 4)),
          SB.le (SI.len (SL.v 1)) (SI.v 0), SB.app 151 (SA.l (SL.v 0) (SA.i (SI.v 1) SA.nil))],
      eqs :=
        [Eqn.T
            (SB.lt (SI.sub (SI.c (Int.ofNat 120)) (SI.add (SI.v 0) (SI.c (Int.ofNat 1))))
              (SI.sub (SI.c (Int.ofNat 120)) (SI.v 0))),
          Eqn.T (SB.app 151 (SA.l (SL.v 0) (SA.i (SI.add (SI.v 1) (SI.c (Int.ofNat 1))) SA.nil)))] },
    {
      pc :=
        [SB.not (SB.eq (SI.sel (SL.v 9) (SI.v 0) 0) (SI.c (Int.ofNat 3))),
          SB.not (SB.eq (SI.sel (SL.v 9) (SI.v 0) 0) (SI.c (Int.ofNat 1))),
          SB.not (SB.eq (SI.sel (SL.v 9) (SI.v 0) 0) (SI.c (Int.ofNat 0))), SB.lt (SI.v 0) (SI.c (Int.ofNat 120)),
          SB.lt (SI.v 0) (SI.len (SL.v 9)), SB.le (SI.c (Int.ofNat 0)) (SI.v 0), SB.le (SI.v 0) (SI.c (Int.ofNat 120)),
          SB.le (SI.c (Int.ofNat 0)) (SI.v 1), SB.le (SI.v 1) (SI.v 0), SB.eq (SI.len (SL.v 0)) (SI.c (Int.ofNat 4)),
          SB.le (SI.len (SL.v 1)) (SI.v 0), SB.app 151 (SA.l (SL.v 0) (SA.i (SI.v 1) SA.nil))],
      eqs :=
        [Eqn.T
            (SB.lt (SI.sub (SI.c (Int.ofNat 120)) (SI.add (SI.v 0) (SI.c (Int.ofNat 1))))
              (SI.sub (SI.c (Int.ofNat 120)) (SI.v 0)))] }] := by kernel_rfl
theorem lt1_ok : lt1.ok Φ Try.prog := by
  refine ⟨by kernel_rfl, loop_rule (fun ρ => t11_ok ρ) (loopAt_sub (by kernel_rfl)) lt1_obs ?_⟩
  simp only [and_imp, List.forall_mem_cons, List.not_mem_nil, false_implies, implies_true, and_true, Ob.ok, holds, Eqn.ok, evB_eq, evB_lt, evB_le, evB_not, evB_and, evB_or, evB_eqL, evB_app, evB_v, evB_c, ev_sel, ev_len, ev_v, ev_c, ev_add, ev_sub, ev_mul, ev_quo, ev_rem, ev_bits, ev_wrap, evL_v, evL_lit, evL_app, ev_app, evA_l, evA_i, evA_nil, std_min, std_max, std_cat, std_take, std_drop, std_row, std_set, std_rep, std_find, std_put, std_del, std_flag, std_unflag, std_clr, std_left, ints_cons, ints_nil, ofNat_lit, negSucc_lit, decide_eq_true_eq, Bool.and_eq_true, Bool.or_eq_true, Bool.not_eq_true', Bool.and_eq_false_iff, Bool.or_eq_false_iff, decide_eq_false_iff_not, aI100, aL100, aL110, aL111, aL112, aL113, aL114, aL120, aL121, aL131, aB130, aB199, aI140, aI141, aI142, aI143, aL115, aL140, aL141, aL142, aB150, aB151, aB152, aB153, aB154, aB155]
  repeat' apply And.intro
  all_goals intro ρ hR
  all_goals intros
  all_goals first
    | (omega)
    | (exfalso
       have h := near_pin (P := ρ.l 0) (now := ρ.i 1) (c := Go.bits .and .i64 ((List.getD (ρ.l 9) (ρ.i 0).toNat []).getD 1 0) 3) (hR.row 2 rfl rfl) (by with_reducible assumption)
       exact Bool.false_ne_true (‹nearB (pinL _ _ _) _ = false›.symm.trans h))
    | (exfalso
       have h := near_unp (P := ρ.l 0) (now := ρ.i 1) (c := Go.bits .and .i64 ((List.getD (ρ.l 9) (ρ.i 0).toNat []).getD 1 0) 3) (hR.row 2 rfl rfl) (by with_reducible assumption)
       exact Bool.false_ne_true (‹nearB (unpL _ _) _ = false›.symm.trans h))
    | (exact ⟨by omega, late_near (by with_reducible assumption)⟩)
    | (exact late_near (by with_reducible assumption))
theorem t12_ok (ρ : Env) : TblOK Φ ρ Try.prog t12 := addLp_ok (t11_ok ρ) lt1_ok
set_option maxRecDepth 100000 in
theorem lLate_obs : callObs Φ Try.prog t12 1000 lLate.f lLate.vs lLate.o lLate.pc lLate.outs = some
  [] := by kernel_rfl
theorem lLate_ok : lLate.ok Φ Try.prog := by
  refine call_rule (fun ρ => t12_ok ρ) lLate_obs ?_
  intro ob h; cases h
set_option maxRecDepth 100000 in
theorem en1_obs : loopObs Φ Try.prog t10 1000 en1.f (loopAt Try.prog en1.f en1.id) en1.n en1.T i7 en1.outs = some
  [{
      pc :=
        [SB.eq
            (SI.len
              (SL.app 140
                (SA.l (SL.v 0)
                  (SA.i (SI.bits BinOp.and IntKind.i64 (SI.sel (SL.v 9) (SI.v 0) 1) (SI.c (Int.ofNat 3)))
                    (SA.i (SI.v 1) SA.nil)))))
            (SI.len (SL.v 0)),
          SB.eq (SI.sel (SL.v 9) (SI.v 0) 0) (SI.c (Int.ofNat 0)), SB.lt (SI.v 0) (SI.c (Int.ofNat 120)),
          SB.lt (SI.v 0) (SI.len (SL.v 9)), SB.le (SI.c (Int.ofNat 0)) (SI.v 0), SB.le (SI.v 0) (SI.c (Int.ofNat 120)),
          SB.le (SI.c (Int.ofNat 0)) (SI.v 1), SB.le (SI.v 1) (SI.v 0), SB.eq (SI.len (SL.v 0)) (SI.c (Int.ofNat 4)),
          SB.le (SI.len (SL.v 1)) (SI.v 0), SB.app 152 (SA.l (SL.v 1) (SA.i (SI.v 1) SA.nil))],
      eqs :=
        [Eqn.T
            (SB.lt (SI.sub (SI.c (Int.ofNat 120)) (SI.add (SI.v 0) (SI.c (Int.ofNat 1))))
              (SI.sub (SI.c (Int.ofNat 120)) (SI.v 0)))] },
    {
      pc :=
        [SB.eq
            (SI.len
              (SL.app 141
                (SA.l (SL.v 0)
                  (SA.i (SI.bits BinOp.and IntKind.i64 (SI.sel (SL.v 9) (SI.v 0) 1) (SI.c (Int.ofNat 3))) SA.nil))))
            (SI.len (SL.v 0)),
          SB.eq (SI.sel (SL.v 9) (SI.v 0) 0) (SI.c (Int.ofNat 1)),
          SB.not (SB.eq (SI.sel (SL.v 9) (SI.v 0) 0) (SI.c (Int.ofNat 0))), SB.lt (SI.v 0) (SI.c (Int.ofNat 120)),
          SB.lt (SI.v 0) (SI.len (SL.v 9)), SB.le (SI.c (Int.ofNat 0)) (SI.v 0), SB.le (SI.v 0) (SI.c (Int.ofNat 120)),
          SB.le (SI.c (Int.ofNat 0)) (SI.v 1), SB.le (SI.v 1) (SI.v 0), SB.eq (SI.len (SL.v 0)) (SI.c (Int.ofNat 4)),
          SB.le (SI.len (SL.v 1)) (SI.v 0), SB.app 152 (SA.l (SL.v 1) (SA.i (SI.v 1) SA.nil))],
      eqs :=
        [Eqn.T
            (SB.lt (SI.sub (SI.c (Int.ofNat 120)) (SI.add (SI.v 0) (SI.c (Int.ofNat 1))))
              (SI.sub (SI.c (Int.ofNat 120)) (SI.v 0)))] },
    {
      pc :=
        [SB.le
            (SI.len
              (SL.app 142
                (SA.l (SL.v 1)
                  (SA.i (SI.bits BinOp.and IntKind.i64 (SI.sel (SL.v 9) (SI.v 0) 2) (SI.c (Int.ofNat 63)))
                    (SA.i (SI.v 1) SA.nil)))))
            (SI.add (SI.len (SL.v 1)) (SI.c (Int.ofNat 1))),
          SB.eq (SI.sel (SL.v 9) (SI.v 0) 0) (SI.c (Int.ofNat 2)),
          SB.not (SB.eq (SI.sel (SL.v 9) (SI.v 0) 0) (SI.c (Int.ofNat 1))),
          SB.not (SB.eq (SI.sel (SL.v 9) (SI.v 0) 0) (SI.c (Int.ofNat 0))), SB.lt (SI.v 0) (SI.c (Int.ofNat 120)),
          SB.lt (SI.v 0) (SI.len (SL.v 9)), SB.le (SI.c (Int.ofNat 0)) (SI.v 0), SB.le (SI.v 0) (SI.c (Int.ofNat 120)),
          SB.le (SI.c (Int.ofNat 0)) (SI.v 1), SB.le (SI.v 1) (SI.v 0), SB.eq (SI.len (SL.v 0)) (SI.c (Int.ofNat 4)),
          SB.le (SI.len (SL.v 1)) (SI.v 0), SB.app 152 (SA.l (SL.v 1) (SA.i (SI.v 1) SA.nil))],
      eqs :=
        [Eqn.T
            (SB.lt (SI.sub (SI.c (Int.ofNat 120)) (SI.add (SI.v 0) (SI.c (Int.ofNat 1))))
              (SI.sub (SI.c (Int.ofNat 120)) (SI.v 0))),
          Eqn.T
            (SB.app 152
              (SA.l
                (SL.app 142
                  (SA.l (SL.v 1)
                    (SA.i (SI.bits BinOp.and IntKind.i64 (SI.sel (SL.v 9) (SI.v 0) 2) (SI.c (Int.ofNat 63)))
                      (SA.i (SI.v 1) SA.nil))))
                (SA.i (SI.v 1) SA.nil)))] },
    {
      pc :=
        [SB.app 130 (SA.l (SL.v 0) (SA.i (SI.c (Int.ofNat 0)) (SA.i (SI.v 1) SA.nil))),
          SB.eq (SI.sel (SL.v 9) (SI.v 0) 0) (SI.c (Int.ofNat 3)),
          SB.not (SB.eq (SI.sel (SL.v 9) (SI.v 0) 0) (SI.c (Int.ofNat 2))),
          SB.not (SB.eq (SI.sel (SL.v 9) (SI.v 0) 0) (SI.c (Int.ofNat 1))),
          SB.not (SB.eq (SI.sel (SL.v 9) (SI.v 0) 0) (SI.c (Int.ofNat 0))), SB.lt (SI.v 0) (SI.c (Int.ofNat 120)),
          SB.lt (SI.v 0) (SI.len (SL.v 9)), SB.le (SI.c (Int.ofNat 0)) (SI.v 0), SB.le (SI.v 0) (SI.c (Int.ofNat 120)),
          SB.le (SI.c (Int.ofNat 0)) (SI.v 1), SB.le (SI.v 1) (SI.v 0), SB.eq (SI.len (SL.v 0)) (SI.c (Int.ofNat 4)),
          SB.le (SI.len (SL.v 1)) (SI.v 0), SB.app 152 (SA.l (SL.v 1) (SA.i (SI.v 1) SA.nil))],
      eqs :=
        [Eqn.T
            (SB.lt (SI.sub (SI.c (Int.ofNat 120)) (SI.add (SI.v 0) (SI.c (Int.ofNat 1))))
              (SI.sub (SI.c (Int.ofNat 120)) (SI.v 0)))] },
    {
      pc :=
        [SB.not (SB.app 130 (SA.l (SL.v 0) (SA.i (SI.c (Int.ofNat 0)) (SA.i (SI.v 1) SA.nil)))),
          SB.eq (SI.sel (SL.v 9) (SI.v 0) 0) (SI.c (Int.ofNat 3)),
          SB.not (SB.eq (SI.sel (SL.v 9) (SI.v 0) 0) (SI.c (Int.ofNat 2))),
          SB.not (SB.eq (SI.sel (SL.v 9) (SI.v 0) 0) (SI.c (Int.ofNat 1))),
          SB.not (SB.eq (SI.sel (SL.v 9) (SI.v 0) 0) (SI.c (Int.ofNat 0))), SB.lt (SI.v 0) (SI.c (Int.ofNat 120)),
          SB.lt (SI.v 0) (SI.len (SL.v 9)), SB.le (SI.c (Int.ofNat 0)) (SI.v 0), SB.le (SI.v 0) (SI.c (Int.ofNat 120)),
          SB.le (SI.c (Int.ofNat 0)) (SI.v 1), SB.le (SI.v 1) (SI.v 0), SB.eq (SI.len (SL.v 0)) (SI.c (Int.ofNat 4)),
          SB.le (SI.len (SL.v 1)) (SI.v 0), SB.app 152 (SA.l (SL.v 1) (SA.i (SI.v 1) SA.nil))],
      eqs :=
        [Eqn.T
            (SB.lt (SI.sub (SI.c (Int.ofNat 120)) (SI.add (SI.v 0) (SI.c (Int.ofNat 1))))
              (SI.sub (SI.c (Int.ofNat 120)) (SI.v 0))),
          Eqn.T (SB.app 152 (SA.l (SL.v 1) (SA.i (SI.add (SI.v 1) (SI.c (Int.ofNat 1))) SA.nil)))] },
    {
      pc :=
        [SB.not (SB.eq (SI.sel (SL.v 9) (SI.v 0) 0) (SI.c (Int.ofNat 3))),
          SB.not (SB.eq (SI.sel (SL.v 9) (SI.v 0) 0) (SI.c (Int.ofNat 2))),
          SB.not (SB.eq (SI.sel (SL.v 9) (SI.v 0) 0) (SI.c (Int.ofNat 1))),
          SB.not (SB.eq (SI.sel (SL.v 9) (SI.v 0) 0) (SI.c (Int.ofNat 0))), SB.lt (SI.v 0) (SI.c (Int.ofNat 120)),
          SB.lt (SI.v 0) (SI.len (SL.v 9)), SB.le (SI.c (Int.ofNat 0)) (SI.v 0), SB.le (SI.v 0) (SI.c (Int.ofNat 120)),
          SB.le (SI.c (Int.ofNat 0)) (SI.v 1), SB.le (SI.v 1) (SI.v 0), SB.eq (SI.len (SL.v 0)) (SI.c (Int.ofNat 4)),
          SB.le (SI.len (SL.v 1)) (SI.v 0), SB.app 152 (SA.l (SL.v 1) (SA.i (SI.v 1) SA.nil))],
      eqs :=
        [Eqn.T
            (SB.lt (SI.sub (SI.c (Int.ofNat 120)) (SI.add (SI.v 0) (SI.c (Int.ofNat 1))))
              (SI.sub (SI.c (Int.ofNat 120)) (SI.v 0)))] },
    {
      pc :=
        [SB.not (SB.lt (SI.v 0) (SI.c (Int.ofNat 120))), SB.lt (SI.v 0) (SI.len (SL.v 9)),
          SB.le (SI.c (Int.ofNat 0)) (SI.v 0), SB.le (SI.v 0) (SI.c (Int.ofNat 120)),
          SB.le (SI.c (Int.ofNat 0)) (SI.v 1), SB.le (SI.v 1) (SI.v 0), SB.eq (SI.len (SL.v 0)) (SI.c (Int.ofNat 4)),
          SB.le (SI.len (SL.v 1)) (SI.v 0), SB.app 152 (SA.l (SL.v 1) (SA.i (SI.v 1) SA.nil))],
      eqs := [Eqn.T (SB.app 155 (SA.l (SL.v 0) SA.nil))] },
    {
      pc :=
        [SB.not (SB.lt (SI.v 0) (SI.len (SL.v 9))), SB.le (SI.c (Int.ofNat 0)) (SI.v 0),
          SB.le (SI.v 0) (SI.c (Int.ofNat 120)), SB.le (SI.c (Int.ofNat 0)) (SI.v 1), SB.le (SI.v 1) (SI.v 0),
          SB.eq (SI.len (SL.v 0)) (SI.c (Int.ofNat 4)), SB.le (SI.len (SL.v 1)) (SI.v 0),
          SB.app 152 (SA.l (SL.v 1) (SA.i (SI.v 1) SA.nil))],
      eqs := [Eqn.T (SB.app 155 (SA.l (SL.v 0) SA.nil))] }] := by kernel_rfl
theorem en1_ok : en1.ok Φ Try.prog := by
  refine ⟨by kernel_rfl, loop_rule (fun ρ => t10_ok ρ) (loopAt_sub (by kernel_rfl)) en1_obs ?_⟩
  simp only [and_imp, List.forall_mem_cons, List.not_mem_nil, false_implies, implies_true, and_true, Ob.ok, holds, Eqn.ok, evB_eq, evB_lt, evB_le, evB_not, evB_and, evB_or, evB_eqL, evB_app, evB_v, evB_c, ev_sel, ev_len, ev_v, ev_c, ev_add, ev_sub, ev_mul, ev_quo, ev_rem, ev_bits, ev_wrap, evL_v, evL_lit, evL_app, ev_app, evA_l, evA_i, evA_nil, std_min, std_max, std_cat, std_take, std_drop, std_row, std_set, std_rep, std_find, std_put, std_del, std_flag, std_unflag, std_clr, std_left, ints_cons, ints_nil, ofNat_lit, negSucc_lit, decide_eq_true_eq, Bool.and_eq_true, Bool.or_eq_true, Bool.not_eq_true', Bool.and_eq_false_iff, Bool.or_eq_false_iff, decide_eq_false_iff_not, aI100, aL100, aL110, aL111, aL112, aL113, aL114, aL120, aL121, aL131, aB130, aB199, aI140, aI141, aI142, aI143, aL115, aL140, aL141, aL142, aB150, aB151, aB152, aB153, aB154, aB155]
  repeat' apply And.intro
  all_goals intro ρ hR
  all_goals intros
  all_goals first
    | (omega)
    | (exact ⟨by omega, past_ret (by with_reducible assumption) (by omega)⟩)
    | (exact ⟨by omega, past_next (by with_reducible assumption)⟩)
    | (exact flat_ok (hR.row 2 rfl rfl))
theorem t13_ok (ρ : Env) : TblOK Φ ρ Try.prog t13 := addLp_ok (t10_ok ρ) en1_ok
set_option maxRecDepth 100000 in
theorem lEnds0_obs : callObs Φ Try.prog t13 1000 lEnds0.f lEnds0.vs lEnds0.o lEnds0.pc lEnds0.outs = some
  [{
      pc :=
        [SB.app 130
            (SA.l
              (SL.app 141
                (SA.l
                  (SL.app 141
                    (SA.l
                      (SL.app 141
                        (SA.l (SL.app 141 (SA.l (SL.v 1000) (SA.i (SI.c (Int.ofNat 0)) SA.nil)))
                          (SA.i (SI.c (Int.ofNat 1)) SA.nil)))
                      (SA.i (SI.c (Int.ofNat 2)) SA.nil)))
                  (SA.i (SI.c (Int.ofNat 3)) SA.nil)))
              (SA.i (SI.c (Int.ofNat 0)) (SA.i (SI.v 1001) SA.nil))),
          SB.le (SI.len (SL.app 110 (SA.l (SL.v 1001) SA.nil))) (SI.len (SL.v 1001)),
          SB.eq
            (SI.len
              (SL.app 141
                (SA.l
                  (SL.app 141
                    (SA.l
                      (SL.app 141
                        (SA.l (SL.app 141 (SA.l (SL.v 1000) (SA.i (SI.c (Int.ofNat 0)) SA.nil)))
                          (SA.i (SI.c (Int.ofNat 1)) SA.nil)))
                      (SA.i (SI.c (Int.ofNat 2)) SA.nil)))
                  (SA.i (SI.c (Int.ofNat 3)) SA.nil))))
            (SI.len
              (SL.app 141
                (SA.l
                  (SL.app 141
                    (SA.l (SL.app 141 (SA.l (SL.v 1000) (SA.i (SI.c (Int.ofNat 0)) SA.nil)))
                      (SA.i (SI.c (Int.ofNat 1)) SA.nil)))
                  (SA.i (SI.c (Int.ofNat 2)) SA.nil)))),
          SB.eq
            (SI.len
              (SL.app 141
                (SA.l
                  (SL.app 141
                    (SA.l (SL.app 141 (SA.l (SL.v 1000) (SA.i (SI.c (Int.ofNat 0)) SA.nil)))
                      (SA.i (SI.c (Int.ofNat 1)) SA.nil)))
                  (SA.i (SI.c (Int.ofNat 2)) SA.nil))))
            (SI.len
              (SL.app 141
                (SA.l (SL.app 141 (SA.l (SL.v 1000) (SA.i (SI.c (Int.ofNat 0)) SA.nil)))
                  (SA.i (SI.c (Int.ofNat 1)) SA.nil)))),
          SB.eq
            (SI.len
              (SL.app 141
                (SA.l (SL.app 141 (SA.l (SL.v 1000) (SA.i (SI.c (Int.ofNat 0)) SA.nil)))
                  (SA.i (SI.c (Int.ofNat 1)) SA.nil))))
            (SI.len (SL.app 141 (SA.l (SL.v 1000) (SA.i (SI.c (Int.ofNat 0)) SA.nil)))),
          SB.eq (SI.len (SL.app 141 (SA.l (SL.v 1000) (SA.i (SI.c (Int.ofNat 0)) SA.nil)))) (SI.len (SL.v 1000)),
          SB.app 155 (SA.l (SL.v 1000) SA.nil), SB.app 152 (SA.l (SL.v 1001) (SA.i (SI.v 1001) SA.nil)),
          SB.le (SI.len (SL.v 1001)) (SI.c (Int.ofNat 120)), SB.eq (SI.len (SL.v 1000)) (SI.c (Int.ofNat 4)),
          SB.le (SI.v 1001) (SI.c (Int.ofNat 120)), SB.le (SI.c (Int.ofNat 0)) (SI.v 1001)],
      eqs := [Eqn.T (SB.app 199 SA.nil)] },
    {
      pc :=
        [SB.app 130
            (SA.l
              (SL.app 141
                (SA.l
                  (SL.app 141
                    (SA.l
                      (SL.app 141
                        (SA.l (SL.app 141 (SA.l (SL.v 1000) (SA.i (SI.c (Int.ofNat 0)) SA.nil)))
                          (SA.i (SI.c (Int.ofNat 1)) SA.nil)))
                      (SA.i (SI.c (Int.ofNat 2)) SA.nil)))
                  (SA.i (SI.c (Int.ofNat 3)) SA.nil)))
              (SA.i (SI.c (Int.ofNat 0)) (SA.i (SI.add (SI.v 1001) (SI.c (Int.ofNat 1))) SA.nil))),
          SB.not
            (SB.app 130
              (SA.l
                (SL.app 141
                  (SA.l
                    (SL.app 141
                      (SA.l
                        (SL.app 141
                          (SA.l (SL.app 141 (SA.l (SL.v 1000) (SA.i (SI.c (Int.ofNat 0)) SA.nil)))
                            (SA.i (SI.c (Int.ofNat 1)) SA.nil)))
                        (SA.i (SI.c (Int.ofNat 2)) SA.nil)))
                    (SA.i (SI.c (Int.ofNat 3)) SA.nil)))
                (SA.i (SI.c (Int.ofNat 0)) (SA.i (SI.v 1001) SA.nil)))),
          SB.le (SI.len (SL.app 110 (SA.l (SL.v 1001) SA.nil))) (SI.len (SL.v 1001)),
          SB.eq
            (SI.len
              (SL.app 141
                (SA.l
                  (SL.app 141
                    (SA.l
                      (SL.app 141
                        (SA.l (SL.app 141 (SA.l (SL.v 1000) (SA.i (SI.c (Int.ofNat 0)) SA.nil)))
                          (SA.i (SI.c (Int.ofNat 1)) SA.nil)))
                      (SA.i (SI.c (Int.ofNat 2)) SA.nil)))
                  (SA.i (SI.c (Int.ofNat 3)) SA.nil))))
            (SI.len
              (SL.app 141
                (SA.l
                  (SL.app 141
                    (SA.l (SL.app 141 (SA.l (SL.v 1000) (SA.i (SI.c (Int.ofNat 0)) SA.nil)))
                      (SA.i (SI.c (Int.ofNat 1)) SA.nil)))
                  (SA.i (SI.c (Int.ofNat 2)) SA.nil)))),
          SB.eq
            (SI.len
              (SL.app 141
                (SA.l
                  (SL.app 141
                    (SA.l (SL.app 141 (SA.l (SL.v 1000) (SA.i (SI.c (Int.ofNat 0)) SA.nil)))
                      (SA.i (SI.c (Int.ofNat 1)) SA.nil)))
                  (SA.i (SI.c (Int.ofNat 2)) SA.nil))))
            (SI.len
              (SL.app 141
                (SA.l (SL.app 141 (SA.l (SL.v 1000) (SA.i (SI.c (Int.ofNat 0)) SA.nil)))
                  (SA.i (SI.c (Int.ofNat 1)) SA.nil)))),
          SB.eq
            (SI.len
              (SL.app 141
                (SA.l (SL.app 141 (SA.l (SL.v 1000) (SA.i (SI.c (Int.ofNat 0)) SA.nil)))
                  (SA.i (SI.c (Int.ofNat 1)) SA.nil))))
            (SI.len (SL.app 141 (SA.l (SL.v 1000) (SA.i (SI.c (Int.ofNat 0)) SA.nil)))),
          SB.eq (SI.len (SL.app 141 (SA.l (SL.v 1000) (SA.i (SI.c (Int.ofNat 0)) SA.nil)))) (SI.len (SL.v 1000)),
          SB.app 155 (SA.l (SL.v 1000) SA.nil), SB.app 152 (SA.l (SL.v 1001) (SA.i (SI.v 1001) SA.nil)),
          SB.le (SI.len (SL.v 1001)) (SI.c (Int.ofNat 120)), SB.eq (SI.len (SL.v 1000)) (SI.c (Int.ofNat 4)),
          SB.le (SI.v 1001) (SI.c (Int.ofNat 120)), SB.le (SI.c (Int.ofNat 0)) (SI.v 1001)],
      eqs := [Eqn.T (SB.app 199 SA.nil)] },
    {
      pc :=
        [SB.not
            (SB.eq
              (SI.len
                (SL.app 111
                  (SA.l (SL.app 121 (SA.l (SL.v 1001) (SA.i (SI.add (SI.v 1001) (SI.c (Int.ofNat 2))) SA.nil)))
                    (SA.i (SI.add (SI.v 1001) (SI.c (Int.ofNat 2))) SA.nil))))
              (SI.c (Int.ofNat 0))),
          SB.le
            (SI.len
              (SL.app 111
                (SA.l (SL.app 121 (SA.l (SL.v 1001) (SA.i (SI.add (SI.v 1001) (SI.c (Int.ofNat 2))) SA.nil)))
                  (SA.i (SI.add (SI.v 1001) (SI.c (Int.ofNat 2))) SA.nil))))
            (SI.len (SL.app 121 (SA.l (SL.v 1001) (SA.i (SI.add (SI.v 1001) (SI.c (Int.ofNat 2))) SA.nil)))),
          SB.le
            (SI.len
              (SL.app 121
                (SA.l (SL.app 121 (SA.l (SL.v 1001) (SA.i (SI.add (SI.v 1001) (SI.c (Int.ofNat 2))) SA.nil)))
                  (SA.i (SI.add (SI.v 1001) (SI.c (Int.ofNat 2))) SA.nil))))
            (SI.len (SL.app 121 (SA.l (SL.v 1001) (SA.i (SI.add (SI.v 1001) (SI.c (Int.ofNat 2))) SA.nil)))),
          SB.eq
            (SI.len
              (SL.app 110
                (SA.l (SL.app 121 (SA.l (SL.v 1001) (SA.i (SI.add (SI.v 1001) (SI.c (Int.ofNat 2))) SA.nil))) SA.nil)))
            (SI.c (Int.ofNat 0)),
          SB.le
            (SI.len
              (SL.app 110
                (SA.l (SL.app 121 (SA.l (SL.v 1001) (SA.i (SI.add (SI.v 1001) (SI.c (Int.ofNat 2))) SA.nil))) SA.nil)))
            (SI.len (SL.app 121 (SA.l (SL.v 1001) (SA.i (SI.add (SI.v 1001) (SI.c (Int.ofNat 2))) SA.nil)))),
          SB.eqL (SL.app 111 (SA.l (SL.v 1001) (SA.i (SI.add (SI.v 1001) (SI.c (Int.ofNat 2))) SA.nil)))
            (SL.app 110 (SA.l (SL.v 1001) SA.nil)),
          SB.le (SI.len (SL.app 111 (SA.l (SL.v 1001) (SA.i (SI.add (SI.v 1001) (SI.c (Int.ofNat 2))) SA.nil))))
            (SI.len (SL.v 1001)),
          SB.le (SI.len (SL.app 121 (SA.l (SL.v 1001) (SA.i (SI.add (SI.v 1001) (SI.c (Int.ofNat 2))) SA.nil))))
            (SI.len (SL.v 1001)),
          SB.not
            (SB.app 130
              (SA.l
                (SL.app 141
                  (SA.l
                    (SL.app 141
                      (SA.l
                        (SL.app 141
                          (SA.l (SL.app 141 (SA.l (SL.v 1000) (SA.i (SI.c (Int.ofNat 0)) SA.nil)))
                            (SA.i (SI.c (Int.ofNat 1)) SA.nil)))
                        (SA.i (SI.c (Int.ofNat 2)) SA.nil)))
                    (SA.i (SI.c (Int.ofNat 3)) SA.nil)))
                (SA.i (SI.c (Int.ofNat 0)) (SA.i (SI.add (SI.v 1001) (SI.c (Int.ofNat 1))) SA.nil)))),
          SB.not
            (SB.app 130
              (SA.l
                (SL.app 141
                  (SA.l
                    (SL.app 141
                      (SA.l
                        (SL.app 141
                          (SA.l (SL.app 141 (SA.l (SL.v 1000) (SA.i (SI.c (Int.ofNat 0)) SA.nil)))
                            (SA.i (SI.c (Int.ofNat 1)) SA.nil)))
                        (SA.i (SI.c (Int.ofNat 2)) SA.nil)))
                    (SA.i (SI.c (Int.ofNat 3)) SA.nil)))
                (SA.i (SI.c (Int.ofNat 0)) (SA.i (SI.v 1001) SA.nil)))),
          SB.le (SI.len (SL.app 110 (SA.l (SL.v 1001) SA.nil))) (SI.len (SL.v 1001)),
          SB.eq
            (SI.len
              (SL.app 141
                (SA.l
                  (SL.app 141
                    (SA.l
                      (SL.app 141
                        (SA.l (SL.app 141 (SA.l (SL.v 1000) (SA.i (SI.c (Int.ofNat 0)) SA.nil)))
                          (SA.i (SI.c (Int.ofNat 1)) SA.nil)))
                      (SA.i (SI.c (Int.ofNat 2)) SA.nil)))
                  (SA.i (SI.c (Int.ofNat 3)) SA.nil))))
            (SI.len
              (SL.app 141
                (SA.l
                  (SL.app 141
                    (SA.l (SL.app 141 (SA.l (SL.v 1000) (SA.i (SI.c (Int.ofNat 0)) SA.nil)))
                      (SA.i (SI.c (Int.ofNat 1)) SA.nil)))
                  (SA.i (SI.c (Int.ofNat 2)) SA.nil)))),
          SB.eq
            (SI.len
              (SL.app 141
                (SA.l
                  (SL.app 141
                    (SA.l (SL.app 141 (SA.l (SL.v 1000) (SA.i (SI.c (Int.ofNat 0)) SA.nil)))
                      (SA.i (SI.c (Int.ofNat 1)) SA.nil)))
                  (SA.i (SI.c (Int.ofNat 2)) SA.nil))))
            (SI.len
              (SL.app 141
                (SA.l (SL.app 141 (SA.l (SL.v 1000) (SA.i (SI.c (Int.ofNat 0)) SA.nil)))
                  (SA.i (SI.c (Int.ofNat 1)) SA.nil)))),
          SB.eq
            (SI.len
              (SL.app 141
                (SA.l (SL.app 141 (SA.l (SL.v 1000) (SA.i (SI.c (Int.ofNat 0)) SA.nil)))
                  (SA.i (SI.c (Int.ofNat 1)) SA.nil))))
            (SI.len (SL.app 141 (SA.l (SL.v 1000) (SA.i (SI.c (Int.ofNat 0)) SA.nil)))),
          SB.eq (SI.len (SL.app 141 (SA.l (SL.v 1000) (SA.i (SI.c (Int.ofNat 0)) SA.nil)))) (SI.len (SL.v 1000)),
          SB.app 155 (SA.l (SL.v 1000) SA.nil), SB.app 152 (SA.l (SL.v 1001) (SA.i (SI.v 1001) SA.nil)),
          SB.le (SI.len (SL.v 1001)) (SI.c (Int.ofNat 120)), SB.eq (SI.len (SL.v 1000)) (SI.c (Int.ofNat 4)),
          SB.le (SI.v 1001) (SI.c (Int.ofNat 120)), SB.le (SI.c (Int.ofNat 0)) (SI.v 1001)],
      eqs := [Eqn.T (SB.app 199 SA.nil)] },
    {
      pc :=
        [SB.not
            (SB.eq
              (SI.len
                (SL.app 110
                  (SA.l (SL.app 121 (SA.l (SL.v 1001) (SA.i (SI.add (SI.v 1001) (SI.c (Int.ofNat 2))) SA.nil)))
                    SA.nil)))
              (SI.c (Int.ofNat 0))),
          SB.le
            (SI.len
              (SL.app 110
                (SA.l (SL.app 121 (SA.l (SL.v 1001) (SA.i (SI.add (SI.v 1001) (SI.c (Int.ofNat 2))) SA.nil))) SA.nil)))
            (SI.len (SL.app 121 (SA.l (SL.v 1001) (SA.i (SI.add (SI.v 1001) (SI.c (Int.ofNat 2))) SA.nil)))),
          SB.eqL (SL.app 111 (SA.l (SL.v 1001) (SA.i (SI.add (SI.v 1001) (SI.c (Int.ofNat 2))) SA.nil)))
            (SL.app 110 (SA.l (SL.v 1001) SA.nil)),
          SB.le (SI.len (SL.app 111 (SA.l (SL.v 1001) (SA.i (SI.add (SI.v 1001) (SI.c (Int.ofNat 2))) SA.nil))))
            (SI.len (SL.v 1001)),
          SB.le (SI.len (SL.app 121 (SA.l (SL.v 1001) (SA.i (SI.add (SI.v 1001) (SI.c (Int.ofNat 2))) SA.nil))))
            (SI.len (SL.v 1001)),
          SB.not
            (SB.app 130
              (SA.l
                (SL.app 141
                  (SA.l
                    (SL.app 141
                      (SA.l
                        (SL.app 141
                          (SA.l (SL.app 141 (SA.l (SL.v 1000) (SA.i (SI.c (Int.ofNat 0)) SA.nil)))
                            (SA.i (SI.c (Int.ofNat 1)) SA.nil)))
                        (SA.i (SI.c (Int.ofNat 2)) SA.nil)))
                    (SA.i (SI.c (Int.ofNat 3)) SA.nil)))
                (SA.i (SI.c (Int.ofNat 0)) (SA.i (SI.add (SI.v 1001) (SI.c (Int.ofNat 1))) SA.nil)))),
          SB.not
            (SB.app 130
              (SA.l
                (SL.app 141
                  (SA.l
                    (SL.app 141
                      (SA.l
                        (SL.app 141
                          (SA.l (SL.app 141 (SA.l (SL.v 1000) (SA.i (SI.c (Int.ofNat 0)) SA.nil)))
                            (SA.i (SI.c (Int.ofNat 1)) SA.nil)))
                        (SA.i (SI.c (Int.ofNat 2)) SA.nil)))
                    (SA.i (SI.c (Int.ofNat 3)) SA.nil)))
                (SA.i (SI.c (Int.ofNat 0)) (SA.i (SI.v 1001) SA.nil)))),
          SB.le (SI.len (SL.app 110 (SA.l (SL.v 1001) SA.nil))) (SI.len (SL.v 1001)),
          SB.eq
            (SI.len
              (SL.app 141
                (SA.l
                  (SL.app 141
                    (SA.l
                      (SL.app 141
                        (SA.l (SL.app 141 (SA.l (SL.v 1000) (SA.i (SI.c (Int.ofNat 0)) SA.nil)))
                          (SA.i (SI.c (Int.ofNat 1)) SA.nil)))
                      (SA.i (SI.c (Int.ofNat 2)) SA.nil)))
                  (SA.i (SI.c (Int.ofNat 3)) SA.nil))))
            (SI.len
              (SL.app 141
                (SA.l
                  (SL.app 141
                    (SA.l (SL.app 141 (SA.l (SL.v 1000) (SA.i (SI.c (Int.ofNat 0)) SA.nil)))
                      (SA.i (SI.c (Int.ofNat 1)) SA.nil)))
                  (SA.i (SI.c (Int.ofNat 2)) SA.nil)))),
          SB.eq
            (SI.len
              (SL.app 141
                (SA.l
                  (SL.app 141
                    (SA.l (SL.app 141 (SA.l (SL.v 1000) (SA.i (SI.c (Int.ofNat 0)) SA.nil)))
                      (SA.i (SI.c (Int.ofNat 1)) SA.nil)))
                  (SA.i (SI.c (Int.ofNat 2)) SA.nil))))
            (SI.len
              (SL.app 141
                (SA.l (SL.app 141 (SA.l (SL.v 1000) (SA.i (SI.c (Int.ofNat 0)) SA.nil)))
                  (SA.i (SI.c (Int.ofNat 1)) SA.nil)))),
          SB.eq
            (SI.len
              (SL.app 141
                (SA.l (SL.app 141 (SA.l (SL.v 1000) (SA.i (SI.c (Int.ofNat 0)) SA.nil)))
                  (SA.i (SI.c (Int.ofNat 1)) SA.nil))))
            (SI.len (SL.app 141 (SA.l (SL.v 1000) (SA.i (SI.c (Int.ofNat 0)) SA.nil)))),
          SB.eq (SI.len (SL.app 141 (SA.l (SL.v 1000) (SA.i (SI.c (Int.ofNat 0)) SA.nil)))) (SI.len (SL.v 1000)),
          SB.app 155 (SA.l (SL.v 1000) SA.nil), SB.app 152 (SA.l (SL.v 1001) (SA.i (SI.v 1001) SA.nil)),
          SB.le (SI.len (SL.v 1001)) (SI.c (Int.ofNat 120)), SB.eq (SI.len (SL.v 1000)) (SI.c (Int.ofNat 4)),
          SB.le (SI.v 1001) (SI.c (Int.ofNat 120)), SB.le (SI.c (Int.ofNat 0)) (SI.v 1001)],
      eqs := [Eqn.T (SB.app 199 SA.nil)] },
    {
      pc :=
        [SB.not
            (SB.eqL (SL.app 111 (SA.l (SL.v 1001) (SA.i (SI.add (SI.v 1001) (SI.c (Int.ofNat 2))) SA.nil)))
              (SL.app 110 (SA.l (SL.v 1001) SA.nil))),
          SB.le (SI.len (SL.app 111 (SA.l (SL.v 1001) (SA.i (SI.add (SI.v 1001) (SI.c (Int.ofNat 2))) SA.nil))))
            (SI.len (SL.v 1001)),
          SB.le (SI.len (SL.app 121 (SA.l (SL.v 1001) (SA.i (SI.add (SI.v 1001) (SI.c (Int.ofNat 2))) SA.nil))))
            (SI.len (SL.v 1001)),
          SB.not
            (SB.app 130
              (SA.l
                (SL.app 141
                  (SA.l
                    (SL.app 141
                      (SA.l
                        (SL.app 141
                          (SA.l (SL.app 141 (SA.l (SL.v 1000) (SA.i (SI.c (Int.ofNat 0)) SA.nil)))
                            (SA.i (SI.c (Int.ofNat 1)) SA.nil)))
                        (SA.i (SI.c (Int.ofNat 2)) SA.nil)))
                    (SA.i (SI.c (Int.ofNat 3)) SA.nil)))
                (SA.i (SI.c (Int.ofNat 0)) (SA.i (SI.add (SI.v 1001) (SI.c (Int.ofNat 1))) SA.nil)))),
          SB.not
            (SB.app 130
              (SA.l
                (SL.app 141
                  (SA.l
                    (SL.app 141
                      (SA.l
                        (SL.app 141
                          (SA.l (SL.app 141 (SA.l (SL.v 1000) (SA.i (SI.c (Int.ofNat 0)) SA.nil)))
                            (SA.i (SI.c (Int.ofNat 1)) SA.nil)))
                        (SA.i (SI.c (Int.ofNat 2)) SA.nil)))
                    (SA.i (SI.c (Int.ofNat 3)) SA.nil)))
                (SA.i (SI.c (Int.ofNat 0)) (SA.i (SI.v 1001) SA.nil)))),
          SB.le (SI.len (SL.app 110 (SA.l (SL.v 1001) SA.nil))) (SI.len (SL.v 1001)),
          SB.eq
            (SI.len
              (SL.app 141
                (SA.l
                  (SL.app 141
                    (SA.l
                      (SL.app 141
                        (SA.l (SL.app 141 (SA.l (SL.v 1000) (SA.i (SI.c (Int.ofNat 0)) SA.nil)))
                          (SA.i (SI.c (Int.ofNat 1)) SA.nil)))
                      (SA.i (SI.c (Int.ofNat 2)) SA.nil)))
                  (SA.i (SI.c (Int.ofNat 3)) SA.nil))))
            (SI.len
              (SL.app 141
                (SA.l
                  (SL.app 141
                    (SA.l (SL.app 141 (SA.l (SL.v 1000) (SA.i (SI.c (Int.ofNat 0)) SA.nil)))
                      (SA.i (SI.c (Int.ofNat 1)) SA.nil)))
                  (SA.i (SI.c (Int.ofNat 2)) SA.nil)))),
          SB.eq
            (SI.len
              (SL.app 141
                (SA.l
                  (SL.app 141
                    (SA.l (SL.app 141 (SA.l (SL.v 1000) (SA.i (SI.c (Int.ofNat 0)) SA.nil)))
                      (SA.i (SI.c (Int.ofNat 1)) SA.nil)))
                  (SA.i (SI.c (Int.ofNat 2)) SA.nil))))
            (SI.len
              (SL.app 141
                (SA.l (SL.app 141 (SA.l (SL.v 1000) (SA.i (SI.c (Int.ofNat 0)) SA.nil)))
                  (SA.i (SI.c (Int.ofNat 1)) SA.nil)))),
          SB.eq
            (SI.len
              (SL.app 141
                (SA.l (SL.app 141 (SA.l (SL.v 1000) (SA.i (SI.c (Int.ofNat 0)) SA.nil)))
                  (SA.i (SI.c (Int.ofNat 1)) SA.nil))))
            (SI.len (SL.app 141 (SA.l (SL.v 1000) (SA.i (SI.c (Int.ofNat 0)) SA.nil)))),
          SB.eq (SI.len (SL.app 141 (SA.l (SL.v 1000) (SA.i (SI.c (Int.ofNat 0)) SA.nil)))) (SI.len (SL.v 1000)),
          SB.app 155 (SA.l (SL.v 1000) SA.nil), SB.app 152 (SA.l (SL.v 1001) (SA.i (SI.v 1001) SA.nil)),
          SB.le (SI.len (SL.v 1001)) (SI.c (Int.ofNat 120)), SB.eq (SI.len (SL.v 1000)) (SI.c (Int.ofNat 4)),
          SB.le (SI.v 1001) (SI.c (Int.ofNat 120)), SB.le (SI.c (Int.ofNat 0)) (SI.v 1001)],
      eqs := [Eqn.T (SB.app 199 SA.nil)] }] := by kernel_rfl
theorem lEnds0_ok : lEnds0.ok Φ Try.prog := by
  refine call_rule (fun ρ => t13_ok ρ) lEnds0_obs ?_
  simp only [and_imp, List.forall_mem_cons, List.not_mem_nil, false_implies, implies_true, and_true, Ob.ok, holds, Eqn.ok, evB_eq, evB_lt, evB_le, evB_not, evB_and, evB_or, evB_eqL, evB_app, evB_v, evB_c, ev_sel, ev_len, ev_v, ev_c, ev_add, ev_sub, ev_mul, ev_quo, ev_rem, ev_bits, ev_wrap, evL_v, evL_lit, evL_app, ev_app, evA_l, evA_i, evA_nil, std_min, std_max, std_cat, std_take, std_drop, std_row, std_set, std_rep, std_find, std_put, std_del, std_flag, std_unflag, std_clr, std_left, ints_cons, ints_nil, ofNat_lit, negSucc_lit, decide_eq_true_eq, Bool.and_eq_true, Bool.or_eq_true, Bool.not_eq_true', Bool.and_eq_false_iff, Bool.or_eq_false_iff, decide_eq_false_iff_not, aI100, aL100, aL110, aL111, aL112, aL113, aL114, aL120, aL121, aL131, aB130, aB199, aI140, aI141, aI142, aI143, aL115, aL140, aL141, aL142, aB150, aB151, aB152, aB153, aB154, aB155]
  repeat' apply And.intro
  all_goals intro ρ hR
  all_goals intros
  all_goals first
    | (exfalso
       have h4 := unp4 (P := ρ.l 1000) (by with_reducible assumption) (by with_reducible assumption)
       have hk := key_old (A := ρ.l 1001) (now := ρ.i 1001) (by with_reducible assumption) (by omega)
       have hz := keep_old (A := ρ.l 1001) (now := ρ.i 1001) (by with_reducible assumption) (by omega)
       have h := ‹lateB _ (ρ.i 1001) = true›
       rw [h4, late_off] at h
       cases h)
    | (exfalso
       have h4 := unp4 (P := ρ.l 1000) (by with_reducible assumption) (by with_reducible assumption)
       have hk := key_old (A := ρ.l 1001) (now := ρ.i 1001) (by with_reducible assumption) (by omega)
       have hz := keep_old (A := ρ.l 1001) (now := ρ.i 1001) (by with_reducible assumption) (by omega)
       have h := ‹lateB _ (ρ.i 1001 + 1) = true›
       rw [h4, late_off] at h
       cases h)
    | (exfalso
       have h4 := unp4 (P := ρ.l 1000) (by with_reducible assumption) (by with_reducible assumption)
       have hk := key_old (A := ρ.l 1001) (now := ρ.i 1001) (by with_reducible assumption) (by omega)
       have hz := keep_old (A := ρ.l 1001) (now := ρ.i 1001) (by with_reducible assumption) (by omega)
       exact absurd hk (by with_reducible assumption))
    | (exfalso
       have h4 := unp4 (P := ρ.l 1000) (by with_reducible assumption) (by with_reducible assumption)
       have hk := key_old (A := ρ.l 1001) (now := ρ.i 1001) (by with_reducible assumption) (by omega)
       have hz := keep_old (A := ρ.l 1001) (now := ρ.i 1001) (by with_reducible assumption) (by omega)
       exact absurd (by rw [hz]; rfl) ‹¬ ((List.length (keyT (oldP _) (keepT _ _)) : Nat) : Int) = 0›)
    | (exfalso
       have h4 := unp4 (P := ρ.l 1000) (by with_reducible assumption) (by with_reducible assumption)
       have hk := key_old (A := ρ.l 1001) (now := ρ.i 1001) (by with_reducible assumption) (by omega)
       have hz := keep_old (A := ρ.l 1001) (now := ρ.i 1001) (by with_reducible assumption) (by omega)
       exact absurd (by rw [hz]; rfl) ‹¬ ((List.length (keyT allP (keepT _ _)) : Nat) : Int) = 0›)
theorem lEnds_ok : lEnds.ok Φ Try.prog := drop_never rfl lEnds0_ok
end Go.SF.C10
