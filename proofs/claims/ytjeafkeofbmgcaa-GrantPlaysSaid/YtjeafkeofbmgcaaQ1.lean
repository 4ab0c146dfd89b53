/- The package grant, shown. -/
import Derived.Test.YtjeafkeofbmgcaaC1
import Derived.Test.YtjeafkeofbmgcaaP2
import Derived.KernelRfl
namespace Go.SF.C19
open Go Go.SF Go.Proofs
set_option linter.unusedVariables false
set_option linter.unusedSimpArgs false

set_option maxRecDepth 100000 in
theorem su0_obs : loopObs Φ Try.prog noTbl 1000 su0.f (loopAt Try.prog su0.f su0.id) su0.n su0.T k0 su0.outs = some
  [{
      pc :=
        [SB.eq (SI.sel (SL.v 0) (SI.v 0) 4) (SI.c (Int.ofNat 0)),
          SB.eq (SI.sel (SL.v 0) (SI.v 0) 3) (SI.c (Int.ofNat 0)),
          SB.eq (SI.sel (SL.v 0) (SI.v 0) 2) (SI.c (Int.ofNat 0)),
          SB.eq (SI.sel (SL.v 0) (SI.v 0) 1) (SI.c (Int.ofNat 0)),
          SB.eq (SI.sel (SL.v 0) (SI.v 0) 0) (SI.c (Int.ofNat 0)), SB.lt (SI.v 0) (SI.len (SL.v 0)),
          SB.le (SI.c (Int.ofNat 0)) (SI.v 0), SB.le (SI.v 0) (SI.len (SL.v 0)),
          SB.le (SI.len (SL.v 0)) (SI.c (Int.ofNat 64)), SB.le (SI.len (SL.v 1)) (SI.v 0)],
      eqs :=
        [Eqn.T
            (SB.lt (SI.sub (SI.len (SL.v 0)) (SI.add (SI.v 0) (SI.c (Int.ofNat 1))))
              (SI.sub (SI.len (SL.v 0)) (SI.v 0))),
          Eqn.T (SB.lt (SI.c (Int.ofNat 0)) (SI.sub (SI.len (SL.v 0)) (SI.v 0)))] },
    {
      pc :=
        [SB.le
            (SI.add (SI.add (SI.len (SL.v 1)) (SI.c (Int.ofNat 1)))
              (SI.len (SL.app 100 (SA.l (SL.v 0) (SA.i (SI.add (SI.v 0) (SI.c (Int.ofNat 1))) SA.nil)))))
            (SI.len (SL.v 0)),
          SB.eq (SI.sel (SL.v 0) (SI.v 0) 4) (SI.c (Int.ofNat 0)),
          SB.eq (SI.sel (SL.v 0) (SI.v 0) 3) (SI.c (Int.ofNat 0)),
          SB.eq (SI.sel (SL.v 0) (SI.v 0) 2) (SI.c (Int.ofNat 0)),
          SB.eq (SI.sel (SL.v 0) (SI.v 0) 1) (SI.c (Int.ofNat 0)),
          SB.eq (SI.sel (SL.v 0) (SI.v 0) 0) (SI.c (Int.ofNat 0)), SB.lt (SI.v 0) (SI.len (SL.v 0)),
          SB.le (SI.c (Int.ofNat 0)) (SI.v 0), SB.le (SI.v 0) (SI.len (SL.v 0)),
          SB.le (SI.len (SL.v 0)) (SI.c (Int.ofNat 64)), SB.le (SI.len (SL.v 1)) (SI.v 0)],
      eqs :=
        [Eqn.T
            (SB.le (SI.len (SL.app 0 (SA.l (SL.v 1) (SA.l (SL.app 100 (SA.l (SL.v 0) (SA.i (SI.v 0) SA.nil))) SA.nil))))
              (SI.len (SL.v 0))),
          Eqn.I (SI.len (SL.app 0 (SA.l (SL.v 1) (SA.l (SL.app 100 (SA.l (SL.v 0) (SA.i (SI.v 0) SA.nil))) SA.nil))))
            (SI.add (SI.add (SI.len (SL.v 1)) (SI.c (Int.ofNat 1)))
              (SI.len (SL.app 100 (SA.l (SL.v 0) (SA.i (SI.add (SI.v 0) (SI.c (Int.ofNat 1))) SA.nil))))),
          Eqn.L (SL.app 0 (SA.l (SL.v 1) (SA.l (SL.app 100 (SA.l (SL.v 0) (SA.i (SI.v 0) SA.nil))) SA.nil)))
            (SL.app 0
              (SA.l (SL.app 0 (SA.l (SL.v 1) (SA.l (SL.app 3 (SA.i (SI.v 0) SA.nil)) SA.nil)))
                (SA.l (SL.app 100 (SA.l (SL.v 0) (SA.i (SI.add (SI.v 0) (SI.c (Int.ofNat 1))) SA.nil))) SA.nil)))] },
    {
      pc :=
        [SB.not (SB.eq (SI.sel (SL.v 0) (SI.v 0) 4) (SI.c (Int.ofNat 0))),
          SB.eq (SI.sel (SL.v 0) (SI.v 0) 3) (SI.c (Int.ofNat 0)),
          SB.eq (SI.sel (SL.v 0) (SI.v 0) 2) (SI.c (Int.ofNat 0)),
          SB.eq (SI.sel (SL.v 0) (SI.v 0) 1) (SI.c (Int.ofNat 0)),
          SB.eq (SI.sel (SL.v 0) (SI.v 0) 0) (SI.c (Int.ofNat 0)), SB.lt (SI.v 0) (SI.len (SL.v 0)),
          SB.le (SI.c (Int.ofNat 0)) (SI.v 0), SB.le (SI.v 0) (SI.len (SL.v 0)),
          SB.le (SI.len (SL.v 0)) (SI.c (Int.ofNat 64)), SB.le (SI.len (SL.v 1)) (SI.v 0)],
      eqs :=
        [Eqn.T
            (SB.lt (SI.sub (SI.len (SL.v 0)) (SI.add (SI.v 0) (SI.c (Int.ofNat 1))))
              (SI.sub (SI.len (SL.v 0)) (SI.v 0))),
          Eqn.T (SB.lt (SI.c (Int.ofNat 0)) (SI.sub (SI.len (SL.v 0)) (SI.v 0)))] },
    {
      pc :=
        [SB.le
            (SI.add (SI.len (SL.v 1))
              (SI.len (SL.app 100 (SA.l (SL.v 0) (SA.i (SI.add (SI.v 0) (SI.c (Int.ofNat 1))) SA.nil)))))
            (SI.len (SL.v 0)),
          SB.not (SB.eq (SI.sel (SL.v 0) (SI.v 0) 4) (SI.c (Int.ofNat 0))),
          SB.eq (SI.sel (SL.v 0) (SI.v 0) 3) (SI.c (Int.ofNat 0)),
          SB.eq (SI.sel (SL.v 0) (SI.v 0) 2) (SI.c (Int.ofNat 0)),
          SB.eq (SI.sel (SL.v 0) (SI.v 0) 1) (SI.c (Int.ofNat 0)),
          SB.eq (SI.sel (SL.v 0) (SI.v 0) 0) (SI.c (Int.ofNat 0)), SB.lt (SI.v 0) (SI.len (SL.v 0)),
          SB.le (SI.c (Int.ofNat 0)) (SI.v 0), SB.le (SI.v 0) (SI.len (SL.v 0)),
          SB.le (SI.len (SL.v 0)) (SI.c (Int.ofNat 64)), SB.le (SI.len (SL.v 1)) (SI.v 0)],
      eqs :=
        [Eqn.T
            (SB.le (SI.len (SL.app 0 (SA.l (SL.v 1) (SA.l (SL.app 100 (SA.l (SL.v 0) (SA.i (SI.v 0) SA.nil))) SA.nil))))
              (SI.len (SL.v 0))),
          Eqn.I (SI.len (SL.app 0 (SA.l (SL.v 1) (SA.l (SL.app 100 (SA.l (SL.v 0) (SA.i (SI.v 0) SA.nil))) SA.nil))))
            (SI.add (SI.len (SL.v 1))
              (SI.len (SL.app 100 (SA.l (SL.v 0) (SA.i (SI.add (SI.v 0) (SI.c (Int.ofNat 1))) SA.nil))))),
          Eqn.L (SL.app 0 (SA.l (SL.v 1) (SA.l (SL.app 100 (SA.l (SL.v 0) (SA.i (SI.v 0) SA.nil))) SA.nil)))
            (SL.app 0
              (SA.l (SL.v 1)
                (SA.l (SL.app 100 (SA.l (SL.v 0) (SA.i (SI.add (SI.v 0) (SI.c (Int.ofNat 1))) SA.nil))) SA.nil)))] },
    {
      pc :=
        [SB.not (SB.eq (SI.sel (SL.v 0) (SI.v 0) 3) (SI.c (Int.ofNat 0))),
          SB.eq (SI.sel (SL.v 0) (SI.v 0) 2) (SI.c (Int.ofNat 0)),
          SB.eq (SI.sel (SL.v 0) (SI.v 0) 1) (SI.c (Int.ofNat 0)),
          SB.eq (SI.sel (SL.v 0) (SI.v 0) 0) (SI.c (Int.ofNat 0)), SB.lt (SI.v 0) (SI.len (SL.v 0)),
          SB.le (SI.c (Int.ofNat 0)) (SI.v 0), SB.le (SI.v 0) (SI.len (SL.v 0)),
          SB.le (SI.len (SL.v 0)) (SI.c (Int.ofNat 64)), SB.le (SI.len (SL.v 1)) (SI.v 0)],
      eqs :=
        [Eqn.T
            (SB.lt (SI.sub (SI.len (SL.v 0)) (SI.add (SI.v 0) (SI.c (Int.ofNat 1))))
              (SI.sub (SI.len (SL.v 0)) (SI.v 0))),
          Eqn.T (SB.lt (SI.c (Int.ofNat 0)) (SI.sub (SI.len (SL.v 0)) (SI.v 0)))] },
    {
      pc :=
        [SB.le
            (SI.add (SI.len (SL.v 1))
              (SI.len (SL.app 100 (SA.l (SL.v 0) (SA.i (SI.add (SI.v 0) (SI.c (Int.ofNat 1))) SA.nil)))))
            (SI.len (SL.v 0)),
          SB.not (SB.eq (SI.sel (SL.v 0) (SI.v 0) 3) (SI.c (Int.ofNat 0))),
          SB.eq (SI.sel (SL.v 0) (SI.v 0) 2) (SI.c (Int.ofNat 0)),
          SB.eq (SI.sel (SL.v 0) (SI.v 0) 1) (SI.c (Int.ofNat 0)),
          SB.eq (SI.sel (SL.v 0) (SI.v 0) 0) (SI.c (Int.ofNat 0)), SB.lt (SI.v 0) (SI.len (SL.v 0)),
          SB.le (SI.c (Int.ofNat 0)) (SI.v 0), SB.le (SI.v 0) (SI.len (SL.v 0)),
          SB.le (SI.len (SL.v 0)) (SI.c (Int.ofNat 64)), SB.le (SI.len (SL.v 1)) (SI.v 0)],
      eqs :=
        [Eqn.T
            (SB.le (SI.len (SL.app 0 (SA.l (SL.v 1) (SA.l (SL.app 100 (SA.l (SL.v 0) (SA.i (SI.v 0) SA.nil))) SA.nil))))
              (SI.len (SL.v 0))),
          Eqn.I (SI.len (SL.app 0 (SA.l (SL.v 1) (SA.l (SL.app 100 (SA.l (SL.v 0) (SA.i (SI.v 0) SA.nil))) SA.nil))))
            (SI.add (SI.len (SL.v 1))
              (SI.len (SL.app 100 (SA.l (SL.v 0) (SA.i (SI.add (SI.v 0) (SI.c (Int.ofNat 1))) SA.nil))))),
          Eqn.L (SL.app 0 (SA.l (SL.v 1) (SA.l (SL.app 100 (SA.l (SL.v 0) (SA.i (SI.v 0) SA.nil))) SA.nil)))
            (SL.app 0
              (SA.l (SL.v 1)
                (SA.l (SL.app 100 (SA.l (SL.v 0) (SA.i (SI.add (SI.v 0) (SI.c (Int.ofNat 1))) SA.nil))) SA.nil)))] },
    {
      pc :=
        [SB.not (SB.eq (SI.sel (SL.v 0) (SI.v 0) 2) (SI.c (Int.ofNat 0))),
          SB.eq (SI.sel (SL.v 0) (SI.v 0) 1) (SI.c (Int.ofNat 0)),
          SB.eq (SI.sel (SL.v 0) (SI.v 0) 0) (SI.c (Int.ofNat 0)), SB.lt (SI.v 0) (SI.len (SL.v 0)),
          SB.le (SI.c (Int.ofNat 0)) (SI.v 0), SB.le (SI.v 0) (SI.len (SL.v 0)),
          SB.le (SI.len (SL.v 0)) (SI.c (Int.ofNat 64)), SB.le (SI.len (SL.v 1)) (SI.v 0)],
      eqs :=
        [Eqn.T
            (SB.lt (SI.sub (SI.len (SL.v 0)) (SI.add (SI.v 0) (SI.c (Int.ofNat 1))))
              (SI.sub (SI.len (SL.v 0)) (SI.v 0))),
          Eqn.T (SB.lt (SI.c (Int.ofNat 0)) (SI.sub (SI.len (SL.v 0)) (SI.v 0)))] },
    {
      pc :=
        [SB.le
            (SI.add (SI.len (SL.v 1))
              (SI.len (SL.app 100 (SA.l (SL.v 0) (SA.i (SI.add (SI.v 0) (SI.c (Int.ofNat 1))) SA.nil)))))
            (SI.len (SL.v 0)),
          SB.not (SB.eq (SI.sel (SL.v 0) (SI.v 0) 2) (SI.c (Int.ofNat 0))),
          SB.eq (SI.sel (SL.v 0) (SI.v 0) 1) (SI.c (Int.ofNat 0)),
          SB.eq (SI.sel (SL.v 0) (SI.v 0) 0) (SI.c (Int.ofNat 0)), SB.lt (SI.v 0) (SI.len (SL.v 0)),
          SB.le (SI.c (Int.ofNat 0)) (SI.v 0), SB.le (SI.v 0) (SI.len (SL.v 0)),
          SB.le (SI.len (SL.v 0)) (SI.c (Int.ofNat 64)), SB.le (SI.len (SL.v 1)) (SI.v 0)],
      eqs :=
        [Eqn.T
            (SB.le (SI.len (SL.app 0 (SA.l (SL.v 1) (SA.l (SL.app 100 (SA.l (SL.v 0) (SA.i (SI.v 0) SA.nil))) SA.nil))))
              (SI.len (SL.v 0))),
          Eqn.I (SI.len (SL.app 0 (SA.l (SL.v 1) (SA.l (SL.app 100 (SA.l (SL.v 0) (SA.i (SI.v 0) SA.nil))) SA.nil))))
            (SI.add (SI.len (SL.v 1))
              (SI.len (SL.app 100 (SA.l (SL.v 0) (SA.i (SI.add (SI.v 0) (SI.c (Int.ofNat 1))) SA.nil))))),
          Eqn.L (SL.app 0 (SA.l (SL.v 1) (SA.l (SL.app 100 (SA.l (SL.v 0) (SA.i (SI.v 0) SA.nil))) SA.nil)))
            (SL.app 0
              (SA.l (SL.v 1)
                (SA.l (SL.app 100 (SA.l (SL.v 0) (SA.i (SI.add (SI.v 0) (SI.c (Int.ofNat 1))) SA.nil))) SA.nil)))] },
    {
      pc :=
        [SB.not (SB.eq (SI.sel (SL.v 0) (SI.v 0) 1) (SI.c (Int.ofNat 0))),
          SB.eq (SI.sel (SL.v 0) (SI.v 0) 0) (SI.c (Int.ofNat 0)), SB.lt (SI.v 0) (SI.len (SL.v 0)),
          SB.le (SI.c (Int.ofNat 0)) (SI.v 0), SB.le (SI.v 0) (SI.len (SL.v 0)),
          SB.le (SI.len (SL.v 0)) (SI.c (Int.ofNat 64)), SB.le (SI.len (SL.v 1)) (SI.v 0)],
      eqs :=
        [Eqn.T
            (SB.lt (SI.sub (SI.len (SL.v 0)) (SI.add (SI.v 0) (SI.c (Int.ofNat 1))))
              (SI.sub (SI.len (SL.v 0)) (SI.v 0))),
          Eqn.T (SB.lt (SI.c (Int.ofNat 0)) (SI.sub (SI.len (SL.v 0)) (SI.v 0)))] },
    {
      pc :=
        [SB.le
            (SI.add (SI.len (SL.v 1))
              (SI.len (SL.app 100 (SA.l (SL.v 0) (SA.i (SI.add (SI.v 0) (SI.c (Int.ofNat 1))) SA.nil)))))
            (SI.len (SL.v 0)),
          SB.not (SB.eq (SI.sel (SL.v 0) (SI.v 0) 1) (SI.c (Int.ofNat 0))),
          SB.eq (SI.sel (SL.v 0) (SI.v 0) 0) (SI.c (Int.ofNat 0)), SB.lt (SI.v 0) (SI.len (SL.v 0)),
          SB.le (SI.c (Int.ofNat 0)) (SI.v 0), SB.le (SI.v 0) (SI.len (SL.v 0)),
          SB.le (SI.len (SL.v 0)) (SI.c (Int.ofNat 64)), SB.le (SI.len (SL.v 1)) (SI.v 0)],
      eqs :=
        [Eqn.T
            (SB.le (SI.len (SL.app 0 (SA.l (SL.v 1) (SA.l (SL.app 100 (SA.l (SL.v 0) (SA.i (SI.v 0) SA.nil))) SA.nil))))
              (SI.len (SL.v 0))),
          Eqn.I (SI.len (SL.app 0 (SA.l (SL.v 1) (SA.l (SL.app 100 (SA.l (SL.v 0) (SA.i (SI.v 0) SA.nil))) SA.nil))))
            (SI.add (SI.len (SL.v 1))
              (SI.len (SL.app 100 (SA.l (SL.v 0) (SA.i (SI.add (SI.v 0) (SI.c (Int.ofNat 1))) SA.nil))))),
          Eqn.L (SL.app 0 (SA.l (SL.v 1) (SA.l (SL.app 100 (SA.l (SL.v 0) (SA.i (SI.v 0) SA.nil))) SA.nil)))
            (SL.app 0
              (SA.l (SL.v 1)
                (SA.l (SL.app 100 (SA.l (SL.v 0) (SA.i (SI.add (SI.v 0) (SI.c (Int.ofNat 1))) SA.nil))) SA.nil)))] },
    {
      pc :=
        [SB.not (SB.eq (SI.sel (SL.v 0) (SI.v 0) 0) (SI.c (Int.ofNat 0))), SB.lt (SI.v 0) (SI.len (SL.v 0)),
          SB.le (SI.c (Int.ofNat 0)) (SI.v 0), SB.le (SI.v 0) (SI.len (SL.v 0)),
          SB.le (SI.len (SL.v 0)) (SI.c (Int.ofNat 64)), SB.le (SI.len (SL.v 1)) (SI.v 0)],
      eqs :=
        [Eqn.T
            (SB.lt (SI.sub (SI.len (SL.v 0)) (SI.add (SI.v 0) (SI.c (Int.ofNat 1))))
              (SI.sub (SI.len (SL.v 0)) (SI.v 0))),
          Eqn.T (SB.lt (SI.c (Int.ofNat 0)) (SI.sub (SI.len (SL.v 0)) (SI.v 0)))] },
    {
      pc :=
        [SB.le
            (SI.add (SI.len (SL.v 1))
              (SI.len (SL.app 100 (SA.l (SL.v 0) (SA.i (SI.add (SI.v 0) (SI.c (Int.ofNat 1))) SA.nil)))))
            (SI.len (SL.v 0)),
          SB.not (SB.eq (SI.sel (SL.v 0) (SI.v 0) 0) (SI.c (Int.ofNat 0))), SB.lt (SI.v 0) (SI.len (SL.v 0)),
          SB.le (SI.c (Int.ofNat 0)) (SI.v 0), SB.le (SI.v 0) (SI.len (SL.v 0)),
          SB.le (SI.len (SL.v 0)) (SI.c (Int.ofNat 64)), SB.le (SI.len (SL.v 1)) (SI.v 0)],
      eqs :=
        [Eqn.T
            (SB.le (SI.len (SL.app 0 (SA.l (SL.v 1) (SA.l (SL.app 100 (SA.l (SL.v 0) (SA.i (SI.v 0) SA.nil))) SA.nil))))
              (SI.len (SL.v 0))),
          Eqn.I (SI.len (SL.app 0 (SA.l (SL.v 1) (SA.l (SL.app 100 (SA.l (SL.v 0) (SA.i (SI.v 0) SA.nil))) SA.nil))))
            (SI.add (SI.len (SL.v 1))
              (SI.len (SL.app 100 (SA.l (SL.v 0) (SA.i (SI.add (SI.v 0) (SI.c (Int.ofNat 1))) SA.nil))))),
          Eqn.L (SL.app 0 (SA.l (SL.v 1) (SA.l (SL.app 100 (SA.l (SL.v 0) (SA.i (SI.v 0) SA.nil))) SA.nil)))
            (SL.app 0
              (SA.l (SL.v 1)
                (SA.l (SL.app 100 (SA.l (SL.v 0) (SA.i (SI.add (SI.v 0) (SI.c (Int.ofNat 1))) SA.nil))) SA.nil)))] },
    {
      pc :=
        [SB.not (SB.lt (SI.v 0) (SI.len (SL.v 0))), SB.le (SI.c (Int.ofNat 0)) (SI.v 0),
          SB.le (SI.v 0) (SI.len (SL.v 0)), SB.le (SI.len (SL.v 0)) (SI.c (Int.ofNat 64)),
          SB.le (SI.len (SL.v 1)) (SI.v 0)],
      eqs :=
        [Eqn.T
            (SB.le (SI.len (SL.app 0 (SA.l (SL.v 1) (SA.l (SL.app 100 (SA.l (SL.v 0) (SA.i (SI.v 0) SA.nil))) SA.nil))))
              (SI.len (SL.v 0))),
          Eqn.I (SI.len (SL.app 0 (SA.l (SL.v 1) (SA.l (SL.app 100 (SA.l (SL.v 0) (SA.i (SI.v 0) SA.nil))) SA.nil))))
            (SI.len (SL.v 1)),
          Eqn.L (SL.app 0 (SA.l (SL.v 1) (SA.l (SL.app 100 (SA.l (SL.v 0) (SA.i (SI.v 0) SA.nil))) SA.nil)))
            (SL.v 1)] }] := by kernel_rfl
theorem su0_ok : su0.ok Φ Try.prog := by
  refine ⟨by kernel_rfl, loop_rule (fun ρ => noTbl_ok) (loopAt_sub (by kernel_rfl)) su0_obs ?_⟩
  simp only [and_imp, List.forall_mem_cons, List.not_mem_nil, false_implies, implies_true, and_true, Ob.ok, holds, Eqn.ok, evB_eq, evB_lt, evB_le, evB_not, evB_and, evB_or, evB_eqL, evB_app, evB_v, evB_c, ev_sel, ev_len, ev_v, ev_c, ev_add, ev_sub, ev_mul, ev_quo, ev_rem, ev_bits, ev_wrap, evL_v, evL_lit, evL_app, ev_app, evA_l, evA_i, evA_nil, std_min, std_max, std_cat, std_take, std_drop, std_row, std_set, std_rep, std_find, std_put, std_del, std_flag, std_unflag, std_clr, std_left, std_copy, ints_cons, ints_nil, ofNat_lit, negSucc_lit, decide_eq_true_eq, Bool.and_eq_true, Bool.or_eq_true, Bool.not_eq_true', Bool.and_eq_false_iff, Bool.or_eq_false_iff, decide_eq_false_iff_not, aI110, aI111, aI112, aI113, aI114, aL100, aL101, aL102, aL103, aL110, aL112, aL113, aL114, aL115, aL116, aB130, aB131, aB132, aB199]
  repeat' apply And.intro
  all_goals intro ρ hR
  all_goals intros
  all_goals first
    | (omega)
    | (have e := idx_yes (p := freeB) (T := ρ.l 0) (i := ρ.i 0) (by omega) (by omega) (free_t (show okRow K5 ((ρ.l 0).getD (ρ.i 0).toNat []) from hR.row 0 rfl rfl _ (getD_mem (A := ρ.l 0) (by omega) (by omega))) (by unfold allZ; omega))
       simp only [e, List.length_append, List.length_cons, List.length_nil, List.append_assoc, List.append_nil, List.singleton_append, and_true, true_and] at *
       omega)
    | (have e := idx_no (p := freeB) (T := ρ.l 0) (i := ρ.i 0) (by omega) (by omega) (free_f (show okRow K5 ((ρ.l 0).getD (ρ.i 0).toNat []) from hR.row 0 rfl rfl _ (getD_mem (A := ρ.l 0) (by omega) (by omega))) (by unfold allZ; omega))
       simp only [e, List.length_append, List.length_cons, List.length_nil, List.append_assoc, List.append_nil, List.singleton_append, and_true, true_and] at *
       omega)
    | (have e := idx_end (p := freeB) (T := ρ.l 0) (i := ρ.i 0) (by omega)
       simp only [e, List.length_append, List.length_cons, List.length_nil, List.append_assoc, List.append_nil, List.singleton_append, and_true, true_and] at *
       omega)
set_option maxRecDepth 100000 in
theorem su1_obs : loopObs Φ Try.prog noTbl 1000 su1.f (loopAt Try.prog su1.f su1.id) su1.n su1.T k0 su1.outs = some
  [{
      pc :=
        [SB.eq (SI.sel (SL.v 0) (SI.v 0) 4) (SI.c (Int.ofNat 0)),
          SB.eq (SI.sel (SL.v 0) (SI.v 0) 3) (SI.c (Int.ofNat 0)),
          SB.eq (SI.sel (SL.v 0) (SI.v 0) 2) (SI.c (Int.ofNat 0)),
          SB.eq (SI.sel (SL.v 0) (SI.v 0) 1) (SI.c (Int.ofNat 0)),
          SB.eq (SI.sel (SL.v 0) (SI.v 0) 0) (SI.c (Int.ofNat 0)), SB.lt (SI.v 0) (SI.len (SL.v 0)),
          SB.le (SI.c (Int.ofNat 0)) (SI.v 0), SB.le (SI.v 0) (SI.len (SL.v 0)),
          SB.le (SI.len (SL.v 0)) (SI.c (Int.ofNat 64)), SB.le (SI.len (SL.v 1)) (SI.v 0)],
      eqs :=
        [Eqn.T
            (SB.lt (SI.sub (SI.len (SL.v 0)) (SI.add (SI.v 0) (SI.c (Int.ofNat 1))))
              (SI.sub (SI.len (SL.v 0)) (SI.v 0))),
          Eqn.T (SB.lt (SI.c (Int.ofNat 0)) (SI.sub (SI.len (SL.v 0)) (SI.v 0)))] },
    {
      pc :=
        [SB.le
            (SI.add (SI.len (SL.v 1))
              (SI.len (SL.app 101 (SA.l (SL.v 0) (SA.i (SI.add (SI.v 0) (SI.c (Int.ofNat 1))) SA.nil)))))
            (SI.len (SL.v 0)),
          SB.eq (SI.sel (SL.v 0) (SI.v 0) 4) (SI.c (Int.ofNat 0)),
          SB.eq (SI.sel (SL.v 0) (SI.v 0) 3) (SI.c (Int.ofNat 0)),
          SB.eq (SI.sel (SL.v 0) (SI.v 0) 2) (SI.c (Int.ofNat 0)),
          SB.eq (SI.sel (SL.v 0) (SI.v 0) 1) (SI.c (Int.ofNat 0)),
          SB.eq (SI.sel (SL.v 0) (SI.v 0) 0) (SI.c (Int.ofNat 0)), SB.lt (SI.v 0) (SI.len (SL.v 0)),
          SB.le (SI.c (Int.ofNat 0)) (SI.v 0), SB.le (SI.v 0) (SI.len (SL.v 0)),
          SB.le (SI.len (SL.v 0)) (SI.c (Int.ofNat 64)), SB.le (SI.len (SL.v 1)) (SI.v 0)],
      eqs :=
        [Eqn.T
            (SB.le (SI.len (SL.app 0 (SA.l (SL.v 1) (SA.l (SL.app 101 (SA.l (SL.v 0) (SA.i (SI.v 0) SA.nil))) SA.nil))))
              (SI.len (SL.v 0))),
          Eqn.I (SI.len (SL.app 0 (SA.l (SL.v 1) (SA.l (SL.app 101 (SA.l (SL.v 0) (SA.i (SI.v 0) SA.nil))) SA.nil))))
            (SI.add (SI.len (SL.v 1))
              (SI.len (SL.app 101 (SA.l (SL.v 0) (SA.i (SI.add (SI.v 0) (SI.c (Int.ofNat 1))) SA.nil))))),
          Eqn.L (SL.app 0 (SA.l (SL.v 1) (SA.l (SL.app 101 (SA.l (SL.v 0) (SA.i (SI.v 0) SA.nil))) SA.nil)))
            (SL.app 0
              (SA.l (SL.v 1)
                (SA.l (SL.app 101 (SA.l (SL.v 0) (SA.i (SI.add (SI.v 0) (SI.c (Int.ofNat 1))) SA.nil))) SA.nil)))] },
    {
      pc :=
        [SB.not (SB.eq (SI.sel (SL.v 0) (SI.v 0) 4) (SI.c (Int.ofNat 0))),
          SB.eq (SI.sel (SL.v 0) (SI.v 0) 3) (SI.c (Int.ofNat 0)),
          SB.eq (SI.sel (SL.v 0) (SI.v 0) 2) (SI.c (Int.ofNat 0)),
          SB.eq (SI.sel (SL.v 0) (SI.v 0) 1) (SI.c (Int.ofNat 0)),
          SB.eq (SI.sel (SL.v 0) (SI.v 0) 0) (SI.c (Int.ofNat 0)), SB.lt (SI.v 0) (SI.len (SL.v 0)),
          SB.le (SI.c (Int.ofNat 0)) (SI.v 0), SB.le (SI.v 0) (SI.len (SL.v 0)),
          SB.le (SI.len (SL.v 0)) (SI.c (Int.ofNat 64)), SB.le (SI.len (SL.v 1)) (SI.v 0)],
      eqs :=
        [Eqn.T
            (SB.lt (SI.sub (SI.len (SL.v 0)) (SI.add (SI.v 0) (SI.c (Int.ofNat 1))))
              (SI.sub (SI.len (SL.v 0)) (SI.v 0))),
          Eqn.T (SB.lt (SI.c (Int.ofNat 0)) (SI.sub (SI.len (SL.v 0)) (SI.v 0)))] },
    {
      pc :=
        [SB.le
            (SI.add (SI.add (SI.len (SL.v 1)) (SI.c (Int.ofNat 1)))
              (SI.len (SL.app 101 (SA.l (SL.v 0) (SA.i (SI.add (SI.v 0) (SI.c (Int.ofNat 1))) SA.nil)))))
            (SI.len (SL.v 0)),
          SB.not (SB.eq (SI.sel (SL.v 0) (SI.v 0) 4) (SI.c (Int.ofNat 0))),
          SB.eq (SI.sel (SL.v 0) (SI.v 0) 3) (SI.c (Int.ofNat 0)),
          SB.eq (SI.sel (SL.v 0) (SI.v 0) 2) (SI.c (Int.ofNat 0)),
          SB.eq (SI.sel (SL.v 0) (SI.v 0) 1) (SI.c (Int.ofNat 0)),
          SB.eq (SI.sel (SL.v 0) (SI.v 0) 0) (SI.c (Int.ofNat 0)), SB.lt (SI.v 0) (SI.len (SL.v 0)),
          SB.le (SI.c (Int.ofNat 0)) (SI.v 0), SB.le (SI.v 0) (SI.len (SL.v 0)),
          SB.le (SI.len (SL.v 0)) (SI.c (Int.ofNat 64)), SB.le (SI.len (SL.v 1)) (SI.v 0)],
      eqs :=
        [Eqn.T
            (SB.le (SI.len (SL.app 0 (SA.l (SL.v 1) (SA.l (SL.app 101 (SA.l (SL.v 0) (SA.i (SI.v 0) SA.nil))) SA.nil))))
              (SI.len (SL.v 0))),
          Eqn.I (SI.len (SL.app 0 (SA.l (SL.v 1) (SA.l (SL.app 101 (SA.l (SL.v 0) (SA.i (SI.v 0) SA.nil))) SA.nil))))
            (SI.add (SI.add (SI.len (SL.v 1)) (SI.c (Int.ofNat 1)))
              (SI.len (SL.app 101 (SA.l (SL.v 0) (SA.i (SI.add (SI.v 0) (SI.c (Int.ofNat 1))) SA.nil))))),
          Eqn.L (SL.app 0 (SA.l (SL.v 1) (SA.l (SL.app 101 (SA.l (SL.v 0) (SA.i (SI.v 0) SA.nil))) SA.nil)))
            (SL.app 0
              (SA.l (SL.app 0 (SA.l (SL.v 1) (SA.l (SL.app 3 (SA.i (SI.v 0) SA.nil)) SA.nil)))
                (SA.l (SL.app 101 (SA.l (SL.v 0) (SA.i (SI.add (SI.v 0) (SI.c (Int.ofNat 1))) SA.nil))) SA.nil)))] },
    {
      pc :=
        [SB.not (SB.eq (SI.sel (SL.v 0) (SI.v 0) 3) (SI.c (Int.ofNat 0))),
          SB.eq (SI.sel (SL.v 0) (SI.v 0) 2) (SI.c (Int.ofNat 0)),
          SB.eq (SI.sel (SL.v 0) (SI.v 0) 1) (SI.c (Int.ofNat 0)),
          SB.eq (SI.sel (SL.v 0) (SI.v 0) 0) (SI.c (Int.ofNat 0)), SB.lt (SI.v 0) (SI.len (SL.v 0)),
          SB.le (SI.c (Int.ofNat 0)) (SI.v 0), SB.le (SI.v 0) (SI.len (SL.v 0)),
          SB.le (SI.len (SL.v 0)) (SI.c (Int.ofNat 64)), SB.le (SI.len (SL.v 1)) (SI.v 0)],
      eqs :=
        [Eqn.T
            (SB.lt (SI.sub (SI.len (SL.v 0)) (SI.add (SI.v 0) (SI.c (Int.ofNat 1))))
              (SI.sub (SI.len (SL.v 0)) (SI.v 0))),
          Eqn.T (SB.lt (SI.c (Int.ofNat 0)) (SI.sub (SI.len (SL.v 0)) (SI.v 0)))] },
    {
      pc :=
        [SB.le
            (SI.add (SI.add (SI.len (SL.v 1)) (SI.c (Int.ofNat 1)))
              (SI.len (SL.app 101 (SA.l (SL.v 0) (SA.i (SI.add (SI.v 0) (SI.c (Int.ofNat 1))) SA.nil)))))
            (SI.len (SL.v 0)),
          SB.not (SB.eq (SI.sel (SL.v 0) (SI.v 0) 3) (SI.c (Int.ofNat 0))),
          SB.eq (SI.sel (SL.v 0) (SI.v 0) 2) (SI.c (Int.ofNat 0)),
          SB.eq (SI.sel (SL.v 0) (SI.v 0) 1) (SI.c (Int.ofNat 0)),
          SB.eq (SI.sel (SL.v 0) (SI.v 0) 0) (SI.c (Int.ofNat 0)), SB.lt (SI.v 0) (SI.len (SL.v 0)),
          SB.le (SI.c (Int.ofNat 0)) (SI.v 0), SB.le (SI.v 0) (SI.len (SL.v 0)),
          SB.le (SI.len (SL.v 0)) (SI.c (Int.ofNat 64)), SB.le (SI.len (SL.v 1)) (SI.v 0)],
      eqs :=
        [Eqn.T
            (SB.le (SI.len (SL.app 0 (SA.l (SL.v 1) (SA.l (SL.app 101 (SA.l (SL.v 0) (SA.i (SI.v 0) SA.nil))) SA.nil))))
              (SI.len (SL.v 0))),
          Eqn.I (SI.len (SL.app 0 (SA.l (SL.v 1) (SA.l (SL.app 101 (SA.l (SL.v 0) (SA.i (SI.v 0) SA.nil))) SA.nil))))
            (SI.add (SI.add (SI.len (SL.v 1)) (SI.c (Int.ofNat 1)))
              (SI.len (SL.app 101 (SA.l (SL.v 0) (SA.i (SI.add (SI.v 0) (SI.c (Int.ofNat 1))) SA.nil))))),
          Eqn.L (SL.app 0 (SA.l (SL.v 1) (SA.l (SL.app 101 (SA.l (SL.v 0) (SA.i (SI.v 0) SA.nil))) SA.nil)))
            (SL.app 0
              (SA.l (SL.app 0 (SA.l (SL.v 1) (SA.l (SL.app 3 (SA.i (SI.v 0) SA.nil)) SA.nil)))
                (SA.l (SL.app 101 (SA.l (SL.v 0) (SA.i (SI.add (SI.v 0) (SI.c (Int.ofNat 1))) SA.nil))) SA.nil)))] },
    {
      pc :=
        [SB.not (SB.eq (SI.sel (SL.v 0) (SI.v 0) 2) (SI.c (Int.ofNat 0))),
          SB.eq (SI.sel (SL.v 0) (SI.v 0) 1) (SI.c (Int.ofNat 0)),
          SB.eq (SI.sel (SL.v 0) (SI.v 0) 0) (SI.c (Int.ofNat 0)), SB.lt (SI.v 0) (SI.len (SL.v 0)),
          SB.le (SI.c (Int.ofNat 0)) (SI.v 0), SB.le (SI.v 0) (SI.len (SL.v 0)),
          SB.le (SI.len (SL.v 0)) (SI.c (Int.ofNat 64)), SB.le (SI.len (SL.v 1)) (SI.v 0)],
      eqs :=
        [Eqn.T
            (SB.lt (SI.sub (SI.len (SL.v 0)) (SI.add (SI.v 0) (SI.c (Int.ofNat 1))))
              (SI.sub (SI.len (SL.v 0)) (SI.v 0))),
          Eqn.T (SB.lt (SI.c (Int.ofNat 0)) (SI.sub (SI.len (SL.v 0)) (SI.v 0)))] },
    {
      pc :=
        [SB.le
            (SI.add (SI.add (SI.len (SL.v 1)) (SI.c (Int.ofNat 1)))
              (SI.len (SL.app 101 (SA.l (SL.v 0) (SA.i (SI.add (SI.v 0) (SI.c (Int.ofNat 1))) SA.nil)))))
            (SI.len (SL.v 0)),
          SB.not (SB.eq (SI.sel (SL.v 0) (SI.v 0) 2) (SI.c (Int.ofNat 0))),
          SB.eq (SI.sel (SL.v 0) (SI.v 0) 1) (SI.c (Int.ofNat 0)),
          SB.eq (SI.sel (SL.v 0) (SI.v 0) 0) (SI.c (Int.ofNat 0)), SB.lt (SI.v 0) (SI.len (SL.v 0)),
          SB.le (SI.c (Int.ofNat 0)) (SI.v 0), SB.le (SI.v 0) (SI.len (SL.v 0)),
          SB.le (SI.len (SL.v 0)) (SI.c (Int.ofNat 64)), SB.le (SI.len (SL.v 1)) (SI.v 0)],
      eqs :=
        [Eqn.T
            (SB.le (SI.len (SL.app 0 (SA.l (SL.v 1) (SA.l (SL.app 101 (SA.l (SL.v 0) (SA.i (SI.v 0) SA.nil))) SA.nil))))
              (SI.len (SL.v 0))),
          Eqn.I (SI.len (SL.app 0 (SA.l (SL.v 1) (SA.l (SL.app 101 (SA.l (SL.v 0) (SA.i (SI.v 0) SA.nil))) SA.nil))))
            (SI.add (SI.add (SI.len (SL.v 1)) (SI.c (Int.ofNat 1)))
              (SI.len (SL.app 101 (SA.l (SL.v 0) (SA.i (SI.add (SI.v 0) (SI.c (Int.ofNat 1))) SA.nil))))),
          Eqn.L (SL.app 0 (SA.l (SL.v 1) (SA.l (SL.app 101 (SA.l (SL.v 0) (SA.i (SI.v 0) SA.nil))) SA.nil)))
            (SL.app 0
              (SA.l (SL.app 0 (SA.l (SL.v 1) (SA.l (SL.app 3 (SA.i (SI.v 0) SA.nil)) SA.nil)))
                (SA.l (SL.app 101 (SA.l (SL.v 0) (SA.i (SI.add (SI.v 0) (SI.c (Int.ofNat 1))) SA.nil))) SA.nil)))] },
    {
      pc :=
        [SB.not (SB.eq (SI.sel (SL.v 0) (SI.v 0) 1) (SI.c (Int.ofNat 0))),
          SB.eq (SI.sel (SL.v 0) (SI.v 0) 0) (SI.c (Int.ofNat 0)), SB.lt (SI.v 0) (SI.len (SL.v 0)),
          SB.le (SI.c (Int.ofNat 0)) (SI.v 0), SB.le (SI.v 0) (SI.len (SL.v 0)),
          SB.le (SI.len (SL.v 0)) (SI.c (Int.ofNat 64)), SB.le (SI.len (SL.v 1)) (SI.v 0)],
      eqs :=
        [Eqn.T
            (SB.lt (SI.sub (SI.len (SL.v 0)) (SI.add (SI.v 0) (SI.c (Int.ofNat 1))))
              (SI.sub (SI.len (SL.v 0)) (SI.v 0))),
          Eqn.T (SB.lt (SI.c (Int.ofNat 0)) (SI.sub (SI.len (SL.v 0)) (SI.v 0)))] },
    {
      pc :=
        [SB.le
            (SI.add (SI.add (SI.len (SL.v 1)) (SI.c (Int.ofNat 1)))
              (SI.len (SL.app 101 (SA.l (SL.v 0) (SA.i (SI.add (SI.v 0) (SI.c (Int.ofNat 1))) SA.nil)))))
            (SI.len (SL.v 0)),
          SB.not (SB.eq (SI.sel (SL.v 0) (SI.v 0) 1) (SI.c (Int.ofNat 0))),
          SB.eq (SI.sel (SL.v 0) (SI.v 0) 0) (SI.c (Int.ofNat 0)), SB.lt (SI.v 0) (SI.len (SL.v 0)),
          SB.le (SI.c (Int.ofNat 0)) (SI.v 0), SB.le (SI.v 0) (SI.len (SL.v 0)),
          SB.le (SI.len (SL.v 0)) (SI.c (Int.ofNat 64)), SB.le (SI.len (SL.v 1)) (SI.v 0)],
      eqs :=
        [Eqn.T
            (SB.le (SI.len (SL.app 0 (SA.l (SL.v 1) (SA.l (SL.app 101 (SA.l (SL.v 0) (SA.i (SI.v 0) SA.nil))) SA.nil))))
              (SI.len (SL.v 0))),
          Eqn.I (SI.len (SL.app 0 (SA.l (SL.v 1) (SA.l (SL.app 101 (SA.l (SL.v 0) (SA.i (SI.v 0) SA.nil))) SA.nil))))
            (SI.add (SI.add (SI.len (SL.v 1)) (SI.c (Int.ofNat 1)))
              (SI.len (SL.app 101 (SA.l (SL.v 0) (SA.i (SI.add (SI.v 0) (SI.c (Int.ofNat 1))) SA.nil))))),
          Eqn.L (SL.app 0 (SA.l (SL.v 1) (SA.l (SL.app 101 (SA.l (SL.v 0) (SA.i (SI.v 0) SA.nil))) SA.nil)))
            (SL.app 0
              (SA.l (SL.app 0 (SA.l (SL.v 1) (SA.l (SL.app 3 (SA.i (SI.v 0) SA.nil)) SA.nil)))
                (SA.l (SL.app 101 (SA.l (SL.v 0) (SA.i (SI.add (SI.v 0) (SI.c (Int.ofNat 1))) SA.nil))) SA.nil)))] },
    {
      pc :=
        [SB.not (SB.eq (SI.sel (SL.v 0) (SI.v 0) 0) (SI.c (Int.ofNat 0))), SB.lt (SI.v 0) (SI.len (SL.v 0)),
          SB.le (SI.c (Int.ofNat 0)) (SI.v 0), SB.le (SI.v 0) (SI.len (SL.v 0)),
          SB.le (SI.len (SL.v 0)) (SI.c (Int.ofNat 64)), SB.le (SI.len (SL.v 1)) (SI.v 0)],
      eqs :=
        [Eqn.T
            (SB.lt (SI.sub (SI.len (SL.v 0)) (SI.add (SI.v 0) (SI.c (Int.ofNat 1))))
              (SI.sub (SI.len (SL.v 0)) (SI.v 0))),
          Eqn.T (SB.lt (SI.c (Int.ofNat 0)) (SI.sub (SI.len (SL.v 0)) (SI.v 0)))] },
    {
      pc :=
        [SB.le
            (SI.add (SI.add (SI.len (SL.v 1)) (SI.c (Int.ofNat 1)))
              (SI.len (SL.app 101 (SA.l (SL.v 0) (SA.i (SI.add (SI.v 0) (SI.c (Int.ofNat 1))) SA.nil)))))
            (SI.len (SL.v 0)),
          SB.not (SB.eq (SI.sel (SL.v 0) (SI.v 0) 0) (SI.c (Int.ofNat 0))), SB.lt (SI.v 0) (SI.len (SL.v 0)),
          SB.le (SI.c (Int.ofNat 0)) (SI.v 0), SB.le (SI.v 0) (SI.len (SL.v 0)),
          SB.le (SI.len (SL.v 0)) (SI.c (Int.ofNat 64)), SB.le (SI.len (SL.v 1)) (SI.v 0)],
      eqs :=
        [Eqn.T
            (SB.le (SI.len (SL.app 0 (SA.l (SL.v 1) (SA.l (SL.app 101 (SA.l (SL.v 0) (SA.i (SI.v 0) SA.nil))) SA.nil))))
              (SI.len (SL.v 0))),
          Eqn.I (SI.len (SL.app 0 (SA.l (SL.v 1) (SA.l (SL.app 101 (SA.l (SL.v 0) (SA.i (SI.v 0) SA.nil))) SA.nil))))
            (SI.add (SI.add (SI.len (SL.v 1)) (SI.c (Int.ofNat 1)))
              (SI.len (SL.app 101 (SA.l (SL.v 0) (SA.i (SI.add (SI.v 0) (SI.c (Int.ofNat 1))) SA.nil))))),
          Eqn.L (SL.app 0 (SA.l (SL.v 1) (SA.l (SL.app 101 (SA.l (SL.v 0) (SA.i (SI.v 0) SA.nil))) SA.nil)))
            (SL.app 0
              (SA.l (SL.app 0 (SA.l (SL.v 1) (SA.l (SL.app 3 (SA.i (SI.v 0) SA.nil)) SA.nil)))
                (SA.l (SL.app 101 (SA.l (SL.v 0) (SA.i (SI.add (SI.v 0) (SI.c (Int.ofNat 1))) SA.nil))) SA.nil)))] },
    {
      pc :=
        [SB.not (SB.lt (SI.v 0) (SI.len (SL.v 0))), SB.le (SI.c (Int.ofNat 0)) (SI.v 0),
          SB.le (SI.v 0) (SI.len (SL.v 0)), SB.le (SI.len (SL.v 0)) (SI.c (Int.ofNat 64)),
          SB.le (SI.len (SL.v 1)) (SI.v 0)],
      eqs :=
        [Eqn.T
            (SB.le (SI.len (SL.app 0 (SA.l (SL.v 1) (SA.l (SL.app 101 (SA.l (SL.v 0) (SA.i (SI.v 0) SA.nil))) SA.nil))))
              (SI.len (SL.v 0))),
          Eqn.I (SI.len (SL.app 0 (SA.l (SL.v 1) (SA.l (SL.app 101 (SA.l (SL.v 0) (SA.i (SI.v 0) SA.nil))) SA.nil))))
            (SI.len (SL.v 1)),
          Eqn.L (SL.app 0 (SA.l (SL.v 1) (SA.l (SL.app 101 (SA.l (SL.v 0) (SA.i (SI.v 0) SA.nil))) SA.nil)))
            (SL.v 1)] }] := by kernel_rfl
theorem su1_ok : su1.ok Φ Try.prog := by
  refine ⟨by kernel_rfl, loop_rule (fun ρ => noTbl_ok) (loopAt_sub (by kernel_rfl)) su1_obs ?_⟩
  simp only [and_imp, List.forall_mem_cons, List.not_mem_nil, false_implies, implies_true, and_true, Ob.ok, holds, Eqn.ok, evB_eq, evB_lt, evB_le, evB_not, evB_and, evB_or, evB_eqL, evB_app, evB_v, evB_c, ev_sel, ev_len, ev_v, ev_c, ev_add, ev_sub, ev_mul, ev_quo, ev_rem, ev_bits, ev_wrap, evL_v, evL_lit, evL_app, ev_app, evA_l, evA_i, evA_nil, std_min, std_max, std_cat, std_take, std_drop, std_row, std_set, std_rep, std_find, std_put, std_del, std_flag, std_unflag, std_clr, std_left, std_copy, ints_cons, ints_nil, ofNat_lit, negSucc_lit, decide_eq_true_eq, Bool.and_eq_true, Bool.or_eq_true, Bool.not_eq_true', Bool.and_eq_false_iff, Bool.or_eq_false_iff, decide_eq_false_iff_not, aI110, aI111, aI112, aI113, aI114, aL100, aL101, aL102, aL103, aL110, aL112, aL113, aL114, aL115, aL116, aB130, aB131, aB132, aB199]
  repeat' apply And.intro
  all_goals intro ρ hR
  all_goals intros
  all_goals first
    | (omega)
    | (have e := idx_yes (p := liveB) (T := ρ.l 0) (i := ρ.i 0) (by omega) (by omega) (live_t (show okRow K5 ((ρ.l 0).getD (ρ.i 0).toNat []) from hR.row 0 rfl rfl _ (getD_mem (A := ρ.l 0) (by omega) (by omega))) (by unfold allZ; omega))
       simp only [e, List.length_append, List.length_cons, List.length_nil, List.append_assoc, List.append_nil, List.singleton_append, and_true, true_and] at *
       omega)
    | (have e := idx_no (p := liveB) (T := ρ.l 0) (i := ρ.i 0) (by omega) (by omega) (live_f (show okRow K5 ((ρ.l 0).getD (ρ.i 0).toNat []) from hR.row 0 rfl rfl _ (getD_mem (A := ρ.l 0) (by omega) (by omega))) (by unfold allZ; omega))
       simp only [e, List.length_append, List.length_cons, List.length_nil, List.append_assoc, List.append_nil, List.singleton_append, and_true, true_and] at *
       omega)
    | (have e := idx_end (p := liveB) (T := ρ.l 0) (i := ρ.i 0) (by omega)
       simp only [e, List.length_append, List.length_cons, List.length_nil, List.append_assoc, List.append_nil, List.singleton_append, and_true, true_and] at *
       omega)
set_option maxRecDepth 100000 in
theorem su2_obs : loopObs Φ Try.prog noTbl 1000 su2.f (loopAt Try.prog su2.f su2.id) su2.n su2.T k0 su2.outs = some
  [{
      pc :=
        [SB.eq (SI.sel (SL.v 0) (SI.v 0) 4) (SI.c (Int.ofNat 0)),
          SB.eq (SI.sel (SL.v 0) (SI.v 0) 3) (SI.c (Int.ofNat 0)),
          SB.eq (SI.sel (SL.v 0) (SI.v 0) 2) (SI.c (Int.ofNat 0)),
          SB.eq (SI.sel (SL.v 0) (SI.v 0) 1) (SI.c (Int.ofNat 0)),
          SB.eq (SI.sel (SL.v 0) (SI.v 0) 0) (SI.c (Int.ofNat 0)), SB.lt (SI.v 0) (SI.len (SL.v 0)),
          SB.le (SI.c (Int.ofNat 0)) (SI.v 0), SB.le (SI.v 0) (SI.len (SL.v 0)),
          SB.le (SI.len (SL.v 0)) (SI.c (Int.ofNat 64)), SB.le (SI.len (SL.v 1)) (SI.v 0)],
      eqs :=
        [Eqn.T
            (SB.lt (SI.sub (SI.len (SL.v 0)) (SI.add (SI.v 0) (SI.c (Int.ofNat 1))))
              (SI.sub (SI.len (SL.v 0)) (SI.v 0))),
          Eqn.T (SB.lt (SI.c (Int.ofNat 0)) (SI.sub (SI.len (SL.v 0)) (SI.v 0)))] },
    {
      pc :=
        [SB.le
            (SI.add (SI.len (SL.v 1))
              (SI.len
                (SL.app 102 (SA.l (SL.v 0) (SA.i (SI.add (SI.v 0) (SI.c (Int.ofNat 1))) (SA.i (SI.v 5) SA.nil))))))
            (SI.len (SL.v 0)),
          SB.eq (SI.sel (SL.v 0) (SI.v 0) 4) (SI.c (Int.ofNat 0)),
          SB.eq (SI.sel (SL.v 0) (SI.v 0) 3) (SI.c (Int.ofNat 0)),
          SB.eq (SI.sel (SL.v 0) (SI.v 0) 2) (SI.c (Int.ofNat 0)),
          SB.eq (SI.sel (SL.v 0) (SI.v 0) 1) (SI.c (Int.ofNat 0)),
          SB.eq (SI.sel (SL.v 0) (SI.v 0) 0) (SI.c (Int.ofNat 0)), SB.lt (SI.v 0) (SI.len (SL.v 0)),
          SB.le (SI.c (Int.ofNat 0)) (SI.v 0), SB.le (SI.v 0) (SI.len (SL.v 0)),
          SB.le (SI.len (SL.v 0)) (SI.c (Int.ofNat 64)), SB.le (SI.len (SL.v 1)) (SI.v 0)],
      eqs :=
        [Eqn.T
            (SB.le
              (SI.len
                (SL.app 0
                  (SA.l (SL.v 1) (SA.l (SL.app 102 (SA.l (SL.v 0) (SA.i (SI.v 0) (SA.i (SI.v 5) SA.nil)))) SA.nil))))
              (SI.len (SL.v 0))),
          Eqn.I
            (SI.len
              (SL.app 0
                (SA.l (SL.v 1) (SA.l (SL.app 102 (SA.l (SL.v 0) (SA.i (SI.v 0) (SA.i (SI.v 5) SA.nil)))) SA.nil))))
            (SI.add (SI.len (SL.v 1))
              (SI.len
                (SL.app 102 (SA.l (SL.v 0) (SA.i (SI.add (SI.v 0) (SI.c (Int.ofNat 1))) (SA.i (SI.v 5) SA.nil)))))),
          Eqn.L
            (SL.app 0 (SA.l (SL.v 1) (SA.l (SL.app 102 (SA.l (SL.v 0) (SA.i (SI.v 0) (SA.i (SI.v 5) SA.nil)))) SA.nil)))
            (SL.app 0
              (SA.l (SL.v 1)
                (SA.l (SL.app 102 (SA.l (SL.v 0) (SA.i (SI.add (SI.v 0) (SI.c (Int.ofNat 1))) (SA.i (SI.v 5) SA.nil))))
                  SA.nil)))] },
    {
      pc :=
        [SB.eq (SI.sel (SL.v 0) (SI.v 0) 0) (SI.v 5), SB.not (SB.eq (SI.sel (SL.v 0) (SI.v 0) 4) (SI.c (Int.ofNat 0))),
          SB.eq (SI.sel (SL.v 0) (SI.v 0) 3) (SI.c (Int.ofNat 0)),
          SB.eq (SI.sel (SL.v 0) (SI.v 0) 2) (SI.c (Int.ofNat 0)),
          SB.eq (SI.sel (SL.v 0) (SI.v 0) 1) (SI.c (Int.ofNat 0)),
          SB.eq (SI.sel (SL.v 0) (SI.v 0) 0) (SI.c (Int.ofNat 0)), SB.lt (SI.v 0) (SI.len (SL.v 0)),
          SB.le (SI.c (Int.ofNat 0)) (SI.v 0), SB.le (SI.v 0) (SI.len (SL.v 0)),
          SB.le (SI.len (SL.v 0)) (SI.c (Int.ofNat 64)), SB.le (SI.len (SL.v 1)) (SI.v 0)],
      eqs :=
        [Eqn.T
            (SB.lt (SI.sub (SI.len (SL.v 0)) (SI.add (SI.v 0) (SI.c (Int.ofNat 1))))
              (SI.sub (SI.len (SL.v 0)) (SI.v 0))),
          Eqn.T (SB.lt (SI.c (Int.ofNat 0)) (SI.sub (SI.len (SL.v 0)) (SI.v 0)))] },
    {
      pc :=
        [SB.le
            (SI.add (SI.add (SI.len (SL.v 1)) (SI.c (Int.ofNat 1)))
              (SI.len
                (SL.app 102 (SA.l (SL.v 0) (SA.i (SI.add (SI.v 0) (SI.c (Int.ofNat 1))) (SA.i (SI.v 5) SA.nil))))))
            (SI.len (SL.v 0)),
          SB.eq (SI.sel (SL.v 0) (SI.v 0) 0) (SI.v 5), SB.not (SB.eq (SI.sel (SL.v 0) (SI.v 0) 4) (SI.c (Int.ofNat 0))),
          SB.eq (SI.sel (SL.v 0) (SI.v 0) 3) (SI.c (Int.ofNat 0)),
          SB.eq (SI.sel (SL.v 0) (SI.v 0) 2) (SI.c (Int.ofNat 0)),
          SB.eq (SI.sel (SL.v 0) (SI.v 0) 1) (SI.c (Int.ofNat 0)),
          SB.eq (SI.sel (SL.v 0) (SI.v 0) 0) (SI.c (Int.ofNat 0)), SB.lt (SI.v 0) (SI.len (SL.v 0)),
          SB.le (SI.c (Int.ofNat 0)) (SI.v 0), SB.le (SI.v 0) (SI.len (SL.v 0)),
          SB.le (SI.len (SL.v 0)) (SI.c (Int.ofNat 64)), SB.le (SI.len (SL.v 1)) (SI.v 0)],
      eqs :=
        [Eqn.T
            (SB.le
              (SI.len
                (SL.app 0
                  (SA.l (SL.v 1) (SA.l (SL.app 102 (SA.l (SL.v 0) (SA.i (SI.v 0) (SA.i (SI.v 5) SA.nil)))) SA.nil))))
              (SI.len (SL.v 0))),
          Eqn.I
            (SI.len
              (SL.app 0
                (SA.l (SL.v 1) (SA.l (SL.app 102 (SA.l (SL.v 0) (SA.i (SI.v 0) (SA.i (SI.v 5) SA.nil)))) SA.nil))))
            (SI.add (SI.add (SI.len (SL.v 1)) (SI.c (Int.ofNat 1)))
              (SI.len
                (SL.app 102 (SA.l (SL.v 0) (SA.i (SI.add (SI.v 0) (SI.c (Int.ofNat 1))) (SA.i (SI.v 5) SA.nil)))))),
          Eqn.L
            (SL.app 0 (SA.l (SL.v 1) (SA.l (SL.app 102 (SA.l (SL.v 0) (SA.i (SI.v 0) (SA.i (SI.v 5) SA.nil)))) SA.nil)))
            (SL.app 0
              (SA.l (SL.app 0 (SA.l (SL.v 1) (SA.l (SL.app 3 (SA.i (SI.v 0) SA.nil)) SA.nil)))
                (SA.l (SL.app 102 (SA.l (SL.v 0) (SA.i (SI.add (SI.v 0) (SI.c (Int.ofNat 1))) (SA.i (SI.v 5) SA.nil))))
                  SA.nil)))] },
    {
      pc :=
        [SB.eq (SI.sel (SL.v 0) (SI.v 0) 2) (SI.v 5), SB.not (SB.eq (SI.sel (SL.v 0) (SI.v 0) 0) (SI.v 5)),
          SB.not (SB.eq (SI.sel (SL.v 0) (SI.v 0) 4) (SI.c (Int.ofNat 0))),
          SB.eq (SI.sel (SL.v 0) (SI.v 0) 3) (SI.c (Int.ofNat 0)),
          SB.eq (SI.sel (SL.v 0) (SI.v 0) 2) (SI.c (Int.ofNat 0)),
          SB.eq (SI.sel (SL.v 0) (SI.v 0) 1) (SI.c (Int.ofNat 0)),
          SB.eq (SI.sel (SL.v 0) (SI.v 0) 0) (SI.c (Int.ofNat 0)), SB.lt (SI.v 0) (SI.len (SL.v 0)),
          SB.le (SI.c (Int.ofNat 0)) (SI.v 0), SB.le (SI.v 0) (SI.len (SL.v 0)),
          SB.le (SI.len (SL.v 0)) (SI.c (Int.ofNat 64)), SB.le (SI.len (SL.v 1)) (SI.v 0)],
      eqs :=
        [Eqn.T
            (SB.lt (SI.sub (SI.len (SL.v 0)) (SI.add (SI.v 0) (SI.c (Int.ofNat 1))))
              (SI.sub (SI.len (SL.v 0)) (SI.v 0))),
          Eqn.T (SB.lt (SI.c (Int.ofNat 0)) (SI.sub (SI.len (SL.v 0)) (SI.v 0)))] },
    {
      pc :=
        [SB.le
            (SI.add (SI.add (SI.len (SL.v 1)) (SI.c (Int.ofNat 1)))
              (SI.len
                (SL.app 102 (SA.l (SL.v 0) (SA.i (SI.add (SI.v 0) (SI.c (Int.ofNat 1))) (SA.i (SI.v 5) SA.nil))))))
            (SI.len (SL.v 0)),
          SB.eq (SI.sel (SL.v 0) (SI.v 0) 2) (SI.v 5), SB.not (SB.eq (SI.sel (SL.v 0) (SI.v 0) 0) (SI.v 5)),
          SB.not (SB.eq (SI.sel (SL.v 0) (SI.v 0) 4) (SI.c (Int.ofNat 0))),
          SB.eq (SI.sel (SL.v 0) (SI.v 0) 3) (SI.c (Int.ofNat 0)),
          SB.eq (SI.sel (SL.v 0) (SI.v 0) 2) (SI.c (Int.ofNat 0)),
          SB.eq (SI.sel (SL.v 0) (SI.v 0) 1) (SI.c (Int.ofNat 0)),
          SB.eq (SI.sel (SL.v 0) (SI.v 0) 0) (SI.c (Int.ofNat 0)), SB.lt (SI.v 0) (SI.len (SL.v 0)),
          SB.le (SI.c (Int.ofNat 0)) (SI.v 0), SB.le (SI.v 0) (SI.len (SL.v 0)),
          SB.le (SI.len (SL.v 0)) (SI.c (Int.ofNat 64)), SB.le (SI.len (SL.v 1)) (SI.v 0)],
      eqs :=
        [Eqn.T
            (SB.le
              (SI.len
                (SL.app 0
                  (SA.l (SL.v 1) (SA.l (SL.app 102 (SA.l (SL.v 0) (SA.i (SI.v 0) (SA.i (SI.v 5) SA.nil)))) SA.nil))))
              (SI.len (SL.v 0))),
          Eqn.I
            (SI.len
              (SL.app 0
                (SA.l (SL.v 1) (SA.l (SL.app 102 (SA.l (SL.v 0) (SA.i (SI.v 0) (SA.i (SI.v 5) SA.nil)))) SA.nil))))
            (SI.add (SI.add (SI.len (SL.v 1)) (SI.c (Int.ofNat 1)))
              (SI.len
                (SL.app 102 (SA.l (SL.v 0) (SA.i (SI.add (SI.v 0) (SI.c (Int.ofNat 1))) (SA.i (SI.v 5) SA.nil)))))),
          Eqn.L
            (SL.app 0 (SA.l (SL.v 1) (SA.l (SL.app 102 (SA.l (SL.v 0) (SA.i (SI.v 0) (SA.i (SI.v 5) SA.nil)))) SA.nil)))
            (SL.app 0
              (SA.l (SL.app 0 (SA.l (SL.v 1) (SA.l (SL.app 3 (SA.i (SI.v 0) SA.nil)) SA.nil)))
                (SA.l (SL.app 102 (SA.l (SL.v 0) (SA.i (SI.add (SI.v 0) (SI.c (Int.ofNat 1))) (SA.i (SI.v 5) SA.nil))))
                  SA.nil)))] },
    {
      pc :=
        [SB.not (SB.eq (SI.sel (SL.v 0) (SI.v 0) 2) (SI.v 5)), SB.not (SB.eq (SI.sel (SL.v 0) (SI.v 0) 0) (SI.v 5)),
          SB.not (SB.eq (SI.sel (SL.v 0) (SI.v 0) 4) (SI.c (Int.ofNat 0))),
          SB.eq (SI.sel (SL.v 0) (SI.v 0) 3) (SI.c (Int.ofNat 0)),
          SB.eq (SI.sel (SL.v 0) (SI.v 0) 2) (SI.c (Int.ofNat 0)),
          SB.eq (SI.sel (SL.v 0) (SI.v 0) 1) (SI.c (Int.ofNat 0)),
          SB.eq (SI.sel (SL.v 0) (SI.v 0) 0) (SI.c (Int.ofNat 0)), SB.lt (SI.v 0) (SI.len (SL.v 0)),
          SB.le (SI.c (Int.ofNat 0)) (SI.v 0), SB.le (SI.v 0) (SI.len (SL.v 0)),
          SB.le (SI.len (SL.v 0)) (SI.c (Int.ofNat 64)), SB.le (SI.len (SL.v 1)) (SI.v 0)],
      eqs :=
        [Eqn.T
            (SB.lt (SI.sub (SI.len (SL.v 0)) (SI.add (SI.v 0) (SI.c (Int.ofNat 1))))
              (SI.sub (SI.len (SL.v 0)) (SI.v 0))),
          Eqn.T (SB.lt (SI.c (Int.ofNat 0)) (SI.sub (SI.len (SL.v 0)) (SI.v 0)))] },
    {
      pc :=
        [SB.le
            (SI.add (SI.len (SL.v 1))
              (SI.len
                (SL.app 102 (SA.l (SL.v 0) (SA.i (SI.add (SI.v 0) (SI.c (Int.ofNat 1))) (SA.i (SI.v 5) SA.nil))))))
            (SI.len (SL.v 0)),
          SB.not (SB.eq (SI.sel (SL.v 0) (SI.v 0) 2) (SI.v 5)), SB.not (SB.eq (SI.sel (SL.v 0) (SI.v 0) 0) (SI.v 5)),
          SB.not (SB.eq (SI.sel (SL.v 0) (SI.v 0) 4) (SI.c (Int.ofNat 0))),
          SB.eq (SI.sel (SL.v 0) (SI.v 0) 3) (SI.c (Int.ofNat 0)),
          SB.eq (SI.sel (SL.v 0) (SI.v 0) 2) (SI.c (Int.ofNat 0)),
          SB.eq (SI.sel (SL.v 0) (SI.v 0) 1) (SI.c (Int.ofNat 0)),
          SB.eq (SI.sel (SL.v 0) (SI.v 0) 0) (SI.c (Int.ofNat 0)), SB.lt (SI.v 0) (SI.len (SL.v 0)),
          SB.le (SI.c (Int.ofNat 0)) (SI.v 0), SB.le (SI.v 0) (SI.len (SL.v 0)),
          SB.le (SI.len (SL.v 0)) (SI.c (Int.ofNat 64)), SB.le (SI.len (SL.v 1)) (SI.v 0)],
      eqs :=
        [Eqn.T
            (SB.le
              (SI.len
                (SL.app 0
                  (SA.l (SL.v 1) (SA.l (SL.app 102 (SA.l (SL.v 0) (SA.i (SI.v 0) (SA.i (SI.v 5) SA.nil)))) SA.nil))))
              (SI.len (SL.v 0))),
          Eqn.I
            (SI.len
              (SL.app 0
                (SA.l (SL.v 1) (SA.l (SL.app 102 (SA.l (SL.v 0) (SA.i (SI.v 0) (SA.i (SI.v 5) SA.nil)))) SA.nil))))
            (SI.add (SI.len (SL.v 1))
              (SI.len
                (SL.app 102 (SA.l (SL.v 0) (SA.i (SI.add (SI.v 0) (SI.c (Int.ofNat 1))) (SA.i (SI.v 5) SA.nil)))))),
          Eqn.L
            (SL.app 0 (SA.l (SL.v 1) (SA.l (SL.app 102 (SA.l (SL.v 0) (SA.i (SI.v 0) (SA.i (SI.v 5) SA.nil)))) SA.nil)))
            (SL.app 0
              (SA.l (SL.v 1)
                (SA.l (SL.app 102 (SA.l (SL.v 0) (SA.i (SI.add (SI.v 0) (SI.c (Int.ofNat 1))) (SA.i (SI.v 5) SA.nil))))
                  SA.nil)))] },
    {
      pc :=
        [SB.eq (SI.sel (SL.v 0) (SI.v 0) 0) (SI.v 5), SB.not (SB.eq (SI.sel (SL.v 0) (SI.v 0) 3) (SI.c (Int.ofNat 0))),
          SB.eq (SI.sel (SL.v 0) (SI.v 0) 2) (SI.c (Int.ofNat 0)),
          SB.eq (SI.sel (SL.v 0) (SI.v 0) 1) (SI.c (Int.ofNat 0)),
          SB.eq (SI.sel (SL.v 0) (SI.v 0) 0) (SI.c (Int.ofNat 0)), SB.lt (SI.v 0) (SI.len (SL.v 0)),
          SB.le (SI.c (Int.ofNat 0)) (SI.v 0), SB.le (SI.v 0) (SI.len (SL.v 0)),
          SB.le (SI.len (SL.v 0)) (SI.c (Int.ofNat 64)), SB.le (SI.len (SL.v 1)) (SI.v 0)],
      eqs :=
        [Eqn.T
            (SB.lt (SI.sub (SI.len (SL.v 0)) (SI.add (SI.v 0) (SI.c (Int.ofNat 1))))
              (SI.sub (SI.len (SL.v 0)) (SI.v 0))),
          Eqn.T (SB.lt (SI.c (Int.ofNat 0)) (SI.sub (SI.len (SL.v 0)) (SI.v 0)))] },
    {
      pc :=
        [SB.le
            (SI.add (SI.add (SI.len (SL.v 1)) (SI.c (Int.ofNat 1)))
              (SI.len
                (SL.app 102 (SA.l (SL.v 0) (SA.i (SI.add (SI.v 0) (SI.c (Int.ofNat 1))) (SA.i (SI.v 5) SA.nil))))))
            (SI.len (SL.v 0)),
          SB.eq (SI.sel (SL.v 0) (SI.v 0) 0) (SI.v 5), SB.not (SB.eq (SI.sel (SL.v 0) (SI.v 0) 3) (SI.c (Int.ofNat 0))),
          SB.eq (SI.sel (SL.v 0) (SI.v 0) 2) (SI.c (Int.ofNat 0)),
          SB.eq (SI.sel (SL.v 0) (SI.v 0) 1) (SI.c (Int.ofNat 0)),
          SB.eq (SI.sel (SL.v 0) (SI.v 0) 0) (SI.c (Int.ofNat 0)), SB.lt (SI.v 0) (SI.len (SL.v 0)),
          SB.le (SI.c (Int.ofNat 0)) (SI.v 0), SB.le (SI.v 0) (SI.len (SL.v 0)),
          SB.le (SI.len (SL.v 0)) (SI.c (Int.ofNat 64)), SB.le (SI.len (SL.v 1)) (SI.v 0)],
      eqs :=
        [Eqn.T
            (SB.le
              (SI.len
                (SL.app 0
                  (SA.l (SL.v 1) (SA.l (SL.app 102 (SA.l (SL.v 0) (SA.i (SI.v 0) (SA.i (SI.v 5) SA.nil)))) SA.nil))))
              (SI.len (SL.v 0))),
          Eqn.I
            (SI.len
              (SL.app 0
                (SA.l (SL.v 1) (SA.l (SL.app 102 (SA.l (SL.v 0) (SA.i (SI.v 0) (SA.i (SI.v 5) SA.nil)))) SA.nil))))
            (SI.add (SI.add (SI.len (SL.v 1)) (SI.c (Int.ofNat 1)))
              (SI.len
                (SL.app 102 (SA.l (SL.v 0) (SA.i (SI.add (SI.v 0) (SI.c (Int.ofNat 1))) (SA.i (SI.v 5) SA.nil)))))),
          Eqn.L
            (SL.app 0 (SA.l (SL.v 1) (SA.l (SL.app 102 (SA.l (SL.v 0) (SA.i (SI.v 0) (SA.i (SI.v 5) SA.nil)))) SA.nil)))
            (SL.app 0
              (SA.l (SL.app 0 (SA.l (SL.v 1) (SA.l (SL.app 3 (SA.i (SI.v 0) SA.nil)) SA.nil)))
                (SA.l (SL.app 102 (SA.l (SL.v 0) (SA.i (SI.add (SI.v 0) (SI.c (Int.ofNat 1))) (SA.i (SI.v 5) SA.nil))))
                  SA.nil)))] },
    {
      pc :=
        [SB.eq (SI.sel (SL.v 0) (SI.v 0) 2) (SI.v 5), SB.not (SB.eq (SI.sel (SL.v 0) (SI.v 0) 0) (SI.v 5)),
          SB.not (SB.eq (SI.sel (SL.v 0) (SI.v 0) 3) (SI.c (Int.ofNat 0))),
          SB.eq (SI.sel (SL.v 0) (SI.v 0) 2) (SI.c (Int.ofNat 0)),
          SB.eq (SI.sel (SL.v 0) (SI.v 0) 1) (SI.c (Int.ofNat 0)),
          SB.eq (SI.sel (SL.v 0) (SI.v 0) 0) (SI.c (Int.ofNat 0)), SB.lt (SI.v 0) (SI.len (SL.v 0)),
          SB.le (SI.c (Int.ofNat 0)) (SI.v 0), SB.le (SI.v 0) (SI.len (SL.v 0)),
          SB.le (SI.len (SL.v 0)) (SI.c (Int.ofNat 64)), SB.le (SI.len (SL.v 1)) (SI.v 0)],
      eqs :=
        [Eqn.T
            (SB.lt (SI.sub (SI.len (SL.v 0)) (SI.add (SI.v 0) (SI.c (Int.ofNat 1))))
              (SI.sub (SI.len (SL.v 0)) (SI.v 0))),
          Eqn.T (SB.lt (SI.c (Int.ofNat 0)) (SI.sub (SI.len (SL.v 0)) (SI.v 0)))] },
    {
      pc :=
        [SB.le
            (SI.add (SI.add (SI.len (SL.v 1)) (SI.c (Int.ofNat 1)))
              (SI.len
                (SL.app 102 (SA.l (SL.v 0) (SA.i (SI.add (SI.v 0) (SI.c (Int.ofNat 1))) (SA.i (SI.v 5) SA.nil))))))
            (SI.len (SL.v 0)),
          SB.eq (SI.sel (SL.v 0) (SI.v 0) 2) (SI.v 5), SB.not (SB.eq (SI.sel (SL.v 0) (SI.v 0) 0) (SI.v 5)),
          SB.not (SB.eq (SI.sel (SL.v 0) (SI.v 0) 3) (SI.c (Int.ofNat 0))),
          SB.eq (SI.sel (SL.v 0) (SI.v 0) 2) (SI.c (Int.ofNat 0)),
          SB.eq (SI.sel (SL.v 0) (SI.v 0) 1) (SI.c (Int.ofNat 0)),
          SB.eq (SI.sel (SL.v 0) (SI.v 0) 0) (SI.c (Int.ofNat 0)), SB.lt (SI.v 0) (SI.len (SL.v 0)),
          SB.le (SI.c (Int.ofNat 0)) (SI.v 0), SB.le (SI.v 0) (SI.len (SL.v 0)),
          SB.le (SI.len (SL.v 0)) (SI.c (Int.ofNat 64)), SB.le (SI.len (SL.v 1)) (SI.v 0)],
      eqs :=
        [Eqn.T
            (SB.le
              (SI.len
                (SL.app 0
                  (SA.l (SL.v 1) (SA.l (SL.app 102 (SA.l (SL.v 0) (SA.i (SI.v 0) (SA.i (SI.v 5) SA.nil)))) SA.nil))))
              (SI.len (SL.v 0))),
          Eqn.I
            (SI.len
              (SL.app 0
                (SA.l (SL.v 1) (SA.l (SL.app 102 (SA.l (SL.v 0) (SA.i (SI.v 0) (SA.i (SI.v 5) SA.nil)))) SA.nil))))
            (SI.add (SI.add (SI.len (SL.v 1)) (SI.c (Int.ofNat 1)))
              (SI.len
                (SL.app 102 (SA.l (SL.v 0) (SA.i (SI.add (SI.v 0) (SI.c (Int.ofNat 1))) (SA.i (SI.v 5) SA.nil)))))),
          Eqn.L
            (SL.app 0 (SA.l (SL.v 1) (SA.l (SL.app 102 (SA.l (SL.v 0) (SA.i (SI.v 0) (SA.i (SI.v 5) SA.nil)))) SA.nil)))
            (SL.app 0
              (SA.l (SL.app 0 (SA.l (SL.v 1) (SA.l (SL.app 3 (SA.i (SI.v 0) SA.nil)) SA.nil)))
                (SA.l (SL.app 102 (SA.l (SL.v 0) (SA.i (SI.add (SI.v 0) (SI.c (Int.ofNat 1))) (SA.i (SI.v 5) SA.nil))))
                  SA.nil)))] },
    {
      pc :=
        [SB.not (SB.eq (SI.sel (SL.v 0) (SI.v 0) 2) (SI.v 5)), SB.not (SB.eq (SI.sel (SL.v 0) (SI.v 0) 0) (SI.v 5)),
          SB.not (SB.eq (SI.sel (SL.v 0) (SI.v 0) 3) (SI.c (Int.ofNat 0))),
          SB.eq (SI.sel (SL.v 0) (SI.v 0) 2) (SI.c (Int.ofNat 0)),
          SB.eq (SI.sel (SL.v 0) (SI.v 0) 1) (SI.c (Int.ofNat 0)),
          SB.eq (SI.sel (SL.v 0) (SI.v 0) 0) (SI.c (Int.ofNat 0)), SB.lt (SI.v 0) (SI.len (SL.v 0)),
          SB.le (SI.c (Int.ofNat 0)) (SI.v 0), SB.le (SI.v 0) (SI.len (SL.v 0)),
          SB.le (SI.len (SL.v 0)) (SI.c (Int.ofNat 64)), SB.le (SI.len (SL.v 1)) (SI.v 0)],
      eqs :=
        [Eqn.T
            (SB.lt (SI.sub (SI.len (SL.v 0)) (SI.add (SI.v 0) (SI.c (Int.ofNat 1))))
              (SI.sub (SI.len (SL.v 0)) (SI.v 0))),
          Eqn.T (SB.lt (SI.c (Int.ofNat 0)) (SI.sub (SI.len (SL.v 0)) (SI.v 0)))] },
    {
      pc :=
        [SB.le
            (SI.add (SI.len (SL.v 1))
              (SI.len
                (SL.app 102 (SA.l (SL.v 0) (SA.i (SI.add (SI.v 0) (SI.c (Int.ofNat 1))) (SA.i (SI.v 5) SA.nil))))))
            (SI.len (SL.v 0)),
          SB.not (SB.eq (SI.sel (SL.v 0) (SI.v 0) 2) (SI.v 5)), SB.not (SB.eq (SI.sel (SL.v 0) (SI.v 0) 0) (SI.v 5)),
          SB.not (SB.eq (SI.sel (SL.v 0) (SI.v 0) 3) (SI.c (Int.ofNat 0))),
          SB.eq (SI.sel (SL.v 0) (SI.v 0) 2) (SI.c (Int.ofNat 0)),
          SB.eq (SI.sel (SL.v 0) (SI.v 0) 1) (SI.c (Int.ofNat 0)),
          SB.eq (SI.sel (SL.v 0) (SI.v 0) 0) (SI.c (Int.ofNat 0)), SB.lt (SI.v 0) (SI.len (SL.v 0)),
          SB.le (SI.c (Int.ofNat 0)) (SI.v 0), SB.le (SI.v 0) (SI.len (SL.v 0)),
          SB.le (SI.len (SL.v 0)) (SI.c (Int.ofNat 64)), SB.le (SI.len (SL.v 1)) (SI.v 0)],
      eqs :=
        [Eqn.T
            (SB.le
              (SI.len
                (SL.app 0
                  (SA.l (SL.v 1) (SA.l (SL.app 102 (SA.l (SL.v 0) (SA.i (SI.v 0) (SA.i (SI.v 5) SA.nil)))) SA.nil))))
              (SI.len (SL.v 0))),
          Eqn.I
            (SI.len
              (SL.app 0
                (SA.l (SL.v 1) (SA.l (SL.app 102 (SA.l (SL.v 0) (SA.i (SI.v 0) (SA.i (SI.v 5) SA.nil)))) SA.nil))))
            (SI.add (SI.len (SL.v 1))
              (SI.len
                (SL.app 102 (SA.l (SL.v 0) (SA.i (SI.add (SI.v 0) (SI.c (Int.ofNat 1))) (SA.i (SI.v 5) SA.nil)))))),
          Eqn.L
            (SL.app 0 (SA.l (SL.v 1) (SA.l (SL.app 102 (SA.l (SL.v 0) (SA.i (SI.v 0) (SA.i (SI.v 5) SA.nil)))) SA.nil)))
            (SL.app 0
              (SA.l (SL.v 1)
                (SA.l (SL.app 102 (SA.l (SL.v 0) (SA.i (SI.add (SI.v 0) (SI.c (Int.ofNat 1))) (SA.i (SI.v 5) SA.nil))))
                  SA.nil)))] },
    {
      pc :=
        [SB.eq (SI.sel (SL.v 0) (SI.v 0) 0) (SI.v 5), SB.not (SB.eq (SI.sel (SL.v 0) (SI.v 0) 2) (SI.c (Int.ofNat 0))),
          SB.eq (SI.sel (SL.v 0) (SI.v 0) 1) (SI.c (Int.ofNat 0)),
          SB.eq (SI.sel (SL.v 0) (SI.v 0) 0) (SI.c (Int.ofNat 0)), SB.lt (SI.v 0) (SI.len (SL.v 0)),
          SB.le (SI.c (Int.ofNat 0)) (SI.v 0), SB.le (SI.v 0) (SI.len (SL.v 0)),
          SB.le (SI.len (SL.v 0)) (SI.c (Int.ofNat 64)), SB.le (SI.len (SL.v 1)) (SI.v 0)],
      eqs :=
        [Eqn.T
            (SB.lt (SI.sub (SI.len (SL.v 0)) (SI.add (SI.v 0) (SI.c (Int.ofNat 1))))
              (SI.sub (SI.len (SL.v 0)) (SI.v 0))),
          Eqn.T (SB.lt (SI.c (Int.ofNat 0)) (SI.sub (SI.len (SL.v 0)) (SI.v 0)))] },
    {
      pc :=
        [SB.le
            (SI.add (SI.add (SI.len (SL.v 1)) (SI.c (Int.ofNat 1)))
              (SI.len
                (SL.app 102 (SA.l (SL.v 0) (SA.i (SI.add (SI.v 0) (SI.c (Int.ofNat 1))) (SA.i (SI.v 5) SA.nil))))))
            (SI.len (SL.v 0)),
          SB.eq (SI.sel (SL.v 0) (SI.v 0) 0) (SI.v 5), SB.not (SB.eq (SI.sel (SL.v 0) (SI.v 0) 2) (SI.c (Int.ofNat 0))),
          SB.eq (SI.sel (SL.v 0) (SI.v 0) 1) (SI.c (Int.ofNat 0)),
          SB.eq (SI.sel (SL.v 0) (SI.v 0) 0) (SI.c (Int.ofNat 0)), SB.lt (SI.v 0) (SI.len (SL.v 0)),
          SB.le (SI.c (Int.ofNat 0)) (SI.v 0), SB.le (SI.v 0) (SI.len (SL.v 0)),
          SB.le (SI.len (SL.v 0)) (SI.c (Int.ofNat 64)), SB.le (SI.len (SL.v 1)) (SI.v 0)],
      eqs :=
        [Eqn.T
            (SB.le
              (SI.len
                (SL.app 0
                  (SA.l (SL.v 1) (SA.l (SL.app 102 (SA.l (SL.v 0) (SA.i (SI.v 0) (SA.i (SI.v 5) SA.nil)))) SA.nil))))
              (SI.len (SL.v 0))),
          Eqn.I
            (SI.len
              (SL.app 0
                (SA.l (SL.v 1) (SA.l (SL.app 102 (SA.l (SL.v 0) (SA.i (SI.v 0) (SA.i (SI.v 5) SA.nil)))) SA.nil))))
            (SI.add (SI.add (SI.len (SL.v 1)) (SI.c (Int.ofNat 1)))
              (SI.len
                (SL.app 102 (SA.l (SL.v 0) (SA.i (SI.add (SI.v 0) (SI.c (Int.ofNat 1))) (SA.i (SI.v 5) SA.nil)))))),
          Eqn.L
            (SL.app 0 (SA.l (SL.v 1) (SA.l (SL.app 102 (SA.l (SL.v 0) (SA.i (SI.v 0) (SA.i (SI.v 5) SA.nil)))) SA.nil)))
            (SL.app 0
              (SA.l (SL.app 0 (SA.l (SL.v 1) (SA.l (SL.app 3 (SA.i (SI.v 0) SA.nil)) SA.nil)))
                (SA.l (SL.app 102 (SA.l (SL.v 0) (SA.i (SI.add (SI.v 0) (SI.c (Int.ofNat 1))) (SA.i (SI.v 5) SA.nil))))
                  SA.nil)))] },
    {
      pc :=
        [SB.eq (SI.sel (SL.v 0) (SI.v 0) 2) (SI.v 5), SB.not (SB.eq (SI.sel (SL.v 0) (SI.v 0) 0) (SI.v 5)),
          SB.not (SB.eq (SI.sel (SL.v 0) (SI.v 0) 2) (SI.c (Int.ofNat 0))),
          SB.eq (SI.sel (SL.v 0) (SI.v 0) 1) (SI.c (Int.ofNat 0)),
          SB.eq (SI.sel (SL.v 0) (SI.v 0) 0) (SI.c (Int.ofNat 0)), SB.lt (SI.v 0) (SI.len (SL.v 0)),
          SB.le (SI.c (Int.ofNat 0)) (SI.v 0), SB.le (SI.v 0) (SI.len (SL.v 0)),
          SB.le (SI.len (SL.v 0)) (SI.c (Int.ofNat 64)), SB.le (SI.len (SL.v 1)) (SI.v 0)],
      eqs :=
        [Eqn.T
            (SB.lt (SI.sub (SI.len (SL.v 0)) (SI.add (SI.v 0) (SI.c (Int.ofNat 1))))
              (SI.sub (SI.len (SL.v 0)) (SI.v 0))),
          Eqn.T (SB.lt (SI.c (Int.ofNat 0)) (SI.sub (SI.len (SL.v 0)) (SI.v 0)))] },
    {
      pc :=
        [SB.le
            (SI.add (SI.add (SI.len (SL.v 1)) (SI.c (Int.ofNat 1)))
              (SI.len
                (SL.app 102 (SA.l (SL.v 0) (SA.i (SI.add (SI.v 0) (SI.c (Int.ofNat 1))) (SA.i (SI.v 5) SA.nil))))))
            (SI.len (SL.v 0)),
          SB.eq (SI.sel (SL.v 0) (SI.v 0) 2) (SI.v 5), SB.not (SB.eq (SI.sel (SL.v 0) (SI.v 0) 0) (SI.v 5)),
          SB.not (SB.eq (SI.sel (SL.v 0) (SI.v 0) 2) (SI.c (Int.ofNat 0))),
          SB.eq (SI.sel (SL.v 0) (SI.v 0) 1) (SI.c (Int.ofNat 0)),
          SB.eq (SI.sel (SL.v 0) (SI.v 0) 0) (SI.c (Int.ofNat 0)), SB.lt (SI.v 0) (SI.len (SL.v 0)),
          SB.le (SI.c (Int.ofNat 0)) (SI.v 0), SB.le (SI.v 0) (SI.len (SL.v 0)),
          SB.le (SI.len (SL.v 0)) (SI.c (Int.ofNat 64)), SB.le (SI.len (SL.v 1)) (SI.v 0)],
      eqs :=
        [Eqn.T
            (SB.le
              (SI.len
                (SL.app 0
                  (SA.l (SL.v 1) (SA.l (SL.app 102 (SA.l (SL.v 0) (SA.i (SI.v 0) (SA.i (SI.v 5) SA.nil)))) SA.nil))))
              (SI.len (SL.v 0))),
          Eqn.I
            (SI.len
              (SL.app 0
                (SA.l (SL.v 1) (SA.l (SL.app 102 (SA.l (SL.v 0) (SA.i (SI.v 0) (SA.i (SI.v 5) SA.nil)))) SA.nil))))
            (SI.add (SI.add (SI.len (SL.v 1)) (SI.c (Int.ofNat 1)))
              (SI.len
                (SL.app 102 (SA.l (SL.v 0) (SA.i (SI.add (SI.v 0) (SI.c (Int.ofNat 1))) (SA.i (SI.v 5) SA.nil)))))),
          Eqn.L
            (SL.app 0 (SA.l (SL.v 1) (SA.l (SL.app 102 (SA.l (SL.v 0) (SA.i (SI.v 0) (SA.i (SI.v 5) SA.nil)))) SA.nil)))
            (SL.app 0
              (SA.l (SL.app 0 (SA.l (SL.v 1) (SA.l (SL.app 3 (SA.i (SI.v 0) SA.nil)) SA.nil)))
                (SA.l (SL.app 102 (SA.l (SL.v 0) (SA.i (SI.add (SI.v 0) (SI.c (Int.ofNat 1))) (SA.i (SI.v 5) SA.nil))))
                  SA.nil)))] },
    {
      pc :=
        [SB.not (SB.eq (SI.sel (SL.v 0) (SI.v 0) 2) (SI.v 5)), SB.not (SB.eq (SI.sel (SL.v 0) (SI.v 0) 0) (SI.v 5)),
          SB.not (SB.eq (SI.sel (SL.v 0) (SI.v 0) 2) (SI.c (Int.ofNat 0))),
          SB.eq (SI.sel (SL.v 0) (SI.v 0) 1) (SI.c (Int.ofNat 0)),
          SB.eq (SI.sel (SL.v 0) (SI.v 0) 0) (SI.c (Int.ofNat 0)), SB.lt (SI.v 0) (SI.len (SL.v 0)),
          SB.le (SI.c (Int.ofNat 0)) (SI.v 0), SB.le (SI.v 0) (SI.len (SL.v 0)),
          SB.le (SI.len (SL.v 0)) (SI.c (Int.ofNat 64)), SB.le (SI.len (SL.v 1)) (SI.v 0)],
      eqs :=
        [Eqn.T
            (SB.lt (SI.sub (SI.len (SL.v 0)) (SI.add (SI.v 0) (SI.c (Int.ofNat 1))))
              (SI.sub (SI.len (SL.v 0)) (SI.v 0))),
          Eqn.T (SB.lt (SI.c (Int.ofNat 0)) (SI.sub (SI.len (SL.v 0)) (SI.v 0)))] },
    {
      pc :=
        [SB.le
            (SI.add (SI.len (SL.v 1))
              (SI.len
                (SL.app 102 (SA.l (SL.v 0) (SA.i (SI.add (SI.v 0) (SI.c (Int.ofNat 1))) (SA.i (SI.v 5) SA.nil))))))
            (SI.len (SL.v 0)),
          SB.not (SB.eq (SI.sel (SL.v 0) (SI.v 0) 2) (SI.v 5)), SB.not (SB.eq (SI.sel (SL.v 0) (SI.v 0) 0) (SI.v 5)),
          SB.not (SB.eq (SI.sel (SL.v 0) (SI.v 0) 2) (SI.c (Int.ofNat 0))),
          SB.eq (SI.sel (SL.v 0) (SI.v 0) 1) (SI.c (Int.ofNat 0)),
          SB.eq (SI.sel (SL.v 0) (SI.v 0) 0) (SI.c (Int.ofNat 0)), SB.lt (SI.v 0) (SI.len (SL.v 0)),
          SB.le (SI.c (Int.ofNat 0)) (SI.v 0), SB.le (SI.v 0) (SI.len (SL.v 0)),
          SB.le (SI.len (SL.v 0)) (SI.c (Int.ofNat 64)), SB.le (SI.len (SL.v 1)) (SI.v 0)],
      eqs :=
        [Eqn.T
            (SB.le
              (SI.len
                (SL.app 0
                  (SA.l (SL.v 1) (SA.l (SL.app 102 (SA.l (SL.v 0) (SA.i (SI.v 0) (SA.i (SI.v 5) SA.nil)))) SA.nil))))
              (SI.len (SL.v 0))),
          Eqn.I
            (SI.len
              (SL.app 0
                (SA.l (SL.v 1) (SA.l (SL.app 102 (SA.l (SL.v 0) (SA.i (SI.v 0) (SA.i (SI.v 5) SA.nil)))) SA.nil))))
            (SI.add (SI.len (SL.v 1))
              (SI.len
                (SL.app 102 (SA.l (SL.v 0) (SA.i (SI.add (SI.v 0) (SI.c (Int.ofNat 1))) (SA.i (SI.v 5) SA.nil)))))),
          Eqn.L
            (SL.app 0 (SA.l (SL.v 1) (SA.l (SL.app 102 (SA.l (SL.v 0) (SA.i (SI.v 0) (SA.i (SI.v 5) SA.nil)))) SA.nil)))
            (SL.app 0
              (SA.l (SL.v 1)
                (SA.l (SL.app 102 (SA.l (SL.v 0) (SA.i (SI.add (SI.v 0) (SI.c (Int.ofNat 1))) (SA.i (SI.v 5) SA.nil))))
                  SA.nil)))] },
    {
      pc :=
        [SB.eq (SI.sel (SL.v 0) (SI.v 0) 0) (SI.v 5), SB.not (SB.eq (SI.sel (SL.v 0) (SI.v 0) 1) (SI.c (Int.ofNat 0))),
          SB.eq (SI.sel (SL.v 0) (SI.v 0) 0) (SI.c (Int.ofNat 0)), SB.lt (SI.v 0) (SI.len (SL.v 0)),
          SB.le (SI.c (Int.ofNat 0)) (SI.v 0), SB.le (SI.v 0) (SI.len (SL.v 0)),
          SB.le (SI.len (SL.v 0)) (SI.c (Int.ofNat 64)), SB.le (SI.len (SL.v 1)) (SI.v 0)],
      eqs :=
        [Eqn.T
            (SB.lt (SI.sub (SI.len (SL.v 0)) (SI.add (SI.v 0) (SI.c (Int.ofNat 1))))
              (SI.sub (SI.len (SL.v 0)) (SI.v 0))),
          Eqn.T (SB.lt (SI.c (Int.ofNat 0)) (SI.sub (SI.len (SL.v 0)) (SI.v 0)))] },
    {
      pc :=
        [SB.le
            (SI.add (SI.add (SI.len (SL.v 1)) (SI.c (Int.ofNat 1)))
              (SI.len
                (SL.app 102 (SA.l (SL.v 0) (SA.i (SI.add (SI.v 0) (SI.c (Int.ofNat 1))) (SA.i (SI.v 5) SA.nil))))))
            (SI.len (SL.v 0)),
          SB.eq (SI.sel (SL.v 0) (SI.v 0) 0) (SI.v 5), SB.not (SB.eq (SI.sel (SL.v 0) (SI.v 0) 1) (SI.c (Int.ofNat 0))),
          SB.eq (SI.sel (SL.v 0) (SI.v 0) 0) (SI.c (Int.ofNat 0)), SB.lt (SI.v 0) (SI.len (SL.v 0)),
          SB.le (SI.c (Int.ofNat 0)) (SI.v 0), SB.le (SI.v 0) (SI.len (SL.v 0)),
          SB.le (SI.len (SL.v 0)) (SI.c (Int.ofNat 64)), SB.le (SI.len (SL.v 1)) (SI.v 0)],
      eqs :=
        [Eqn.T
            (SB.le
              (SI.len
                (SL.app 0
                  (SA.l (SL.v 1) (SA.l (SL.app 102 (SA.l (SL.v 0) (SA.i (SI.v 0) (SA.i (SI.v 5) SA.nil)))) SA.nil))))
              (SI.len (SL.v 0))),
          Eqn.I
            (SI.len
              (SL.app 0
                (SA.l (SL.v 1) (SA.l (SL.app 102 (SA.l (SL.v 0) (SA.i (SI.v 0) (SA.i (SI.v 5) SA.nil)))) SA.nil))))
            (SI.add (SI.add (SI.len (SL.v 1)) (SI.c (Int.ofNat 1)))
              (SI.len
                (SL.app 102 (SA.l (SL.v 0) (SA.i (SI.add (SI.v 0) (SI.c (Int.ofNat 1))) (SA.i (SI.v 5) SA.nil)))))),
          Eqn.L
            (SL.app 0 (SA.l (SL.v 1) (SA.l (SL.app 102 (SA.l (SL.v 0) (SA.i (SI.v 0) (SA.i (SI.v 5) SA.nil)))) SA.nil)))
            (SL.app 0
              (SA.l (SL.app 0 (SA.l (SL.v 1) (SA.l (SL.app 3 (SA.i (SI.v 0) SA.nil)) SA.nil)))
                (SA.l (SL.app 102 (SA.l (SL.v 0) (SA.i (SI.add (SI.v 0) (SI.c (Int.ofNat 1))) (SA.i (SI.v 5) SA.nil))))
                  SA.nil)))] },
    {
      pc :=
        [SB.eq (SI.sel (SL.v 0) (SI.v 0) 2) (SI.v 5), SB.not (SB.eq (SI.sel (SL.v 0) (SI.v 0) 0) (SI.v 5)),
          SB.not (SB.eq (SI.sel (SL.v 0) (SI.v 0) 1) (SI.c (Int.ofNat 0))),
          SB.eq (SI.sel (SL.v 0) (SI.v 0) 0) (SI.c (Int.ofNat 0)), SB.lt (SI.v 0) (SI.len (SL.v 0)),
          SB.le (SI.c (Int.ofNat 0)) (SI.v 0), SB.le (SI.v 0) (SI.len (SL.v 0)),
          SB.le (SI.len (SL.v 0)) (SI.c (Int.ofNat 64)), SB.le (SI.len (SL.v 1)) (SI.v 0)],
      eqs :=
        [Eqn.T
            (SB.lt (SI.sub (SI.len (SL.v 0)) (SI.add (SI.v 0) (SI.c (Int.ofNat 1))))
              (SI.sub (SI.len (SL.v 0)) (SI.v 0))),
          Eqn.T (SB.lt (SI.c (Int.ofNat 0)) (SI.sub (SI.len (SL.v 0)) (SI.v 0)))] },
    {
      pc :=
        [SB.le
            (SI.add (SI.add (SI.len (SL.v 1)) (SI.c (Int.ofNat 1)))
              (SI.len
                (SL.app 102 (SA.l (SL.v 0) (SA.i (SI.add (SI.v 0) (SI.c (Int.ofNat 1))) (SA.i (SI.v 5) SA.nil))))))
            (SI.len (SL.v 0)),
          SB.eq (SI.sel (SL.v 0) (SI.v 0) 2) (SI.v 5), SB.not (SB.eq (SI.sel (SL.v 0) (SI.v 0) 0) (SI.v 5)),
          SB.not (SB.eq (SI.sel (SL.v 0) (SI.v 0) 1) (SI.c (Int.ofNat 0))),
          SB.eq (SI.sel (SL.v 0) (SI.v 0) 0) (SI.c (Int.ofNat 0)), SB.lt (SI.v 0) (SI.len (SL.v 0)),
          SB.le (SI.c (Int.ofNat 0)) (SI.v 0), SB.le (SI.v 0) (SI.len (SL.v 0)),
          SB.le (SI.len (SL.v 0)) (SI.c (Int.ofNat 64)), SB.le (SI.len (SL.v 1)) (SI.v 0)],
      eqs :=
        [Eqn.T
            (SB.le
              (SI.len
                (SL.app 0
                  (SA.l (SL.v 1) (SA.l (SL.app 102 (SA.l (SL.v 0) (SA.i (SI.v 0) (SA.i (SI.v 5) SA.nil)))) SA.nil))))
              (SI.len (SL.v 0))),
          Eqn.I
            (SI.len
              (SL.app 0
                (SA.l (SL.v 1) (SA.l (SL.app 102 (SA.l (SL.v 0) (SA.i (SI.v 0) (SA.i (SI.v 5) SA.nil)))) SA.nil))))
            (SI.add (SI.add (SI.len (SL.v 1)) (SI.c (Int.ofNat 1)))
              (SI.len
                (SL.app 102 (SA.l (SL.v 0) (SA.i (SI.add (SI.v 0) (SI.c (Int.ofNat 1))) (SA.i (SI.v 5) SA.nil)))))),
          Eqn.L
            (SL.app 0 (SA.l (SL.v 1) (SA.l (SL.app 102 (SA.l (SL.v 0) (SA.i (SI.v 0) (SA.i (SI.v 5) SA.nil)))) SA.nil)))
            (SL.app 0
              (SA.l (SL.app 0 (SA.l (SL.v 1) (SA.l (SL.app 3 (SA.i (SI.v 0) SA.nil)) SA.nil)))
                (SA.l (SL.app 102 (SA.l (SL.v 0) (SA.i (SI.add (SI.v 0) (SI.c (Int.ofNat 1))) (SA.i (SI.v 5) SA.nil))))
                  SA.nil)))] },
    {
      pc :=
        [SB.not (SB.eq (SI.sel (SL.v 0) (SI.v 0) 2) (SI.v 5)), SB.not (SB.eq (SI.sel (SL.v 0) (SI.v 0) 0) (SI.v 5)),
          SB.not (SB.eq (SI.sel (SL.v 0) (SI.v 0) 1) (SI.c (Int.ofNat 0))),
          SB.eq (SI.sel (SL.v 0) (SI.v 0) 0) (SI.c (Int.ofNat 0)), SB.lt (SI.v 0) (SI.len (SL.v 0)),
          SB.le (SI.c (Int.ofNat 0)) (SI.v 0), SB.le (SI.v 0) (SI.len (SL.v 0)),
          SB.le (SI.len (SL.v 0)) (SI.c (Int.ofNat 64)), SB.le (SI.len (SL.v 1)) (SI.v 0)],
      eqs :=
        [Eqn.T
            (SB.lt (SI.sub (SI.len (SL.v 0)) (SI.add (SI.v 0) (SI.c (Int.ofNat 1))))
              (SI.sub (SI.len (SL.v 0)) (SI.v 0))),
          Eqn.T (SB.lt (SI.c (Int.ofNat 0)) (SI.sub (SI.len (SL.v 0)) (SI.v 0)))] },
    {
      pc :=
        [SB.le
            (SI.add (SI.len (SL.v 1))
              (SI.len
                (SL.app 102 (SA.l (SL.v 0) (SA.i (SI.add (SI.v 0) (SI.c (Int.ofNat 1))) (SA.i (SI.v 5) SA.nil))))))
            (SI.len (SL.v 0)),
          SB.not (SB.eq (SI.sel (SL.v 0) (SI.v 0) 2) (SI.v 5)), SB.not (SB.eq (SI.sel (SL.v 0) (SI.v 0) 0) (SI.v 5)),
          SB.not (SB.eq (SI.sel (SL.v 0) (SI.v 0) 1) (SI.c (Int.ofNat 0))),
          SB.eq (SI.sel (SL.v 0) (SI.v 0) 0) (SI.c (Int.ofNat 0)), SB.lt (SI.v 0) (SI.len (SL.v 0)),
          SB.le (SI.c (Int.ofNat 0)) (SI.v 0), SB.le (SI.v 0) (SI.len (SL.v 0)),
          SB.le (SI.len (SL.v 0)) (SI.c (Int.ofNat 64)), SB.le (SI.len (SL.v 1)) (SI.v 0)],
      eqs :=
        [Eqn.T
            (SB.le
              (SI.len
                (SL.app 0
                  (SA.l (SL.v 1) (SA.l (SL.app 102 (SA.l (SL.v 0) (SA.i (SI.v 0) (SA.i (SI.v 5) SA.nil)))) SA.nil))))
              (SI.len (SL.v 0))),
          Eqn.I
            (SI.len
              (SL.app 0
                (SA.l (SL.v 1) (SA.l (SL.app 102 (SA.l (SL.v 0) (SA.i (SI.v 0) (SA.i (SI.v 5) SA.nil)))) SA.nil))))
            (SI.add (SI.len (SL.v 1))
              (SI.len
                (SL.app 102 (SA.l (SL.v 0) (SA.i (SI.add (SI.v 0) (SI.c (Int.ofNat 1))) (SA.i (SI.v 5) SA.nil)))))),
          Eqn.L
            (SL.app 0 (SA.l (SL.v 1) (SA.l (SL.app 102 (SA.l (SL.v 0) (SA.i (SI.v 0) (SA.i (SI.v 5) SA.nil)))) SA.nil)))
            (SL.app 0
              (SA.l (SL.v 1)
                (SA.l (SL.app 102 (SA.l (SL.v 0) (SA.i (SI.add (SI.v 0) (SI.c (Int.ofNat 1))) (SA.i (SI.v 5) SA.nil))))
                  SA.nil)))] },
    {
      pc :=
        [SB.eq (SI.sel (SL.v 0) (SI.v 0) 0) (SI.v 5), SB.not (SB.eq (SI.sel (SL.v 0) (SI.v 0) 0) (SI.c (Int.ofNat 0))),
          SB.lt (SI.v 0) (SI.len (SL.v 0)), SB.le (SI.c (Int.ofNat 0)) (SI.v 0), SB.le (SI.v 0) (SI.len (SL.v 0)),
          SB.le (SI.len (SL.v 0)) (SI.c (Int.ofNat 64)), SB.le (SI.len (SL.v 1)) (SI.v 0)],
      eqs :=
        [Eqn.T
            (SB.lt (SI.sub (SI.len (SL.v 0)) (SI.add (SI.v 0) (SI.c (Int.ofNat 1))))
              (SI.sub (SI.len (SL.v 0)) (SI.v 0))),
          Eqn.T (SB.lt (SI.c (Int.ofNat 0)) (SI.sub (SI.len (SL.v 0)) (SI.v 0)))] },
    {
      pc :=
        [SB.le
            (SI.add (SI.add (SI.len (SL.v 1)) (SI.c (Int.ofNat 1)))
              (SI.len
                (SL.app 102 (SA.l (SL.v 0) (SA.i (SI.add (SI.v 0) (SI.c (Int.ofNat 1))) (SA.i (SI.v 5) SA.nil))))))
            (SI.len (SL.v 0)),
          SB.eq (SI.sel (SL.v 0) (SI.v 0) 0) (SI.v 5), SB.not (SB.eq (SI.sel (SL.v 0) (SI.v 0) 0) (SI.c (Int.ofNat 0))),
          SB.lt (SI.v 0) (SI.len (SL.v 0)), SB.le (SI.c (Int.ofNat 0)) (SI.v 0), SB.le (SI.v 0) (SI.len (SL.v 0)),
          SB.le (SI.len (SL.v 0)) (SI.c (Int.ofNat 64)), SB.le (SI.len (SL.v 1)) (SI.v 0)],
      eqs :=
        [Eqn.T
            (SB.le
              (SI.len
                (SL.app 0
                  (SA.l (SL.v 1) (SA.l (SL.app 102 (SA.l (SL.v 0) (SA.i (SI.v 0) (SA.i (SI.v 5) SA.nil)))) SA.nil))))
              (SI.len (SL.v 0))),
          Eqn.I
            (SI.len
              (SL.app 0
                (SA.l (SL.v 1) (SA.l (SL.app 102 (SA.l (SL.v 0) (SA.i (SI.v 0) (SA.i (SI.v 5) SA.nil)))) SA.nil))))
            (SI.add (SI.add (SI.len (SL.v 1)) (SI.c (Int.ofNat 1)))
              (SI.len
                (SL.app 102 (SA.l (SL.v 0) (SA.i (SI.add (SI.v 0) (SI.c (Int.ofNat 1))) (SA.i (SI.v 5) SA.nil)))))),
          Eqn.L
            (SL.app 0 (SA.l (SL.v 1) (SA.l (SL.app 102 (SA.l (SL.v 0) (SA.i (SI.v 0) (SA.i (SI.v 5) SA.nil)))) SA.nil)))
            (SL.app 0
              (SA.l (SL.app 0 (SA.l (SL.v 1) (SA.l (SL.app 3 (SA.i (SI.v 0) SA.nil)) SA.nil)))
                (SA.l (SL.app 102 (SA.l (SL.v 0) (SA.i (SI.add (SI.v 0) (SI.c (Int.ofNat 1))) (SA.i (SI.v 5) SA.nil))))
                  SA.nil)))] },
    {
      pc :=
        [SB.eq (SI.sel (SL.v 0) (SI.v 0) 2) (SI.v 5), SB.not (SB.eq (SI.sel (SL.v 0) (SI.v 0) 0) (SI.v 5)),
          SB.not (SB.eq (SI.sel (SL.v 0) (SI.v 0) 0) (SI.c (Int.ofNat 0))), SB.lt (SI.v 0) (SI.len (SL.v 0)),
          SB.le (SI.c (Int.ofNat 0)) (SI.v 0), SB.le (SI.v 0) (SI.len (SL.v 0)),
          SB.le (SI.len (SL.v 0)) (SI.c (Int.ofNat 64)), SB.le (SI.len (SL.v 1)) (SI.v 0)],
      eqs :=
        [Eqn.T
            (SB.lt (SI.sub (SI.len (SL.v 0)) (SI.add (SI.v 0) (SI.c (Int.ofNat 1))))
              (SI.sub (SI.len (SL.v 0)) (SI.v 0))),
          Eqn.T (SB.lt (SI.c (Int.ofNat 0)) (SI.sub (SI.len (SL.v 0)) (SI.v 0)))] },
    {
      pc :=
        [SB.le
            (SI.add (SI.add (SI.len (SL.v 1)) (SI.c (Int.ofNat 1)))
              (SI.len
                (SL.app 102 (SA.l (SL.v 0) (SA.i (SI.add (SI.v 0) (SI.c (Int.ofNat 1))) (SA.i (SI.v 5) SA.nil))))))
            (SI.len (SL.v 0)),
          SB.eq (SI.sel (SL.v 0) (SI.v 0) 2) (SI.v 5), SB.not (SB.eq (SI.sel (SL.v 0) (SI.v 0) 0) (SI.v 5)),
          SB.not (SB.eq (SI.sel (SL.v 0) (SI.v 0) 0) (SI.c (Int.ofNat 0))), SB.lt (SI.v 0) (SI.len (SL.v 0)),
          SB.le (SI.c (Int.ofNat 0)) (SI.v 0), SB.le (SI.v 0) (SI.len (SL.v 0)),
          SB.le (SI.len (SL.v 0)) (SI.c (Int.ofNat 64)), SB.le (SI.len (SL.v 1)) (SI.v 0)],
      eqs :=
        [Eqn.T
            (SB.le
              (SI.len
                (SL.app 0
                  (SA.l (SL.v 1) (SA.l (SL.app 102 (SA.l (SL.v 0) (SA.i (SI.v 0) (SA.i (SI.v 5) SA.nil)))) SA.nil))))
              (SI.len (SL.v 0))),
          Eqn.I
            (SI.len
              (SL.app 0
                (SA.l (SL.v 1) (SA.l (SL.app 102 (SA.l (SL.v 0) (SA.i (SI.v 0) (SA.i (SI.v 5) SA.nil)))) SA.nil))))
            (SI.add (SI.add (SI.len (SL.v 1)) (SI.c (Int.ofNat 1)))
              (SI.len
                (SL.app 102 (SA.l (SL.v 0) (SA.i (SI.add (SI.v 0) (SI.c (Int.ofNat 1))) (SA.i (SI.v 5) SA.nil)))))),
          Eqn.L
            (SL.app 0 (SA.l (SL.v 1) (SA.l (SL.app 102 (SA.l (SL.v 0) (SA.i (SI.v 0) (SA.i (SI.v 5) SA.nil)))) SA.nil)))
            (SL.app 0
              (SA.l (SL.app 0 (SA.l (SL.v 1) (SA.l (SL.app 3 (SA.i (SI.v 0) SA.nil)) SA.nil)))
                (SA.l (SL.app 102 (SA.l (SL.v 0) (SA.i (SI.add (SI.v 0) (SI.c (Int.ofNat 1))) (SA.i (SI.v 5) SA.nil))))
                  SA.nil)))] },
    {
      pc :=
        [SB.not (SB.eq (SI.sel (SL.v 0) (SI.v 0) 2) (SI.v 5)), SB.not (SB.eq (SI.sel (SL.v 0) (SI.v 0) 0) (SI.v 5)),
          SB.not (SB.eq (SI.sel (SL.v 0) (SI.v 0) 0) (SI.c (Int.ofNat 0))), SB.lt (SI.v 0) (SI.len (SL.v 0)),
          SB.le (SI.c (Int.ofNat 0)) (SI.v 0), SB.le (SI.v 0) (SI.len (SL.v 0)),
          SB.le (SI.len (SL.v 0)) (SI.c (Int.ofNat 64)), SB.le (SI.len (SL.v 1)) (SI.v 0)],
      eqs :=
        [Eqn.T
            (SB.lt (SI.sub (SI.len (SL.v 0)) (SI.add (SI.v 0) (SI.c (Int.ofNat 1))))
              (SI.sub (SI.len (SL.v 0)) (SI.v 0))),
          Eqn.T (SB.lt (SI.c (Int.ofNat 0)) (SI.sub (SI.len (SL.v 0)) (SI.v 0)))] },
    {
      pc :=
        [SB.le
            (SI.add (SI.len (SL.v 1))
              (SI.len
                (SL.app 102 (SA.l (SL.v 0) (SA.i (SI.add (SI.v 0) (SI.c (Int.ofNat 1))) (SA.i (SI.v 5) SA.nil))))))
            (SI.len (SL.v 0)),
          SB.not (SB.eq (SI.sel (SL.v 0) (SI.v 0) 2) (SI.v 5)), SB.not (SB.eq (SI.sel (SL.v 0) (SI.v 0) 0) (SI.v 5)),
          SB.not (SB.eq (SI.sel (SL.v 0) (SI.v 0) 0) (SI.c (Int.ofNat 0))), SB.lt (SI.v 0) (SI.len (SL.v 0)),
          SB.le (SI.c (Int.ofNat 0)) (SI.v 0), SB.le (SI.v 0) (SI.len (SL.v 0)),
          SB.le (SI.len (SL.v 0)) (SI.c (Int.ofNat 64)), SB.le (SI.len (SL.v 1)) (SI.v 0)],
      eqs :=
        [Eqn.T
            (SB.le
              (SI.len
                (SL.app 0
                  (SA.l (SL.v 1) (SA.l (SL.app 102 (SA.l (SL.v 0) (SA.i (SI.v 0) (SA.i (SI.v 5) SA.nil)))) SA.nil))))
              (SI.len (SL.v 0))),
          Eqn.I
            (SI.len
              (SL.app 0
                (SA.l (SL.v 1) (SA.l (SL.app 102 (SA.l (SL.v 0) (SA.i (SI.v 0) (SA.i (SI.v 5) SA.nil)))) SA.nil))))
            (SI.add (SI.len (SL.v 1))
              (SI.len
                (SL.app 102 (SA.l (SL.v 0) (SA.i (SI.add (SI.v 0) (SI.c (Int.ofNat 1))) (SA.i (SI.v 5) SA.nil)))))),
          Eqn.L
            (SL.app 0 (SA.l (SL.v 1) (SA.l (SL.app 102 (SA.l (SL.v 0) (SA.i (SI.v 0) (SA.i (SI.v 5) SA.nil)))) SA.nil)))
            (SL.app 0
              (SA.l (SL.v 1)
                (SA.l (SL.app 102 (SA.l (SL.v 0) (SA.i (SI.add (SI.v 0) (SI.c (Int.ofNat 1))) (SA.i (SI.v 5) SA.nil))))
                  SA.nil)))] },
    {
      pc :=
        [SB.not (SB.lt (SI.v 0) (SI.len (SL.v 0))), SB.le (SI.c (Int.ofNat 0)) (SI.v 0),
          SB.le (SI.v 0) (SI.len (SL.v 0)), SB.le (SI.len (SL.v 0)) (SI.c (Int.ofNat 64)),
          SB.le (SI.len (SL.v 1)) (SI.v 0)],
      eqs :=
        [Eqn.T
            (SB.le
              (SI.len
                (SL.app 0
                  (SA.l (SL.v 1) (SA.l (SL.app 102 (SA.l (SL.v 0) (SA.i (SI.v 0) (SA.i (SI.v 5) SA.nil)))) SA.nil))))
              (SI.len (SL.v 0))),
          Eqn.I
            (SI.len
              (SL.app 0
                (SA.l (SL.v 1) (SA.l (SL.app 102 (SA.l (SL.v 0) (SA.i (SI.v 0) (SA.i (SI.v 5) SA.nil)))) SA.nil))))
            (SI.len (SL.v 1)),
          Eqn.L
            (SL.app 0 (SA.l (SL.v 1) (SA.l (SL.app 102 (SA.l (SL.v 0) (SA.i (SI.v 0) (SA.i (SI.v 5) SA.nil)))) SA.nil)))
            (SL.v 1)] }] := by kernel_rfl
theorem su2_ok : su2.ok Φ Try.prog := by
  refine ⟨by kernel_rfl, loop_rule (fun ρ => noTbl_ok) (loopAt_sub (by kernel_rfl)) su2_obs ?_⟩
  simp only [and_imp, List.forall_mem_cons, List.not_mem_nil, false_implies, implies_true, and_true, Ob.ok, holds, Eqn.ok, evB_eq, evB_lt, evB_le, evB_not, evB_and, evB_or, evB_eqL, evB_app, evB_v, evB_c, ev_sel, ev_len, ev_v, ev_c, ev_add, ev_sub, ev_mul, ev_quo, ev_rem, ev_bits, ev_wrap, evL_v, evL_lit, evL_app, ev_app, evA_l, evA_i, evA_nil, std_min, std_max, std_cat, std_take, std_drop, std_row, std_set, std_rep, std_find, std_put, std_del, std_flag, std_unflag, std_clr, std_left, std_copy, ints_cons, ints_nil, ofNat_lit, negSucc_lit, decide_eq_true_eq, Bool.and_eq_true, Bool.or_eq_true, Bool.not_eq_true', Bool.and_eq_false_iff, Bool.or_eq_false_iff, decide_eq_false_iff_not, aI110, aI111, aI112, aI113, aI114, aL100, aL101, aL102, aL103, aL110, aL112, aL113, aL114, aL115, aL116, aB130, aB131, aB132, aB199]
  repeat' apply And.intro
  all_goals intro ρ hR
  all_goals intros
  all_goals first
    | (omega)
    | (have e := idx_yes (p := ofG (ρ.i 5)) (T := ρ.l 0) (i := ρ.i 0) (by omega) (by omega) (of_t (show okRow K5 ((ρ.l 0).getD (ρ.i 0).toNat []) from hR.row 0 rfl rfl _ (getD_mem (A := ρ.l 0) (by omega) (by omega))) (by unfold allZ; omega) (by omega))
       simp only [e, List.length_append, List.length_cons, List.length_nil, List.append_assoc, List.append_nil, List.singleton_append, and_true, true_and] at *
       omega)
    | (have e := idx_no (p := ofG (ρ.i 5)) (T := ρ.l 0) (i := ρ.i 0) (by omega) (by omega) (of_f (show okRow K5 ((ρ.l 0).getD (ρ.i 0).toNat []) from hR.row 0 rfl rfl _ (getD_mem (A := ρ.l 0) (by omega) (by omega))) (by unfold allZ; omega))
       simp only [e, List.length_append, List.length_cons, List.length_nil, List.append_assoc, List.append_nil, List.singleton_append, and_true, true_and] at *
       omega)
    | (have e := idx_end (p := ofG (ρ.i 5)) (T := ρ.l 0) (i := ρ.i 0) (by omega)
       simp only [e, List.length_append, List.length_cons, List.length_nil, List.append_assoc, List.append_nil, List.singleton_append, and_true, true_and] at *
       omega)
set_option maxRecDepth 100000 in
theorem su3_obs : loopObs Φ Try.prog noTbl 1000 su3.f (loopAt Try.prog su3.f su3.id) su3.n su3.T k0 su3.outs = some
  [{
      pc :=
        [SB.eq (SI.v 8) (SI.sel (SL.v 0) (SI.v 0) 2), SB.eq (SI.v 7) (SI.sel (SL.v 0) (SI.v 0) 1),
          SB.eq (SI.v 6) (SI.sel (SL.v 0) (SI.v 0) 0), SB.lt (SI.v 0) (SI.len (SL.v 0)),
          SB.le (SI.c (Int.ofNat 0)) (SI.v 0), SB.le (SI.v 0) (SI.len (SL.v 0)),
          SB.le (SI.len (SL.v 0)) (SI.c (Int.ofNat 64)), SB.le (SI.len (SL.v 1)) (SI.v 0)],
      eqs :=
        [Eqn.T
            (SB.lt (SI.sub (SI.len (SL.v 0)) (SI.add (SI.v 0) (SI.c (Int.ofNat 1))))
              (SI.sub (SI.len (SL.v 0)) (SI.v 0))),
          Eqn.T (SB.lt (SI.c (Int.ofNat 0)) (SI.sub (SI.len (SL.v 0)) (SI.v 0)))] },
    {
      pc :=
        [SB.le
            (SI.add (SI.add (SI.len (SL.v 1)) (SI.c (Int.ofNat 1)))
              (SI.len
                (SL.app 103
                  (SA.l (SL.v 0)
                    (SA.i (SI.add (SI.v 0) (SI.c (Int.ofNat 1)))
                      (SA.i (SI.v 6) (SA.i (SI.v 7) (SA.i (SI.v 8) SA.nil))))))))
            (SI.len (SL.v 0)),
          SB.eq (SI.v 8) (SI.sel (SL.v 0) (SI.v 0) 2), SB.eq (SI.v 7) (SI.sel (SL.v 0) (SI.v 0) 1),
          SB.eq (SI.v 6) (SI.sel (SL.v 0) (SI.v 0) 0), SB.lt (SI.v 0) (SI.len (SL.v 0)),
          SB.le (SI.c (Int.ofNat 0)) (SI.v 0), SB.le (SI.v 0) (SI.len (SL.v 0)),
          SB.le (SI.len (SL.v 0)) (SI.c (Int.ofNat 64)), SB.le (SI.len (SL.v 1)) (SI.v 0)],
      eqs :=
        [Eqn.T
            (SB.le
              (SI.len
                (SL.app 0
                  (SA.l (SL.v 1)
                    (SA.l
                      (SL.app 103
                        (SA.l (SL.v 0) (SA.i (SI.v 0) (SA.i (SI.v 6) (SA.i (SI.v 7) (SA.i (SI.v 8) SA.nil))))))
                      SA.nil))))
              (SI.len (SL.v 0))),
          Eqn.I
            (SI.len
              (SL.app 0
                (SA.l (SL.v 1)
                  (SA.l
                    (SL.app 103 (SA.l (SL.v 0) (SA.i (SI.v 0) (SA.i (SI.v 6) (SA.i (SI.v 7) (SA.i (SI.v 8) SA.nil))))))
                    SA.nil))))
            (SI.add (SI.add (SI.len (SL.v 1)) (SI.c (Int.ofNat 1)))
              (SI.len
                (SL.app 103
                  (SA.l (SL.v 0)
                    (SA.i (SI.add (SI.v 0) (SI.c (Int.ofNat 1)))
                      (SA.i (SI.v 6) (SA.i (SI.v 7) (SA.i (SI.v 8) SA.nil)))))))),
          Eqn.L
            (SL.app 0
              (SA.l (SL.v 1)
                (SA.l
                  (SL.app 103 (SA.l (SL.v 0) (SA.i (SI.v 0) (SA.i (SI.v 6) (SA.i (SI.v 7) (SA.i (SI.v 8) SA.nil))))))
                  SA.nil)))
            (SL.app 0
              (SA.l (SL.app 0 (SA.l (SL.v 1) (SA.l (SL.app 3 (SA.i (SI.v 0) SA.nil)) SA.nil)))
                (SA.l
                  (SL.app 103
                    (SA.l (SL.v 0)
                      (SA.i (SI.add (SI.v 0) (SI.c (Int.ofNat 1)))
                        (SA.i (SI.v 6) (SA.i (SI.v 7) (SA.i (SI.v 8) SA.nil))))))
                  SA.nil)))] },
    {
      pc :=
        [SB.not (SB.eq (SI.v 8) (SI.sel (SL.v 0) (SI.v 0) 2)), SB.eq (SI.v 7) (SI.sel (SL.v 0) (SI.v 0) 1),
          SB.eq (SI.v 6) (SI.sel (SL.v 0) (SI.v 0) 0), SB.lt (SI.v 0) (SI.len (SL.v 0)),
          SB.le (SI.c (Int.ofNat 0)) (SI.v 0), SB.le (SI.v 0) (SI.len (SL.v 0)),
          SB.le (SI.len (SL.v 0)) (SI.c (Int.ofNat 64)), SB.le (SI.len (SL.v 1)) (SI.v 0)],
      eqs :=
        [Eqn.T
            (SB.lt (SI.sub (SI.len (SL.v 0)) (SI.add (SI.v 0) (SI.c (Int.ofNat 1))))
              (SI.sub (SI.len (SL.v 0)) (SI.v 0))),
          Eqn.T (SB.lt (SI.c (Int.ofNat 0)) (SI.sub (SI.len (SL.v 0)) (SI.v 0)))] },
    {
      pc :=
        [SB.le
            (SI.add (SI.len (SL.v 1))
              (SI.len
                (SL.app 103
                  (SA.l (SL.v 0)
                    (SA.i (SI.add (SI.v 0) (SI.c (Int.ofNat 1)))
                      (SA.i (SI.v 6) (SA.i (SI.v 7) (SA.i (SI.v 8) SA.nil))))))))
            (SI.len (SL.v 0)),
          SB.not (SB.eq (SI.v 8) (SI.sel (SL.v 0) (SI.v 0) 2)), SB.eq (SI.v 7) (SI.sel (SL.v 0) (SI.v 0) 1),
          SB.eq (SI.v 6) (SI.sel (SL.v 0) (SI.v 0) 0), SB.lt (SI.v 0) (SI.len (SL.v 0)),
          SB.le (SI.c (Int.ofNat 0)) (SI.v 0), SB.le (SI.v 0) (SI.len (SL.v 0)),
          SB.le (SI.len (SL.v 0)) (SI.c (Int.ofNat 64)), SB.le (SI.len (SL.v 1)) (SI.v 0)],
      eqs :=
        [Eqn.T
            (SB.le
              (SI.len
                (SL.app 0
                  (SA.l (SL.v 1)
                    (SA.l
                      (SL.app 103
                        (SA.l (SL.v 0) (SA.i (SI.v 0) (SA.i (SI.v 6) (SA.i (SI.v 7) (SA.i (SI.v 8) SA.nil))))))
                      SA.nil))))
              (SI.len (SL.v 0))),
          Eqn.I
            (SI.len
              (SL.app 0
                (SA.l (SL.v 1)
                  (SA.l
                    (SL.app 103 (SA.l (SL.v 0) (SA.i (SI.v 0) (SA.i (SI.v 6) (SA.i (SI.v 7) (SA.i (SI.v 8) SA.nil))))))
                    SA.nil))))
            (SI.add (SI.len (SL.v 1))
              (SI.len
                (SL.app 103
                  (SA.l (SL.v 0)
                    (SA.i (SI.add (SI.v 0) (SI.c (Int.ofNat 1)))
                      (SA.i (SI.v 6) (SA.i (SI.v 7) (SA.i (SI.v 8) SA.nil)))))))),
          Eqn.L
            (SL.app 0
              (SA.l (SL.v 1)
                (SA.l
                  (SL.app 103 (SA.l (SL.v 0) (SA.i (SI.v 0) (SA.i (SI.v 6) (SA.i (SI.v 7) (SA.i (SI.v 8) SA.nil))))))
                  SA.nil)))
            (SL.app 0
              (SA.l (SL.v 1)
                (SA.l
                  (SL.app 103
                    (SA.l (SL.v 0)
                      (SA.i (SI.add (SI.v 0) (SI.c (Int.ofNat 1)))
                        (SA.i (SI.v 6) (SA.i (SI.v 7) (SA.i (SI.v 8) SA.nil))))))
                  SA.nil)))] },
    {
      pc :=
        [SB.not (SB.eq (SI.v 7) (SI.sel (SL.v 0) (SI.v 0) 1)), SB.eq (SI.v 6) (SI.sel (SL.v 0) (SI.v 0) 0),
          SB.lt (SI.v 0) (SI.len (SL.v 0)), SB.le (SI.c (Int.ofNat 0)) (SI.v 0), SB.le (SI.v 0) (SI.len (SL.v 0)),
          SB.le (SI.len (SL.v 0)) (SI.c (Int.ofNat 64)), SB.le (SI.len (SL.v 1)) (SI.v 0)],
      eqs :=
        [Eqn.T
            (SB.lt (SI.sub (SI.len (SL.v 0)) (SI.add (SI.v 0) (SI.c (Int.ofNat 1))))
              (SI.sub (SI.len (SL.v 0)) (SI.v 0))),
          Eqn.T (SB.lt (SI.c (Int.ofNat 0)) (SI.sub (SI.len (SL.v 0)) (SI.v 0)))] },
    {
      pc :=
        [SB.le
            (SI.add (SI.len (SL.v 1))
              (SI.len
                (SL.app 103
                  (SA.l (SL.v 0)
                    (SA.i (SI.add (SI.v 0) (SI.c (Int.ofNat 1)))
                      (SA.i (SI.v 6) (SA.i (SI.v 7) (SA.i (SI.v 8) SA.nil))))))))
            (SI.len (SL.v 0)),
          SB.not (SB.eq (SI.v 7) (SI.sel (SL.v 0) (SI.v 0) 1)), SB.eq (SI.v 6) (SI.sel (SL.v 0) (SI.v 0) 0),
          SB.lt (SI.v 0) (SI.len (SL.v 0)), SB.le (SI.c (Int.ofNat 0)) (SI.v 0), SB.le (SI.v 0) (SI.len (SL.v 0)),
          SB.le (SI.len (SL.v 0)) (SI.c (Int.ofNat 64)), SB.le (SI.len (SL.v 1)) (SI.v 0)],
      eqs :=
        [Eqn.T
            (SB.le
              (SI.len
                (SL.app 0
                  (SA.l (SL.v 1)
                    (SA.l
                      (SL.app 103
                        (SA.l (SL.v 0) (SA.i (SI.v 0) (SA.i (SI.v 6) (SA.i (SI.v 7) (SA.i (SI.v 8) SA.nil))))))
                      SA.nil))))
              (SI.len (SL.v 0))),
          Eqn.I
            (SI.len
              (SL.app 0
                (SA.l (SL.v 1)
                  (SA.l
                    (SL.app 103 (SA.l (SL.v 0) (SA.i (SI.v 0) (SA.i (SI.v 6) (SA.i (SI.v 7) (SA.i (SI.v 8) SA.nil))))))
                    SA.nil))))
            (SI.add (SI.len (SL.v 1))
              (SI.len
                (SL.app 103
                  (SA.l (SL.v 0)
                    (SA.i (SI.add (SI.v 0) (SI.c (Int.ofNat 1)))
                      (SA.i (SI.v 6) (SA.i (SI.v 7) (SA.i (SI.v 8) SA.nil)))))))),
          Eqn.L
            (SL.app 0
              (SA.l (SL.v 1)
                (SA.l
                  (SL.app 103 (SA.l (SL.v 0) (SA.i (SI.v 0) (SA.i (SI.v 6) (SA.i (SI.v 7) (SA.i (SI.v 8) SA.nil))))))
                  SA.nil)))
            (SL.app 0
              (SA.l (SL.v 1)
                (SA.l
                  (SL.app 103
                    (SA.l (SL.v 0)
                      (SA.i (SI.add (SI.v 0) (SI.c (Int.ofNat 1)))
                        (SA.i (SI.v 6) (SA.i (SI.v 7) (SA.i (SI.v 8) SA.nil))))))
                  SA.nil)))] },
    {
      pc :=
        [SB.not (SB.eq (SI.v 6) (SI.sel (SL.v 0) (SI.v 0) 0)), SB.lt (SI.v 0) (SI.len (SL.v 0)),
          SB.le (SI.c (Int.ofNat 0)) (SI.v 0), SB.le (SI.v 0) (SI.len (SL.v 0)),
          SB.le (SI.len (SL.v 0)) (SI.c (Int.ofNat 64)), SB.le (SI.len (SL.v 1)) (SI.v 0)],
      eqs :=
        [Eqn.T
            (SB.lt (SI.sub (SI.len (SL.v 0)) (SI.add (SI.v 0) (SI.c (Int.ofNat 1))))
              (SI.sub (SI.len (SL.v 0)) (SI.v 0))),
          Eqn.T (SB.lt (SI.c (Int.ofNat 0)) (SI.sub (SI.len (SL.v 0)) (SI.v 0)))] },
    {
      pc :=
        [SB.le
            (SI.add (SI.len (SL.v 1))
              (SI.len
                (SL.app 103
                  (SA.l (SL.v 0)
                    (SA.i (SI.add (SI.v 0) (SI.c (Int.ofNat 1)))
                      (SA.i (SI.v 6) (SA.i (SI.v 7) (SA.i (SI.v 8) SA.nil))))))))
            (SI.len (SL.v 0)),
          SB.not (SB.eq (SI.v 6) (SI.sel (SL.v 0) (SI.v 0) 0)), SB.lt (SI.v 0) (SI.len (SL.v 0)),
          SB.le (SI.c (Int.ofNat 0)) (SI.v 0), SB.le (SI.v 0) (SI.len (SL.v 0)),
          SB.le (SI.len (SL.v 0)) (SI.c (Int.ofNat 64)), SB.le (SI.len (SL.v 1)) (SI.v 0)],
      eqs :=
        [Eqn.T
            (SB.le
              (SI.len
                (SL.app 0
                  (SA.l (SL.v 1)
                    (SA.l
                      (SL.app 103
                        (SA.l (SL.v 0) (SA.i (SI.v 0) (SA.i (SI.v 6) (SA.i (SI.v 7) (SA.i (SI.v 8) SA.nil))))))
                      SA.nil))))
              (SI.len (SL.v 0))),
          Eqn.I
            (SI.len
              (SL.app 0
                (SA.l (SL.v 1)
                  (SA.l
                    (SL.app 103 (SA.l (SL.v 0) (SA.i (SI.v 0) (SA.i (SI.v 6) (SA.i (SI.v 7) (SA.i (SI.v 8) SA.nil))))))
                    SA.nil))))
            (SI.add (SI.len (SL.v 1))
              (SI.len
                (SL.app 103
                  (SA.l (SL.v 0)
                    (SA.i (SI.add (SI.v 0) (SI.c (Int.ofNat 1)))
                      (SA.i (SI.v 6) (SA.i (SI.v 7) (SA.i (SI.v 8) SA.nil)))))))),
          Eqn.L
            (SL.app 0
              (SA.l (SL.v 1)
                (SA.l
                  (SL.app 103 (SA.l (SL.v 0) (SA.i (SI.v 0) (SA.i (SI.v 6) (SA.i (SI.v 7) (SA.i (SI.v 8) SA.nil))))))
                  SA.nil)))
            (SL.app 0
              (SA.l (SL.v 1)
                (SA.l
                  (SL.app 103
                    (SA.l (SL.v 0)
                      (SA.i (SI.add (SI.v 0) (SI.c (Int.ofNat 1)))
                        (SA.i (SI.v 6) (SA.i (SI.v 7) (SA.i (SI.v 8) SA.nil))))))
                  SA.nil)))] },
    {
      pc :=
        [SB.not (SB.lt (SI.v 0) (SI.len (SL.v 0))), SB.le (SI.c (Int.ofNat 0)) (SI.v 0),
          SB.le (SI.v 0) (SI.len (SL.v 0)), SB.le (SI.len (SL.v 0)) (SI.c (Int.ofNat 64)),
          SB.le (SI.len (SL.v 1)) (SI.v 0)],
      eqs :=
        [Eqn.T
            (SB.le
              (SI.len
                (SL.app 0
                  (SA.l (SL.v 1)
                    (SA.l
                      (SL.app 103
                        (SA.l (SL.v 0) (SA.i (SI.v 0) (SA.i (SI.v 6) (SA.i (SI.v 7) (SA.i (SI.v 8) SA.nil))))))
                      SA.nil))))
              (SI.len (SL.v 0))),
          Eqn.I
            (SI.len
              (SL.app 0
                (SA.l (SL.v 1)
                  (SA.l
                    (SL.app 103 (SA.l (SL.v 0) (SA.i (SI.v 0) (SA.i (SI.v 6) (SA.i (SI.v 7) (SA.i (SI.v 8) SA.nil))))))
                    SA.nil))))
            (SI.len (SL.v 1)),
          Eqn.L
            (SL.app 0
              (SA.l (SL.v 1)
                (SA.l
                  (SL.app 103 (SA.l (SL.v 0) (SA.i (SI.v 0) (SA.i (SI.v 6) (SA.i (SI.v 7) (SA.i (SI.v 8) SA.nil))))))
                  SA.nil)))
            (SL.v 1)] }] := by kernel_rfl
theorem su3_ok : su3.ok Φ Try.prog := by
  refine ⟨by kernel_rfl, loop_rule (fun ρ => noTbl_ok) (loopAt_sub (by kernel_rfl)) su3_obs ?_⟩
  simp only [and_imp, List.forall_mem_cons, List.not_mem_nil, false_implies, implies_true, and_true, Ob.ok, holds, Eqn.ok, evB_eq, evB_lt, evB_le, evB_not, evB_and, evB_or, evB_eqL, evB_app, evB_v, evB_c, ev_sel, ev_len, ev_v, ev_c, ev_add, ev_sub, ev_mul, ev_quo, ev_rem, ev_bits, ev_wrap, evL_v, evL_lit, evL_app, ev_app, evA_l, evA_i, evA_nil, std_min, std_max, std_cat, std_take, std_drop, std_row, std_set, std_rep, std_find, std_put, std_del, std_flag, std_unflag, std_clr, std_left, std_copy, ints_cons, ints_nil, ofNat_lit, negSucc_lit, decide_eq_true_eq, Bool.and_eq_true, Bool.or_eq_true, Bool.not_eq_true', Bool.and_eq_false_iff, Bool.or_eq_false_iff, decide_eq_false_iff_not, aI110, aI111, aI112, aI113, aI114, aL100, aL101, aL102, aL103, aL110, aL112, aL113, aL114, aL115, aL116, aB130, aB131, aB132, aB199]
  repeat' apply And.intro
  all_goals intro ρ hR
  all_goals intros
  all_goals first
    | (omega)
    | (have e := idx_yes (p := sameR (ρ.i 6) (ρ.i 7) (ρ.i 8)) (T := ρ.l 0) (i := ρ.i 0) (by omega) (by omega) (same_t (by omega))
       simp only [e, List.length_append, List.length_cons, List.length_nil, List.append_assoc, List.append_nil, List.singleton_append, and_true, true_and] at *
       omega)
    | (have e := idx_no (p := sameR (ρ.i 6) (ρ.i 7) (ρ.i 8)) (T := ρ.l 0) (i := ρ.i 0) (by omega) (by omega) (same_f (by omega))
       simp only [e, List.length_append, List.length_cons, List.length_nil, List.append_assoc, List.append_nil, List.singleton_append, and_true, true_and] at *
       omega)
    | (have e := idx_end (p := sameR (ρ.i 6) (ρ.i 7) (ρ.i 8)) (T := ρ.l 0) (i := ρ.i 0) (by omega)
       simp only [e, List.length_append, List.length_cons, List.length_nil, List.append_assoc, List.append_nil, List.singleton_append, and_true, true_and] at *
       omega)
theorem t1_ok (ρ : Env) : TblOK Φ ρ Try.prog t1 := addLp_ok (addLp_ok (addLp_ok (addLp_ok noTbl_ok su0_ok) su1_ok) su2_ok) su3_ok
set_option maxRecDepth 100000 in
theorem cS0_obs : callObs Φ Try.prog t1 1000 cS0.f cS0.vs cS0.o cS0.pc cS0.outs = some
  [] := by kernel_rfl
theorem cS0_ok : cS0.ok Φ Try.prog := by
  refine call_rule (fun ρ => t1_ok ρ) cS0_obs ?_
  intro ob h; cases h
set_option maxRecDepth 100000 in
theorem cS1_obs : callObs Φ Try.prog t1 1000 cS1.f cS1.vs cS1.o cS1.pc cS1.outs = some
  [] := by kernel_rfl
theorem cS1_ok : cS1.ok Φ Try.prog := by
  refine call_rule (fun ρ => t1_ok ρ) cS1_obs ?_
  intro ob h; cases h
set_option maxRecDepth 100000 in
theorem cS2_obs : callObs Φ Try.prog t1 1000 cS2.f cS2.vs cS2.o cS2.pc cS2.outs = some
  [] := by kernel_rfl
theorem cS2_ok : cS2.ok Φ Try.prog := by
  refine call_rule (fun ρ => t1_ok ρ) cS2_obs ?_
  intro ob h; cases h
set_option maxRecDepth 100000 in
theorem cS3_obs : callObs Φ Try.prog t1 1000 cS3.f cS3.vs cS3.o cS3.pc cS3.outs = some
  [] := by kernel_rfl
theorem cS3_ok : cS3.ok Φ Try.prog := by
  refine call_rule (fun ρ => t1_ok ρ) cS3_obs ?_
  intro ob h; cases h
theorem t2_ok (ρ : Env) : TblOK Φ ρ Try.prog t2 := addFn_ok (addFn_ok (addFn_ok (addFn_ok (t1_ok ρ) cS0_ok) cS1_ok) cS2_ok) cS3_ok
set_option maxRecDepth 100000 in
theorem cNew_obs : callObs Φ Try.prog t2 1000 cNew.f cNew.vs cNew.o cNew.pc cNew.outs = some
  [{ pc := [SB.not (SB.lt (SI.c (Int.ofNat 64)) (SI.v 0)), SB.not (SB.lt (SI.v 0) (SI.c (Int.ofNat 1)))],
      eqs :=
        [Eqn.T
            (SB.eq
              (SI.len
                (SL.app 5
                  (SA.i (SI.v 0)
                    (SA.i (SI.c (Int.ofNat 0))
                      (SA.i (SI.c (Int.ofNat 0))
                        (SA.i (SI.c (Int.ofNat 0)) (SA.i (SI.c (Int.ofNat 0)) (SA.i (SI.c (Int.ofNat 0)) SA.nil))))))))
              (SI.v 0))] }] := by kernel_rfl
theorem cNew_ok : cNew.ok Φ Try.prog := by
  refine call_rule (fun ρ => t2_ok ρ) cNew_obs ?_
  simp only [and_imp, List.forall_mem_cons, List.not_mem_nil, false_implies, implies_true, and_true, Ob.ok, holds, Eqn.ok, evB_eq, evB_lt, evB_le, evB_not, evB_and, evB_or, evB_eqL, evB_app, evB_v, evB_c, ev_sel, ev_len, ev_v, ev_c, ev_add, ev_sub, ev_mul, ev_quo, ev_rem, ev_bits, ev_wrap, evL_v, evL_lit, evL_app, ev_app, evA_l, evA_i, evA_nil, std_min, std_max, std_cat, std_take, std_drop, std_row, std_set, std_rep, std_find, std_put, std_del, std_flag, std_unflag, std_clr, std_left, std_copy, ints_cons, ints_nil, ofNat_lit, negSucc_lit, decide_eq_true_eq, Bool.and_eq_true, Bool.or_eq_true, Bool.not_eq_true', Bool.and_eq_false_iff, Bool.or_eq_false_iff, decide_eq_false_iff_not, aI110, aI111, aI112, aI113, aI114, aL100, aL101, aL102, aL103, aL110, aL112, aL113, aL114, aL115, aL116, aB130, aB131, aB132, aB199]
  repeat' apply And.intro
  all_goals intro ρ hR
  all_goals intros
  all_goals first
    | (simp only [List.length_replicate]
       omega)
set_option maxRecDepth 100000 in
theorem cOffer_obs : callObs Φ Try.prog t2 1000 cOffer.f cOffer.vs cOffer.o cOffer.pc cOffer.outs = some
  [{
      pc :=
        [SB.eq (SI.v 6) (SI.v 8), SB.le (SI.v 8) (SI.c (Int.ofNat 16)), SB.le (SI.c (Int.ofNat 1)) (SI.v 8),
          SB.le (SI.v 6) (SI.c (Int.ofNat 16)), SB.le (SI.c (Int.ofNat 1)) (SI.v 6), SB.v 0,
          SB.le (SI.c (Int.ofNat 1)) (SI.len (SL.v 0)), SB.le (SI.len (SL.v 0)) (SI.c (Int.ofNat 64)), SB.c true,
          SB.and (SB.c true) (SB.or (SB.v 0) (SB.not (SB.v 0)))],
      eqs :=
        [Eqn.T
            (SB.eq
              (SI.len
                (SL.app 110
                  (SA.l (SL.v 0) (SA.i (SI.v 6) (SA.i (SI.v 7) (SA.i (SI.v 8) (SA.i (SI.c (Int.ofNat 1)) SA.nil)))))))
              (SI.len (SL.v 0))),
          Eqn.I (SI.app 111 (SA.l (SL.v 0) (SA.i (SI.v 6) (SA.i (SI.v 7) (SA.i (SI.v 8) SA.nil)))))
            (SI.c (Int.ofNat 0)),
          Eqn.I (SI.app 110 (SA.l (SL.v 0) (SA.i (SI.v 6) (SA.i (SI.v 7) (SA.i (SI.v 8) SA.nil)))))
            (SI.c (Int.ofNat 1)),
          Eqn.I
            (SI.len
              (SL.app 110
                (SA.l (SL.v 0) (SA.i (SI.v 6) (SA.i (SI.v 7) (SA.i (SI.v 8) (SA.i (SI.c (Int.ofNat 1)) SA.nil)))))))
            (SI.len (SL.v 0)),
          Eqn.L
            (SL.app 110
              (SA.l (SL.v 0) (SA.i (SI.v 6) (SA.i (SI.v 7) (SA.i (SI.v 8) (SA.i (SI.c (Int.ofNat 1)) SA.nil))))))
            (SL.v 0)] },
    {
      pc :=
        [SB.lt (SI.v 7) (SI.c (Int.ofNat 0)), SB.not (SB.eq (SI.v 6) (SI.v 8)), SB.le (SI.v 8) (SI.c (Int.ofNat 16)),
          SB.le (SI.c (Int.ofNat 1)) (SI.v 8), SB.le (SI.v 6) (SI.c (Int.ofNat 16)),
          SB.le (SI.c (Int.ofNat 1)) (SI.v 6), SB.v 0, SB.le (SI.c (Int.ofNat 1)) (SI.len (SL.v 0)),
          SB.le (SI.len (SL.v 0)) (SI.c (Int.ofNat 64)), SB.c true,
          SB.and (SB.c true) (SB.or (SB.v 0) (SB.not (SB.v 0)))],
      eqs :=
        [Eqn.T
            (SB.eq
              (SI.len
                (SL.app 110
                  (SA.l (SL.v 0) (SA.i (SI.v 6) (SA.i (SI.v 7) (SA.i (SI.v 8) (SA.i (SI.c (Int.ofNat 1)) SA.nil)))))))
              (SI.len (SL.v 0))),
          Eqn.I (SI.app 111 (SA.l (SL.v 0) (SA.i (SI.v 6) (SA.i (SI.v 7) (SA.i (SI.v 8) SA.nil)))))
            (SI.c (Int.ofNat 0)),
          Eqn.I (SI.app 110 (SA.l (SL.v 0) (SA.i (SI.v 6) (SA.i (SI.v 7) (SA.i (SI.v 8) SA.nil)))))
            (SI.c (Int.ofNat 1)),
          Eqn.I
            (SI.len
              (SL.app 110
                (SA.l (SL.v 0) (SA.i (SI.v 6) (SA.i (SI.v 7) (SA.i (SI.v 8) (SA.i (SI.c (Int.ofNat 1)) SA.nil)))))))
            (SI.len (SL.v 0)),
          Eqn.L
            (SL.app 110
              (SA.l (SL.v 0) (SA.i (SI.v 6) (SA.i (SI.v 7) (SA.i (SI.v 8) (SA.i (SI.c (Int.ofNat 1)) SA.nil))))))
            (SL.v 0)] },
    {
      pc :=
        [SB.le (SI.c (Int.ofNat 65536)) (SI.v 7), SB.not (SB.lt (SI.v 7) (SI.c (Int.ofNat 0))),
          SB.not (SB.eq (SI.v 6) (SI.v 8)), SB.le (SI.v 8) (SI.c (Int.ofNat 16)), SB.le (SI.c (Int.ofNat 1)) (SI.v 8),
          SB.le (SI.v 6) (SI.c (Int.ofNat 16)), SB.le (SI.c (Int.ofNat 1)) (SI.v 6), SB.v 0,
          SB.le (SI.c (Int.ofNat 1)) (SI.len (SL.v 0)), SB.le (SI.len (SL.v 0)) (SI.c (Int.ofNat 64)), SB.c true,
          SB.and (SB.c true) (SB.or (SB.v 0) (SB.not (SB.v 0)))],
      eqs :=
        [Eqn.T
            (SB.eq
              (SI.len
                (SL.app 110
                  (SA.l (SL.v 0) (SA.i (SI.v 6) (SA.i (SI.v 7) (SA.i (SI.v 8) (SA.i (SI.c (Int.ofNat 1)) SA.nil)))))))
              (SI.len (SL.v 0))),
          Eqn.I (SI.app 111 (SA.l (SL.v 0) (SA.i (SI.v 6) (SA.i (SI.v 7) (SA.i (SI.v 8) SA.nil)))))
            (SI.c (Int.ofNat 0)),
          Eqn.I (SI.app 110 (SA.l (SL.v 0) (SA.i (SI.v 6) (SA.i (SI.v 7) (SA.i (SI.v 8) SA.nil)))))
            (SI.c (Int.ofNat 1)),
          Eqn.I
            (SI.len
              (SL.app 110
                (SA.l (SL.v 0) (SA.i (SI.v 6) (SA.i (SI.v 7) (SA.i (SI.v 8) (SA.i (SI.c (Int.ofNat 1)) SA.nil)))))))
            (SI.len (SL.v 0)),
          Eqn.L
            (SL.app 110
              (SA.l (SL.v 0) (SA.i (SI.v 6) (SA.i (SI.v 7) (SA.i (SI.v 8) (SA.i (SI.c (Int.ofNat 1)) SA.nil))))))
            (SL.v 0)] },
    {
      pc :=
        [SB.lt (SI.c (Int.ofNat 0))
            (SI.len
              (SL.app 103
                (SA.l (SL.v 0) (SA.i (SI.c (Int.ofNat 0)) (SA.i (SI.v 6) (SA.i (SI.v 7) (SA.i (SI.v 8) SA.nil))))))),
          SB.le
            (SI.len
              (SL.app 103
                (SA.l (SL.v 0) (SA.i (SI.c (Int.ofNat 0)) (SA.i (SI.v 6) (SA.i (SI.v 7) (SA.i (SI.v 8) SA.nil)))))))
            (SI.len (SL.v 0)),
          SB.not (SB.le (SI.c (Int.ofNat 65536)) (SI.v 7)), SB.not (SB.lt (SI.v 7) (SI.c (Int.ofNat 0))),
          SB.not (SB.eq (SI.v 6) (SI.v 8)), SB.le (SI.v 8) (SI.c (Int.ofNat 16)), SB.le (SI.c (Int.ofNat 1)) (SI.v 8),
          SB.le (SI.v 6) (SI.c (Int.ofNat 16)), SB.le (SI.c (Int.ofNat 1)) (SI.v 6), SB.v 0,
          SB.le (SI.c (Int.ofNat 1)) (SI.len (SL.v 0)), SB.le (SI.len (SL.v 0)) (SI.c (Int.ofNat 64)), SB.c true,
          SB.and (SB.c true) (SB.or (SB.v 0) (SB.not (SB.v 0)))],
      eqs :=
        [Eqn.T
            (SB.eq
              (SI.len
                (SL.app 110
                  (SA.l (SL.v 0) (SA.i (SI.v 6) (SA.i (SI.v 7) (SA.i (SI.v 8) (SA.i (SI.c (Int.ofNat 1)) SA.nil)))))))
              (SI.len (SL.v 0))),
          Eqn.I (SI.app 111 (SA.l (SL.v 0) (SA.i (SI.v 6) (SA.i (SI.v 7) (SA.i (SI.v 8) SA.nil)))))
            (SI.c (Int.ofNat 0)),
          Eqn.I (SI.app 110 (SA.l (SL.v 0) (SA.i (SI.v 6) (SA.i (SI.v 7) (SA.i (SI.v 8) SA.nil)))))
            (SI.c (Int.ofNat 5)),
          Eqn.I
            (SI.len
              (SL.app 110
                (SA.l (SL.v 0) (SA.i (SI.v 6) (SA.i (SI.v 7) (SA.i (SI.v 8) (SA.i (SI.c (Int.ofNat 1)) SA.nil)))))))
            (SI.len (SL.v 0)),
          Eqn.L
            (SL.app 110
              (SA.l (SL.v 0) (SA.i (SI.v 6) (SA.i (SI.v 7) (SA.i (SI.v 8) (SA.i (SI.c (Int.ofNat 1)) SA.nil))))))
            (SL.v 0)] },
    {
      pc :=
        [SB.eq (SI.len (SL.app 100 (SA.l (SL.v 0) (SA.i (SI.c (Int.ofNat 0)) SA.nil)))) (SI.c (Int.ofNat 0)),
          SB.le (SI.len (SL.app 100 (SA.l (SL.v 0) (SA.i (SI.c (Int.ofNat 0)) SA.nil)))) (SI.len (SL.v 0)),
          SB.not
            (SB.lt (SI.c (Int.ofNat 0))
              (SI.len
                (SL.app 103
                  (SA.l (SL.v 0) (SA.i (SI.c (Int.ofNat 0)) (SA.i (SI.v 6) (SA.i (SI.v 7) (SA.i (SI.v 8) SA.nil)))))))),
          SB.le
            (SI.len
              (SL.app 103
                (SA.l (SL.v 0) (SA.i (SI.c (Int.ofNat 0)) (SA.i (SI.v 6) (SA.i (SI.v 7) (SA.i (SI.v 8) SA.nil)))))))
            (SI.len (SL.v 0)),
          SB.not (SB.le (SI.c (Int.ofNat 65536)) (SI.v 7)), SB.not (SB.lt (SI.v 7) (SI.c (Int.ofNat 0))),
          SB.not (SB.eq (SI.v 6) (SI.v 8)), SB.le (SI.v 8) (SI.c (Int.ofNat 16)), SB.le (SI.c (Int.ofNat 1)) (SI.v 8),
          SB.le (SI.v 6) (SI.c (Int.ofNat 16)), SB.le (SI.c (Int.ofNat 1)) (SI.v 6), SB.v 0,
          SB.le (SI.c (Int.ofNat 1)) (SI.len (SL.v 0)), SB.le (SI.len (SL.v 0)) (SI.c (Int.ofNat 64)), SB.c true,
          SB.and (SB.c true) (SB.or (SB.v 0) (SB.not (SB.v 0)))],
      eqs :=
        [Eqn.T
            (SB.eq
              (SI.len
                (SL.app 110
                  (SA.l (SL.v 0) (SA.i (SI.v 6) (SA.i (SI.v 7) (SA.i (SI.v 8) (SA.i (SI.c (Int.ofNat 1)) SA.nil)))))))
              (SI.len (SL.v 0))),
          Eqn.I (SI.app 111 (SA.l (SL.v 0) (SA.i (SI.v 6) (SA.i (SI.v 7) (SA.i (SI.v 8) SA.nil)))))
            (SI.c (Int.ofNat 0)),
          Eqn.I (SI.app 110 (SA.l (SL.v 0) (SA.i (SI.v 6) (SA.i (SI.v 7) (SA.i (SI.v 8) SA.nil)))))
            (SI.c (Int.ofNat 3)),
          Eqn.I
            (SI.len
              (SL.app 110
                (SA.l (SL.v 0) (SA.i (SI.v 6) (SA.i (SI.v 7) (SA.i (SI.v 8) (SA.i (SI.c (Int.ofNat 1)) SA.nil)))))))
            (SI.len (SL.v 0)),
          Eqn.L
            (SL.app 110
              (SA.l (SL.v 0) (SA.i (SI.v 6) (SA.i (SI.v 7) (SA.i (SI.v 8) (SA.i (SI.c (Int.ofNat 1)) SA.nil))))))
            (SL.v 0)] },
    {
      pc :=
        [SB.lt (SI.sel (SL.app 100 (SA.l (SL.v 0) (SA.i (SI.c (Int.ofNat 0)) SA.nil))) (SI.c (Int.ofNat 0)) 0)
            (SI.len (SL.v 0)),
          SB.le (SI.c (Int.ofNat 0))
            (SI.sel (SL.app 100 (SA.l (SL.v 0) (SA.i (SI.c (Int.ofNat 0)) SA.nil))) (SI.c (Int.ofNat 0)) 0),
          SB.not (SB.eq (SI.len (SL.app 100 (SA.l (SL.v 0) (SA.i (SI.c (Int.ofNat 0)) SA.nil)))) (SI.c (Int.ofNat 0))),
          SB.le (SI.len (SL.app 100 (SA.l (SL.v 0) (SA.i (SI.c (Int.ofNat 0)) SA.nil)))) (SI.len (SL.v 0)),
          SB.not
            (SB.lt (SI.c (Int.ofNat 0))
              (SI.len
                (SL.app 103
                  (SA.l (SL.v 0) (SA.i (SI.c (Int.ofNat 0)) (SA.i (SI.v 6) (SA.i (SI.v 7) (SA.i (SI.v 8) SA.nil)))))))),
          SB.le
            (SI.len
              (SL.app 103
                (SA.l (SL.v 0) (SA.i (SI.c (Int.ofNat 0)) (SA.i (SI.v 6) (SA.i (SI.v 7) (SA.i (SI.v 8) SA.nil)))))))
            (SI.len (SL.v 0)),
          SB.not (SB.le (SI.c (Int.ofNat 65536)) (SI.v 7)), SB.not (SB.lt (SI.v 7) (SI.c (Int.ofNat 0))),
          SB.not (SB.eq (SI.v 6) (SI.v 8)), SB.le (SI.v 8) (SI.c (Int.ofNat 16)), SB.le (SI.c (Int.ofNat 1)) (SI.v 8),
          SB.le (SI.v 6) (SI.c (Int.ofNat 16)), SB.le (SI.c (Int.ofNat 1)) (SI.v 6), SB.v 0,
          SB.le (SI.c (Int.ofNat 1)) (SI.len (SL.v 0)), SB.le (SI.len (SL.v 0)) (SI.c (Int.ofNat 64)), SB.c true,
          SB.and (SB.c true) (SB.or (SB.v 0) (SB.not (SB.v 0)))],
      eqs :=
        [Eqn.T
            (SB.eq
              (SI.len
                (SL.app 110
                  (SA.l (SL.v 0) (SA.i (SI.v 6) (SA.i (SI.v 7) (SA.i (SI.v 8) (SA.i (SI.c (Int.ofNat 1)) SA.nil)))))))
              (SI.len (SL.v 0))),
          Eqn.I (SI.app 111 (SA.l (SL.v 0) (SA.i (SI.v 6) (SA.i (SI.v 7) (SA.i (SI.v 8) SA.nil)))))
            (SI.sel (SL.app 100 (SA.l (SL.v 0) (SA.i (SI.c (Int.ofNat 0)) SA.nil))) (SI.c (Int.ofNat 0)) 0),
          Eqn.I (SI.app 110 (SA.l (SL.v 0) (SA.i (SI.v 6) (SA.i (SI.v 7) (SA.i (SI.v 8) SA.nil)))))
            (SI.c (Int.ofNat 0)),
          Eqn.I
            (SI.len
              (SL.app 110
                (SA.l (SL.v 0) (SA.i (SI.v 6) (SA.i (SI.v 7) (SA.i (SI.v 8) (SA.i (SI.c (Int.ofNat 1)) SA.nil)))))))
            (SI.len (SL.v 0)),
          Eqn.L
            (SL.app 110
              (SA.l (SL.v 0) (SA.i (SI.v 6) (SA.i (SI.v 7) (SA.i (SI.v 8) (SA.i (SI.c (Int.ofNat 1)) SA.nil))))))
            (SL.app 4
              (SA.l
                (SL.app 4
                  (SA.l
                    (SL.app 4
                      (SA.l
                        (SL.app 4
                          (SA.l
                            (SL.app 4
                              (SA.l (SL.v 0)
                                (SA.i
                                  (SI.sel (SL.app 100 (SA.l (SL.v 0) (SA.i (SI.c (Int.ofNat 0)) SA.nil)))
                                    (SI.c (Int.ofNat 0)) 0)
                                  (SA.i (SI.c (Int.ofNat 0)) (SA.i (SI.v 6) SA.nil)))))
                            (SA.i
                              (SI.sel (SL.app 100 (SA.l (SL.v 0) (SA.i (SI.c (Int.ofNat 0)) SA.nil)))
                                (SI.c (Int.ofNat 0)) 0)
                              (SA.i (SI.c (Int.ofNat 1)) (SA.i (SI.v 7) SA.nil)))))
                        (SA.i
                          (SI.sel (SL.app 100 (SA.l (SL.v 0) (SA.i (SI.c (Int.ofNat 0)) SA.nil))) (SI.c (Int.ofNat 0))
                            0)
                          (SA.i (SI.c (Int.ofNat 2)) (SA.i (SI.v 8) SA.nil)))))
                    (SA.i
                      (SI.sel (SL.app 100 (SA.l (SL.v 0) (SA.i (SI.c (Int.ofNat 0)) SA.nil))) (SI.c (Int.ofNat 0)) 0)
                      (SA.i (SI.c (Int.ofNat 3)) (SA.i (SI.c (Int.ofNat 1)) SA.nil)))))
                (SA.i (SI.sel (SL.app 100 (SA.l (SL.v 0) (SA.i (SI.c (Int.ofNat 0)) SA.nil))) (SI.c (Int.ofNat 0)) 0)
                  (SA.i (SI.c (Int.ofNat 4)) (SA.i (SI.c (Int.ofNat 0)) SA.nil)))))] },
    {
      pc :=
        [SB.not
            (SB.lt (SI.sel (SL.app 100 (SA.l (SL.v 0) (SA.i (SI.c (Int.ofNat 0)) SA.nil))) (SI.c (Int.ofNat 0)) 0)
              (SI.len (SL.v 0))),
          SB.le (SI.c (Int.ofNat 0))
            (SI.sel (SL.app 100 (SA.l (SL.v 0) (SA.i (SI.c (Int.ofNat 0)) SA.nil))) (SI.c (Int.ofNat 0)) 0),
          SB.not (SB.eq (SI.len (SL.app 100 (SA.l (SL.v 0) (SA.i (SI.c (Int.ofNat 0)) SA.nil)))) (SI.c (Int.ofNat 0))),
          SB.le (SI.len (SL.app 100 (SA.l (SL.v 0) (SA.i (SI.c (Int.ofNat 0)) SA.nil)))) (SI.len (SL.v 0)),
          SB.not
            (SB.lt (SI.c (Int.ofNat 0))
              (SI.len
                (SL.app 103
                  (SA.l (SL.v 0) (SA.i (SI.c (Int.ofNat 0)) (SA.i (SI.v 6) (SA.i (SI.v 7) (SA.i (SI.v 8) SA.nil)))))))),
          SB.le
            (SI.len
              (SL.app 103
                (SA.l (SL.v 0) (SA.i (SI.c (Int.ofNat 0)) (SA.i (SI.v 6) (SA.i (SI.v 7) (SA.i (SI.v 8) SA.nil)))))))
            (SI.len (SL.v 0)),
          SB.not (SB.le (SI.c (Int.ofNat 65536)) (SI.v 7)), SB.not (SB.lt (SI.v 7) (SI.c (Int.ofNat 0))),
          SB.not (SB.eq (SI.v 6) (SI.v 8)), SB.le (SI.v 8) (SI.c (Int.ofNat 16)), SB.le (SI.c (Int.ofNat 1)) (SI.v 8),
          SB.le (SI.v 6) (SI.c (Int.ofNat 16)), SB.le (SI.c (Int.ofNat 1)) (SI.v 6), SB.v 0,
          SB.le (SI.c (Int.ofNat 1)) (SI.len (SL.v 0)), SB.le (SI.len (SL.v 0)) (SI.c (Int.ofNat 64)), SB.c true,
          SB.and (SB.c true) (SB.or (SB.v 0) (SB.not (SB.v 0)))],
      eqs := [Eqn.T (SB.c false)] },
    {
      pc :=
        [SB.not
            (SB.le (SI.c (Int.ofNat 0))
              (SI.sel (SL.app 100 (SA.l (SL.v 0) (SA.i (SI.c (Int.ofNat 0)) SA.nil))) (SI.c (Int.ofNat 0)) 0)),
          SB.not (SB.eq (SI.len (SL.app 100 (SA.l (SL.v 0) (SA.i (SI.c (Int.ofNat 0)) SA.nil)))) (SI.c (Int.ofNat 0))),
          SB.le (SI.len (SL.app 100 (SA.l (SL.v 0) (SA.i (SI.c (Int.ofNat 0)) SA.nil)))) (SI.len (SL.v 0)),
          SB.not
            (SB.lt (SI.c (Int.ofNat 0))
              (SI.len
                (SL.app 103
                  (SA.l (SL.v 0) (SA.i (SI.c (Int.ofNat 0)) (SA.i (SI.v 6) (SA.i (SI.v 7) (SA.i (SI.v 8) SA.nil)))))))),
          SB.le
            (SI.len
              (SL.app 103
                (SA.l (SL.v 0) (SA.i (SI.c (Int.ofNat 0)) (SA.i (SI.v 6) (SA.i (SI.v 7) (SA.i (SI.v 8) SA.nil)))))))
            (SI.len (SL.v 0)),
          SB.not (SB.le (SI.c (Int.ofNat 65536)) (SI.v 7)), SB.not (SB.lt (SI.v 7) (SI.c (Int.ofNat 0))),
          SB.not (SB.eq (SI.v 6) (SI.v 8)), SB.le (SI.v 8) (SI.c (Int.ofNat 16)), SB.le (SI.c (Int.ofNat 1)) (SI.v 8),
          SB.le (SI.v 6) (SI.c (Int.ofNat 16)), SB.le (SI.c (Int.ofNat 1)) (SI.v 6), SB.v 0,
          SB.le (SI.c (Int.ofNat 1)) (SI.len (SL.v 0)), SB.le (SI.len (SL.v 0)) (SI.c (Int.ofNat 64)), SB.c true,
          SB.and (SB.c true) (SB.or (SB.v 0) (SB.not (SB.v 0)))],
      eqs := [Eqn.T (SB.c false)] },
    {
      pc :=
        [SB.not (SB.le (SI.v 8) (SI.c (Int.ofNat 16))), SB.le (SI.c (Int.ofNat 1)) (SI.v 8),
          SB.le (SI.v 6) (SI.c (Int.ofNat 16)), SB.le (SI.c (Int.ofNat 1)) (SI.v 6), SB.v 0,
          SB.le (SI.c (Int.ofNat 1)) (SI.len (SL.v 0)), SB.le (SI.len (SL.v 0)) (SI.c (Int.ofNat 64)), SB.c true,
          SB.and (SB.c true) (SB.or (SB.v 0) (SB.not (SB.v 0)))],
      eqs :=
        [Eqn.T
            (SB.eq
              (SI.len
                (SL.app 110
                  (SA.l (SL.v 0) (SA.i (SI.v 6) (SA.i (SI.v 7) (SA.i (SI.v 8) (SA.i (SI.c (Int.ofNat 1)) SA.nil)))))))
              (SI.len (SL.v 0))),
          Eqn.I (SI.app 111 (SA.l (SL.v 0) (SA.i (SI.v 6) (SA.i (SI.v 7) (SA.i (SI.v 8) SA.nil)))))
            (SI.c (Int.ofNat 0)),
          Eqn.I (SI.app 110 (SA.l (SL.v 0) (SA.i (SI.v 6) (SA.i (SI.v 7) (SA.i (SI.v 8) SA.nil)))))
            (SI.c (Int.ofNat 1)),
          Eqn.I
            (SI.len
              (SL.app 110
                (SA.l (SL.v 0) (SA.i (SI.v 6) (SA.i (SI.v 7) (SA.i (SI.v 8) (SA.i (SI.c (Int.ofNat 1)) SA.nil)))))))
            (SI.len (SL.v 0)),
          Eqn.L
            (SL.app 110
              (SA.l (SL.v 0) (SA.i (SI.v 6) (SA.i (SI.v 7) (SA.i (SI.v 8) (SA.i (SI.c (Int.ofNat 1)) SA.nil))))))
            (SL.v 0)] },
    {
      pc :=
        [SB.not (SB.le (SI.c (Int.ofNat 1)) (SI.v 8)), SB.le (SI.v 6) (SI.c (Int.ofNat 16)),
          SB.le (SI.c (Int.ofNat 1)) (SI.v 6), SB.v 0, SB.le (SI.c (Int.ofNat 1)) (SI.len (SL.v 0)),
          SB.le (SI.len (SL.v 0)) (SI.c (Int.ofNat 64)), SB.c true,
          SB.and (SB.c true) (SB.or (SB.v 0) (SB.not (SB.v 0)))],
      eqs :=
        [Eqn.T
            (SB.eq
              (SI.len
                (SL.app 110
                  (SA.l (SL.v 0) (SA.i (SI.v 6) (SA.i (SI.v 7) (SA.i (SI.v 8) (SA.i (SI.c (Int.ofNat 1)) SA.nil)))))))
              (SI.len (SL.v 0))),
          Eqn.I (SI.app 111 (SA.l (SL.v 0) (SA.i (SI.v 6) (SA.i (SI.v 7) (SA.i (SI.v 8) SA.nil)))))
            (SI.c (Int.ofNat 0)),
          Eqn.I (SI.app 110 (SA.l (SL.v 0) (SA.i (SI.v 6) (SA.i (SI.v 7) (SA.i (SI.v 8) SA.nil)))))
            (SI.c (Int.ofNat 1)),
          Eqn.I
            (SI.len
              (SL.app 110
                (SA.l (SL.v 0) (SA.i (SI.v 6) (SA.i (SI.v 7) (SA.i (SI.v 8) (SA.i (SI.c (Int.ofNat 1)) SA.nil)))))))
            (SI.len (SL.v 0)),
          Eqn.L
            (SL.app 110
              (SA.l (SL.v 0) (SA.i (SI.v 6) (SA.i (SI.v 7) (SA.i (SI.v 8) (SA.i (SI.c (Int.ofNat 1)) SA.nil))))))
            (SL.v 0)] },
    {
      pc :=
        [SB.not (SB.le (SI.v 6) (SI.c (Int.ofNat 16))), SB.le (SI.c (Int.ofNat 1)) (SI.v 6), SB.v 0,
          SB.le (SI.c (Int.ofNat 1)) (SI.len (SL.v 0)), SB.le (SI.len (SL.v 0)) (SI.c (Int.ofNat 64)), SB.c true,
          SB.and (SB.c true) (SB.or (SB.v 0) (SB.not (SB.v 0)))],
      eqs :=
        [Eqn.T
            (SB.eq
              (SI.len
                (SL.app 110
                  (SA.l (SL.v 0) (SA.i (SI.v 6) (SA.i (SI.v 7) (SA.i (SI.v 8) (SA.i (SI.c (Int.ofNat 1)) SA.nil)))))))
              (SI.len (SL.v 0))),
          Eqn.I (SI.app 111 (SA.l (SL.v 0) (SA.i (SI.v 6) (SA.i (SI.v 7) (SA.i (SI.v 8) SA.nil)))))
            (SI.c (Int.ofNat 0)),
          Eqn.I (SI.app 110 (SA.l (SL.v 0) (SA.i (SI.v 6) (SA.i (SI.v 7) (SA.i (SI.v 8) SA.nil)))))
            (SI.c (Int.ofNat 1)),
          Eqn.I
            (SI.len
              (SL.app 110
                (SA.l (SL.v 0) (SA.i (SI.v 6) (SA.i (SI.v 7) (SA.i (SI.v 8) (SA.i (SI.c (Int.ofNat 1)) SA.nil)))))))
            (SI.len (SL.v 0)),
          Eqn.L
            (SL.app 110
              (SA.l (SL.v 0) (SA.i (SI.v 6) (SA.i (SI.v 7) (SA.i (SI.v 8) (SA.i (SI.c (Int.ofNat 1)) SA.nil))))))
            (SL.v 0)] },
    {
      pc :=
        [SB.not (SB.le (SI.c (Int.ofNat 1)) (SI.v 6)), SB.v 0, SB.le (SI.c (Int.ofNat 1)) (SI.len (SL.v 0)),
          SB.le (SI.len (SL.v 0)) (SI.c (Int.ofNat 64)), SB.c true,
          SB.and (SB.c true) (SB.or (SB.v 0) (SB.not (SB.v 0)))],
      eqs :=
        [Eqn.T
            (SB.eq
              (SI.len
                (SL.app 110
                  (SA.l (SL.v 0) (SA.i (SI.v 6) (SA.i (SI.v 7) (SA.i (SI.v 8) (SA.i (SI.c (Int.ofNat 1)) SA.nil)))))))
              (SI.len (SL.v 0))),
          Eqn.I (SI.app 111 (SA.l (SL.v 0) (SA.i (SI.v 6) (SA.i (SI.v 7) (SA.i (SI.v 8) SA.nil)))))
            (SI.c (Int.ofNat 0)),
          Eqn.I (SI.app 110 (SA.l (SL.v 0) (SA.i (SI.v 6) (SA.i (SI.v 7) (SA.i (SI.v 8) SA.nil)))))
            (SI.c (Int.ofNat 1)),
          Eqn.I
            (SI.len
              (SL.app 110
                (SA.l (SL.v 0) (SA.i (SI.v 6) (SA.i (SI.v 7) (SA.i (SI.v 8) (SA.i (SI.c (Int.ofNat 1)) SA.nil)))))))
            (SI.len (SL.v 0)),
          Eqn.L
            (SL.app 110
              (SA.l (SL.v 0) (SA.i (SI.v 6) (SA.i (SI.v 7) (SA.i (SI.v 8) (SA.i (SI.c (Int.ofNat 1)) SA.nil))))))
            (SL.v 0)] },
    {
      pc :=
        [SB.eq (SI.v 6) (SI.v 8), SB.le (SI.v 8) (SI.c (Int.ofNat 16)), SB.le (SI.c (Int.ofNat 1)) (SI.v 8),
          SB.le (SI.v 6) (SI.c (Int.ofNat 16)), SB.le (SI.c (Int.ofNat 1)) (SI.v 6), SB.not (SB.v 0),
          SB.le (SI.c (Int.ofNat 1)) (SI.len (SL.v 0)), SB.le (SI.len (SL.v 0)) (SI.c (Int.ofNat 64)), SB.c true,
          SB.and (SB.c true) (SB.or (SB.v 0) (SB.not (SB.v 0)))],
      eqs :=
        [Eqn.T
            (SB.eq
              (SI.len
                (SL.app 110
                  (SA.l (SL.v 0) (SA.i (SI.v 6) (SA.i (SI.v 7) (SA.i (SI.v 8) (SA.i (SI.c (Int.ofNat 0)) SA.nil)))))))
              (SI.len (SL.v 0))),
          Eqn.I (SI.app 111 (SA.l (SL.v 0) (SA.i (SI.v 6) (SA.i (SI.v 7) (SA.i (SI.v 8) SA.nil)))))
            (SI.c (Int.ofNat 0)),
          Eqn.I (SI.app 110 (SA.l (SL.v 0) (SA.i (SI.v 6) (SA.i (SI.v 7) (SA.i (SI.v 8) SA.nil)))))
            (SI.c (Int.ofNat 1)),
          Eqn.I
            (SI.len
              (SL.app 110
                (SA.l (SL.v 0) (SA.i (SI.v 6) (SA.i (SI.v 7) (SA.i (SI.v 8) (SA.i (SI.c (Int.ofNat 0)) SA.nil)))))))
            (SI.len (SL.v 0)),
          Eqn.L
            (SL.app 110
              (SA.l (SL.v 0) (SA.i (SI.v 6) (SA.i (SI.v 7) (SA.i (SI.v 8) (SA.i (SI.c (Int.ofNat 0)) SA.nil))))))
            (SL.v 0)] },
    {
      pc :=
        [SB.lt (SI.v 7) (SI.c (Int.ofNat 0)), SB.not (SB.eq (SI.v 6) (SI.v 8)), SB.le (SI.v 8) (SI.c (Int.ofNat 16)),
          SB.le (SI.c (Int.ofNat 1)) (SI.v 8), SB.le (SI.v 6) (SI.c (Int.ofNat 16)),
          SB.le (SI.c (Int.ofNat 1)) (SI.v 6), SB.not (SB.v 0), SB.le (SI.c (Int.ofNat 1)) (SI.len (SL.v 0)),
          SB.le (SI.len (SL.v 0)) (SI.c (Int.ofNat 64)), SB.c true,
          SB.and (SB.c true) (SB.or (SB.v 0) (SB.not (SB.v 0)))],
      eqs :=
        [Eqn.T
            (SB.eq
              (SI.len
                (SL.app 110
                  (SA.l (SL.v 0) (SA.i (SI.v 6) (SA.i (SI.v 7) (SA.i (SI.v 8) (SA.i (SI.c (Int.ofNat 0)) SA.nil)))))))
              (SI.len (SL.v 0))),
          Eqn.I (SI.app 111 (SA.l (SL.v 0) (SA.i (SI.v 6) (SA.i (SI.v 7) (SA.i (SI.v 8) SA.nil)))))
            (SI.c (Int.ofNat 0)),
          Eqn.I (SI.app 110 (SA.l (SL.v 0) (SA.i (SI.v 6) (SA.i (SI.v 7) (SA.i (SI.v 8) SA.nil)))))
            (SI.c (Int.ofNat 1)),
          Eqn.I
            (SI.len
              (SL.app 110
                (SA.l (SL.v 0) (SA.i (SI.v 6) (SA.i (SI.v 7) (SA.i (SI.v 8) (SA.i (SI.c (Int.ofNat 0)) SA.nil)))))))
            (SI.len (SL.v 0)),
          Eqn.L
            (SL.app 110
              (SA.l (SL.v 0) (SA.i (SI.v 6) (SA.i (SI.v 7) (SA.i (SI.v 8) (SA.i (SI.c (Int.ofNat 0)) SA.nil))))))
            (SL.v 0)] },
    {
      pc :=
        [SB.le (SI.c (Int.ofNat 65536)) (SI.v 7), SB.not (SB.lt (SI.v 7) (SI.c (Int.ofNat 0))),
          SB.not (SB.eq (SI.v 6) (SI.v 8)), SB.le (SI.v 8) (SI.c (Int.ofNat 16)), SB.le (SI.c (Int.ofNat 1)) (SI.v 8),
          SB.le (SI.v 6) (SI.c (Int.ofNat 16)), SB.le (SI.c (Int.ofNat 1)) (SI.v 6), SB.not (SB.v 0),
          SB.le (SI.c (Int.ofNat 1)) (SI.len (SL.v 0)), SB.le (SI.len (SL.v 0)) (SI.c (Int.ofNat 64)), SB.c true,
          SB.and (SB.c true) (SB.or (SB.v 0) (SB.not (SB.v 0)))],
      eqs :=
        [Eqn.T
            (SB.eq
              (SI.len
                (SL.app 110
                  (SA.l (SL.v 0) (SA.i (SI.v 6) (SA.i (SI.v 7) (SA.i (SI.v 8) (SA.i (SI.c (Int.ofNat 0)) SA.nil)))))))
              (SI.len (SL.v 0))),
          Eqn.I (SI.app 111 (SA.l (SL.v 0) (SA.i (SI.v 6) (SA.i (SI.v 7) (SA.i (SI.v 8) SA.nil)))))
            (SI.c (Int.ofNat 0)),
          Eqn.I (SI.app 110 (SA.l (SL.v 0) (SA.i (SI.v 6) (SA.i (SI.v 7) (SA.i (SI.v 8) SA.nil)))))
            (SI.c (Int.ofNat 1)),
          Eqn.I
            (SI.len
              (SL.app 110
                (SA.l (SL.v 0) (SA.i (SI.v 6) (SA.i (SI.v 7) (SA.i (SI.v 8) (SA.i (SI.c (Int.ofNat 0)) SA.nil)))))))
            (SI.len (SL.v 0)),
          Eqn.L
            (SL.app 110
              (SA.l (SL.v 0) (SA.i (SI.v 6) (SA.i (SI.v 7) (SA.i (SI.v 8) (SA.i (SI.c (Int.ofNat 0)) SA.nil))))))
            (SL.v 0)] },
    {
      pc :=
        [SB.lt (SI.c (Int.ofNat 0))
            (SI.len
              (SL.app 103
                (SA.l (SL.v 0) (SA.i (SI.c (Int.ofNat 0)) (SA.i (SI.v 6) (SA.i (SI.v 7) (SA.i (SI.v 8) SA.nil))))))),
          SB.le
            (SI.len
              (SL.app 103
                (SA.l (SL.v 0) (SA.i (SI.c (Int.ofNat 0)) (SA.i (SI.v 6) (SA.i (SI.v 7) (SA.i (SI.v 8) SA.nil)))))))
            (SI.len (SL.v 0)),
          SB.not (SB.le (SI.c (Int.ofNat 65536)) (SI.v 7)), SB.not (SB.lt (SI.v 7) (SI.c (Int.ofNat 0))),
          SB.not (SB.eq (SI.v 6) (SI.v 8)), SB.le (SI.v 8) (SI.c (Int.ofNat 16)), SB.le (SI.c (Int.ofNat 1)) (SI.v 8),
          SB.le (SI.v 6) (SI.c (Int.ofNat 16)), SB.le (SI.c (Int.ofNat 1)) (SI.v 6), SB.not (SB.v 0),
          SB.le (SI.c (Int.ofNat 1)) (SI.len (SL.v 0)), SB.le (SI.len (SL.v 0)) (SI.c (Int.ofNat 64)), SB.c true,
          SB.and (SB.c true) (SB.or (SB.v 0) (SB.not (SB.v 0)))],
      eqs :=
        [Eqn.T
            (SB.eq
              (SI.len
                (SL.app 110
                  (SA.l (SL.v 0) (SA.i (SI.v 6) (SA.i (SI.v 7) (SA.i (SI.v 8) (SA.i (SI.c (Int.ofNat 0)) SA.nil)))))))
              (SI.len (SL.v 0))),
          Eqn.I (SI.app 111 (SA.l (SL.v 0) (SA.i (SI.v 6) (SA.i (SI.v 7) (SA.i (SI.v 8) SA.nil)))))
            (SI.c (Int.ofNat 0)),
          Eqn.I (SI.app 110 (SA.l (SL.v 0) (SA.i (SI.v 6) (SA.i (SI.v 7) (SA.i (SI.v 8) SA.nil)))))
            (SI.c (Int.ofNat 5)),
          Eqn.I
            (SI.len
              (SL.app 110
                (SA.l (SL.v 0) (SA.i (SI.v 6) (SA.i (SI.v 7) (SA.i (SI.v 8) (SA.i (SI.c (Int.ofNat 0)) SA.nil)))))))
            (SI.len (SL.v 0)),
          Eqn.L
            (SL.app 110
              (SA.l (SL.v 0) (SA.i (SI.v 6) (SA.i (SI.v 7) (SA.i (SI.v 8) (SA.i (SI.c (Int.ofNat 0)) SA.nil))))))
            (SL.v 0)] },
    {
      pc :=
        [SB.eq (SI.len (SL.app 100 (SA.l (SL.v 0) (SA.i (SI.c (Int.ofNat 0)) SA.nil)))) (SI.c (Int.ofNat 0)),
          SB.le (SI.len (SL.app 100 (SA.l (SL.v 0) (SA.i (SI.c (Int.ofNat 0)) SA.nil)))) (SI.len (SL.v 0)),
          SB.not
            (SB.lt (SI.c (Int.ofNat 0))
              (SI.len
                (SL.app 103
                  (SA.l (SL.v 0) (SA.i (SI.c (Int.ofNat 0)) (SA.i (SI.v 6) (SA.i (SI.v 7) (SA.i (SI.v 8) SA.nil)))))))),
          SB.le
            (SI.len
              (SL.app 103
                (SA.l (SL.v 0) (SA.i (SI.c (Int.ofNat 0)) (SA.i (SI.v 6) (SA.i (SI.v 7) (SA.i (SI.v 8) SA.nil)))))))
            (SI.len (SL.v 0)),
          SB.not (SB.le (SI.c (Int.ofNat 65536)) (SI.v 7)), SB.not (SB.lt (SI.v 7) (SI.c (Int.ofNat 0))),
          SB.not (SB.eq (SI.v 6) (SI.v 8)), SB.le (SI.v 8) (SI.c (Int.ofNat 16)), SB.le (SI.c (Int.ofNat 1)) (SI.v 8),
          SB.le (SI.v 6) (SI.c (Int.ofNat 16)), SB.le (SI.c (Int.ofNat 1)) (SI.v 6), SB.not (SB.v 0),
          SB.le (SI.c (Int.ofNat 1)) (SI.len (SL.v 0)), SB.le (SI.len (SL.v 0)) (SI.c (Int.ofNat 64)), SB.c true,
          SB.and (SB.c true) (SB.or (SB.v 0) (SB.not (SB.v 0)))],
      eqs :=
        [Eqn.T
            (SB.eq
              (SI.len
                (SL.app 110
                  (SA.l (SL.v 0) (SA.i (SI.v 6) (SA.i (SI.v 7) (SA.i (SI.v 8) (SA.i (SI.c (Int.ofNat 0)) SA.nil)))))))
              (SI.len (SL.v 0))),
          Eqn.I (SI.app 111 (SA.l (SL.v 0) (SA.i (SI.v 6) (SA.i (SI.v 7) (SA.i (SI.v 8) SA.nil)))))
            (SI.c (Int.ofNat 0)),
          Eqn.I (SI.app 110 (SA.l (SL.v 0) (SA.i (SI.v 6) (SA.i (SI.v 7) (SA.i (SI.v 8) SA.nil)))))
            (SI.c (Int.ofNat 3)),
          Eqn.I
            (SI.len
              (SL.app 110
                (SA.l (SL.v 0) (SA.i (SI.v 6) (SA.i (SI.v 7) (SA.i (SI.v 8) (SA.i (SI.c (Int.ofNat 0)) SA.nil)))))))
            (SI.len (SL.v 0)),
          Eqn.L
            (SL.app 110
              (SA.l (SL.v 0) (SA.i (SI.v 6) (SA.i (SI.v 7) (SA.i (SI.v 8) (SA.i (SI.c (Int.ofNat 0)) SA.nil))))))
            (SL.v 0)] },
    {
      pc :=
        [SB.lt (SI.sel (SL.app 100 (SA.l (SL.v 0) (SA.i (SI.c (Int.ofNat 0)) SA.nil))) (SI.c (Int.ofNat 0)) 0)
            (SI.len (SL.v 0)),
          SB.le (SI.c (Int.ofNat 0))
            (SI.sel (SL.app 100 (SA.l (SL.v 0) (SA.i (SI.c (Int.ofNat 0)) SA.nil))) (SI.c (Int.ofNat 0)) 0),
          SB.not (SB.eq (SI.len (SL.app 100 (SA.l (SL.v 0) (SA.i (SI.c (Int.ofNat 0)) SA.nil)))) (SI.c (Int.ofNat 0))),
          SB.le (SI.len (SL.app 100 (SA.l (SL.v 0) (SA.i (SI.c (Int.ofNat 0)) SA.nil)))) (SI.len (SL.v 0)),
          SB.not
            (SB.lt (SI.c (Int.ofNat 0))
              (SI.len
                (SL.app 103
                  (SA.l (SL.v 0) (SA.i (SI.c (Int.ofNat 0)) (SA.i (SI.v 6) (SA.i (SI.v 7) (SA.i (SI.v 8) SA.nil)))))))),
          SB.le
            (SI.len
              (SL.app 103
                (SA.l (SL.v 0) (SA.i (SI.c (Int.ofNat 0)) (SA.i (SI.v 6) (SA.i (SI.v 7) (SA.i (SI.v 8) SA.nil)))))))
            (SI.len (SL.v 0)),
          SB.not (SB.le (SI.c (Int.ofNat 65536)) (SI.v 7)), SB.not (SB.lt (SI.v 7) (SI.c (Int.ofNat 0))),
          SB.not (SB.eq (SI.v 6) (SI.v 8)), SB.le (SI.v 8) (SI.c (Int.ofNat 16)), SB.le (SI.c (Int.ofNat 1)) (SI.v 8),
          SB.le (SI.v 6) (SI.c (Int.ofNat 16)), SB.le (SI.c (Int.ofNat 1)) (SI.v 6), SB.not (SB.v 0),
          SB.le (SI.c (Int.ofNat 1)) (SI.len (SL.v 0)), SB.le (SI.len (SL.v 0)) (SI.c (Int.ofNat 64)), SB.c true,
          SB.and (SB.c true) (SB.or (SB.v 0) (SB.not (SB.v 0)))],
      eqs :=
        [Eqn.T
            (SB.eq
              (SI.len
                (SL.app 110
                  (SA.l (SL.v 0) (SA.i (SI.v 6) (SA.i (SI.v 7) (SA.i (SI.v 8) (SA.i (SI.c (Int.ofNat 0)) SA.nil)))))))
              (SI.len (SL.v 0))),
          Eqn.I (SI.app 111 (SA.l (SL.v 0) (SA.i (SI.v 6) (SA.i (SI.v 7) (SA.i (SI.v 8) SA.nil)))))
            (SI.sel (SL.app 100 (SA.l (SL.v 0) (SA.i (SI.c (Int.ofNat 0)) SA.nil))) (SI.c (Int.ofNat 0)) 0),
          Eqn.I (SI.app 110 (SA.l (SL.v 0) (SA.i (SI.v 6) (SA.i (SI.v 7) (SA.i (SI.v 8) SA.nil)))))
            (SI.c (Int.ofNat 0)),
          Eqn.I
            (SI.len
              (SL.app 110
                (SA.l (SL.v 0) (SA.i (SI.v 6) (SA.i (SI.v 7) (SA.i (SI.v 8) (SA.i (SI.c (Int.ofNat 0)) SA.nil)))))))
            (SI.len (SL.v 0)),
          Eqn.L
            (SL.app 110
              (SA.l (SL.v 0) (SA.i (SI.v 6) (SA.i (SI.v 7) (SA.i (SI.v 8) (SA.i (SI.c (Int.ofNat 0)) SA.nil))))))
            (SL.app 4
              (SA.l
                (SL.app 4
                  (SA.l
                    (SL.app 4
                      (SA.l
                        (SL.app 4
                          (SA.l
                            (SL.app 4
                              (SA.l (SL.v 0)
                                (SA.i
                                  (SI.sel (SL.app 100 (SA.l (SL.v 0) (SA.i (SI.c (Int.ofNat 0)) SA.nil)))
                                    (SI.c (Int.ofNat 0)) 0)
                                  (SA.i (SI.c (Int.ofNat 0)) (SA.i (SI.v 6) SA.nil)))))
                            (SA.i
                              (SI.sel (SL.app 100 (SA.l (SL.v 0) (SA.i (SI.c (Int.ofNat 0)) SA.nil)))
                                (SI.c (Int.ofNat 0)) 0)
                              (SA.i (SI.c (Int.ofNat 1)) (SA.i (SI.v 7) SA.nil)))))
                        (SA.i
                          (SI.sel (SL.app 100 (SA.l (SL.v 0) (SA.i (SI.c (Int.ofNat 0)) SA.nil))) (SI.c (Int.ofNat 0))
                            0)
                          (SA.i (SI.c (Int.ofNat 2)) (SA.i (SI.v 8) SA.nil)))))
                    (SA.i
                      (SI.sel (SL.app 100 (SA.l (SL.v 0) (SA.i (SI.c (Int.ofNat 0)) SA.nil))) (SI.c (Int.ofNat 0)) 0)
                      (SA.i (SI.c (Int.ofNat 3)) (SA.i (SI.c (Int.ofNat 0)) SA.nil)))))
                (SA.i (SI.sel (SL.app 100 (SA.l (SL.v 0) (SA.i (SI.c (Int.ofNat 0)) SA.nil))) (SI.c (Int.ofNat 0)) 0)
                  (SA.i (SI.c (Int.ofNat 4)) (SA.i (SI.c (Int.ofNat 0)) SA.nil)))))] },
    {
      pc :=
        [SB.not
            (SB.lt (SI.sel (SL.app 100 (SA.l (SL.v 0) (SA.i (SI.c (Int.ofNat 0)) SA.nil))) (SI.c (Int.ofNat 0)) 0)
              (SI.len (SL.v 0))),
          SB.le (SI.c (Int.ofNat 0))
            (SI.sel (SL.app 100 (SA.l (SL.v 0) (SA.i (SI.c (Int.ofNat 0)) SA.nil))) (SI.c (Int.ofNat 0)) 0),
          SB.not (SB.eq (SI.len (SL.app 100 (SA.l (SL.v 0) (SA.i (SI.c (Int.ofNat 0)) SA.nil)))) (SI.c (Int.ofNat 0))),
          SB.le (SI.len (SL.app 100 (SA.l (SL.v 0) (SA.i (SI.c (Int.ofNat 0)) SA.nil)))) (SI.len (SL.v 0)),
          SB.not
            (SB.lt (SI.c (Int.ofNat 0))
              (SI.len
                (SL.app 103
                  (SA.l (SL.v 0) (SA.i (SI.c (Int.ofNat 0)) (SA.i (SI.v 6) (SA.i (SI.v 7) (SA.i (SI.v 8) SA.nil)))))))),
          SB.le
            (SI.len
              (SL.app 103
                (SA.l (SL.v 0) (SA.i (SI.c (Int.ofNat 0)) (SA.i (SI.v 6) (SA.i (SI.v 7) (SA.i (SI.v 8) SA.nil)))))))
            (SI.len (SL.v 0)),
          SB.not (SB.le (SI.c (Int.ofNat 65536)) (SI.v 7)), SB.not (SB.lt (SI.v 7) (SI.c (Int.ofNat 0))),
          SB.not (SB.eq (SI.v 6) (SI.v 8)), SB.le (SI.v 8) (SI.c (Int.ofNat 16)), SB.le (SI.c (Int.ofNat 1)) (SI.v 8),
          SB.le (SI.v 6) (SI.c (Int.ofNat 16)), SB.le (SI.c (Int.ofNat 1)) (SI.v 6), SB.not (SB.v 0),
          SB.le (SI.c (Int.ofNat 1)) (SI.len (SL.v 0)), SB.le (SI.len (SL.v 0)) (SI.c (Int.ofNat 64)), SB.c true,
          SB.and (SB.c true) (SB.or (SB.v 0) (SB.not (SB.v 0)))],
      eqs := [Eqn.T (SB.c false)] },
    {
      pc :=
        [SB.not
            (SB.le (SI.c (Int.ofNat 0))
              (SI.sel (SL.app 100 (SA.l (SL.v 0) (SA.i (SI.c (Int.ofNat 0)) SA.nil))) (SI.c (Int.ofNat 0)) 0)),
          SB.not (SB.eq (SI.len (SL.app 100 (SA.l (SL.v 0) (SA.i (SI.c (Int.ofNat 0)) SA.nil)))) (SI.c (Int.ofNat 0))),
          SB.le (SI.len (SL.app 100 (SA.l (SL.v 0) (SA.i (SI.c (Int.ofNat 0)) SA.nil)))) (SI.len (SL.v 0)),
          SB.not
            (SB.lt (SI.c (Int.ofNat 0))
              (SI.len
                (SL.app 103
                  (SA.l (SL.v 0) (SA.i (SI.c (Int.ofNat 0)) (SA.i (SI.v 6) (SA.i (SI.v 7) (SA.i (SI.v 8) SA.nil)))))))),
          SB.le
            (SI.len
              (SL.app 103
                (SA.l (SL.v 0) (SA.i (SI.c (Int.ofNat 0)) (SA.i (SI.v 6) (SA.i (SI.v 7) (SA.i (SI.v 8) SA.nil)))))))
            (SI.len (SL.v 0)),
          SB.not (SB.le (SI.c (Int.ofNat 65536)) (SI.v 7)), SB.not (SB.lt (SI.v 7) (SI.c (Int.ofNat 0))),
          SB.not (SB.eq (SI.v 6) (SI.v 8)), SB.le (SI.v 8) (SI.c (Int.ofNat 16)), SB.le (SI.c (Int.ofNat 1)) (SI.v 8),
          SB.le (SI.v 6) (SI.c (Int.ofNat 16)), SB.le (SI.c (Int.ofNat 1)) (SI.v 6), SB.not (SB.v 0),
          SB.le (SI.c (Int.ofNat 1)) (SI.len (SL.v 0)), SB.le (SI.len (SL.v 0)) (SI.c (Int.ofNat 64)), SB.c true,
          SB.and (SB.c true) (SB.or (SB.v 0) (SB.not (SB.v 0)))],
      eqs := [Eqn.T (SB.c false)] },
    {
      pc :=
        [SB.not (SB.le (SI.v 8) (SI.c (Int.ofNat 16))), SB.le (SI.c (Int.ofNat 1)) (SI.v 8),
          SB.le (SI.v 6) (SI.c (Int.ofNat 16)), SB.le (SI.c (Int.ofNat 1)) (SI.v 6), SB.not (SB.v 0),
          SB.le (SI.c (Int.ofNat 1)) (SI.len (SL.v 0)), SB.le (SI.len (SL.v 0)) (SI.c (Int.ofNat 64)), SB.c true,
          SB.and (SB.c true) (SB.or (SB.v 0) (SB.not (SB.v 0)))],
      eqs :=
        [Eqn.T
            (SB.eq
              (SI.len
                (SL.app 110
                  (SA.l (SL.v 0) (SA.i (SI.v 6) (SA.i (SI.v 7) (SA.i (SI.v 8) (SA.i (SI.c (Int.ofNat 0)) SA.nil)))))))
              (SI.len (SL.v 0))),
          Eqn.I (SI.app 111 (SA.l (SL.v 0) (SA.i (SI.v 6) (SA.i (SI.v 7) (SA.i (SI.v 8) SA.nil)))))
            (SI.c (Int.ofNat 0)),
          Eqn.I (SI.app 110 (SA.l (SL.v 0) (SA.i (SI.v 6) (SA.i (SI.v 7) (SA.i (SI.v 8) SA.nil)))))
            (SI.c (Int.ofNat 1)),
          Eqn.I
            (SI.len
              (SL.app 110
                (SA.l (SL.v 0) (SA.i (SI.v 6) (SA.i (SI.v 7) (SA.i (SI.v 8) (SA.i (SI.c (Int.ofNat 0)) SA.nil)))))))
            (SI.len (SL.v 0)),
          Eqn.L
            (SL.app 110
              (SA.l (SL.v 0) (SA.i (SI.v 6) (SA.i (SI.v 7) (SA.i (SI.v 8) (SA.i (SI.c (Int.ofNat 0)) SA.nil))))))
            (SL.v 0)] },
    {
      pc :=
        [SB.not (SB.le (SI.c (Int.ofNat 1)) (SI.v 8)), SB.le (SI.v 6) (SI.c (Int.ofNat 16)),
          SB.le (SI.c (Int.ofNat 1)) (SI.v 6), SB.not (SB.v 0), SB.le (SI.c (Int.ofNat 1)) (SI.len (SL.v 0)),
          SB.le (SI.len (SL.v 0)) (SI.c (Int.ofNat 64)), SB.c true,
          SB.and (SB.c true) (SB.or (SB.v 0) (SB.not (SB.v 0)))],
      eqs :=
        [Eqn.T
            (SB.eq
              (SI.len
                (SL.app 110
                  (SA.l (SL.v 0) (SA.i (SI.v 6) (SA.i (SI.v 7) (SA.i (SI.v 8) (SA.i (SI.c (Int.ofNat 0)) SA.nil)))))))
              (SI.len (SL.v 0))),
          Eqn.I (SI.app 111 (SA.l (SL.v 0) (SA.i (SI.v 6) (SA.i (SI.v 7) (SA.i (SI.v 8) SA.nil)))))
            (SI.c (Int.ofNat 0)),
          Eqn.I (SI.app 110 (SA.l (SL.v 0) (SA.i (SI.v 6) (SA.i (SI.v 7) (SA.i (SI.v 8) SA.nil)))))
            (SI.c (Int.ofNat 1)),
          Eqn.I
            (SI.len
              (SL.app 110
                (SA.l (SL.v 0) (SA.i (SI.v 6) (SA.i (SI.v 7) (SA.i (SI.v 8) (SA.i (SI.c (Int.ofNat 0)) SA.nil)))))))
            (SI.len (SL.v 0)),
          Eqn.L
            (SL.app 110
              (SA.l (SL.v 0) (SA.i (SI.v 6) (SA.i (SI.v 7) (SA.i (SI.v 8) (SA.i (SI.c (Int.ofNat 0)) SA.nil))))))
            (SL.v 0)] },
    {
      pc :=
        [SB.not (SB.le (SI.v 6) (SI.c (Int.ofNat 16))), SB.le (SI.c (Int.ofNat 1)) (SI.v 6), SB.not (SB.v 0),
          SB.le (SI.c (Int.ofNat 1)) (SI.len (SL.v 0)), SB.le (SI.len (SL.v 0)) (SI.c (Int.ofNat 64)), SB.c true,
          SB.and (SB.c true) (SB.or (SB.v 0) (SB.not (SB.v 0)))],
      eqs :=
        [Eqn.T
            (SB.eq
              (SI.len
                (SL.app 110
                  (SA.l (SL.v 0) (SA.i (SI.v 6) (SA.i (SI.v 7) (SA.i (SI.v 8) (SA.i (SI.c (Int.ofNat 0)) SA.nil)))))))
              (SI.len (SL.v 0))),
          Eqn.I (SI.app 111 (SA.l (SL.v 0) (SA.i (SI.v 6) (SA.i (SI.v 7) (SA.i (SI.v 8) SA.nil)))))
            (SI.c (Int.ofNat 0)),
          Eqn.I (SI.app 110 (SA.l (SL.v 0) (SA.i (SI.v 6) (SA.i (SI.v 7) (SA.i (SI.v 8) SA.nil)))))
            (SI.c (Int.ofNat 1)),
          Eqn.I
            (SI.len
              (SL.app 110
                (SA.l (SL.v 0) (SA.i (SI.v 6) (SA.i (SI.v 7) (SA.i (SI.v 8) (SA.i (SI.c (Int.ofNat 0)) SA.nil)))))))
            (SI.len (SL.v 0)),
          Eqn.L
            (SL.app 110
              (SA.l (SL.v 0) (SA.i (SI.v 6) (SA.i (SI.v 7) (SA.i (SI.v 8) (SA.i (SI.c (Int.ofNat 0)) SA.nil))))))
            (SL.v 0)] },
    {
      pc :=
        [SB.not (SB.le (SI.c (Int.ofNat 1)) (SI.v 6)), SB.not (SB.v 0), SB.le (SI.c (Int.ofNat 1)) (SI.len (SL.v 0)),
          SB.le (SI.len (SL.v 0)) (SI.c (Int.ofNat 64)), SB.c true,
          SB.and (SB.c true) (SB.or (SB.v 0) (SB.not (SB.v 0)))],
      eqs :=
        [Eqn.T
            (SB.eq
              (SI.len
                (SL.app 110
                  (SA.l (SL.v 0) (SA.i (SI.v 6) (SA.i (SI.v 7) (SA.i (SI.v 8) (SA.i (SI.c (Int.ofNat 0)) SA.nil)))))))
              (SI.len (SL.v 0))),
          Eqn.I (SI.app 111 (SA.l (SL.v 0) (SA.i (SI.v 6) (SA.i (SI.v 7) (SA.i (SI.v 8) SA.nil)))))
            (SI.c (Int.ofNat 0)),
          Eqn.I (SI.app 110 (SA.l (SL.v 0) (SA.i (SI.v 6) (SA.i (SI.v 7) (SA.i (SI.v 8) SA.nil)))))
            (SI.c (Int.ofNat 1)),
          Eqn.I
            (SI.len
              (SL.app 110
                (SA.l (SL.v 0) (SA.i (SI.v 6) (SA.i (SI.v 7) (SA.i (SI.v 8) (SA.i (SI.c (Int.ofNat 0)) SA.nil)))))))
            (SI.len (SL.v 0)),
          Eqn.L
            (SL.app 110
              (SA.l (SL.v 0) (SA.i (SI.v 6) (SA.i (SI.v 7) (SA.i (SI.v 8) (SA.i (SI.c (Int.ofNat 0)) SA.nil))))))
            (SL.v 0)] }] := by kernel_rfl
theorem cOffer_ok : cOffer.ok Φ Try.prog := by
  refine call_rule (fun ρ => t2_ok ρ) cOffer_obs ?_
  simp only [and_imp, List.forall_mem_cons, List.not_mem_nil, false_implies, implies_true, and_true, Ob.ok, holds, Eqn.ok, evB_eq, evB_lt, evB_le, evB_not, evB_and, evB_or, evB_eqL, evB_app, evB_v, evB_c, ev_sel, ev_len, ev_v, ev_c, ev_add, ev_sub, ev_mul, ev_quo, ev_rem, ev_bits, ev_wrap, evL_v, evL_lit, evL_app, ev_app, evA_l, evA_i, evA_nil, std_min, std_max, std_cat, std_take, std_drop, std_row, std_set, std_rep, std_find, std_put, std_del, std_flag, std_unflag, std_clr, std_left, std_copy, ints_cons, ints_nil, ofNat_lit, negSucc_lit, decide_eq_true_eq, Bool.and_eq_true, Bool.or_eq_true, Bool.not_eq_true', Bool.and_eq_false_iff, Bool.or_eq_false_iff, decide_eq_false_iff_not, aI110, aI111, aI112, aI113, aI114, aL100, aL101, aL102, aL103, aL110, aL112, aL113, aL114, aL115, aL116, aB130, aB131, aB132, aB199]
  repeat' apply And.intro
  all_goals intro ρ hR
  all_goals intros
  all_goals first
    | (try simp only [show ∀ T : Tab, List.drop (Int.toNat 0) T = T from fun _ => rfl] at *
       have hh := idx_head (p := freeB) (T := ρ.l 0) (by omega)
       try simp only [show Int.toNat 0 = 0 from rfl] at *
       exfalso
       omega)
    | (try simp only [show ∀ T : Tab, List.drop (Int.toNat 0) T = T from fun _ => rfl] at *
       have ol1 := offT_len (ρ.l 0) (ρ.i 6) (ρ.i 7) (ρ.i 8) 1
       have ol0 := offT_len (ρ.l 0) (ρ.i 6) (ρ.i 7) (ρ.i 8) 0
       have e := off_arg (T := ρ.l 0) (o := ρ.i 6) (p := ρ.i 7) (t := ρ.i 8) (by unfold argB; omega)
       have n := off_no e (by decide)
       exact ⟨by omega, n.1, e, by omega, n.2 _⟩)
    | (try simp only [show ∀ T : Tab, List.drop (Int.toNat 0) T = T from fun _ => rfl] at *
       have ol1 := offT_len (ρ.l 0) (ρ.i 6) (ρ.i 7) (ρ.i 8) 1
       have ol0 := offT_len (ρ.l 0) (ρ.i 6) (ρ.i 7) (ρ.i 8) 0
       have e := off_twice (T := ρ.l 0) (o := ρ.i 6) (p := ρ.i 7) (t := ρ.i 8) (by unfold argB; omega) (by omega)
       have n := off_no e (by decide)
       exact ⟨by omega, n.1, e, by omega, n.2 _⟩)
    | (try simp only [show ∀ T : Tab, List.drop (Int.toNat 0) T = T from fun _ => rfl] at *
       have ol1 := offT_len (ρ.l 0) (ρ.i 6) (ρ.i 7) (ρ.i 8) 1
       have ol0 := offT_len (ρ.l 0) (ρ.i 6) (ρ.i 7) (ρ.i 8) 0
       have e := off_full (T := ρ.l 0) (o := ρ.i 6) (p := ρ.i 7) (t := ρ.i 8) (by unfold argB; omega) (by omega) (by omega)
       have n := off_no e (by decide)
       exact ⟨by omega, n.1, e, by omega, n.2 _⟩)
    | (have hT : ∀ r ∈ ρ.l 0, okRow K5 r := hR.row 1 rfl rfl
       try simp only [show ∀ T : Tab, List.drop (Int.toNat 0) T = T from fun _ => rfl] at *
       have hh := idx_head (p := freeB) (T := ρ.l 0) (by omega)
       have ol1 := offT_len (ρ.l 0) (ρ.i 6) (ρ.i 7) (ρ.i 8) 1
       have ol0 := offT_len (ρ.l 0) (ρ.i 6) (ρ.i 7) (ρ.i 8) 0
       have e := off_ok (T := ρ.l 0) (o := ρ.i 6) (p := ρ.i 7) (t := ρ.i 8) (by unfold argB; omega) (by omega) (by omega)
       exact ⟨by omega, e.2.1, e.1, by omega, (e.2.2 _).trans (set5 hT _ _ _ _ _ _).symm⟩)
set_option maxRecDepth 100000 in
theorem cOf_obs : callObs Φ Try.prog t2 1000 cOf.f cOf.vs cOf.o cOf.pc cOf.outs = some
  [{
      pc :=
        [SB.lt (SI.v 0) (SI.c (Int.ofNat 0)), SB.le (SI.c (Int.ofNat 1)) (SI.len (SL.v 0)),
          SB.le (SI.len (SL.v 0)) (SI.c (Int.ofNat 64))],
      eqs := [Eqn.T (SB.app 130 (SA.l (SL.v 0) (SA.i (SI.v 0) SA.nil)))] },
    {
      pc :=
        [SB.le (SI.len (SL.v 0)) (SI.v 0), SB.not (SB.lt (SI.v 0) (SI.c (Int.ofNat 0))),
          SB.le (SI.c (Int.ofNat 1)) (SI.len (SL.v 0)), SB.le (SI.len (SL.v 0)) (SI.c (Int.ofNat 64))],
      eqs := [Eqn.T (SB.app 130 (SA.l (SL.v 0) (SA.i (SI.v 0) SA.nil)))] },
    {
      pc :=
        [SB.eq (SI.sel (SL.v 0) (SI.v 0) 4) (SI.c (Int.ofNat 0)),
          SB.eq (SI.sel (SL.v 0) (SI.v 0) 3) (SI.c (Int.ofNat 0)),
          SB.eq (SI.sel (SL.v 0) (SI.v 0) 2) (SI.c (Int.ofNat 0)),
          SB.eq (SI.sel (SL.v 0) (SI.v 0) 1) (SI.c (Int.ofNat 0)),
          SB.eq (SI.sel (SL.v 0) (SI.v 0) 0) (SI.c (Int.ofNat 0)), SB.not (SB.le (SI.len (SL.v 0)) (SI.v 0)),
          SB.not (SB.lt (SI.v 0) (SI.c (Int.ofNat 0))), SB.le (SI.c (Int.ofNat 1)) (SI.len (SL.v 0)),
          SB.le (SI.len (SL.v 0)) (SI.c (Int.ofNat 64))],
      eqs := [Eqn.T (SB.app 130 (SA.l (SL.v 0) (SA.i (SI.v 0) SA.nil)))] },
    {
      pc :=
        [SB.not (SB.eq (SI.sel (SL.v 0) (SI.v 0) 4) (SI.c (Int.ofNat 0))),
          SB.eq (SI.sel (SL.v 0) (SI.v 0) 3) (SI.c (Int.ofNat 0)),
          SB.eq (SI.sel (SL.v 0) (SI.v 0) 2) (SI.c (Int.ofNat 0)),
          SB.eq (SI.sel (SL.v 0) (SI.v 0) 1) (SI.c (Int.ofNat 0)),
          SB.eq (SI.sel (SL.v 0) (SI.v 0) 0) (SI.c (Int.ofNat 0)), SB.not (SB.le (SI.len (SL.v 0)) (SI.v 0)),
          SB.not (SB.lt (SI.v 0) (SI.c (Int.ofNat 0))), SB.le (SI.c (Int.ofNat 1)) (SI.len (SL.v 0)),
          SB.le (SI.len (SL.v 0)) (SI.c (Int.ofNat 64))],
      eqs := [Eqn.T (SB.not (SB.app 130 (SA.l (SL.v 0) (SA.i (SI.v 0) SA.nil))))] },
    {
      pc :=
        [SB.not (SB.eq (SI.sel (SL.v 0) (SI.v 0) 3) (SI.c (Int.ofNat 0))),
          SB.eq (SI.sel (SL.v 0) (SI.v 0) 2) (SI.c (Int.ofNat 0)),
          SB.eq (SI.sel (SL.v 0) (SI.v 0) 1) (SI.c (Int.ofNat 0)),
          SB.eq (SI.sel (SL.v 0) (SI.v 0) 0) (SI.c (Int.ofNat 0)), SB.not (SB.le (SI.len (SL.v 0)) (SI.v 0)),
          SB.not (SB.lt (SI.v 0) (SI.c (Int.ofNat 0))), SB.le (SI.c (Int.ofNat 1)) (SI.len (SL.v 0)),
          SB.le (SI.len (SL.v 0)) (SI.c (Int.ofNat 64))],
      eqs := [Eqn.T (SB.not (SB.app 130 (SA.l (SL.v 0) (SA.i (SI.v 0) SA.nil))))] },
    {
      pc :=
        [SB.not (SB.eq (SI.sel (SL.v 0) (SI.v 0) 2) (SI.c (Int.ofNat 0))),
          SB.eq (SI.sel (SL.v 0) (SI.v 0) 1) (SI.c (Int.ofNat 0)),
          SB.eq (SI.sel (SL.v 0) (SI.v 0) 0) (SI.c (Int.ofNat 0)), SB.not (SB.le (SI.len (SL.v 0)) (SI.v 0)),
          SB.not (SB.lt (SI.v 0) (SI.c (Int.ofNat 0))), SB.le (SI.c (Int.ofNat 1)) (SI.len (SL.v 0)),
          SB.le (SI.len (SL.v 0)) (SI.c (Int.ofNat 64))],
      eqs := [Eqn.T (SB.not (SB.app 130 (SA.l (SL.v 0) (SA.i (SI.v 0) SA.nil))))] },
    {
      pc :=
        [SB.not (SB.eq (SI.sel (SL.v 0) (SI.v 0) 1) (SI.c (Int.ofNat 0))),
          SB.eq (SI.sel (SL.v 0) (SI.v 0) 0) (SI.c (Int.ofNat 0)), SB.not (SB.le (SI.len (SL.v 0)) (SI.v 0)),
          SB.not (SB.lt (SI.v 0) (SI.c (Int.ofNat 0))), SB.le (SI.c (Int.ofNat 1)) (SI.len (SL.v 0)),
          SB.le (SI.len (SL.v 0)) (SI.c (Int.ofNat 64))],
      eqs := [Eqn.T (SB.not (SB.app 130 (SA.l (SL.v 0) (SA.i (SI.v 0) SA.nil))))] },
    {
      pc :=
        [SB.not (SB.eq (SI.sel (SL.v 0) (SI.v 0) 0) (SI.c (Int.ofNat 0))), SB.not (SB.le (SI.len (SL.v 0)) (SI.v 0)),
          SB.not (SB.lt (SI.v 0) (SI.c (Int.ofNat 0))), SB.le (SI.c (Int.ofNat 1)) (SI.len (SL.v 0)),
          SB.le (SI.len (SL.v 0)) (SI.c (Int.ofNat 64))],
      eqs := [Eqn.T (SB.not (SB.app 130 (SA.l (SL.v 0) (SA.i (SI.v 0) SA.nil))))] }] := by kernel_rfl
theorem cOf_ok : cOf.ok Φ Try.prog := by
  refine call_rule (fun ρ => t2_ok ρ) cOf_obs ?_
  simp only [and_imp, List.forall_mem_cons, List.not_mem_nil, false_implies, implies_true, and_true, Ob.ok, holds, Eqn.ok, evB_eq, evB_lt, evB_le, evB_not, evB_and, evB_or, evB_eqL, evB_app, evB_v, evB_c, ev_sel, ev_len, ev_v, ev_c, ev_add, ev_sub, ev_mul, ev_quo, ev_rem, ev_bits, ev_wrap, evL_v, evL_lit, evL_app, ev_app, evA_l, evA_i, evA_nil, std_min, std_max, std_cat, std_take, std_drop, std_row, std_set, std_rep, std_find, std_put, std_del, std_flag, std_unflag, std_clr, std_left, std_copy, ints_cons, ints_nil, ofNat_lit, negSucc_lit, decide_eq_true_eq, Bool.and_eq_true, Bool.or_eq_true, Bool.not_eq_true', Bool.and_eq_false_iff, Bool.or_eq_false_iff, decide_eq_false_iff_not, aI110, aI111, aI112, aI113, aI114, aL100, aL101, aL102, aL103, aL110, aL112, aL113, aL114, aL115, aL116, aB130, aB131, aB132, aB199]
  repeat' apply And.intro
  all_goals intro ρ hR
  all_goals intros
  all_goals first
    | (have hT : ∀ r ∈ ρ.l 0, okRow K5 r := hR.row 1 rfl rfl
       exact (none_out (T := ρ.l 0) (id := ρ.i 0) (by omega)))
    | (have hT : ∀ r ∈ ρ.l 0, okRow K5 r := hR.row 1 rfl rfl
       exact (none_z (T := ρ.l 0) (id := ρ.i 0) hT (by omega) (by omega) (by unfold allZ; omega)))
    | (have hT : ∀ r ∈ ρ.l 0, okRow K5 r := hR.row 1 rfl rfl
       exact (none_not (T := ρ.l 0) (id := ρ.i 0) hT (by omega) (by omega) (by unfold allZ; omega)))
set_option maxRecDepth 100000 in
theorem cTake_obs : callObs Φ Try.prog t2 1000 cTake.f cTake.vs cTake.o cTake.pc cTake.outs = some
  [{
      pc :=
        [SB.lt (SI.v 0) (SI.c (Int.ofNat 0)), SB.v 0, SB.le (SI.c (Int.ofNat 1)) (SI.len (SL.v 0)),
          SB.le (SI.len (SL.v 0)) (SI.c (Int.ofNat 64)), SB.c true,
          SB.and (SB.c true) (SB.or (SB.v 0) (SB.not (SB.v 0)))],
      eqs :=
        [Eqn.T
            (SB.eq
              (SI.len (SL.app 112 (SA.l (SL.v 0) (SA.i (SI.v 0) (SA.i (SI.v 5) (SA.i (SI.c (Int.ofNat 1)) SA.nil))))))
              (SI.len (SL.v 0))),
          Eqn.I (SI.app 112 (SA.l (SL.v 0) (SA.i (SI.v 0) (SA.i (SI.v 5) (SA.i (SI.c (Int.ofNat 1)) SA.nil)))))
            (SI.c (Int.ofNat 4)),
          Eqn.I (SI.len (SL.app 112 (SA.l (SL.v 0) (SA.i (SI.v 0) (SA.i (SI.v 5) (SA.i (SI.c (Int.ofNat 1)) SA.nil))))))
            (SI.len (SL.v 0)),
          Eqn.L (SL.app 112 (SA.l (SL.v 0) (SA.i (SI.v 0) (SA.i (SI.v 5) (SA.i (SI.c (Int.ofNat 1)) SA.nil)))))
            (SL.v 0)] },
    {
      pc :=
        [SB.le (SI.len (SL.v 0)) (SI.v 0), SB.not (SB.lt (SI.v 0) (SI.c (Int.ofNat 0))), SB.v 0,
          SB.le (SI.c (Int.ofNat 1)) (SI.len (SL.v 0)), SB.le (SI.len (SL.v 0)) (SI.c (Int.ofNat 64)), SB.c true,
          SB.and (SB.c true) (SB.or (SB.v 0) (SB.not (SB.v 0)))],
      eqs :=
        [Eqn.T
            (SB.eq
              (SI.len (SL.app 112 (SA.l (SL.v 0) (SA.i (SI.v 0) (SA.i (SI.v 5) (SA.i (SI.c (Int.ofNat 1)) SA.nil))))))
              (SI.len (SL.v 0))),
          Eqn.I (SI.app 112 (SA.l (SL.v 0) (SA.i (SI.v 0) (SA.i (SI.v 5) (SA.i (SI.c (Int.ofNat 1)) SA.nil)))))
            (SI.c (Int.ofNat 4)),
          Eqn.I (SI.len (SL.app 112 (SA.l (SL.v 0) (SA.i (SI.v 0) (SA.i (SI.v 5) (SA.i (SI.c (Int.ofNat 1)) SA.nil))))))
            (SI.len (SL.v 0)),
          Eqn.L (SL.app 112 (SA.l (SL.v 0) (SA.i (SI.v 0) (SA.i (SI.v 5) (SA.i (SI.c (Int.ofNat 1)) SA.nil)))))
            (SL.v 0)] },
    {
      pc :=
        [SB.eq (SI.sel (SL.v 0) (SI.v 0) 4) (SI.c (Int.ofNat 0)),
          SB.eq (SI.sel (SL.v 0) (SI.v 0) 3) (SI.c (Int.ofNat 0)),
          SB.eq (SI.sel (SL.v 0) (SI.v 0) 2) (SI.c (Int.ofNat 0)),
          SB.eq (SI.sel (SL.v 0) (SI.v 0) 1) (SI.c (Int.ofNat 0)),
          SB.eq (SI.sel (SL.v 0) (SI.v 0) 0) (SI.c (Int.ofNat 0)), SB.not (SB.le (SI.len (SL.v 0)) (SI.v 0)),
          SB.not (SB.lt (SI.v 0) (SI.c (Int.ofNat 0))), SB.v 0, SB.le (SI.c (Int.ofNat 1)) (SI.len (SL.v 0)),
          SB.le (SI.len (SL.v 0)) (SI.c (Int.ofNat 64)), SB.c true,
          SB.and (SB.c true) (SB.or (SB.v 0) (SB.not (SB.v 0)))],
      eqs :=
        [Eqn.T
            (SB.eq
              (SI.len (SL.app 112 (SA.l (SL.v 0) (SA.i (SI.v 0) (SA.i (SI.v 5) (SA.i (SI.c (Int.ofNat 1)) SA.nil))))))
              (SI.len (SL.v 0))),
          Eqn.I (SI.app 112 (SA.l (SL.v 0) (SA.i (SI.v 0) (SA.i (SI.v 5) (SA.i (SI.c (Int.ofNat 1)) SA.nil)))))
            (SI.c (Int.ofNat 4)),
          Eqn.I (SI.len (SL.app 112 (SA.l (SL.v 0) (SA.i (SI.v 0) (SA.i (SI.v 5) (SA.i (SI.c (Int.ofNat 1)) SA.nil))))))
            (SI.len (SL.v 0)),
          Eqn.L (SL.app 112 (SA.l (SL.v 0) (SA.i (SI.v 0) (SA.i (SI.v 5) (SA.i (SI.c (Int.ofNat 1)) SA.nil)))))
            (SL.v 0)] },
    {
      pc :=
        [SB.eq (SI.sel (SL.v 0) (SI.v 0) 2) (SI.v 5), SB.not (SB.eq (SI.sel (SL.v 0) (SI.v 0) 4) (SI.c (Int.ofNat 0))),
          SB.eq (SI.sel (SL.v 0) (SI.v 0) 3) (SI.c (Int.ofNat 0)),
          SB.eq (SI.sel (SL.v 0) (SI.v 0) 2) (SI.c (Int.ofNat 0)),
          SB.eq (SI.sel (SL.v 0) (SI.v 0) 1) (SI.c (Int.ofNat 0)),
          SB.eq (SI.sel (SL.v 0) (SI.v 0) 0) (SI.c (Int.ofNat 0)), SB.not (SB.le (SI.len (SL.v 0)) (SI.v 0)),
          SB.not (SB.lt (SI.v 0) (SI.c (Int.ofNat 0))), SB.v 0, SB.le (SI.c (Int.ofNat 1)) (SI.len (SL.v 0)),
          SB.le (SI.len (SL.v 0)) (SI.c (Int.ofNat 64)), SB.c true,
          SB.and (SB.c true) (SB.or (SB.v 0) (SB.not (SB.v 0)))],
      eqs :=
        [Eqn.T
            (SB.eq
              (SI.len (SL.app 112 (SA.l (SL.v 0) (SA.i (SI.v 0) (SA.i (SI.v 5) (SA.i (SI.c (Int.ofNat 1)) SA.nil))))))
              (SI.len (SL.v 0))),
          Eqn.I (SI.app 112 (SA.l (SL.v 0) (SA.i (SI.v 0) (SA.i (SI.v 5) (SA.i (SI.c (Int.ofNat 1)) SA.nil)))))
            (SI.c (Int.ofNat 7)),
          Eqn.I (SI.len (SL.app 112 (SA.l (SL.v 0) (SA.i (SI.v 0) (SA.i (SI.v 5) (SA.i (SI.c (Int.ofNat 1)) SA.nil))))))
            (SI.len (SL.v 0)),
          Eqn.L (SL.app 112 (SA.l (SL.v 0) (SA.i (SI.v 0) (SA.i (SI.v 5) (SA.i (SI.c (Int.ofNat 1)) SA.nil)))))
            (SL.v 0)] },
    {
      pc :=
        [SB.not (SB.eq (SI.sel (SL.v 0) (SI.v 0) 2) (SI.v 5)),
          SB.not (SB.eq (SI.sel (SL.v 0) (SI.v 0) 4) (SI.c (Int.ofNat 0))),
          SB.eq (SI.sel (SL.v 0) (SI.v 0) 3) (SI.c (Int.ofNat 0)),
          SB.eq (SI.sel (SL.v 0) (SI.v 0) 2) (SI.c (Int.ofNat 0)),
          SB.eq (SI.sel (SL.v 0) (SI.v 0) 1) (SI.c (Int.ofNat 0)),
          SB.eq (SI.sel (SL.v 0) (SI.v 0) 0) (SI.c (Int.ofNat 0)), SB.not (SB.le (SI.len (SL.v 0)) (SI.v 0)),
          SB.not (SB.lt (SI.v 0) (SI.c (Int.ofNat 0))), SB.v 0, SB.le (SI.c (Int.ofNat 1)) (SI.len (SL.v 0)),
          SB.le (SI.len (SL.v 0)) (SI.c (Int.ofNat 64)), SB.c true,
          SB.and (SB.c true) (SB.or (SB.v 0) (SB.not (SB.v 0)))],
      eqs :=
        [Eqn.T
            (SB.eq
              (SI.len (SL.app 112 (SA.l (SL.v 0) (SA.i (SI.v 0) (SA.i (SI.v 5) (SA.i (SI.c (Int.ofNat 1)) SA.nil))))))
              (SI.len (SL.v 0))),
          Eqn.I (SI.app 112 (SA.l (SL.v 0) (SA.i (SI.v 0) (SA.i (SI.v 5) (SA.i (SI.c (Int.ofNat 1)) SA.nil)))))
            (SI.c (Int.ofNat 7)),
          Eqn.I (SI.len (SL.app 112 (SA.l (SL.v 0) (SA.i (SI.v 0) (SA.i (SI.v 5) (SA.i (SI.c (Int.ofNat 1)) SA.nil))))))
            (SI.len (SL.v 0)),
          Eqn.L (SL.app 112 (SA.l (SL.v 0) (SA.i (SI.v 0) (SA.i (SI.v 5) (SA.i (SI.c (Int.ofNat 1)) SA.nil)))))
            (SL.v 0)] },
    {
      pc :=
        [SB.eq (SI.sel (SL.v 0) (SI.v 0) 4) (SI.c (Int.ofNat 1000)), SB.eq (SI.sel (SL.v 0) (SI.v 0) 2) (SI.v 5),
          SB.not (SB.eq (SI.sel (SL.v 0) (SI.v 0) 3) (SI.c (Int.ofNat 0))),
          SB.eq (SI.sel (SL.v 0) (SI.v 0) 2) (SI.c (Int.ofNat 0)),
          SB.eq (SI.sel (SL.v 0) (SI.v 0) 1) (SI.c (Int.ofNat 0)),
          SB.eq (SI.sel (SL.v 0) (SI.v 0) 0) (SI.c (Int.ofNat 0)), SB.not (SB.le (SI.len (SL.v 0)) (SI.v 0)),
          SB.not (SB.lt (SI.v 0) (SI.c (Int.ofNat 0))), SB.v 0, SB.le (SI.c (Int.ofNat 1)) (SI.len (SL.v 0)),
          SB.le (SI.len (SL.v 0)) (SI.c (Int.ofNat 64)), SB.c true,
          SB.and (SB.c true) (SB.or (SB.v 0) (SB.not (SB.v 0)))],
      eqs :=
        [Eqn.T
            (SB.eq
              (SI.len (SL.app 112 (SA.l (SL.v 0) (SA.i (SI.v 0) (SA.i (SI.v 5) (SA.i (SI.c (Int.ofNat 1)) SA.nil))))))
              (SI.len (SL.v 0))),
          Eqn.I (SI.app 112 (SA.l (SL.v 0) (SA.i (SI.v 0) (SA.i (SI.v 5) (SA.i (SI.c (Int.ofNat 1)) SA.nil)))))
            (SI.c (Int.ofNat 3)),
          Eqn.I (SI.len (SL.app 112 (SA.l (SL.v 0) (SA.i (SI.v 0) (SA.i (SI.v 5) (SA.i (SI.c (Int.ofNat 1)) SA.nil))))))
            (SI.len (SL.v 0)),
          Eqn.L (SL.app 112 (SA.l (SL.v 0) (SA.i (SI.v 0) (SA.i (SI.v 5) (SA.i (SI.c (Int.ofNat 1)) SA.nil)))))
            (SL.v 0)] },
    {
      pc :=
        [SB.not (SB.eq (SI.sel (SL.v 0) (SI.v 0) 4) (SI.c (Int.ofNat 1000))),
          SB.eq (SI.sel (SL.v 0) (SI.v 0) 2) (SI.v 5), SB.not (SB.eq (SI.sel (SL.v 0) (SI.v 0) 3) (SI.c (Int.ofNat 0))),
          SB.eq (SI.sel (SL.v 0) (SI.v 0) 2) (SI.c (Int.ofNat 0)),
          SB.eq (SI.sel (SL.v 0) (SI.v 0) 1) (SI.c (Int.ofNat 0)),
          SB.eq (SI.sel (SL.v 0) (SI.v 0) 0) (SI.c (Int.ofNat 0)), SB.not (SB.le (SI.len (SL.v 0)) (SI.v 0)),
          SB.not (SB.lt (SI.v 0) (SI.c (Int.ofNat 0))), SB.v 0, SB.le (SI.c (Int.ofNat 1)) (SI.len (SL.v 0)),
          SB.le (SI.len (SL.v 0)) (SI.c (Int.ofNat 64)), SB.c true,
          SB.and (SB.c true) (SB.or (SB.v 0) (SB.not (SB.v 0)))],
      eqs :=
        [Eqn.T
            (SB.eq
              (SI.len (SL.app 112 (SA.l (SL.v 0) (SA.i (SI.v 0) (SA.i (SI.v 5) (SA.i (SI.c (Int.ofNat 1)) SA.nil))))))
              (SI.len (SL.v 0))),
          Eqn.I (SI.app 112 (SA.l (SL.v 0) (SA.i (SI.v 0) (SA.i (SI.v 5) (SA.i (SI.c (Int.ofNat 1)) SA.nil)))))
            (SI.c (Int.ofNat 0)),
          Eqn.I (SI.len (SL.app 112 (SA.l (SL.v 0) (SA.i (SI.v 0) (SA.i (SI.v 5) (SA.i (SI.c (Int.ofNat 1)) SA.nil))))))
            (SI.len (SL.v 0)),
          Eqn.L (SL.app 112 (SA.l (SL.v 0) (SA.i (SI.v 0) (SA.i (SI.v 5) (SA.i (SI.c (Int.ofNat 1)) SA.nil)))))
            (SL.app 4
              (SA.l (SL.v 0)
                (SA.i (SI.v 0)
                  (SA.i (SI.c (Int.ofNat 4))
                    (SA.i (SI.wrap IntKind.i64 (SI.add (SI.sel (SL.v 0) (SI.v 0) 4) (SI.c (Int.ofNat 1))))
                      SA.nil)))))] },
    {
      pc :=
        [SB.not (SB.eq (SI.sel (SL.v 0) (SI.v 0) 2) (SI.v 5)),
          SB.not (SB.eq (SI.sel (SL.v 0) (SI.v 0) 3) (SI.c (Int.ofNat 0))),
          SB.eq (SI.sel (SL.v 0) (SI.v 0) 2) (SI.c (Int.ofNat 0)),
          SB.eq (SI.sel (SL.v 0) (SI.v 0) 1) (SI.c (Int.ofNat 0)),
          SB.eq (SI.sel (SL.v 0) (SI.v 0) 0) (SI.c (Int.ofNat 0)), SB.not (SB.le (SI.len (SL.v 0)) (SI.v 0)),
          SB.not (SB.lt (SI.v 0) (SI.c (Int.ofNat 0))), SB.v 0, SB.le (SI.c (Int.ofNat 1)) (SI.len (SL.v 0)),
          SB.le (SI.len (SL.v 0)) (SI.c (Int.ofNat 64)), SB.c true,
          SB.and (SB.c true) (SB.or (SB.v 0) (SB.not (SB.v 0)))],
      eqs :=
        [Eqn.T
            (SB.eq
              (SI.len (SL.app 112 (SA.l (SL.v 0) (SA.i (SI.v 0) (SA.i (SI.v 5) (SA.i (SI.c (Int.ofNat 1)) SA.nil))))))
              (SI.len (SL.v 0))),
          Eqn.I (SI.app 112 (SA.l (SL.v 0) (SA.i (SI.v 0) (SA.i (SI.v 5) (SA.i (SI.c (Int.ofNat 1)) SA.nil)))))
            (SI.c (Int.ofNat 7)),
          Eqn.I (SI.len (SL.app 112 (SA.l (SL.v 0) (SA.i (SI.v 0) (SA.i (SI.v 5) (SA.i (SI.c (Int.ofNat 1)) SA.nil))))))
            (SI.len (SL.v 0)),
          Eqn.L (SL.app 112 (SA.l (SL.v 0) (SA.i (SI.v 0) (SA.i (SI.v 5) (SA.i (SI.c (Int.ofNat 1)) SA.nil)))))
            (SL.v 0)] },
    {
      pc :=
        [SB.eq (SI.sel (SL.v 0) (SI.v 0) 3) (SI.c (Int.ofNat 0)), SB.eq (SI.sel (SL.v 0) (SI.v 0) 2) (SI.v 5),
          SB.not (SB.eq (SI.sel (SL.v 0) (SI.v 0) 2) (SI.c (Int.ofNat 0))),
          SB.eq (SI.sel (SL.v 0) (SI.v 0) 1) (SI.c (Int.ofNat 0)),
          SB.eq (SI.sel (SL.v 0) (SI.v 0) 0) (SI.c (Int.ofNat 0)), SB.not (SB.le (SI.len (SL.v 0)) (SI.v 0)),
          SB.not (SB.lt (SI.v 0) (SI.c (Int.ofNat 0))), SB.v 0, SB.le (SI.c (Int.ofNat 1)) (SI.len (SL.v 0)),
          SB.le (SI.len (SL.v 0)) (SI.c (Int.ofNat 64)), SB.c true,
          SB.and (SB.c true) (SB.or (SB.v 0) (SB.not (SB.v 0)))],
      eqs :=
        [Eqn.T
            (SB.eq
              (SI.len (SL.app 112 (SA.l (SL.v 0) (SA.i (SI.v 0) (SA.i (SI.v 5) (SA.i (SI.c (Int.ofNat 1)) SA.nil))))))
              (SI.len (SL.v 0))),
          Eqn.I (SI.app 112 (SA.l (SL.v 0) (SA.i (SI.v 0) (SA.i (SI.v 5) (SA.i (SI.c (Int.ofNat 1)) SA.nil)))))
            (SI.c (Int.ofNat 7)),
          Eqn.I (SI.len (SL.app 112 (SA.l (SL.v 0) (SA.i (SI.v 0) (SA.i (SI.v 5) (SA.i (SI.c (Int.ofNat 1)) SA.nil))))))
            (SI.len (SL.v 0)),
          Eqn.L (SL.app 112 (SA.l (SL.v 0) (SA.i (SI.v 0) (SA.i (SI.v 5) (SA.i (SI.c (Int.ofNat 1)) SA.nil)))))
            (SL.v 0)] },
    {
      pc :=
        [SB.eq (SI.sel (SL.v 0) (SI.v 0) 4) (SI.c (Int.ofNat 1000)),
          SB.not (SB.eq (SI.sel (SL.v 0) (SI.v 0) 3) (SI.c (Int.ofNat 0))), SB.eq (SI.sel (SL.v 0) (SI.v 0) 2) (SI.v 5),
          SB.not (SB.eq (SI.sel (SL.v 0) (SI.v 0) 2) (SI.c (Int.ofNat 0))),
          SB.eq (SI.sel (SL.v 0) (SI.v 0) 1) (SI.c (Int.ofNat 0)),
          SB.eq (SI.sel (SL.v 0) (SI.v 0) 0) (SI.c (Int.ofNat 0)), SB.not (SB.le (SI.len (SL.v 0)) (SI.v 0)),
          SB.not (SB.lt (SI.v 0) (SI.c (Int.ofNat 0))), SB.v 0, SB.le (SI.c (Int.ofNat 1)) (SI.len (SL.v 0)),
          SB.le (SI.len (SL.v 0)) (SI.c (Int.ofNat 64)), SB.c true,
          SB.and (SB.c true) (SB.or (SB.v 0) (SB.not (SB.v 0)))],
      eqs :=
        [Eqn.T
            (SB.eq
              (SI.len (SL.app 112 (SA.l (SL.v 0) (SA.i (SI.v 0) (SA.i (SI.v 5) (SA.i (SI.c (Int.ofNat 1)) SA.nil))))))
              (SI.len (SL.v 0))),
          Eqn.I (SI.app 112 (SA.l (SL.v 0) (SA.i (SI.v 0) (SA.i (SI.v 5) (SA.i (SI.c (Int.ofNat 1)) SA.nil)))))
            (SI.c (Int.ofNat 3)),
          Eqn.I (SI.len (SL.app 112 (SA.l (SL.v 0) (SA.i (SI.v 0) (SA.i (SI.v 5) (SA.i (SI.c (Int.ofNat 1)) SA.nil))))))
            (SI.len (SL.v 0)),
          Eqn.L (SL.app 112 (SA.l (SL.v 0) (SA.i (SI.v 0) (SA.i (SI.v 5) (SA.i (SI.c (Int.ofNat 1)) SA.nil)))))
            (SL.v 0)] },
    {
      pc :=
        [SB.not (SB.eq (SI.sel (SL.v 0) (SI.v 0) 4) (SI.c (Int.ofNat 1000))),
          SB.not (SB.eq (SI.sel (SL.v 0) (SI.v 0) 3) (SI.c (Int.ofNat 0))), SB.eq (SI.sel (SL.v 0) (SI.v 0) 2) (SI.v 5),
          SB.not (SB.eq (SI.sel (SL.v 0) (SI.v 0) 2) (SI.c (Int.ofNat 0))),
          SB.eq (SI.sel (SL.v 0) (SI.v 0) 1) (SI.c (Int.ofNat 0)),
          SB.eq (SI.sel (SL.v 0) (SI.v 0) 0) (SI.c (Int.ofNat 0)), SB.not (SB.le (SI.len (SL.v 0)) (SI.v 0)),
          SB.not (SB.lt (SI.v 0) (SI.c (Int.ofNat 0))), SB.v 0, SB.le (SI.c (Int.ofNat 1)) (SI.len (SL.v 0)),
          SB.le (SI.len (SL.v 0)) (SI.c (Int.ofNat 64)), SB.c true,
          SB.and (SB.c true) (SB.or (SB.v 0) (SB.not (SB.v 0)))],
      eqs :=
        [Eqn.T
            (SB.eq
              (SI.len (SL.app 112 (SA.l (SL.v 0) (SA.i (SI.v 0) (SA.i (SI.v 5) (SA.i (SI.c (Int.ofNat 1)) SA.nil))))))
              (SI.len (SL.v 0))),
          Eqn.I (SI.app 112 (SA.l (SL.v 0) (SA.i (SI.v 0) (SA.i (SI.v 5) (SA.i (SI.c (Int.ofNat 1)) SA.nil)))))
            (SI.c (Int.ofNat 0)),
          Eqn.I (SI.len (SL.app 112 (SA.l (SL.v 0) (SA.i (SI.v 0) (SA.i (SI.v 5) (SA.i (SI.c (Int.ofNat 1)) SA.nil))))))
            (SI.len (SL.v 0)),
          Eqn.L (SL.app 112 (SA.l (SL.v 0) (SA.i (SI.v 0) (SA.i (SI.v 5) (SA.i (SI.c (Int.ofNat 1)) SA.nil)))))
            (SL.app 4
              (SA.l (SL.v 0)
                (SA.i (SI.v 0)
                  (SA.i (SI.c (Int.ofNat 4))
                    (SA.i (SI.wrap IntKind.i64 (SI.add (SI.sel (SL.v 0) (SI.v 0) 4) (SI.c (Int.ofNat 1))))
                      SA.nil)))))] },
    {
      pc :=
        [SB.not (SB.eq (SI.sel (SL.v 0) (SI.v 0) 2) (SI.v 5)),
          SB.not (SB.eq (SI.sel (SL.v 0) (SI.v 0) 2) (SI.c (Int.ofNat 0))),
          SB.eq (SI.sel (SL.v 0) (SI.v 0) 1) (SI.c (Int.ofNat 0)),
          SB.eq (SI.sel (SL.v 0) (SI.v 0) 0) (SI.c (Int.ofNat 0)), SB.not (SB.le (SI.len (SL.v 0)) (SI.v 0)),
          SB.not (SB.lt (SI.v 0) (SI.c (Int.ofNat 0))), SB.v 0, SB.le (SI.c (Int.ofNat 1)) (SI.len (SL.v 0)),
          SB.le (SI.len (SL.v 0)) (SI.c (Int.ofNat 64)), SB.c true,
          SB.and (SB.c true) (SB.or (SB.v 0) (SB.not (SB.v 0)))],
      eqs :=
        [Eqn.T
            (SB.eq
              (SI.len (SL.app 112 (SA.l (SL.v 0) (SA.i (SI.v 0) (SA.i (SI.v 5) (SA.i (SI.c (Int.ofNat 1)) SA.nil))))))
              (SI.len (SL.v 0))),
          Eqn.I (SI.app 112 (SA.l (SL.v 0) (SA.i (SI.v 0) (SA.i (SI.v 5) (SA.i (SI.c (Int.ofNat 1)) SA.nil)))))
            (SI.c (Int.ofNat 7)),
          Eqn.I (SI.len (SL.app 112 (SA.l (SL.v 0) (SA.i (SI.v 0) (SA.i (SI.v 5) (SA.i (SI.c (Int.ofNat 1)) SA.nil))))))
            (SI.len (SL.v 0)),
          Eqn.L (SL.app 112 (SA.l (SL.v 0) (SA.i (SI.v 0) (SA.i (SI.v 5) (SA.i (SI.c (Int.ofNat 1)) SA.nil)))))
            (SL.v 0)] },
    {
      pc :=
        [SB.eq (SI.sel (SL.v 0) (SI.v 0) 3) (SI.c (Int.ofNat 0)), SB.eq (SI.sel (SL.v 0) (SI.v 0) 2) (SI.v 5),
          SB.not (SB.eq (SI.sel (SL.v 0) (SI.v 0) 1) (SI.c (Int.ofNat 0))),
          SB.eq (SI.sel (SL.v 0) (SI.v 0) 0) (SI.c (Int.ofNat 0)), SB.not (SB.le (SI.len (SL.v 0)) (SI.v 0)),
          SB.not (SB.lt (SI.v 0) (SI.c (Int.ofNat 0))), SB.v 0, SB.le (SI.c (Int.ofNat 1)) (SI.len (SL.v 0)),
          SB.le (SI.len (SL.v 0)) (SI.c (Int.ofNat 64)), SB.c true,
          SB.and (SB.c true) (SB.or (SB.v 0) (SB.not (SB.v 0)))],
      eqs :=
        [Eqn.T
            (SB.eq
              (SI.len (SL.app 112 (SA.l (SL.v 0) (SA.i (SI.v 0) (SA.i (SI.v 5) (SA.i (SI.c (Int.ofNat 1)) SA.nil))))))
              (SI.len (SL.v 0))),
          Eqn.I (SI.app 112 (SA.l (SL.v 0) (SA.i (SI.v 0) (SA.i (SI.v 5) (SA.i (SI.c (Int.ofNat 1)) SA.nil)))))
            (SI.c (Int.ofNat 7)),
          Eqn.I (SI.len (SL.app 112 (SA.l (SL.v 0) (SA.i (SI.v 0) (SA.i (SI.v 5) (SA.i (SI.c (Int.ofNat 1)) SA.nil))))))
            (SI.len (SL.v 0)),
          Eqn.L (SL.app 112 (SA.l (SL.v 0) (SA.i (SI.v 0) (SA.i (SI.v 5) (SA.i (SI.c (Int.ofNat 1)) SA.nil)))))
            (SL.v 0)] },
    {
      pc :=
        [SB.eq (SI.sel (SL.v 0) (SI.v 0) 4) (SI.c (Int.ofNat 1000)),
          SB.not (SB.eq (SI.sel (SL.v 0) (SI.v 0) 3) (SI.c (Int.ofNat 0))), SB.eq (SI.sel (SL.v 0) (SI.v 0) 2) (SI.v 5),
          SB.not (SB.eq (SI.sel (SL.v 0) (SI.v 0) 1) (SI.c (Int.ofNat 0))),
          SB.eq (SI.sel (SL.v 0) (SI.v 0) 0) (SI.c (Int.ofNat 0)), SB.not (SB.le (SI.len (SL.v 0)) (SI.v 0)),
          SB.not (SB.lt (SI.v 0) (SI.c (Int.ofNat 0))), SB.v 0, SB.le (SI.c (Int.ofNat 1)) (SI.len (SL.v 0)),
          SB.le (SI.len (SL.v 0)) (SI.c (Int.ofNat 64)), SB.c true,
          SB.and (SB.c true) (SB.or (SB.v 0) (SB.not (SB.v 0)))],
      eqs :=
        [Eqn.T
            (SB.eq
              (SI.len (SL.app 112 (SA.l (SL.v 0) (SA.i (SI.v 0) (SA.i (SI.v 5) (SA.i (SI.c (Int.ofNat 1)) SA.nil))))))
              (SI.len (SL.v 0))),
          Eqn.I (SI.app 112 (SA.l (SL.v 0) (SA.i (SI.v 0) (SA.i (SI.v 5) (SA.i (SI.c (Int.ofNat 1)) SA.nil)))))
            (SI.c (Int.ofNat 3)),
          Eqn.I (SI.len (SL.app 112 (SA.l (SL.v 0) (SA.i (SI.v 0) (SA.i (SI.v 5) (SA.i (SI.c (Int.ofNat 1)) SA.nil))))))
            (SI.len (SL.v 0)),
          Eqn.L (SL.app 112 (SA.l (SL.v 0) (SA.i (SI.v 0) (SA.i (SI.v 5) (SA.i (SI.c (Int.ofNat 1)) SA.nil)))))
            (SL.v 0)] },
    {
      pc :=
        [SB.not (SB.eq (SI.sel (SL.v 0) (SI.v 0) 4) (SI.c (Int.ofNat 1000))),
          SB.not (SB.eq (SI.sel (SL.v 0) (SI.v 0) 3) (SI.c (Int.ofNat 0))), SB.eq (SI.sel (SL.v 0) (SI.v 0) 2) (SI.v 5),
          SB.not (SB.eq (SI.sel (SL.v 0) (SI.v 0) 1) (SI.c (Int.ofNat 0))),
          SB.eq (SI.sel (SL.v 0) (SI.v 0) 0) (SI.c (Int.ofNat 0)), SB.not (SB.le (SI.len (SL.v 0)) (SI.v 0)),
          SB.not (SB.lt (SI.v 0) (SI.c (Int.ofNat 0))), SB.v 0, SB.le (SI.c (Int.ofNat 1)) (SI.len (SL.v 0)),
          SB.le (SI.len (SL.v 0)) (SI.c (Int.ofNat 64)), SB.c true,
          SB.and (SB.c true) (SB.or (SB.v 0) (SB.not (SB.v 0)))],
      eqs :=
        [Eqn.T
            (SB.eq
              (SI.len (SL.app 112 (SA.l (SL.v 0) (SA.i (SI.v 0) (SA.i (SI.v 5) (SA.i (SI.c (Int.ofNat 1)) SA.nil))))))
              (SI.len (SL.v 0))),
          Eqn.I (SI.app 112 (SA.l (SL.v 0) (SA.i (SI.v 0) (SA.i (SI.v 5) (SA.i (SI.c (Int.ofNat 1)) SA.nil)))))
            (SI.c (Int.ofNat 0)),
          Eqn.I (SI.len (SL.app 112 (SA.l (SL.v 0) (SA.i (SI.v 0) (SA.i (SI.v 5) (SA.i (SI.c (Int.ofNat 1)) SA.nil))))))
            (SI.len (SL.v 0)),
          Eqn.L (SL.app 112 (SA.l (SL.v 0) (SA.i (SI.v 0) (SA.i (SI.v 5) (SA.i (SI.c (Int.ofNat 1)) SA.nil)))))
            (SL.app 4
              (SA.l (SL.v 0)
                (SA.i (SI.v 0)
                  (SA.i (SI.c (Int.ofNat 4))
                    (SA.i (SI.wrap IntKind.i64 (SI.add (SI.sel (SL.v 0) (SI.v 0) 4) (SI.c (Int.ofNat 1))))
                      SA.nil)))))] },
    {
      pc :=
        [SB.not (SB.eq (SI.sel (SL.v 0) (SI.v 0) 2) (SI.v 5)),
          SB.not (SB.eq (SI.sel (SL.v 0) (SI.v 0) 1) (SI.c (Int.ofNat 0))),
          SB.eq (SI.sel (SL.v 0) (SI.v 0) 0) (SI.c (Int.ofNat 0)), SB.not (SB.le (SI.len (SL.v 0)) (SI.v 0)),
          SB.not (SB.lt (SI.v 0) (SI.c (Int.ofNat 0))), SB.v 0, SB.le (SI.c (Int.ofNat 1)) (SI.len (SL.v 0)),
          SB.le (SI.len (SL.v 0)) (SI.c (Int.ofNat 64)), SB.c true,
          SB.and (SB.c true) (SB.or (SB.v 0) (SB.not (SB.v 0)))],
      eqs :=
        [Eqn.T
            (SB.eq
              (SI.len (SL.app 112 (SA.l (SL.v 0) (SA.i (SI.v 0) (SA.i (SI.v 5) (SA.i (SI.c (Int.ofNat 1)) SA.nil))))))
              (SI.len (SL.v 0))),
          Eqn.I (SI.app 112 (SA.l (SL.v 0) (SA.i (SI.v 0) (SA.i (SI.v 5) (SA.i (SI.c (Int.ofNat 1)) SA.nil)))))
            (SI.c (Int.ofNat 7)),
          Eqn.I (SI.len (SL.app 112 (SA.l (SL.v 0) (SA.i (SI.v 0) (SA.i (SI.v 5) (SA.i (SI.c (Int.ofNat 1)) SA.nil))))))
            (SI.len (SL.v 0)),
          Eqn.L (SL.app 112 (SA.l (SL.v 0) (SA.i (SI.v 0) (SA.i (SI.v 5) (SA.i (SI.c (Int.ofNat 1)) SA.nil)))))
            (SL.v 0)] },
    {
      pc :=
        [SB.eq (SI.sel (SL.v 0) (SI.v 0) 3) (SI.c (Int.ofNat 0)), SB.eq (SI.sel (SL.v 0) (SI.v 0) 2) (SI.v 5),
          SB.not (SB.eq (SI.sel (SL.v 0) (SI.v 0) 0) (SI.c (Int.ofNat 0))), SB.not (SB.le (SI.len (SL.v 0)) (SI.v 0)),
          SB.not (SB.lt (SI.v 0) (SI.c (Int.ofNat 0))), SB.v 0, SB.le (SI.c (Int.ofNat 1)) (SI.len (SL.v 0)),
          SB.le (SI.len (SL.v 0)) (SI.c (Int.ofNat 64)), SB.c true,
          SB.and (SB.c true) (SB.or (SB.v 0) (SB.not (SB.v 0)))],
      eqs :=
        [Eqn.T
            (SB.eq
              (SI.len (SL.app 112 (SA.l (SL.v 0) (SA.i (SI.v 0) (SA.i (SI.v 5) (SA.i (SI.c (Int.ofNat 1)) SA.nil))))))
              (SI.len (SL.v 0))),
          Eqn.I (SI.app 112 (SA.l (SL.v 0) (SA.i (SI.v 0) (SA.i (SI.v 5) (SA.i (SI.c (Int.ofNat 1)) SA.nil)))))
            (SI.c (Int.ofNat 7)),
          Eqn.I (SI.len (SL.app 112 (SA.l (SL.v 0) (SA.i (SI.v 0) (SA.i (SI.v 5) (SA.i (SI.c (Int.ofNat 1)) SA.nil))))))
            (SI.len (SL.v 0)),
          Eqn.L (SL.app 112 (SA.l (SL.v 0) (SA.i (SI.v 0) (SA.i (SI.v 5) (SA.i (SI.c (Int.ofNat 1)) SA.nil)))))
            (SL.v 0)] },
    {
      pc :=
        [SB.eq (SI.sel (SL.v 0) (SI.v 0) 4) (SI.c (Int.ofNat 1000)),
          SB.not (SB.eq (SI.sel (SL.v 0) (SI.v 0) 3) (SI.c (Int.ofNat 0))), SB.eq (SI.sel (SL.v 0) (SI.v 0) 2) (SI.v 5),
          SB.not (SB.eq (SI.sel (SL.v 0) (SI.v 0) 0) (SI.c (Int.ofNat 0))), SB.not (SB.le (SI.len (SL.v 0)) (SI.v 0)),
          SB.not (SB.lt (SI.v 0) (SI.c (Int.ofNat 0))), SB.v 0, SB.le (SI.c (Int.ofNat 1)) (SI.len (SL.v 0)),
          SB.le (SI.len (SL.v 0)) (SI.c (Int.ofNat 64)), SB.c true,
          SB.and (SB.c true) (SB.or (SB.v 0) (SB.not (SB.v 0)))],
      eqs :=
        [Eqn.T
            (SB.eq
              (SI.len (SL.app 112 (SA.l (SL.v 0) (SA.i (SI.v 0) (SA.i (SI.v 5) (SA.i (SI.c (Int.ofNat 1)) SA.nil))))))
              (SI.len (SL.v 0))),
          Eqn.I (SI.app 112 (SA.l (SL.v 0) (SA.i (SI.v 0) (SA.i (SI.v 5) (SA.i (SI.c (Int.ofNat 1)) SA.nil)))))
            (SI.c (Int.ofNat 3)),
          Eqn.I (SI.len (SL.app 112 (SA.l (SL.v 0) (SA.i (SI.v 0) (SA.i (SI.v 5) (SA.i (SI.c (Int.ofNat 1)) SA.nil))))))
            (SI.len (SL.v 0)),
          Eqn.L (SL.app 112 (SA.l (SL.v 0) (SA.i (SI.v 0) (SA.i (SI.v 5) (SA.i (SI.c (Int.ofNat 1)) SA.nil)))))
            (SL.v 0)] },
    {
      pc :=
        [SB.not (SB.eq (SI.sel (SL.v 0) (SI.v 0) 4) (SI.c (Int.ofNat 1000))),
          SB.not (SB.eq (SI.sel (SL.v 0) (SI.v 0) 3) (SI.c (Int.ofNat 0))), SB.eq (SI.sel (SL.v 0) (SI.v 0) 2) (SI.v 5),
          SB.not (SB.eq (SI.sel (SL.v 0) (SI.v 0) 0) (SI.c (Int.ofNat 0))), SB.not (SB.le (SI.len (SL.v 0)) (SI.v 0)),
          SB.not (SB.lt (SI.v 0) (SI.c (Int.ofNat 0))), SB.v 0, SB.le (SI.c (Int.ofNat 1)) (SI.len (SL.v 0)),
          SB.le (SI.len (SL.v 0)) (SI.c (Int.ofNat 64)), SB.c true,
          SB.and (SB.c true) (SB.or (SB.v 0) (SB.not (SB.v 0)))],
      eqs :=
        [Eqn.T
            (SB.eq
              (SI.len (SL.app 112 (SA.l (SL.v 0) (SA.i (SI.v 0) (SA.i (SI.v 5) (SA.i (SI.c (Int.ofNat 1)) SA.nil))))))
              (SI.len (SL.v 0))),
          Eqn.I (SI.app 112 (SA.l (SL.v 0) (SA.i (SI.v 0) (SA.i (SI.v 5) (SA.i (SI.c (Int.ofNat 1)) SA.nil)))))
            (SI.c (Int.ofNat 0)),
          Eqn.I (SI.len (SL.app 112 (SA.l (SL.v 0) (SA.i (SI.v 0) (SA.i (SI.v 5) (SA.i (SI.c (Int.ofNat 1)) SA.nil))))))
            (SI.len (SL.v 0)),
          Eqn.L (SL.app 112 (SA.l (SL.v 0) (SA.i (SI.v 0) (SA.i (SI.v 5) (SA.i (SI.c (Int.ofNat 1)) SA.nil)))))
            (SL.app 4
              (SA.l (SL.v 0)
                (SA.i (SI.v 0)
                  (SA.i (SI.c (Int.ofNat 4))
                    (SA.i (SI.wrap IntKind.i64 (SI.add (SI.sel (SL.v 0) (SI.v 0) 4) (SI.c (Int.ofNat 1))))
                      SA.nil)))))] },
    {
      pc :=
        [SB.not (SB.eq (SI.sel (SL.v 0) (SI.v 0) 2) (SI.v 5)),
          SB.not (SB.eq (SI.sel (SL.v 0) (SI.v 0) 0) (SI.c (Int.ofNat 0))), SB.not (SB.le (SI.len (SL.v 0)) (SI.v 0)),
          SB.not (SB.lt (SI.v 0) (SI.c (Int.ofNat 0))), SB.v 0, SB.le (SI.c (Int.ofNat 1)) (SI.len (SL.v 0)),
          SB.le (SI.len (SL.v 0)) (SI.c (Int.ofNat 64)), SB.c true,
          SB.and (SB.c true) (SB.or (SB.v 0) (SB.not (SB.v 0)))],
      eqs :=
        [Eqn.T
            (SB.eq
              (SI.len (SL.app 112 (SA.l (SL.v 0) (SA.i (SI.v 0) (SA.i (SI.v 5) (SA.i (SI.c (Int.ofNat 1)) SA.nil))))))
              (SI.len (SL.v 0))),
          Eqn.I (SI.app 112 (SA.l (SL.v 0) (SA.i (SI.v 0) (SA.i (SI.v 5) (SA.i (SI.c (Int.ofNat 1)) SA.nil)))))
            (SI.c (Int.ofNat 7)),
          Eqn.I (SI.len (SL.app 112 (SA.l (SL.v 0) (SA.i (SI.v 0) (SA.i (SI.v 5) (SA.i (SI.c (Int.ofNat 1)) SA.nil))))))
            (SI.len (SL.v 0)),
          Eqn.L (SL.app 112 (SA.l (SL.v 0) (SA.i (SI.v 0) (SA.i (SI.v 5) (SA.i (SI.c (Int.ofNat 1)) SA.nil)))))
            (SL.v 0)] },
    {
      pc :=
        [SB.lt (SI.v 0) (SI.c (Int.ofNat 0)), SB.not (SB.v 0), SB.le (SI.c (Int.ofNat 1)) (SI.len (SL.v 0)),
          SB.le (SI.len (SL.v 0)) (SI.c (Int.ofNat 64)), SB.c true,
          SB.and (SB.c true) (SB.or (SB.v 0) (SB.not (SB.v 0)))],
      eqs :=
        [Eqn.T
            (SB.eq
              (SI.len (SL.app 112 (SA.l (SL.v 0) (SA.i (SI.v 0) (SA.i (SI.v 5) (SA.i (SI.c (Int.ofNat 0)) SA.nil))))))
              (SI.len (SL.v 0))),
          Eqn.I (SI.app 112 (SA.l (SL.v 0) (SA.i (SI.v 0) (SA.i (SI.v 5) (SA.i (SI.c (Int.ofNat 0)) SA.nil)))))
            (SI.c (Int.ofNat 4)),
          Eqn.I (SI.len (SL.app 112 (SA.l (SL.v 0) (SA.i (SI.v 0) (SA.i (SI.v 5) (SA.i (SI.c (Int.ofNat 0)) SA.nil))))))
            (SI.len (SL.v 0)),
          Eqn.L (SL.app 112 (SA.l (SL.v 0) (SA.i (SI.v 0) (SA.i (SI.v 5) (SA.i (SI.c (Int.ofNat 0)) SA.nil)))))
            (SL.v 0)] },
    {
      pc :=
        [SB.le (SI.len (SL.v 0)) (SI.v 0), SB.not (SB.lt (SI.v 0) (SI.c (Int.ofNat 0))), SB.not (SB.v 0),
          SB.le (SI.c (Int.ofNat 1)) (SI.len (SL.v 0)), SB.le (SI.len (SL.v 0)) (SI.c (Int.ofNat 64)), SB.c true,
          SB.and (SB.c true) (SB.or (SB.v 0) (SB.not (SB.v 0)))],
      eqs :=
        [Eqn.T
            (SB.eq
              (SI.len (SL.app 112 (SA.l (SL.v 0) (SA.i (SI.v 0) (SA.i (SI.v 5) (SA.i (SI.c (Int.ofNat 0)) SA.nil))))))
              (SI.len (SL.v 0))),
          Eqn.I (SI.app 112 (SA.l (SL.v 0) (SA.i (SI.v 0) (SA.i (SI.v 5) (SA.i (SI.c (Int.ofNat 0)) SA.nil)))))
            (SI.c (Int.ofNat 4)),
          Eqn.I (SI.len (SL.app 112 (SA.l (SL.v 0) (SA.i (SI.v 0) (SA.i (SI.v 5) (SA.i (SI.c (Int.ofNat 0)) SA.nil))))))
            (SI.len (SL.v 0)),
          Eqn.L (SL.app 112 (SA.l (SL.v 0) (SA.i (SI.v 0) (SA.i (SI.v 5) (SA.i (SI.c (Int.ofNat 0)) SA.nil)))))
            (SL.v 0)] },
    {
      pc :=
        [SB.eq (SI.sel (SL.v 0) (SI.v 0) 4) (SI.c (Int.ofNat 0)),
          SB.eq (SI.sel (SL.v 0) (SI.v 0) 3) (SI.c (Int.ofNat 0)),
          SB.eq (SI.sel (SL.v 0) (SI.v 0) 2) (SI.c (Int.ofNat 0)),
          SB.eq (SI.sel (SL.v 0) (SI.v 0) 1) (SI.c (Int.ofNat 0)),
          SB.eq (SI.sel (SL.v 0) (SI.v 0) 0) (SI.c (Int.ofNat 0)), SB.not (SB.le (SI.len (SL.v 0)) (SI.v 0)),
          SB.not (SB.lt (SI.v 0) (SI.c (Int.ofNat 0))), SB.not (SB.v 0), SB.le (SI.c (Int.ofNat 1)) (SI.len (SL.v 0)),
          SB.le (SI.len (SL.v 0)) (SI.c (Int.ofNat 64)), SB.c true,
          SB.and (SB.c true) (SB.or (SB.v 0) (SB.not (SB.v 0)))],
      eqs :=
        [Eqn.T
            (SB.eq
              (SI.len (SL.app 112 (SA.l (SL.v 0) (SA.i (SI.v 0) (SA.i (SI.v 5) (SA.i (SI.c (Int.ofNat 0)) SA.nil))))))
              (SI.len (SL.v 0))),
          Eqn.I (SI.app 112 (SA.l (SL.v 0) (SA.i (SI.v 0) (SA.i (SI.v 5) (SA.i (SI.c (Int.ofNat 0)) SA.nil)))))
            (SI.c (Int.ofNat 4)),
          Eqn.I (SI.len (SL.app 112 (SA.l (SL.v 0) (SA.i (SI.v 0) (SA.i (SI.v 5) (SA.i (SI.c (Int.ofNat 0)) SA.nil))))))
            (SI.len (SL.v 0)),
          Eqn.L (SL.app 112 (SA.l (SL.v 0) (SA.i (SI.v 0) (SA.i (SI.v 5) (SA.i (SI.c (Int.ofNat 0)) SA.nil)))))
            (SL.v 0)] },
    {
      pc :=
        [SB.eq (SI.sel (SL.v 0) (SI.v 0) 4) (SI.c (Int.ofNat 1000)), SB.eq (SI.sel (SL.v 0) (SI.v 0) 2) (SI.v 5),
          SB.not (SB.eq (SI.sel (SL.v 0) (SI.v 0) 4) (SI.c (Int.ofNat 0))),
          SB.eq (SI.sel (SL.v 0) (SI.v 0) 3) (SI.c (Int.ofNat 0)),
          SB.eq (SI.sel (SL.v 0) (SI.v 0) 2) (SI.c (Int.ofNat 0)),
          SB.eq (SI.sel (SL.v 0) (SI.v 0) 1) (SI.c (Int.ofNat 0)),
          SB.eq (SI.sel (SL.v 0) (SI.v 0) 0) (SI.c (Int.ofNat 0)), SB.not (SB.le (SI.len (SL.v 0)) (SI.v 0)),
          SB.not (SB.lt (SI.v 0) (SI.c (Int.ofNat 0))), SB.not (SB.v 0), SB.le (SI.c (Int.ofNat 1)) (SI.len (SL.v 0)),
          SB.le (SI.len (SL.v 0)) (SI.c (Int.ofNat 64)), SB.c true,
          SB.and (SB.c true) (SB.or (SB.v 0) (SB.not (SB.v 0)))],
      eqs :=
        [Eqn.T
            (SB.eq
              (SI.len (SL.app 112 (SA.l (SL.v 0) (SA.i (SI.v 0) (SA.i (SI.v 5) (SA.i (SI.c (Int.ofNat 0)) SA.nil))))))
              (SI.len (SL.v 0))),
          Eqn.I (SI.app 112 (SA.l (SL.v 0) (SA.i (SI.v 0) (SA.i (SI.v 5) (SA.i (SI.c (Int.ofNat 0)) SA.nil)))))
            (SI.c (Int.ofNat 3)),
          Eqn.I (SI.len (SL.app 112 (SA.l (SL.v 0) (SA.i (SI.v 0) (SA.i (SI.v 5) (SA.i (SI.c (Int.ofNat 0)) SA.nil))))))
            (SI.len (SL.v 0)),
          Eqn.L (SL.app 112 (SA.l (SL.v 0) (SA.i (SI.v 0) (SA.i (SI.v 5) (SA.i (SI.c (Int.ofNat 0)) SA.nil)))))
            (SL.v 0)] },
    {
      pc :=
        [SB.not (SB.eq (SI.sel (SL.v 0) (SI.v 0) 4) (SI.c (Int.ofNat 1000))),
          SB.eq (SI.sel (SL.v 0) (SI.v 0) 2) (SI.v 5), SB.not (SB.eq (SI.sel (SL.v 0) (SI.v 0) 4) (SI.c (Int.ofNat 0))),
          SB.eq (SI.sel (SL.v 0) (SI.v 0) 3) (SI.c (Int.ofNat 0)),
          SB.eq (SI.sel (SL.v 0) (SI.v 0) 2) (SI.c (Int.ofNat 0)),
          SB.eq (SI.sel (SL.v 0) (SI.v 0) 1) (SI.c (Int.ofNat 0)),
          SB.eq (SI.sel (SL.v 0) (SI.v 0) 0) (SI.c (Int.ofNat 0)), SB.not (SB.le (SI.len (SL.v 0)) (SI.v 0)),
          SB.not (SB.lt (SI.v 0) (SI.c (Int.ofNat 0))), SB.not (SB.v 0), SB.le (SI.c (Int.ofNat 1)) (SI.len (SL.v 0)),
          SB.le (SI.len (SL.v 0)) (SI.c (Int.ofNat 64)), SB.c true,
          SB.and (SB.c true) (SB.or (SB.v 0) (SB.not (SB.v 0)))],
      eqs :=
        [Eqn.T
            (SB.eq
              (SI.len (SL.app 112 (SA.l (SL.v 0) (SA.i (SI.v 0) (SA.i (SI.v 5) (SA.i (SI.c (Int.ofNat 0)) SA.nil))))))
              (SI.len (SL.v 0))),
          Eqn.I (SI.app 112 (SA.l (SL.v 0) (SA.i (SI.v 0) (SA.i (SI.v 5) (SA.i (SI.c (Int.ofNat 0)) SA.nil)))))
            (SI.c (Int.ofNat 0)),
          Eqn.I (SI.len (SL.app 112 (SA.l (SL.v 0) (SA.i (SI.v 0) (SA.i (SI.v 5) (SA.i (SI.c (Int.ofNat 0)) SA.nil))))))
            (SI.len (SL.v 0)),
          Eqn.L (SL.app 112 (SA.l (SL.v 0) (SA.i (SI.v 0) (SA.i (SI.v 5) (SA.i (SI.c (Int.ofNat 0)) SA.nil)))))
            (SL.app 4
              (SA.l (SL.v 0)
                (SA.i (SI.v 0)
                  (SA.i (SI.c (Int.ofNat 4))
                    (SA.i (SI.wrap IntKind.i64 (SI.add (SI.sel (SL.v 0) (SI.v 0) 4) (SI.c (Int.ofNat 1))))
                      SA.nil)))))] },
    {
      pc :=
        [SB.not (SB.eq (SI.sel (SL.v 0) (SI.v 0) 2) (SI.v 5)),
          SB.not (SB.eq (SI.sel (SL.v 0) (SI.v 0) 4) (SI.c (Int.ofNat 0))),
          SB.eq (SI.sel (SL.v 0) (SI.v 0) 3) (SI.c (Int.ofNat 0)),
          SB.eq (SI.sel (SL.v 0) (SI.v 0) 2) (SI.c (Int.ofNat 0)),
          SB.eq (SI.sel (SL.v 0) (SI.v 0) 1) (SI.c (Int.ofNat 0)),
          SB.eq (SI.sel (SL.v 0) (SI.v 0) 0) (SI.c (Int.ofNat 0)), SB.not (SB.le (SI.len (SL.v 0)) (SI.v 0)),
          SB.not (SB.lt (SI.v 0) (SI.c (Int.ofNat 0))), SB.not (SB.v 0), SB.le (SI.c (Int.ofNat 1)) (SI.len (SL.v 0)),
          SB.le (SI.len (SL.v 0)) (SI.c (Int.ofNat 64)), SB.c true,
          SB.and (SB.c true) (SB.or (SB.v 0) (SB.not (SB.v 0)))],
      eqs :=
        [Eqn.T
            (SB.eq
              (SI.len (SL.app 112 (SA.l (SL.v 0) (SA.i (SI.v 0) (SA.i (SI.v 5) (SA.i (SI.c (Int.ofNat 0)) SA.nil))))))
              (SI.len (SL.v 0))),
          Eqn.I (SI.app 112 (SA.l (SL.v 0) (SA.i (SI.v 0) (SA.i (SI.v 5) (SA.i (SI.c (Int.ofNat 0)) SA.nil)))))
            (SI.c (Int.ofNat 7)),
          Eqn.I (SI.len (SL.app 112 (SA.l (SL.v 0) (SA.i (SI.v 0) (SA.i (SI.v 5) (SA.i (SI.c (Int.ofNat 0)) SA.nil))))))
            (SI.len (SL.v 0)),
          Eqn.L (SL.app 112 (SA.l (SL.v 0) (SA.i (SI.v 0) (SA.i (SI.v 5) (SA.i (SI.c (Int.ofNat 0)) SA.nil)))))
            (SL.v 0)] },
    {
      pc :=
        [SB.eq (SI.sel (SL.v 0) (SI.v 0) 4) (SI.c (Int.ofNat 1000)), SB.eq (SI.sel (SL.v 0) (SI.v 0) 2) (SI.v 5),
          SB.not (SB.eq (SI.sel (SL.v 0) (SI.v 0) 3) (SI.c (Int.ofNat 0))),
          SB.eq (SI.sel (SL.v 0) (SI.v 0) 2) (SI.c (Int.ofNat 0)),
          SB.eq (SI.sel (SL.v 0) (SI.v 0) 1) (SI.c (Int.ofNat 0)),
          SB.eq (SI.sel (SL.v 0) (SI.v 0) 0) (SI.c (Int.ofNat 0)), SB.not (SB.le (SI.len (SL.v 0)) (SI.v 0)),
          SB.not (SB.lt (SI.v 0) (SI.c (Int.ofNat 0))), SB.not (SB.v 0), SB.le (SI.c (Int.ofNat 1)) (SI.len (SL.v 0)),
          SB.le (SI.len (SL.v 0)) (SI.c (Int.ofNat 64)), SB.c true,
          SB.and (SB.c true) (SB.or (SB.v 0) (SB.not (SB.v 0)))],
      eqs :=
        [Eqn.T
            (SB.eq
              (SI.len (SL.app 112 (SA.l (SL.v 0) (SA.i (SI.v 0) (SA.i (SI.v 5) (SA.i (SI.c (Int.ofNat 0)) SA.nil))))))
              (SI.len (SL.v 0))),
          Eqn.I (SI.app 112 (SA.l (SL.v 0) (SA.i (SI.v 0) (SA.i (SI.v 5) (SA.i (SI.c (Int.ofNat 0)) SA.nil)))))
            (SI.c (Int.ofNat 3)),
          Eqn.I (SI.len (SL.app 112 (SA.l (SL.v 0) (SA.i (SI.v 0) (SA.i (SI.v 5) (SA.i (SI.c (Int.ofNat 0)) SA.nil))))))
            (SI.len (SL.v 0)),
          Eqn.L (SL.app 112 (SA.l (SL.v 0) (SA.i (SI.v 0) (SA.i (SI.v 5) (SA.i (SI.c (Int.ofNat 0)) SA.nil)))))
            (SL.v 0)] },
    {
      pc :=
        [SB.not (SB.eq (SI.sel (SL.v 0) (SI.v 0) 4) (SI.c (Int.ofNat 1000))),
          SB.eq (SI.sel (SL.v 0) (SI.v 0) 2) (SI.v 5), SB.not (SB.eq (SI.sel (SL.v 0) (SI.v 0) 3) (SI.c (Int.ofNat 0))),
          SB.eq (SI.sel (SL.v 0) (SI.v 0) 2) (SI.c (Int.ofNat 0)),
          SB.eq (SI.sel (SL.v 0) (SI.v 0) 1) (SI.c (Int.ofNat 0)),
          SB.eq (SI.sel (SL.v 0) (SI.v 0) 0) (SI.c (Int.ofNat 0)), SB.not (SB.le (SI.len (SL.v 0)) (SI.v 0)),
          SB.not (SB.lt (SI.v 0) (SI.c (Int.ofNat 0))), SB.not (SB.v 0), SB.le (SI.c (Int.ofNat 1)) (SI.len (SL.v 0)),
          SB.le (SI.len (SL.v 0)) (SI.c (Int.ofNat 64)), SB.c true,
          SB.and (SB.c true) (SB.or (SB.v 0) (SB.not (SB.v 0)))],
      eqs :=
        [Eqn.T
            (SB.eq
              (SI.len (SL.app 112 (SA.l (SL.v 0) (SA.i (SI.v 0) (SA.i (SI.v 5) (SA.i (SI.c (Int.ofNat 0)) SA.nil))))))
              (SI.len (SL.v 0))),
          Eqn.I (SI.app 112 (SA.l (SL.v 0) (SA.i (SI.v 0) (SA.i (SI.v 5) (SA.i (SI.c (Int.ofNat 0)) SA.nil)))))
            (SI.c (Int.ofNat 0)),
          Eqn.I (SI.len (SL.app 112 (SA.l (SL.v 0) (SA.i (SI.v 0) (SA.i (SI.v 5) (SA.i (SI.c (Int.ofNat 0)) SA.nil))))))
            (SI.len (SL.v 0)),
          Eqn.L (SL.app 112 (SA.l (SL.v 0) (SA.i (SI.v 0) (SA.i (SI.v 5) (SA.i (SI.c (Int.ofNat 0)) SA.nil)))))
            (SL.app 4
              (SA.l (SL.v 0)
                (SA.i (SI.v 0)
                  (SA.i (SI.c (Int.ofNat 4))
                    (SA.i (SI.wrap IntKind.i64 (SI.add (SI.sel (SL.v 0) (SI.v 0) 4) (SI.c (Int.ofNat 1))))
                      SA.nil)))))] },
    {
      pc :=
        [SB.not (SB.eq (SI.sel (SL.v 0) (SI.v 0) 2) (SI.v 5)),
          SB.not (SB.eq (SI.sel (SL.v 0) (SI.v 0) 3) (SI.c (Int.ofNat 0))),
          SB.eq (SI.sel (SL.v 0) (SI.v 0) 2) (SI.c (Int.ofNat 0)),
          SB.eq (SI.sel (SL.v 0) (SI.v 0) 1) (SI.c (Int.ofNat 0)),
          SB.eq (SI.sel (SL.v 0) (SI.v 0) 0) (SI.c (Int.ofNat 0)), SB.not (SB.le (SI.len (SL.v 0)) (SI.v 0)),
          SB.not (SB.lt (SI.v 0) (SI.c (Int.ofNat 0))), SB.not (SB.v 0), SB.le (SI.c (Int.ofNat 1)) (SI.len (SL.v 0)),
          SB.le (SI.len (SL.v 0)) (SI.c (Int.ofNat 64)), SB.c true,
          SB.and (SB.c true) (SB.or (SB.v 0) (SB.not (SB.v 0)))],
      eqs :=
        [Eqn.T
            (SB.eq
              (SI.len (SL.app 112 (SA.l (SL.v 0) (SA.i (SI.v 0) (SA.i (SI.v 5) (SA.i (SI.c (Int.ofNat 0)) SA.nil))))))
              (SI.len (SL.v 0))),
          Eqn.I (SI.app 112 (SA.l (SL.v 0) (SA.i (SI.v 0) (SA.i (SI.v 5) (SA.i (SI.c (Int.ofNat 0)) SA.nil)))))
            (SI.c (Int.ofNat 7)),
          Eqn.I (SI.len (SL.app 112 (SA.l (SL.v 0) (SA.i (SI.v 0) (SA.i (SI.v 5) (SA.i (SI.c (Int.ofNat 0)) SA.nil))))))
            (SI.len (SL.v 0)),
          Eqn.L (SL.app 112 (SA.l (SL.v 0) (SA.i (SI.v 0) (SA.i (SI.v 5) (SA.i (SI.c (Int.ofNat 0)) SA.nil)))))
            (SL.v 0)] },
    {
      pc :=
        [SB.eq (SI.sel (SL.v 0) (SI.v 0) 4) (SI.c (Int.ofNat 1000)), SB.eq (SI.sel (SL.v 0) (SI.v 0) 2) (SI.v 5),
          SB.not (SB.eq (SI.sel (SL.v 0) (SI.v 0) 2) (SI.c (Int.ofNat 0))),
          SB.eq (SI.sel (SL.v 0) (SI.v 0) 1) (SI.c (Int.ofNat 0)),
          SB.eq (SI.sel (SL.v 0) (SI.v 0) 0) (SI.c (Int.ofNat 0)), SB.not (SB.le (SI.len (SL.v 0)) (SI.v 0)),
          SB.not (SB.lt (SI.v 0) (SI.c (Int.ofNat 0))), SB.not (SB.v 0), SB.le (SI.c (Int.ofNat 1)) (SI.len (SL.v 0)),
          SB.le (SI.len (SL.v 0)) (SI.c (Int.ofNat 64)), SB.c true,
          SB.and (SB.c true) (SB.or (SB.v 0) (SB.not (SB.v 0)))],
      eqs :=
        [Eqn.T
            (SB.eq
              (SI.len (SL.app 112 (SA.l (SL.v 0) (SA.i (SI.v 0) (SA.i (SI.v 5) (SA.i (SI.c (Int.ofNat 0)) SA.nil))))))
              (SI.len (SL.v 0))),
          Eqn.I (SI.app 112 (SA.l (SL.v 0) (SA.i (SI.v 0) (SA.i (SI.v 5) (SA.i (SI.c (Int.ofNat 0)) SA.nil)))))
            (SI.c (Int.ofNat 3)),
          Eqn.I (SI.len (SL.app 112 (SA.l (SL.v 0) (SA.i (SI.v 0) (SA.i (SI.v 5) (SA.i (SI.c (Int.ofNat 0)) SA.nil))))))
            (SI.len (SL.v 0)),
          Eqn.L (SL.app 112 (SA.l (SL.v 0) (SA.i (SI.v 0) (SA.i (SI.v 5) (SA.i (SI.c (Int.ofNat 0)) SA.nil)))))
            (SL.v 0)] },
    {
      pc :=
        [SB.not (SB.eq (SI.sel (SL.v 0) (SI.v 0) 4) (SI.c (Int.ofNat 1000))),
          SB.eq (SI.sel (SL.v 0) (SI.v 0) 2) (SI.v 5), SB.not (SB.eq (SI.sel (SL.v 0) (SI.v 0) 2) (SI.c (Int.ofNat 0))),
          SB.eq (SI.sel (SL.v 0) (SI.v 0) 1) (SI.c (Int.ofNat 0)),
          SB.eq (SI.sel (SL.v 0) (SI.v 0) 0) (SI.c (Int.ofNat 0)), SB.not (SB.le (SI.len (SL.v 0)) (SI.v 0)),
          SB.not (SB.lt (SI.v 0) (SI.c (Int.ofNat 0))), SB.not (SB.v 0), SB.le (SI.c (Int.ofNat 1)) (SI.len (SL.v 0)),
          SB.le (SI.len (SL.v 0)) (SI.c (Int.ofNat 64)), SB.c true,
          SB.and (SB.c true) (SB.or (SB.v 0) (SB.not (SB.v 0)))],
      eqs :=
        [Eqn.T
            (SB.eq
              (SI.len (SL.app 112 (SA.l (SL.v 0) (SA.i (SI.v 0) (SA.i (SI.v 5) (SA.i (SI.c (Int.ofNat 0)) SA.nil))))))
              (SI.len (SL.v 0))),
          Eqn.I (SI.app 112 (SA.l (SL.v 0) (SA.i (SI.v 0) (SA.i (SI.v 5) (SA.i (SI.c (Int.ofNat 0)) SA.nil)))))
            (SI.c (Int.ofNat 0)),
          Eqn.I (SI.len (SL.app 112 (SA.l (SL.v 0) (SA.i (SI.v 0) (SA.i (SI.v 5) (SA.i (SI.c (Int.ofNat 0)) SA.nil))))))
            (SI.len (SL.v 0)),
          Eqn.L (SL.app 112 (SA.l (SL.v 0) (SA.i (SI.v 0) (SA.i (SI.v 5) (SA.i (SI.c (Int.ofNat 0)) SA.nil)))))
            (SL.app 4
              (SA.l (SL.v 0)
                (SA.i (SI.v 0)
                  (SA.i (SI.c (Int.ofNat 4))
                    (SA.i (SI.wrap IntKind.i64 (SI.add (SI.sel (SL.v 0) (SI.v 0) 4) (SI.c (Int.ofNat 1))))
                      SA.nil)))))] },
    {
      pc :=
        [SB.not (SB.eq (SI.sel (SL.v 0) (SI.v 0) 2) (SI.v 5)),
          SB.not (SB.eq (SI.sel (SL.v 0) (SI.v 0) 2) (SI.c (Int.ofNat 0))),
          SB.eq (SI.sel (SL.v 0) (SI.v 0) 1) (SI.c (Int.ofNat 0)),
          SB.eq (SI.sel (SL.v 0) (SI.v 0) 0) (SI.c (Int.ofNat 0)), SB.not (SB.le (SI.len (SL.v 0)) (SI.v 0)),
          SB.not (SB.lt (SI.v 0) (SI.c (Int.ofNat 0))), SB.not (SB.v 0), SB.le (SI.c (Int.ofNat 1)) (SI.len (SL.v 0)),
          SB.le (SI.len (SL.v 0)) (SI.c (Int.ofNat 64)), SB.c true,
          SB.and (SB.c true) (SB.or (SB.v 0) (SB.not (SB.v 0)))],
      eqs :=
        [Eqn.T
            (SB.eq
              (SI.len (SL.app 112 (SA.l (SL.v 0) (SA.i (SI.v 0) (SA.i (SI.v 5) (SA.i (SI.c (Int.ofNat 0)) SA.nil))))))
              (SI.len (SL.v 0))),
          Eqn.I (SI.app 112 (SA.l (SL.v 0) (SA.i (SI.v 0) (SA.i (SI.v 5) (SA.i (SI.c (Int.ofNat 0)) SA.nil)))))
            (SI.c (Int.ofNat 7)),
          Eqn.I (SI.len (SL.app 112 (SA.l (SL.v 0) (SA.i (SI.v 0) (SA.i (SI.v 5) (SA.i (SI.c (Int.ofNat 0)) SA.nil))))))
            (SI.len (SL.v 0)),
          Eqn.L (SL.app 112 (SA.l (SL.v 0) (SA.i (SI.v 0) (SA.i (SI.v 5) (SA.i (SI.c (Int.ofNat 0)) SA.nil)))))
            (SL.v 0)] },
    {
      pc :=
        [SB.eq (SI.sel (SL.v 0) (SI.v 0) 4) (SI.c (Int.ofNat 1000)), SB.eq (SI.sel (SL.v 0) (SI.v 0) 2) (SI.v 5),
          SB.not (SB.eq (SI.sel (SL.v 0) (SI.v 0) 1) (SI.c (Int.ofNat 0))),
          SB.eq (SI.sel (SL.v 0) (SI.v 0) 0) (SI.c (Int.ofNat 0)), SB.not (SB.le (SI.len (SL.v 0)) (SI.v 0)),
          SB.not (SB.lt (SI.v 0) (SI.c (Int.ofNat 0))), SB.not (SB.v 0), SB.le (SI.c (Int.ofNat 1)) (SI.len (SL.v 0)),
          SB.le (SI.len (SL.v 0)) (SI.c (Int.ofNat 64)), SB.c true,
          SB.and (SB.c true) (SB.or (SB.v 0) (SB.not (SB.v 0)))],
      eqs :=
        [Eqn.T
            (SB.eq
              (SI.len (SL.app 112 (SA.l (SL.v 0) (SA.i (SI.v 0) (SA.i (SI.v 5) (SA.i (SI.c (Int.ofNat 0)) SA.nil))))))
              (SI.len (SL.v 0))),
          Eqn.I (SI.app 112 (SA.l (SL.v 0) (SA.i (SI.v 0) (SA.i (SI.v 5) (SA.i (SI.c (Int.ofNat 0)) SA.nil)))))
            (SI.c (Int.ofNat 3)),
          Eqn.I (SI.len (SL.app 112 (SA.l (SL.v 0) (SA.i (SI.v 0) (SA.i (SI.v 5) (SA.i (SI.c (Int.ofNat 0)) SA.nil))))))
            (SI.len (SL.v 0)),
          Eqn.L (SL.app 112 (SA.l (SL.v 0) (SA.i (SI.v 0) (SA.i (SI.v 5) (SA.i (SI.c (Int.ofNat 0)) SA.nil)))))
            (SL.v 0)] },
    {
      pc :=
        [SB.not (SB.eq (SI.sel (SL.v 0) (SI.v 0) 4) (SI.c (Int.ofNat 1000))),
          SB.eq (SI.sel (SL.v 0) (SI.v 0) 2) (SI.v 5), SB.not (SB.eq (SI.sel (SL.v 0) (SI.v 0) 1) (SI.c (Int.ofNat 0))),
          SB.eq (SI.sel (SL.v 0) (SI.v 0) 0) (SI.c (Int.ofNat 0)), SB.not (SB.le (SI.len (SL.v 0)) (SI.v 0)),
          SB.not (SB.lt (SI.v 0) (SI.c (Int.ofNat 0))), SB.not (SB.v 0), SB.le (SI.c (Int.ofNat 1)) (SI.len (SL.v 0)),
          SB.le (SI.len (SL.v 0)) (SI.c (Int.ofNat 64)), SB.c true,
          SB.and (SB.c true) (SB.or (SB.v 0) (SB.not (SB.v 0)))],
      eqs :=
        [Eqn.T
            (SB.eq
              (SI.len (SL.app 112 (SA.l (SL.v 0) (SA.i (SI.v 0) (SA.i (SI.v 5) (SA.i (SI.c (Int.ofNat 0)) SA.nil))))))
              (SI.len (SL.v 0))),
          Eqn.I (SI.app 112 (SA.l (SL.v 0) (SA.i (SI.v 0) (SA.i (SI.v 5) (SA.i (SI.c (Int.ofNat 0)) SA.nil)))))
            (SI.c (Int.ofNat 0)),
          Eqn.I (SI.len (SL.app 112 (SA.l (SL.v 0) (SA.i (SI.v 0) (SA.i (SI.v 5) (SA.i (SI.c (Int.ofNat 0)) SA.nil))))))
            (SI.len (SL.v 0)),
          Eqn.L (SL.app 112 (SA.l (SL.v 0) (SA.i (SI.v 0) (SA.i (SI.v 5) (SA.i (SI.c (Int.ofNat 0)) SA.nil)))))
            (SL.app 4
              (SA.l (SL.v 0)
                (SA.i (SI.v 0)
                  (SA.i (SI.c (Int.ofNat 4))
                    (SA.i (SI.wrap IntKind.i64 (SI.add (SI.sel (SL.v 0) (SI.v 0) 4) (SI.c (Int.ofNat 1))))
                      SA.nil)))))] },
    {
      pc :=
        [SB.not (SB.eq (SI.sel (SL.v 0) (SI.v 0) 2) (SI.v 5)),
          SB.not (SB.eq (SI.sel (SL.v 0) (SI.v 0) 1) (SI.c (Int.ofNat 0))),
          SB.eq (SI.sel (SL.v 0) (SI.v 0) 0) (SI.c (Int.ofNat 0)), SB.not (SB.le (SI.len (SL.v 0)) (SI.v 0)),
          SB.not (SB.lt (SI.v 0) (SI.c (Int.ofNat 0))), SB.not (SB.v 0), SB.le (SI.c (Int.ofNat 1)) (SI.len (SL.v 0)),
          SB.le (SI.len (SL.v 0)) (SI.c (Int.ofNat 64)), SB.c true,
          SB.and (SB.c true) (SB.or (SB.v 0) (SB.not (SB.v 0)))],
      eqs :=
        [Eqn.T
            (SB.eq
              (SI.len (SL.app 112 (SA.l (SL.v 0) (SA.i (SI.v 0) (SA.i (SI.v 5) (SA.i (SI.c (Int.ofNat 0)) SA.nil))))))
              (SI.len (SL.v 0))),
          Eqn.I (SI.app 112 (SA.l (SL.v 0) (SA.i (SI.v 0) (SA.i (SI.v 5) (SA.i (SI.c (Int.ofNat 0)) SA.nil)))))
            (SI.c (Int.ofNat 7)),
          Eqn.I (SI.len (SL.app 112 (SA.l (SL.v 0) (SA.i (SI.v 0) (SA.i (SI.v 5) (SA.i (SI.c (Int.ofNat 0)) SA.nil))))))
            (SI.len (SL.v 0)),
          Eqn.L (SL.app 112 (SA.l (SL.v 0) (SA.i (SI.v 0) (SA.i (SI.v 5) (SA.i (SI.c (Int.ofNat 0)) SA.nil)))))
            (SL.v 0)] },
    {
      pc :=
        [SB.eq (SI.sel (SL.v 0) (SI.v 0) 4) (SI.c (Int.ofNat 1000)), SB.eq (SI.sel (SL.v 0) (SI.v 0) 2) (SI.v 5),
          SB.not (SB.eq (SI.sel (SL.v 0) (SI.v 0) 0) (SI.c (Int.ofNat 0))), SB.not (SB.le (SI.len (SL.v 0)) (SI.v 0)),
          SB.not (SB.lt (SI.v 0) (SI.c (Int.ofNat 0))), SB.not (SB.v 0), SB.le (SI.c (Int.ofNat 1)) (SI.len (SL.v 0)),
          SB.le (SI.len (SL.v 0)) (SI.c (Int.ofNat 64)), SB.c true,
          SB.and (SB.c true) (SB.or (SB.v 0) (SB.not (SB.v 0)))],
      eqs :=
        [Eqn.T
            (SB.eq
              (SI.len (SL.app 112 (SA.l (SL.v 0) (SA.i (SI.v 0) (SA.i (SI.v 5) (SA.i (SI.c (Int.ofNat 0)) SA.nil))))))
              (SI.len (SL.v 0))),
          Eqn.I (SI.app 112 (SA.l (SL.v 0) (SA.i (SI.v 0) (SA.i (SI.v 5) (SA.i (SI.c (Int.ofNat 0)) SA.nil)))))
            (SI.c (Int.ofNat 3)),
          Eqn.I (SI.len (SL.app 112 (SA.l (SL.v 0) (SA.i (SI.v 0) (SA.i (SI.v 5) (SA.i (SI.c (Int.ofNat 0)) SA.nil))))))
            (SI.len (SL.v 0)),
          Eqn.L (SL.app 112 (SA.l (SL.v 0) (SA.i (SI.v 0) (SA.i (SI.v 5) (SA.i (SI.c (Int.ofNat 0)) SA.nil)))))
            (SL.v 0)] },
    {
      pc :=
        [SB.not (SB.eq (SI.sel (SL.v 0) (SI.v 0) 4) (SI.c (Int.ofNat 1000))),
          SB.eq (SI.sel (SL.v 0) (SI.v 0) 2) (SI.v 5), SB.not (SB.eq (SI.sel (SL.v 0) (SI.v 0) 0) (SI.c (Int.ofNat 0))),
          SB.not (SB.le (SI.len (SL.v 0)) (SI.v 0)), SB.not (SB.lt (SI.v 0) (SI.c (Int.ofNat 0))), SB.not (SB.v 0),
          SB.le (SI.c (Int.ofNat 1)) (SI.len (SL.v 0)), SB.le (SI.len (SL.v 0)) (SI.c (Int.ofNat 64)), SB.c true,
          SB.and (SB.c true) (SB.or (SB.v 0) (SB.not (SB.v 0)))],
      eqs :=
        [Eqn.T
            (SB.eq
              (SI.len (SL.app 112 (SA.l (SL.v 0) (SA.i (SI.v 0) (SA.i (SI.v 5) (SA.i (SI.c (Int.ofNat 0)) SA.nil))))))
              (SI.len (SL.v 0))),
          Eqn.I (SI.app 112 (SA.l (SL.v 0) (SA.i (SI.v 0) (SA.i (SI.v 5) (SA.i (SI.c (Int.ofNat 0)) SA.nil)))))
            (SI.c (Int.ofNat 0)),
          Eqn.I (SI.len (SL.app 112 (SA.l (SL.v 0) (SA.i (SI.v 0) (SA.i (SI.v 5) (SA.i (SI.c (Int.ofNat 0)) SA.nil))))))
            (SI.len (SL.v 0)),
          Eqn.L (SL.app 112 (SA.l (SL.v 0) (SA.i (SI.v 0) (SA.i (SI.v 5) (SA.i (SI.c (Int.ofNat 0)) SA.nil)))))
            (SL.app 4
              (SA.l (SL.v 0)
                (SA.i (SI.v 0)
                  (SA.i (SI.c (Int.ofNat 4))
                    (SA.i (SI.wrap IntKind.i64 (SI.add (SI.sel (SL.v 0) (SI.v 0) 4) (SI.c (Int.ofNat 1))))
                      SA.nil)))))] },
    {
      pc :=
        [SB.not (SB.eq (SI.sel (SL.v 0) (SI.v 0) 2) (SI.v 5)),
          SB.not (SB.eq (SI.sel (SL.v 0) (SI.v 0) 0) (SI.c (Int.ofNat 0))), SB.not (SB.le (SI.len (SL.v 0)) (SI.v 0)),
          SB.not (SB.lt (SI.v 0) (SI.c (Int.ofNat 0))), SB.not (SB.v 0), SB.le (SI.c (Int.ofNat 1)) (SI.len (SL.v 0)),
          SB.le (SI.len (SL.v 0)) (SI.c (Int.ofNat 64)), SB.c true,
          SB.and (SB.c true) (SB.or (SB.v 0) (SB.not (SB.v 0)))],
      eqs :=
        [Eqn.T
            (SB.eq
              (SI.len (SL.app 112 (SA.l (SL.v 0) (SA.i (SI.v 0) (SA.i (SI.v 5) (SA.i (SI.c (Int.ofNat 0)) SA.nil))))))
              (SI.len (SL.v 0))),
          Eqn.I (SI.app 112 (SA.l (SL.v 0) (SA.i (SI.v 0) (SA.i (SI.v 5) (SA.i (SI.c (Int.ofNat 0)) SA.nil)))))
            (SI.c (Int.ofNat 7)),
          Eqn.I (SI.len (SL.app 112 (SA.l (SL.v 0) (SA.i (SI.v 0) (SA.i (SI.v 5) (SA.i (SI.c (Int.ofNat 0)) SA.nil))))))
            (SI.len (SL.v 0)),
          Eqn.L (SL.app 112 (SA.l (SL.v 0) (SA.i (SI.v 0) (SA.i (SI.v 5) (SA.i (SI.c (Int.ofNat 0)) SA.nil)))))
            (SL.v 0)] }] := by kernel_rfl
theorem cTake_ok : cTake.ok Φ Try.prog := by
  refine call_rule (fun ρ => t2_ok ρ) cTake_obs ?_
  simp only [and_imp, List.forall_mem_cons, List.not_mem_nil, false_implies, implies_true, and_true, Ob.ok, holds, Eqn.ok, evB_eq, evB_lt, evB_le, evB_not, evB_and, evB_or, evB_eqL, evB_app, evB_v, evB_c, ev_sel, ev_len, ev_v, ev_c, ev_add, ev_sub, ev_mul, ev_quo, ev_rem, ev_bits, ev_wrap, evL_v, evL_lit, evL_app, ev_app, evA_l, evA_i, evA_nil, std_min, std_max, std_cat, std_take, std_drop, std_row, std_set, std_rep, std_find, std_put, std_del, std_flag, std_unflag, std_clr, std_left, std_copy, ints_cons, ints_nil, ofNat_lit, negSucc_lit, decide_eq_true_eq, Bool.and_eq_true, Bool.or_eq_true, Bool.not_eq_true', Bool.and_eq_false_iff, Bool.or_eq_false_iff, decide_eq_false_iff_not, aI110, aI111, aI112, aI113, aI114, aL100, aL101, aL102, aL103, aL110, aL112, aL113, aL114, aL115, aL116, aB130, aB131, aB132, aB199]
  repeat' apply And.intro
  all_goals intro ρ hR
  all_goals intros
  all_goals first
    | (have hT : ∀ r ∈ ρ.l 0, okRow K5 r := hR.row 1 rfl rfl
       have hl := takT_len (ρ.l 0) (ρ.i 0) (ρ.i 5) 1
       have e := tak_none (T := ρ.l 0) (id := ρ.i 0) (g := ρ.i 5) (w := 1) (none_out (T := ρ.l 0) (id := ρ.i 0) (by omega))
       exact ⟨by omega, e, by omega, tak_no e (by decide)⟩)
    | (have hT : ∀ r ∈ ρ.l 0, okRow K5 r := hR.row 1 rfl rfl
       have hl := takT_len (ρ.l 0) (ρ.i 0) (ρ.i 5) 1
       have e := tak_none (T := ρ.l 0) (id := ρ.i 0) (g := ρ.i 5) (w := 1) (none_z (T := ρ.l 0) (id := ρ.i 0) hT (by omega) (by omega) (by unfold allZ; omega))
       exact ⟨by omega, e, by omega, tak_no e (by decide)⟩)
    | (have hT : ∀ r ∈ ρ.l 0, okRow K5 r := hR.row 1 rfl rfl
       have hl := takT_len (ρ.l 0) (ρ.i 0) (ρ.i 5) 1
       have e := tak_wrong (T := ρ.l 0) (id := ρ.i 0) (g := ρ.i 5) (w := 1) (none_not (T := ρ.l 0) (id := ρ.i 0) hT (by omega) (by omega) (by unfold allZ; omega)) (by omega)
       exact ⟨by omega, e, by omega, tak_no e (by decide)⟩)
    | (have hT : ∀ r ∈ ρ.l 0, okRow K5 r := hR.row 1 rfl rfl
       have hl := takT_len (ρ.l 0) (ρ.i 0) (ρ.i 5) 1
       have e := tak_full (T := ρ.l 0) (id := ρ.i 0) (g := ρ.i 5) (w := 1) (none_not (T := ρ.l 0) (id := ρ.i 0) hT (by omega) (by omega) (by unfold allZ; omega)) (by omega) (by omega)
       exact ⟨by omega, e, by omega, tak_no e (by decide)⟩)
    | (have hT : ∀ r ∈ ρ.l 0, okRow K5 r := hR.row 1 rfl rfl
       have hl := takT_len (ρ.l 0) (ρ.i 0) (ρ.i 5) 1
       have e := tak_ok (T := ρ.l 0) (id := ρ.i 0) (g := ρ.i 5) (w := 1) (none_not (T := ρ.l 0) (id := ρ.i 0) hT (by omega) (by omega) (by unfold allZ; omega)) (by omega) (by omega)
       exact ⟨by omega, e.1, by omega, e.2⟩)
    | (have hT : ∀ r ∈ ρ.l 0, okRow K5 r := hR.row 1 rfl rfl
       have hl := takT_len (ρ.l 0) (ρ.i 0) (ρ.i 5) 0
       have e := tak_none (T := ρ.l 0) (id := ρ.i 0) (g := ρ.i 5) (w := 0) (none_out (T := ρ.l 0) (id := ρ.i 0) (by omega))
       exact ⟨by omega, e, by omega, tak_no e (by decide)⟩)
    | (have hT : ∀ r ∈ ρ.l 0, okRow K5 r := hR.row 1 rfl rfl
       have hl := takT_len (ρ.l 0) (ρ.i 0) (ρ.i 5) 0
       have e := tak_none (T := ρ.l 0) (id := ρ.i 0) (g := ρ.i 5) (w := 0) (none_z (T := ρ.l 0) (id := ρ.i 0) hT (by omega) (by omega) (by unfold allZ; omega))
       exact ⟨by omega, e, by omega, tak_no e (by decide)⟩)
    | (have hT : ∀ r ∈ ρ.l 0, okRow K5 r := hR.row 1 rfl rfl
       have hl := takT_len (ρ.l 0) (ρ.i 0) (ρ.i 5) 0
       have e := tak_wrong (T := ρ.l 0) (id := ρ.i 0) (g := ρ.i 5) (w := 0) (none_not (T := ρ.l 0) (id := ρ.i 0) hT (by omega) (by omega) (by unfold allZ; omega)) (by omega)
       exact ⟨by omega, e, by omega, tak_no e (by decide)⟩)
    | (have hT : ∀ r ∈ ρ.l 0, okRow K5 r := hR.row 1 rfl rfl
       have hl := takT_len (ρ.l 0) (ρ.i 0) (ρ.i 5) 0
       have e := tak_full (T := ρ.l 0) (id := ρ.i 0) (g := ρ.i 5) (w := 0) (none_not (T := ρ.l 0) (id := ρ.i 0) hT (by omega) (by omega) (by unfold allZ; omega)) (by omega) (by omega)
       exact ⟨by omega, e, by omega, tak_no e (by decide)⟩)
    | (have hT : ∀ r ∈ ρ.l 0, okRow K5 r := hR.row 1 rfl rfl
       have hl := takT_len (ρ.l 0) (ρ.i 0) (ρ.i 5) 0
       have e := tak_ok (T := ρ.l 0) (id := ρ.i 0) (g := ρ.i 5) (w := 0) (none_not (T := ρ.l 0) (id := ρ.i 0) hT (by omega) (by omega) (by unfold allZ; omega)) (by omega) (by omega)
       exact ⟨by omega, e.1, by omega, e.2⟩)
set_option maxRecDepth 100000 in
theorem cBack_obs : callObs Φ Try.prog t2 1000 cBack.f cBack.vs cBack.o cBack.pc cBack.outs = some
  [{
      pc :=
        [SB.lt (SI.v 0) (SI.c (Int.ofNat 0)), SB.le (SI.c (Int.ofNat 1)) (SI.len (SL.v 0)),
          SB.le (SI.len (SL.v 0)) (SI.c (Int.ofNat 64))],
      eqs :=
        [Eqn.T (SB.eq (SI.len (SL.app 113 (SA.l (SL.v 0) (SA.i (SI.v 0) (SA.i (SI.v 5) SA.nil))))) (SI.len (SL.v 0))),
          Eqn.I (SI.app 113 (SA.l (SL.v 0) (SA.i (SI.v 0) (SA.i (SI.v 5) SA.nil)))) (SI.c (Int.ofNat 4)),
          Eqn.I (SI.len (SL.app 113 (SA.l (SL.v 0) (SA.i (SI.v 0) (SA.i (SI.v 5) SA.nil))))) (SI.len (SL.v 0)),
          Eqn.L (SL.app 113 (SA.l (SL.v 0) (SA.i (SI.v 0) (SA.i (SI.v 5) SA.nil)))) (SL.v 0)] },
    {
      pc :=
        [SB.le (SI.len (SL.v 0)) (SI.v 0), SB.not (SB.lt (SI.v 0) (SI.c (Int.ofNat 0))),
          SB.le (SI.c (Int.ofNat 1)) (SI.len (SL.v 0)), SB.le (SI.len (SL.v 0)) (SI.c (Int.ofNat 64))],
      eqs :=
        [Eqn.T (SB.eq (SI.len (SL.app 113 (SA.l (SL.v 0) (SA.i (SI.v 0) (SA.i (SI.v 5) SA.nil))))) (SI.len (SL.v 0))),
          Eqn.I (SI.app 113 (SA.l (SL.v 0) (SA.i (SI.v 0) (SA.i (SI.v 5) SA.nil)))) (SI.c (Int.ofNat 4)),
          Eqn.I (SI.len (SL.app 113 (SA.l (SL.v 0) (SA.i (SI.v 0) (SA.i (SI.v 5) SA.nil))))) (SI.len (SL.v 0)),
          Eqn.L (SL.app 113 (SA.l (SL.v 0) (SA.i (SI.v 0) (SA.i (SI.v 5) SA.nil)))) (SL.v 0)] },
    {
      pc :=
        [SB.eq (SI.sel (SL.v 0) (SI.v 0) 4) (SI.c (Int.ofNat 0)),
          SB.eq (SI.sel (SL.v 0) (SI.v 0) 3) (SI.c (Int.ofNat 0)),
          SB.eq (SI.sel (SL.v 0) (SI.v 0) 2) (SI.c (Int.ofNat 0)),
          SB.eq (SI.sel (SL.v 0) (SI.v 0) 1) (SI.c (Int.ofNat 0)),
          SB.eq (SI.sel (SL.v 0) (SI.v 0) 0) (SI.c (Int.ofNat 0)), SB.not (SB.le (SI.len (SL.v 0)) (SI.v 0)),
          SB.not (SB.lt (SI.v 0) (SI.c (Int.ofNat 0))), SB.le (SI.c (Int.ofNat 1)) (SI.len (SL.v 0)),
          SB.le (SI.len (SL.v 0)) (SI.c (Int.ofNat 64))],
      eqs :=
        [Eqn.T (SB.eq (SI.len (SL.app 113 (SA.l (SL.v 0) (SA.i (SI.v 0) (SA.i (SI.v 5) SA.nil))))) (SI.len (SL.v 0))),
          Eqn.I (SI.app 113 (SA.l (SL.v 0) (SA.i (SI.v 0) (SA.i (SI.v 5) SA.nil)))) (SI.c (Int.ofNat 4)),
          Eqn.I (SI.len (SL.app 113 (SA.l (SL.v 0) (SA.i (SI.v 0) (SA.i (SI.v 5) SA.nil))))) (SI.len (SL.v 0)),
          Eqn.L (SL.app 113 (SA.l (SL.v 0) (SA.i (SI.v 0) (SA.i (SI.v 5) SA.nil)))) (SL.v 0)] },
    {
      pc :=
        [SB.eq (SI.sel (SL.v 0) (SI.v 0) 2) (SI.v 5), SB.not (SB.eq (SI.sel (SL.v 0) (SI.v 0) 4) (SI.c (Int.ofNat 0))),
          SB.eq (SI.sel (SL.v 0) (SI.v 0) 3) (SI.c (Int.ofNat 0)),
          SB.eq (SI.sel (SL.v 0) (SI.v 0) 2) (SI.c (Int.ofNat 0)),
          SB.eq (SI.sel (SL.v 0) (SI.v 0) 1) (SI.c (Int.ofNat 0)),
          SB.eq (SI.sel (SL.v 0) (SI.v 0) 0) (SI.c (Int.ofNat 0)), SB.not (SB.le (SI.len (SL.v 0)) (SI.v 0)),
          SB.not (SB.lt (SI.v 0) (SI.c (Int.ofNat 0))), SB.le (SI.c (Int.ofNat 1)) (SI.len (SL.v 0)),
          SB.le (SI.len (SL.v 0)) (SI.c (Int.ofNat 64))],
      eqs :=
        [Eqn.T (SB.eq (SI.len (SL.app 113 (SA.l (SL.v 0) (SA.i (SI.v 0) (SA.i (SI.v 5) SA.nil))))) (SI.len (SL.v 0))),
          Eqn.I (SI.app 113 (SA.l (SL.v 0) (SA.i (SI.v 0) (SA.i (SI.v 5) SA.nil)))) (SI.c (Int.ofNat 0)),
          Eqn.I (SI.len (SL.app 113 (SA.l (SL.v 0) (SA.i (SI.v 0) (SA.i (SI.v 5) SA.nil))))) (SI.len (SL.v 0)),
          Eqn.L (SL.app 113 (SA.l (SL.v 0) (SA.i (SI.v 0) (SA.i (SI.v 5) SA.nil))))
            (SL.app 4
              (SA.l (SL.v 0)
                (SA.i (SI.v 0)
                  (SA.i (SI.c (Int.ofNat 4))
                    (SA.i (SI.wrap IntKind.i64 (SI.sub (SI.sel (SL.v 0) (SI.v 0) 4) (SI.c (Int.ofNat 1))))
                      SA.nil)))))] },
    {
      pc :=
        [SB.not (SB.eq (SI.sel (SL.v 0) (SI.v 0) 2) (SI.v 5)),
          SB.not (SB.eq (SI.sel (SL.v 0) (SI.v 0) 4) (SI.c (Int.ofNat 0))),
          SB.eq (SI.sel (SL.v 0) (SI.v 0) 3) (SI.c (Int.ofNat 0)),
          SB.eq (SI.sel (SL.v 0) (SI.v 0) 2) (SI.c (Int.ofNat 0)),
          SB.eq (SI.sel (SL.v 0) (SI.v 0) 1) (SI.c (Int.ofNat 0)),
          SB.eq (SI.sel (SL.v 0) (SI.v 0) 0) (SI.c (Int.ofNat 0)), SB.not (SB.le (SI.len (SL.v 0)) (SI.v 0)),
          SB.not (SB.lt (SI.v 0) (SI.c (Int.ofNat 0))), SB.le (SI.c (Int.ofNat 1)) (SI.len (SL.v 0)),
          SB.le (SI.len (SL.v 0)) (SI.c (Int.ofNat 64))],
      eqs :=
        [Eqn.T (SB.eq (SI.len (SL.app 113 (SA.l (SL.v 0) (SA.i (SI.v 0) (SA.i (SI.v 5) SA.nil))))) (SI.len (SL.v 0))),
          Eqn.I (SI.app 113 (SA.l (SL.v 0) (SA.i (SI.v 0) (SA.i (SI.v 5) SA.nil)))) (SI.c (Int.ofNat 7)),
          Eqn.I (SI.len (SL.app 113 (SA.l (SL.v 0) (SA.i (SI.v 0) (SA.i (SI.v 5) SA.nil))))) (SI.len (SL.v 0)),
          Eqn.L (SL.app 113 (SA.l (SL.v 0) (SA.i (SI.v 0) (SA.i (SI.v 5) SA.nil)))) (SL.v 0)] },
    {
      pc :=
        [SB.eq (SI.sel (SL.v 0) (SI.v 0) 4) (SI.c (Int.ofNat 0)), SB.eq (SI.sel (SL.v 0) (SI.v 0) 2) (SI.v 5),
          SB.not (SB.eq (SI.sel (SL.v 0) (SI.v 0) 3) (SI.c (Int.ofNat 0))),
          SB.eq (SI.sel (SL.v 0) (SI.v 0) 2) (SI.c (Int.ofNat 0)),
          SB.eq (SI.sel (SL.v 0) (SI.v 0) 1) (SI.c (Int.ofNat 0)),
          SB.eq (SI.sel (SL.v 0) (SI.v 0) 0) (SI.c (Int.ofNat 0)), SB.not (SB.le (SI.len (SL.v 0)) (SI.v 0)),
          SB.not (SB.lt (SI.v 0) (SI.c (Int.ofNat 0))), SB.le (SI.c (Int.ofNat 1)) (SI.len (SL.v 0)),
          SB.le (SI.len (SL.v 0)) (SI.c (Int.ofNat 64))],
      eqs :=
        [Eqn.T (SB.eq (SI.len (SL.app 113 (SA.l (SL.v 0) (SA.i (SI.v 0) (SA.i (SI.v 5) SA.nil))))) (SI.len (SL.v 0))),
          Eqn.I (SI.app 113 (SA.l (SL.v 0) (SA.i (SI.v 0) (SA.i (SI.v 5) SA.nil)))) (SI.c (Int.ofNat 6)),
          Eqn.I (SI.len (SL.app 113 (SA.l (SL.v 0) (SA.i (SI.v 0) (SA.i (SI.v 5) SA.nil))))) (SI.len (SL.v 0)),
          Eqn.L (SL.app 113 (SA.l (SL.v 0) (SA.i (SI.v 0) (SA.i (SI.v 5) SA.nil)))) (SL.v 0)] },
    {
      pc :=
        [SB.not (SB.eq (SI.sel (SL.v 0) (SI.v 0) 4) (SI.c (Int.ofNat 0))), SB.eq (SI.sel (SL.v 0) (SI.v 0) 2) (SI.v 5),
          SB.not (SB.eq (SI.sel (SL.v 0) (SI.v 0) 3) (SI.c (Int.ofNat 0))),
          SB.eq (SI.sel (SL.v 0) (SI.v 0) 2) (SI.c (Int.ofNat 0)),
          SB.eq (SI.sel (SL.v 0) (SI.v 0) 1) (SI.c (Int.ofNat 0)),
          SB.eq (SI.sel (SL.v 0) (SI.v 0) 0) (SI.c (Int.ofNat 0)), SB.not (SB.le (SI.len (SL.v 0)) (SI.v 0)),
          SB.not (SB.lt (SI.v 0) (SI.c (Int.ofNat 0))), SB.le (SI.c (Int.ofNat 1)) (SI.len (SL.v 0)),
          SB.le (SI.len (SL.v 0)) (SI.c (Int.ofNat 64))],
      eqs :=
        [Eqn.T (SB.eq (SI.len (SL.app 113 (SA.l (SL.v 0) (SA.i (SI.v 0) (SA.i (SI.v 5) SA.nil))))) (SI.len (SL.v 0))),
          Eqn.I (SI.app 113 (SA.l (SL.v 0) (SA.i (SI.v 0) (SA.i (SI.v 5) SA.nil)))) (SI.c (Int.ofNat 0)),
          Eqn.I (SI.len (SL.app 113 (SA.l (SL.v 0) (SA.i (SI.v 0) (SA.i (SI.v 5) SA.nil))))) (SI.len (SL.v 0)),
          Eqn.L (SL.app 113 (SA.l (SL.v 0) (SA.i (SI.v 0) (SA.i (SI.v 5) SA.nil))))
            (SL.app 4
              (SA.l (SL.v 0)
                (SA.i (SI.v 0)
                  (SA.i (SI.c (Int.ofNat 4))
                    (SA.i (SI.wrap IntKind.i64 (SI.sub (SI.sel (SL.v 0) (SI.v 0) 4) (SI.c (Int.ofNat 1))))
                      SA.nil)))))] },
    {
      pc :=
        [SB.not (SB.eq (SI.sel (SL.v 0) (SI.v 0) 2) (SI.v 5)),
          SB.not (SB.eq (SI.sel (SL.v 0) (SI.v 0) 3) (SI.c (Int.ofNat 0))),
          SB.eq (SI.sel (SL.v 0) (SI.v 0) 2) (SI.c (Int.ofNat 0)),
          SB.eq (SI.sel (SL.v 0) (SI.v 0) 1) (SI.c (Int.ofNat 0)),
          SB.eq (SI.sel (SL.v 0) (SI.v 0) 0) (SI.c (Int.ofNat 0)), SB.not (SB.le (SI.len (SL.v 0)) (SI.v 0)),
          SB.not (SB.lt (SI.v 0) (SI.c (Int.ofNat 0))), SB.le (SI.c (Int.ofNat 1)) (SI.len (SL.v 0)),
          SB.le (SI.len (SL.v 0)) (SI.c (Int.ofNat 64))],
      eqs :=
        [Eqn.T (SB.eq (SI.len (SL.app 113 (SA.l (SL.v 0) (SA.i (SI.v 0) (SA.i (SI.v 5) SA.nil))))) (SI.len (SL.v 0))),
          Eqn.I (SI.app 113 (SA.l (SL.v 0) (SA.i (SI.v 0) (SA.i (SI.v 5) SA.nil)))) (SI.c (Int.ofNat 7)),
          Eqn.I (SI.len (SL.app 113 (SA.l (SL.v 0) (SA.i (SI.v 0) (SA.i (SI.v 5) SA.nil))))) (SI.len (SL.v 0)),
          Eqn.L (SL.app 113 (SA.l (SL.v 0) (SA.i (SI.v 0) (SA.i (SI.v 5) SA.nil)))) (SL.v 0)] },
    {
      pc :=
        [SB.eq (SI.sel (SL.v 0) (SI.v 0) 4) (SI.c (Int.ofNat 0)), SB.eq (SI.sel (SL.v 0) (SI.v 0) 2) (SI.v 5),
          SB.not (SB.eq (SI.sel (SL.v 0) (SI.v 0) 2) (SI.c (Int.ofNat 0))),
          SB.eq (SI.sel (SL.v 0) (SI.v 0) 1) (SI.c (Int.ofNat 0)),
          SB.eq (SI.sel (SL.v 0) (SI.v 0) 0) (SI.c (Int.ofNat 0)), SB.not (SB.le (SI.len (SL.v 0)) (SI.v 0)),
          SB.not (SB.lt (SI.v 0) (SI.c (Int.ofNat 0))), SB.le (SI.c (Int.ofNat 1)) (SI.len (SL.v 0)),
          SB.le (SI.len (SL.v 0)) (SI.c (Int.ofNat 64))],
      eqs :=
        [Eqn.T (SB.eq (SI.len (SL.app 113 (SA.l (SL.v 0) (SA.i (SI.v 0) (SA.i (SI.v 5) SA.nil))))) (SI.len (SL.v 0))),
          Eqn.I (SI.app 113 (SA.l (SL.v 0) (SA.i (SI.v 0) (SA.i (SI.v 5) SA.nil)))) (SI.c (Int.ofNat 6)),
          Eqn.I (SI.len (SL.app 113 (SA.l (SL.v 0) (SA.i (SI.v 0) (SA.i (SI.v 5) SA.nil))))) (SI.len (SL.v 0)),
          Eqn.L (SL.app 113 (SA.l (SL.v 0) (SA.i (SI.v 0) (SA.i (SI.v 5) SA.nil)))) (SL.v 0)] },
    {
      pc :=
        [SB.not (SB.eq (SI.sel (SL.v 0) (SI.v 0) 4) (SI.c (Int.ofNat 0))), SB.eq (SI.sel (SL.v 0) (SI.v 0) 2) (SI.v 5),
          SB.not (SB.eq (SI.sel (SL.v 0) (SI.v 0) 2) (SI.c (Int.ofNat 0))),
          SB.eq (SI.sel (SL.v 0) (SI.v 0) 1) (SI.c (Int.ofNat 0)),
          SB.eq (SI.sel (SL.v 0) (SI.v 0) 0) (SI.c (Int.ofNat 0)), SB.not (SB.le (SI.len (SL.v 0)) (SI.v 0)),
          SB.not (SB.lt (SI.v 0) (SI.c (Int.ofNat 0))), SB.le (SI.c (Int.ofNat 1)) (SI.len (SL.v 0)),
          SB.le (SI.len (SL.v 0)) (SI.c (Int.ofNat 64))],
      eqs :=
        [Eqn.T (SB.eq (SI.len (SL.app 113 (SA.l (SL.v 0) (SA.i (SI.v 0) (SA.i (SI.v 5) SA.nil))))) (SI.len (SL.v 0))),
          Eqn.I (SI.app 113 (SA.l (SL.v 0) (SA.i (SI.v 0) (SA.i (SI.v 5) SA.nil)))) (SI.c (Int.ofNat 0)),
          Eqn.I (SI.len (SL.app 113 (SA.l (SL.v 0) (SA.i (SI.v 0) (SA.i (SI.v 5) SA.nil))))) (SI.len (SL.v 0)),
          Eqn.L (SL.app 113 (SA.l (SL.v 0) (SA.i (SI.v 0) (SA.i (SI.v 5) SA.nil))))
            (SL.app 4
              (SA.l (SL.v 0)
                (SA.i (SI.v 0)
                  (SA.i (SI.c (Int.ofNat 4))
                    (SA.i (SI.wrap IntKind.i64 (SI.sub (SI.sel (SL.v 0) (SI.v 0) 4) (SI.c (Int.ofNat 1))))
                      SA.nil)))))] },
    {
      pc :=
        [SB.not (SB.eq (SI.sel (SL.v 0) (SI.v 0) 2) (SI.v 5)),
          SB.not (SB.eq (SI.sel (SL.v 0) (SI.v 0) 2) (SI.c (Int.ofNat 0))),
          SB.eq (SI.sel (SL.v 0) (SI.v 0) 1) (SI.c (Int.ofNat 0)),
          SB.eq (SI.sel (SL.v 0) (SI.v 0) 0) (SI.c (Int.ofNat 0)), SB.not (SB.le (SI.len (SL.v 0)) (SI.v 0)),
          SB.not (SB.lt (SI.v 0) (SI.c (Int.ofNat 0))), SB.le (SI.c (Int.ofNat 1)) (SI.len (SL.v 0)),
          SB.le (SI.len (SL.v 0)) (SI.c (Int.ofNat 64))],
      eqs :=
        [Eqn.T (SB.eq (SI.len (SL.app 113 (SA.l (SL.v 0) (SA.i (SI.v 0) (SA.i (SI.v 5) SA.nil))))) (SI.len (SL.v 0))),
          Eqn.I (SI.app 113 (SA.l (SL.v 0) (SA.i (SI.v 0) (SA.i (SI.v 5) SA.nil)))) (SI.c (Int.ofNat 7)),
          Eqn.I (SI.len (SL.app 113 (SA.l (SL.v 0) (SA.i (SI.v 0) (SA.i (SI.v 5) SA.nil))))) (SI.len (SL.v 0)),
          Eqn.L (SL.app 113 (SA.l (SL.v 0) (SA.i (SI.v 0) (SA.i (SI.v 5) SA.nil)))) (SL.v 0)] },
    {
      pc :=
        [SB.eq (SI.sel (SL.v 0) (SI.v 0) 4) (SI.c (Int.ofNat 0)), SB.eq (SI.sel (SL.v 0) (SI.v 0) 2) (SI.v 5),
          SB.not (SB.eq (SI.sel (SL.v 0) (SI.v 0) 1) (SI.c (Int.ofNat 0))),
          SB.eq (SI.sel (SL.v 0) (SI.v 0) 0) (SI.c (Int.ofNat 0)), SB.not (SB.le (SI.len (SL.v 0)) (SI.v 0)),
          SB.not (SB.lt (SI.v 0) (SI.c (Int.ofNat 0))), SB.le (SI.c (Int.ofNat 1)) (SI.len (SL.v 0)),
          SB.le (SI.len (SL.v 0)) (SI.c (Int.ofNat 64))],
      eqs :=
        [Eqn.T (SB.eq (SI.len (SL.app 113 (SA.l (SL.v 0) (SA.i (SI.v 0) (SA.i (SI.v 5) SA.nil))))) (SI.len (SL.v 0))),
          Eqn.I (SI.app 113 (SA.l (SL.v 0) (SA.i (SI.v 0) (SA.i (SI.v 5) SA.nil)))) (SI.c (Int.ofNat 6)),
          Eqn.I (SI.len (SL.app 113 (SA.l (SL.v 0) (SA.i (SI.v 0) (SA.i (SI.v 5) SA.nil))))) (SI.len (SL.v 0)),
          Eqn.L (SL.app 113 (SA.l (SL.v 0) (SA.i (SI.v 0) (SA.i (SI.v 5) SA.nil)))) (SL.v 0)] },
    {
      pc :=
        [SB.not (SB.eq (SI.sel (SL.v 0) (SI.v 0) 4) (SI.c (Int.ofNat 0))), SB.eq (SI.sel (SL.v 0) (SI.v 0) 2) (SI.v 5),
          SB.not (SB.eq (SI.sel (SL.v 0) (SI.v 0) 1) (SI.c (Int.ofNat 0))),
          SB.eq (SI.sel (SL.v 0) (SI.v 0) 0) (SI.c (Int.ofNat 0)), SB.not (SB.le (SI.len (SL.v 0)) (SI.v 0)),
          SB.not (SB.lt (SI.v 0) (SI.c (Int.ofNat 0))), SB.le (SI.c (Int.ofNat 1)) (SI.len (SL.v 0)),
          SB.le (SI.len (SL.v 0)) (SI.c (Int.ofNat 64))],
      eqs :=
        [Eqn.T (SB.eq (SI.len (SL.app 113 (SA.l (SL.v 0) (SA.i (SI.v 0) (SA.i (SI.v 5) SA.nil))))) (SI.len (SL.v 0))),
          Eqn.I (SI.app 113 (SA.l (SL.v 0) (SA.i (SI.v 0) (SA.i (SI.v 5) SA.nil)))) (SI.c (Int.ofNat 0)),
          Eqn.I (SI.len (SL.app 113 (SA.l (SL.v 0) (SA.i (SI.v 0) (SA.i (SI.v 5) SA.nil))))) (SI.len (SL.v 0)),
          Eqn.L (SL.app 113 (SA.l (SL.v 0) (SA.i (SI.v 0) (SA.i (SI.v 5) SA.nil))))
            (SL.app 4
              (SA.l (SL.v 0)
                (SA.i (SI.v 0)
                  (SA.i (SI.c (Int.ofNat 4))
                    (SA.i (SI.wrap IntKind.i64 (SI.sub (SI.sel (SL.v 0) (SI.v 0) 4) (SI.c (Int.ofNat 1))))
                      SA.nil)))))] },
    {
      pc :=
        [SB.not (SB.eq (SI.sel (SL.v 0) (SI.v 0) 2) (SI.v 5)),
          SB.not (SB.eq (SI.sel (SL.v 0) (SI.v 0) 1) (SI.c (Int.ofNat 0))),
          SB.eq (SI.sel (SL.v 0) (SI.v 0) 0) (SI.c (Int.ofNat 0)), SB.not (SB.le (SI.len (SL.v 0)) (SI.v 0)),
          SB.not (SB.lt (SI.v 0) (SI.c (Int.ofNat 0))), SB.le (SI.c (Int.ofNat 1)) (SI.len (SL.v 0)),
          SB.le (SI.len (SL.v 0)) (SI.c (Int.ofNat 64))],
      eqs :=
        [Eqn.T (SB.eq (SI.len (SL.app 113 (SA.l (SL.v 0) (SA.i (SI.v 0) (SA.i (SI.v 5) SA.nil))))) (SI.len (SL.v 0))),
          Eqn.I (SI.app 113 (SA.l (SL.v 0) (SA.i (SI.v 0) (SA.i (SI.v 5) SA.nil)))) (SI.c (Int.ofNat 7)),
          Eqn.I (SI.len (SL.app 113 (SA.l (SL.v 0) (SA.i (SI.v 0) (SA.i (SI.v 5) SA.nil))))) (SI.len (SL.v 0)),
          Eqn.L (SL.app 113 (SA.l (SL.v 0) (SA.i (SI.v 0) (SA.i (SI.v 5) SA.nil)))) (SL.v 0)] },
    {
      pc :=
        [SB.eq (SI.sel (SL.v 0) (SI.v 0) 4) (SI.c (Int.ofNat 0)), SB.eq (SI.sel (SL.v 0) (SI.v 0) 2) (SI.v 5),
          SB.not (SB.eq (SI.sel (SL.v 0) (SI.v 0) 0) (SI.c (Int.ofNat 0))), SB.not (SB.le (SI.len (SL.v 0)) (SI.v 0)),
          SB.not (SB.lt (SI.v 0) (SI.c (Int.ofNat 0))), SB.le (SI.c (Int.ofNat 1)) (SI.len (SL.v 0)),
          SB.le (SI.len (SL.v 0)) (SI.c (Int.ofNat 64))],
      eqs :=
        [Eqn.T (SB.eq (SI.len (SL.app 113 (SA.l (SL.v 0) (SA.i (SI.v 0) (SA.i (SI.v 5) SA.nil))))) (SI.len (SL.v 0))),
          Eqn.I (SI.app 113 (SA.l (SL.v 0) (SA.i (SI.v 0) (SA.i (SI.v 5) SA.nil)))) (SI.c (Int.ofNat 6)),
          Eqn.I (SI.len (SL.app 113 (SA.l (SL.v 0) (SA.i (SI.v 0) (SA.i (SI.v 5) SA.nil))))) (SI.len (SL.v 0)),
          Eqn.L (SL.app 113 (SA.l (SL.v 0) (SA.i (SI.v 0) (SA.i (SI.v 5) SA.nil)))) (SL.v 0)] },
    {
      pc :=
        [SB.not (SB.eq (SI.sel (SL.v 0) (SI.v 0) 4) (SI.c (Int.ofNat 0))), SB.eq (SI.sel (SL.v 0) (SI.v 0) 2) (SI.v 5),
          SB.not (SB.eq (SI.sel (SL.v 0) (SI.v 0) 0) (SI.c (Int.ofNat 0))), SB.not (SB.le (SI.len (SL.v 0)) (SI.v 0)),
          SB.not (SB.lt (SI.v 0) (SI.c (Int.ofNat 0))), SB.le (SI.c (Int.ofNat 1)) (SI.len (SL.v 0)),
          SB.le (SI.len (SL.v 0)) (SI.c (Int.ofNat 64))],
      eqs :=
        [Eqn.T (SB.eq (SI.len (SL.app 113 (SA.l (SL.v 0) (SA.i (SI.v 0) (SA.i (SI.v 5) SA.nil))))) (SI.len (SL.v 0))),
          Eqn.I (SI.app 113 (SA.l (SL.v 0) (SA.i (SI.v 0) (SA.i (SI.v 5) SA.nil)))) (SI.c (Int.ofNat 0)),
          Eqn.I (SI.len (SL.app 113 (SA.l (SL.v 0) (SA.i (SI.v 0) (SA.i (SI.v 5) SA.nil))))) (SI.len (SL.v 0)),
          Eqn.L (SL.app 113 (SA.l (SL.v 0) (SA.i (SI.v 0) (SA.i (SI.v 5) SA.nil))))
            (SL.app 4
              (SA.l (SL.v 0)
                (SA.i (SI.v 0)
                  (SA.i (SI.c (Int.ofNat 4))
                    (SA.i (SI.wrap IntKind.i64 (SI.sub (SI.sel (SL.v 0) (SI.v 0) 4) (SI.c (Int.ofNat 1))))
                      SA.nil)))))] },
    {
      pc :=
        [SB.not (SB.eq (SI.sel (SL.v 0) (SI.v 0) 2) (SI.v 5)),
          SB.not (SB.eq (SI.sel (SL.v 0) (SI.v 0) 0) (SI.c (Int.ofNat 0))), SB.not (SB.le (SI.len (SL.v 0)) (SI.v 0)),
          SB.not (SB.lt (SI.v 0) (SI.c (Int.ofNat 0))), SB.le (SI.c (Int.ofNat 1)) (SI.len (SL.v 0)),
          SB.le (SI.len (SL.v 0)) (SI.c (Int.ofNat 64))],
      eqs :=
        [Eqn.T (SB.eq (SI.len (SL.app 113 (SA.l (SL.v 0) (SA.i (SI.v 0) (SA.i (SI.v 5) SA.nil))))) (SI.len (SL.v 0))),
          Eqn.I (SI.app 113 (SA.l (SL.v 0) (SA.i (SI.v 0) (SA.i (SI.v 5) SA.nil)))) (SI.c (Int.ofNat 7)),
          Eqn.I (SI.len (SL.app 113 (SA.l (SL.v 0) (SA.i (SI.v 0) (SA.i (SI.v 5) SA.nil))))) (SI.len (SL.v 0)),
          Eqn.L (SL.app 113 (SA.l (SL.v 0) (SA.i (SI.v 0) (SA.i (SI.v 5) SA.nil)))) (SL.v 0)] }] := by kernel_rfl
theorem cBack_ok : cBack.ok Φ Try.prog := by
  refine call_rule (fun ρ => t2_ok ρ) cBack_obs ?_
  simp only [and_imp, List.forall_mem_cons, List.not_mem_nil, false_implies, implies_true, and_true, Ob.ok, holds, Eqn.ok, evB_eq, evB_lt, evB_le, evB_not, evB_and, evB_or, evB_eqL, evB_app, evB_v, evB_c, ev_sel, ev_len, ev_v, ev_c, ev_add, ev_sub, ev_mul, ev_quo, ev_rem, ev_bits, ev_wrap, evL_v, evL_lit, evL_app, ev_app, evA_l, evA_i, evA_nil, std_min, std_max, std_cat, std_take, std_drop, std_row, std_set, std_rep, std_find, std_put, std_del, std_flag, std_unflag, std_clr, std_left, std_copy, ints_cons, ints_nil, ofNat_lit, negSucc_lit, decide_eq_true_eq, Bool.and_eq_true, Bool.or_eq_true, Bool.not_eq_true', Bool.and_eq_false_iff, Bool.or_eq_false_iff, decide_eq_false_iff_not, aI110, aI111, aI112, aI113, aI114, aL100, aL101, aL102, aL103, aL110, aL112, aL113, aL114, aL115, aL116, aB130, aB131, aB132, aB199]
  repeat' apply And.intro
  all_goals intro ρ hR
  all_goals intros
  all_goals first
    | (have hT : ∀ r ∈ ρ.l 0, okRow K5 r := hR.row 1 rfl rfl
       have hl := bacT_len (ρ.l 0) (ρ.i 0) (ρ.i 5)
       have e := bac_none (T := ρ.l 0) (id := ρ.i 0) (g := ρ.i 5) (none_out (T := ρ.l 0) (id := ρ.i 0) (by omega))
       exact ⟨by omega, e, by omega, bac_no e (by decide)⟩)
    | (have hT : ∀ r ∈ ρ.l 0, okRow K5 r := hR.row 1 rfl rfl
       have hl := bacT_len (ρ.l 0) (ρ.i 0) (ρ.i 5)
       have e := bac_none (T := ρ.l 0) (id := ρ.i 0) (g := ρ.i 5) (none_z (T := ρ.l 0) (id := ρ.i 0) hT (by omega) (by omega) (by unfold allZ; omega))
       exact ⟨by omega, e, by omega, bac_no e (by decide)⟩)
    | (have hT : ∀ r ∈ ρ.l 0, okRow K5 r := hR.row 1 rfl rfl
       have hl := bacT_len (ρ.l 0) (ρ.i 0) (ρ.i 5)
       have e := bac_wrong (T := ρ.l 0) (id := ρ.i 0) (g := ρ.i 5) (none_not (T := ρ.l 0) (id := ρ.i 0) hT (by omega) (by omega) (by unfold allZ; omega)) (by omega)
       exact ⟨by omega, e, by omega, bac_no e (by decide)⟩)
    | (have hT : ∀ r ∈ ρ.l 0, okRow K5 r := hR.row 1 rfl rfl
       have hl := bacT_len (ρ.l 0) (ρ.i 0) (ρ.i 5)
       have e := bac_zero (T := ρ.l 0) (id := ρ.i 0) (g := ρ.i 5) (none_not (T := ρ.l 0) (id := ρ.i 0) hT (by omega) (by omega) (by unfold allZ; omega)) (by omega) (by omega)
       exact ⟨by omega, e, by omega, bac_no e (by decide)⟩)
    | (have hT : ∀ r ∈ ρ.l 0, okRow K5 r := hR.row 1 rfl rfl
       have hl := bacT_len (ρ.l 0) (ρ.i 0) (ρ.i 5)
       have e := bac_ok (T := ρ.l 0) (id := ρ.i 0) (g := ρ.i 5) (none_not (T := ρ.l 0) (id := ρ.i 0) hT (by omega) (by omega) (by unfold allZ; omega)) (by omega) (by omega)
       exact ⟨by omega, e.1, by omega, e.2⟩)
set_option maxRecDepth 100000 in
theorem cRevoke_obs : callObs Φ Try.prog t2 1000 cRevoke.f cRevoke.vs cRevoke.o cRevoke.pc cRevoke.outs = some
  [{
      pc :=
        [SB.lt (SI.v 0) (SI.c (Int.ofNat 0)), SB.le (SI.c (Int.ofNat 1)) (SI.len (SL.v 0)),
          SB.le (SI.len (SL.v 0)) (SI.c (Int.ofNat 64))],
      eqs :=
        [Eqn.T (SB.eq (SI.len (SL.app 114 (SA.l (SL.v 0) (SA.i (SI.v 0) (SA.i (SI.v 6) SA.nil))))) (SI.len (SL.v 0))),
          Eqn.I (SI.app 114 (SA.l (SL.v 0) (SA.i (SI.v 0) (SA.i (SI.v 6) SA.nil)))) (SI.c (Int.ofNat 4)),
          Eqn.I (SI.len (SL.app 114 (SA.l (SL.v 0) (SA.i (SI.v 0) (SA.i (SI.v 6) SA.nil))))) (SI.len (SL.v 0)),
          Eqn.L (SL.app 114 (SA.l (SL.v 0) (SA.i (SI.v 0) (SA.i (SI.v 6) SA.nil)))) (SL.v 0)] },
    {
      pc :=
        [SB.le (SI.len (SL.v 0)) (SI.v 0), SB.not (SB.lt (SI.v 0) (SI.c (Int.ofNat 0))),
          SB.le (SI.c (Int.ofNat 1)) (SI.len (SL.v 0)), SB.le (SI.len (SL.v 0)) (SI.c (Int.ofNat 64))],
      eqs :=
        [Eqn.T (SB.eq (SI.len (SL.app 114 (SA.l (SL.v 0) (SA.i (SI.v 0) (SA.i (SI.v 6) SA.nil))))) (SI.len (SL.v 0))),
          Eqn.I (SI.app 114 (SA.l (SL.v 0) (SA.i (SI.v 0) (SA.i (SI.v 6) SA.nil)))) (SI.c (Int.ofNat 4)),
          Eqn.I (SI.len (SL.app 114 (SA.l (SL.v 0) (SA.i (SI.v 0) (SA.i (SI.v 6) SA.nil))))) (SI.len (SL.v 0)),
          Eqn.L (SL.app 114 (SA.l (SL.v 0) (SA.i (SI.v 0) (SA.i (SI.v 6) SA.nil)))) (SL.v 0)] },
    {
      pc :=
        [SB.eq (SI.sel (SL.v 0) (SI.v 0) 4) (SI.c (Int.ofNat 0)),
          SB.eq (SI.sel (SL.v 0) (SI.v 0) 3) (SI.c (Int.ofNat 0)),
          SB.eq (SI.sel (SL.v 0) (SI.v 0) 2) (SI.c (Int.ofNat 0)),
          SB.eq (SI.sel (SL.v 0) (SI.v 0) 1) (SI.c (Int.ofNat 0)),
          SB.eq (SI.sel (SL.v 0) (SI.v 0) 0) (SI.c (Int.ofNat 0)), SB.not (SB.le (SI.len (SL.v 0)) (SI.v 0)),
          SB.not (SB.lt (SI.v 0) (SI.c (Int.ofNat 0))), SB.le (SI.c (Int.ofNat 1)) (SI.len (SL.v 0)),
          SB.le (SI.len (SL.v 0)) (SI.c (Int.ofNat 64))],
      eqs :=
        [Eqn.T (SB.eq (SI.len (SL.app 114 (SA.l (SL.v 0) (SA.i (SI.v 0) (SA.i (SI.v 6) SA.nil))))) (SI.len (SL.v 0))),
          Eqn.I (SI.app 114 (SA.l (SL.v 0) (SA.i (SI.v 0) (SA.i (SI.v 6) SA.nil)))) (SI.c (Int.ofNat 4)),
          Eqn.I (SI.len (SL.app 114 (SA.l (SL.v 0) (SA.i (SI.v 0) (SA.i (SI.v 6) SA.nil))))) (SI.len (SL.v 0)),
          Eqn.L (SL.app 114 (SA.l (SL.v 0) (SA.i (SI.v 0) (SA.i (SI.v 6) SA.nil)))) (SL.v 0)] },
    {
      pc :=
        [SB.lt (SI.c (Int.ofNat 0)) (SI.sel (SL.v 0) (SI.v 0) 4), SB.eq (SI.sel (SL.v 0) (SI.v 0) 0) (SI.v 6),
          SB.not (SB.eq (SI.sel (SL.v 0) (SI.v 0) 4) (SI.c (Int.ofNat 0))),
          SB.eq (SI.sel (SL.v 0) (SI.v 0) 3) (SI.c (Int.ofNat 0)),
          SB.eq (SI.sel (SL.v 0) (SI.v 0) 2) (SI.c (Int.ofNat 0)),
          SB.eq (SI.sel (SL.v 0) (SI.v 0) 1) (SI.c (Int.ofNat 0)),
          SB.eq (SI.sel (SL.v 0) (SI.v 0) 0) (SI.c (Int.ofNat 0)), SB.not (SB.le (SI.len (SL.v 0)) (SI.v 0)),
          SB.not (SB.lt (SI.v 0) (SI.c (Int.ofNat 0))), SB.le (SI.c (Int.ofNat 1)) (SI.len (SL.v 0)),
          SB.le (SI.len (SL.v 0)) (SI.c (Int.ofNat 64))],
      eqs :=
        [Eqn.T (SB.eq (SI.len (SL.app 114 (SA.l (SL.v 0) (SA.i (SI.v 0) (SA.i (SI.v 6) SA.nil))))) (SI.len (SL.v 0))),
          Eqn.I (SI.app 114 (SA.l (SL.v 0) (SA.i (SI.v 0) (SA.i (SI.v 6) SA.nil)))) (SI.c (Int.ofNat 9)),
          Eqn.I (SI.len (SL.app 114 (SA.l (SL.v 0) (SA.i (SI.v 0) (SA.i (SI.v 6) SA.nil))))) (SI.len (SL.v 0)),
          Eqn.L (SL.app 114 (SA.l (SL.v 0) (SA.i (SI.v 0) (SA.i (SI.v 6) SA.nil)))) (SL.v 0)] },
    {
      pc :=
        [SB.not (SB.lt (SI.c (Int.ofNat 0)) (SI.sel (SL.v 0) (SI.v 0) 4)), SB.eq (SI.sel (SL.v 0) (SI.v 0) 0) (SI.v 6),
          SB.not (SB.eq (SI.sel (SL.v 0) (SI.v 0) 4) (SI.c (Int.ofNat 0))),
          SB.eq (SI.sel (SL.v 0) (SI.v 0) 3) (SI.c (Int.ofNat 0)),
          SB.eq (SI.sel (SL.v 0) (SI.v 0) 2) (SI.c (Int.ofNat 0)),
          SB.eq (SI.sel (SL.v 0) (SI.v 0) 1) (SI.c (Int.ofNat 0)),
          SB.eq (SI.sel (SL.v 0) (SI.v 0) 0) (SI.c (Int.ofNat 0)), SB.not (SB.le (SI.len (SL.v 0)) (SI.v 0)),
          SB.not (SB.lt (SI.v 0) (SI.c (Int.ofNat 0))), SB.le (SI.c (Int.ofNat 1)) (SI.len (SL.v 0)),
          SB.le (SI.len (SL.v 0)) (SI.c (Int.ofNat 64))],
      eqs :=
        [Eqn.T (SB.eq (SI.len (SL.app 114 (SA.l (SL.v 0) (SA.i (SI.v 0) (SA.i (SI.v 6) SA.nil))))) (SI.len (SL.v 0))),
          Eqn.I (SI.app 114 (SA.l (SL.v 0) (SA.i (SI.v 0) (SA.i (SI.v 6) SA.nil)))) (SI.c (Int.ofNat 0)),
          Eqn.I (SI.len (SL.app 114 (SA.l (SL.v 0) (SA.i (SI.v 0) (SA.i (SI.v 6) SA.nil))))) (SI.len (SL.v 0)),
          Eqn.L (SL.app 114 (SA.l (SL.v 0) (SA.i (SI.v 0) (SA.i (SI.v 6) SA.nil))))
            (SL.app 4
              (SA.l
                (SL.app 4
                  (SA.l
                    (SL.app 4
                      (SA.l
                        (SL.app 4
                          (SA.l
                            (SL.app 4
                              (SA.l (SL.v 0)
                                (SA.i (SI.v 0) (SA.i (SI.c (Int.ofNat 0)) (SA.i (SI.c (Int.ofNat 0)) SA.nil)))))
                            (SA.i (SI.v 0) (SA.i (SI.c (Int.ofNat 1)) (SA.i (SI.c (Int.ofNat 0)) SA.nil)))))
                        (SA.i (SI.v 0) (SA.i (SI.c (Int.ofNat 2)) (SA.i (SI.c (Int.ofNat 0)) SA.nil)))))
                    (SA.i (SI.v 0) (SA.i (SI.c (Int.ofNat 3)) (SA.i (SI.c (Int.ofNat 0)) SA.nil)))))
                (SA.i (SI.v 0) (SA.i (SI.c (Int.ofNat 4)) (SA.i (SI.c (Int.ofNat 0)) SA.nil)))))] },
    {
      pc :=
        [SB.not (SB.eq (SI.sel (SL.v 0) (SI.v 0) 0) (SI.v 6)),
          SB.not (SB.eq (SI.sel (SL.v 0) (SI.v 0) 4) (SI.c (Int.ofNat 0))),
          SB.eq (SI.sel (SL.v 0) (SI.v 0) 3) (SI.c (Int.ofNat 0)),
          SB.eq (SI.sel (SL.v 0) (SI.v 0) 2) (SI.c (Int.ofNat 0)),
          SB.eq (SI.sel (SL.v 0) (SI.v 0) 1) (SI.c (Int.ofNat 0)),
          SB.eq (SI.sel (SL.v 0) (SI.v 0) 0) (SI.c (Int.ofNat 0)), SB.not (SB.le (SI.len (SL.v 0)) (SI.v 0)),
          SB.not (SB.lt (SI.v 0) (SI.c (Int.ofNat 0))), SB.le (SI.c (Int.ofNat 1)) (SI.len (SL.v 0)),
          SB.le (SI.len (SL.v 0)) (SI.c (Int.ofNat 64))],
      eqs :=
        [Eqn.T (SB.eq (SI.len (SL.app 114 (SA.l (SL.v 0) (SA.i (SI.v 0) (SA.i (SI.v 6) SA.nil))))) (SI.len (SL.v 0))),
          Eqn.I (SI.app 114 (SA.l (SL.v 0) (SA.i (SI.v 0) (SA.i (SI.v 6) SA.nil)))) (SI.c (Int.ofNat 7)),
          Eqn.I (SI.len (SL.app 114 (SA.l (SL.v 0) (SA.i (SI.v 0) (SA.i (SI.v 6) SA.nil))))) (SI.len (SL.v 0)),
          Eqn.L (SL.app 114 (SA.l (SL.v 0) (SA.i (SI.v 0) (SA.i (SI.v 6) SA.nil)))) (SL.v 0)] },
    {
      pc :=
        [SB.lt (SI.c (Int.ofNat 0)) (SI.sel (SL.v 0) (SI.v 0) 4), SB.eq (SI.sel (SL.v 0) (SI.v 0) 0) (SI.v 6),
          SB.not (SB.eq (SI.sel (SL.v 0) (SI.v 0) 3) (SI.c (Int.ofNat 0))),
          SB.eq (SI.sel (SL.v 0) (SI.v 0) 2) (SI.c (Int.ofNat 0)),
          SB.eq (SI.sel (SL.v 0) (SI.v 0) 1) (SI.c (Int.ofNat 0)),
          SB.eq (SI.sel (SL.v 0) (SI.v 0) 0) (SI.c (Int.ofNat 0)), SB.not (SB.le (SI.len (SL.v 0)) (SI.v 0)),
          SB.not (SB.lt (SI.v 0) (SI.c (Int.ofNat 0))), SB.le (SI.c (Int.ofNat 1)) (SI.len (SL.v 0)),
          SB.le (SI.len (SL.v 0)) (SI.c (Int.ofNat 64))],
      eqs :=
        [Eqn.T (SB.eq (SI.len (SL.app 114 (SA.l (SL.v 0) (SA.i (SI.v 0) (SA.i (SI.v 6) SA.nil))))) (SI.len (SL.v 0))),
          Eqn.I (SI.app 114 (SA.l (SL.v 0) (SA.i (SI.v 0) (SA.i (SI.v 6) SA.nil)))) (SI.c (Int.ofNat 9)),
          Eqn.I (SI.len (SL.app 114 (SA.l (SL.v 0) (SA.i (SI.v 0) (SA.i (SI.v 6) SA.nil))))) (SI.len (SL.v 0)),
          Eqn.L (SL.app 114 (SA.l (SL.v 0) (SA.i (SI.v 0) (SA.i (SI.v 6) SA.nil)))) (SL.v 0)] },
    {
      pc :=
        [SB.not (SB.lt (SI.c (Int.ofNat 0)) (SI.sel (SL.v 0) (SI.v 0) 4)), SB.eq (SI.sel (SL.v 0) (SI.v 0) 0) (SI.v 6),
          SB.not (SB.eq (SI.sel (SL.v 0) (SI.v 0) 3) (SI.c (Int.ofNat 0))),
          SB.eq (SI.sel (SL.v 0) (SI.v 0) 2) (SI.c (Int.ofNat 0)),
          SB.eq (SI.sel (SL.v 0) (SI.v 0) 1) (SI.c (Int.ofNat 0)),
          SB.eq (SI.sel (SL.v 0) (SI.v 0) 0) (SI.c (Int.ofNat 0)), SB.not (SB.le (SI.len (SL.v 0)) (SI.v 0)),
          SB.not (SB.lt (SI.v 0) (SI.c (Int.ofNat 0))), SB.le (SI.c (Int.ofNat 1)) (SI.len (SL.v 0)),
          SB.le (SI.len (SL.v 0)) (SI.c (Int.ofNat 64))],
      eqs :=
        [Eqn.T (SB.eq (SI.len (SL.app 114 (SA.l (SL.v 0) (SA.i (SI.v 0) (SA.i (SI.v 6) SA.nil))))) (SI.len (SL.v 0))),
          Eqn.I (SI.app 114 (SA.l (SL.v 0) (SA.i (SI.v 0) (SA.i (SI.v 6) SA.nil)))) (SI.c (Int.ofNat 0)),
          Eqn.I (SI.len (SL.app 114 (SA.l (SL.v 0) (SA.i (SI.v 0) (SA.i (SI.v 6) SA.nil))))) (SI.len (SL.v 0)),
          Eqn.L (SL.app 114 (SA.l (SL.v 0) (SA.i (SI.v 0) (SA.i (SI.v 6) SA.nil))))
            (SL.app 4
              (SA.l
                (SL.app 4
                  (SA.l
                    (SL.app 4
                      (SA.l
                        (SL.app 4
                          (SA.l
                            (SL.app 4
                              (SA.l (SL.v 0)
                                (SA.i (SI.v 0) (SA.i (SI.c (Int.ofNat 0)) (SA.i (SI.c (Int.ofNat 0)) SA.nil)))))
                            (SA.i (SI.v 0) (SA.i (SI.c (Int.ofNat 1)) (SA.i (SI.c (Int.ofNat 0)) SA.nil)))))
                        (SA.i (SI.v 0) (SA.i (SI.c (Int.ofNat 2)) (SA.i (SI.c (Int.ofNat 0)) SA.nil)))))
                    (SA.i (SI.v 0) (SA.i (SI.c (Int.ofNat 3)) (SA.i (SI.c (Int.ofNat 0)) SA.nil)))))
                (SA.i (SI.v 0) (SA.i (SI.c (Int.ofNat 4)) (SA.i (SI.c (Int.ofNat 0)) SA.nil)))))] },
    {
      pc :=
        [SB.not (SB.eq (SI.sel (SL.v 0) (SI.v 0) 0) (SI.v 6)),
          SB.not (SB.eq (SI.sel (SL.v 0) (SI.v 0) 3) (SI.c (Int.ofNat 0))),
          SB.eq (SI.sel (SL.v 0) (SI.v 0) 2) (SI.c (Int.ofNat 0)),
          SB.eq (SI.sel (SL.v 0) (SI.v 0) 1) (SI.c (Int.ofNat 0)),
          SB.eq (SI.sel (SL.v 0) (SI.v 0) 0) (SI.c (Int.ofNat 0)), SB.not (SB.le (SI.len (SL.v 0)) (SI.v 0)),
          SB.not (SB.lt (SI.v 0) (SI.c (Int.ofNat 0))), SB.le (SI.c (Int.ofNat 1)) (SI.len (SL.v 0)),
          SB.le (SI.len (SL.v 0)) (SI.c (Int.ofNat 64))],
      eqs :=
        [Eqn.T (SB.eq (SI.len (SL.app 114 (SA.l (SL.v 0) (SA.i (SI.v 0) (SA.i (SI.v 6) SA.nil))))) (SI.len (SL.v 0))),
          Eqn.I (SI.app 114 (SA.l (SL.v 0) (SA.i (SI.v 0) (SA.i (SI.v 6) SA.nil)))) (SI.c (Int.ofNat 7)),
          Eqn.I (SI.len (SL.app 114 (SA.l (SL.v 0) (SA.i (SI.v 0) (SA.i (SI.v 6) SA.nil))))) (SI.len (SL.v 0)),
          Eqn.L (SL.app 114 (SA.l (SL.v 0) (SA.i (SI.v 0) (SA.i (SI.v 6) SA.nil)))) (SL.v 0)] },
    {
      pc :=
        [SB.lt (SI.c (Int.ofNat 0)) (SI.sel (SL.v 0) (SI.v 0) 4), SB.eq (SI.sel (SL.v 0) (SI.v 0) 0) (SI.v 6),
          SB.not (SB.eq (SI.sel (SL.v 0) (SI.v 0) 2) (SI.c (Int.ofNat 0))),
          SB.eq (SI.sel (SL.v 0) (SI.v 0) 1) (SI.c (Int.ofNat 0)),
          SB.eq (SI.sel (SL.v 0) (SI.v 0) 0) (SI.c (Int.ofNat 0)), SB.not (SB.le (SI.len (SL.v 0)) (SI.v 0)),
          SB.not (SB.lt (SI.v 0) (SI.c (Int.ofNat 0))), SB.le (SI.c (Int.ofNat 1)) (SI.len (SL.v 0)),
          SB.le (SI.len (SL.v 0)) (SI.c (Int.ofNat 64))],
      eqs :=
        [Eqn.T (SB.eq (SI.len (SL.app 114 (SA.l (SL.v 0) (SA.i (SI.v 0) (SA.i (SI.v 6) SA.nil))))) (SI.len (SL.v 0))),
          Eqn.I (SI.app 114 (SA.l (SL.v 0) (SA.i (SI.v 0) (SA.i (SI.v 6) SA.nil)))) (SI.c (Int.ofNat 9)),
          Eqn.I (SI.len (SL.app 114 (SA.l (SL.v 0) (SA.i (SI.v 0) (SA.i (SI.v 6) SA.nil))))) (SI.len (SL.v 0)),
          Eqn.L (SL.app 114 (SA.l (SL.v 0) (SA.i (SI.v 0) (SA.i (SI.v 6) SA.nil)))) (SL.v 0)] },
    {
      pc :=
        [SB.not (SB.lt (SI.c (Int.ofNat 0)) (SI.sel (SL.v 0) (SI.v 0) 4)), SB.eq (SI.sel (SL.v 0) (SI.v 0) 0) (SI.v 6),
          SB.not (SB.eq (SI.sel (SL.v 0) (SI.v 0) 2) (SI.c (Int.ofNat 0))),
          SB.eq (SI.sel (SL.v 0) (SI.v 0) 1) (SI.c (Int.ofNat 0)),
          SB.eq (SI.sel (SL.v 0) (SI.v 0) 0) (SI.c (Int.ofNat 0)), SB.not (SB.le (SI.len (SL.v 0)) (SI.v 0)),
          SB.not (SB.lt (SI.v 0) (SI.c (Int.ofNat 0))), SB.le (SI.c (Int.ofNat 1)) (SI.len (SL.v 0)),
          SB.le (SI.len (SL.v 0)) (SI.c (Int.ofNat 64))],
      eqs :=
        [Eqn.T (SB.eq (SI.len (SL.app 114 (SA.l (SL.v 0) (SA.i (SI.v 0) (SA.i (SI.v 6) SA.nil))))) (SI.len (SL.v 0))),
          Eqn.I (SI.app 114 (SA.l (SL.v 0) (SA.i (SI.v 0) (SA.i (SI.v 6) SA.nil)))) (SI.c (Int.ofNat 0)),
          Eqn.I (SI.len (SL.app 114 (SA.l (SL.v 0) (SA.i (SI.v 0) (SA.i (SI.v 6) SA.nil))))) (SI.len (SL.v 0)),
          Eqn.L (SL.app 114 (SA.l (SL.v 0) (SA.i (SI.v 0) (SA.i (SI.v 6) SA.nil))))
            (SL.app 4
              (SA.l
                (SL.app 4
                  (SA.l
                    (SL.app 4
                      (SA.l
                        (SL.app 4
                          (SA.l
                            (SL.app 4
                              (SA.l (SL.v 0)
                                (SA.i (SI.v 0) (SA.i (SI.c (Int.ofNat 0)) (SA.i (SI.c (Int.ofNat 0)) SA.nil)))))
                            (SA.i (SI.v 0) (SA.i (SI.c (Int.ofNat 1)) (SA.i (SI.c (Int.ofNat 0)) SA.nil)))))
                        (SA.i (SI.v 0) (SA.i (SI.c (Int.ofNat 2)) (SA.i (SI.c (Int.ofNat 0)) SA.nil)))))
                    (SA.i (SI.v 0) (SA.i (SI.c (Int.ofNat 3)) (SA.i (SI.c (Int.ofNat 0)) SA.nil)))))
                (SA.i (SI.v 0) (SA.i (SI.c (Int.ofNat 4)) (SA.i (SI.c (Int.ofNat 0)) SA.nil)))))] },
    {
      pc :=
        [SB.not (SB.eq (SI.sel (SL.v 0) (SI.v 0) 0) (SI.v 6)),
          SB.not (SB.eq (SI.sel (SL.v 0) (SI.v 0) 2) (SI.c (Int.ofNat 0))),
          SB.eq (SI.sel (SL.v 0) (SI.v 0) 1) (SI.c (Int.ofNat 0)),
          SB.eq (SI.sel (SL.v 0) (SI.v 0) 0) (SI.c (Int.ofNat 0)), SB.not (SB.le (SI.len (SL.v 0)) (SI.v 0)),
          SB.not (SB.lt (SI.v 0) (SI.c (Int.ofNat 0))), SB.le (SI.c (Int.ofNat 1)) (SI.len (SL.v 0)),
          SB.le (SI.len (SL.v 0)) (SI.c (Int.ofNat 64))],
      eqs :=
        [Eqn.T (SB.eq (SI.len (SL.app 114 (SA.l (SL.v 0) (SA.i (SI.v 0) (SA.i (SI.v 6) SA.nil))))) (SI.len (SL.v 0))),
          Eqn.I (SI.app 114 (SA.l (SL.v 0) (SA.i (SI.v 0) (SA.i (SI.v 6) SA.nil)))) (SI.c (Int.ofNat 7)),
          Eqn.I (SI.len (SL.app 114 (SA.l (SL.v 0) (SA.i (SI.v 0) (SA.i (SI.v 6) SA.nil))))) (SI.len (SL.v 0)),
          Eqn.L (SL.app 114 (SA.l (SL.v 0) (SA.i (SI.v 0) (SA.i (SI.v 6) SA.nil)))) (SL.v 0)] },
    {
      pc :=
        [SB.lt (SI.c (Int.ofNat 0)) (SI.sel (SL.v 0) (SI.v 0) 4), SB.eq (SI.sel (SL.v 0) (SI.v 0) 0) (SI.v 6),
          SB.not (SB.eq (SI.sel (SL.v 0) (SI.v 0) 1) (SI.c (Int.ofNat 0))),
          SB.eq (SI.sel (SL.v 0) (SI.v 0) 0) (SI.c (Int.ofNat 0)), SB.not (SB.le (SI.len (SL.v 0)) (SI.v 0)),
          SB.not (SB.lt (SI.v 0) (SI.c (Int.ofNat 0))), SB.le (SI.c (Int.ofNat 1)) (SI.len (SL.v 0)),
          SB.le (SI.len (SL.v 0)) (SI.c (Int.ofNat 64))],
      eqs :=
        [Eqn.T (SB.eq (SI.len (SL.app 114 (SA.l (SL.v 0) (SA.i (SI.v 0) (SA.i (SI.v 6) SA.nil))))) (SI.len (SL.v 0))),
          Eqn.I (SI.app 114 (SA.l (SL.v 0) (SA.i (SI.v 0) (SA.i (SI.v 6) SA.nil)))) (SI.c (Int.ofNat 9)),
          Eqn.I (SI.len (SL.app 114 (SA.l (SL.v 0) (SA.i (SI.v 0) (SA.i (SI.v 6) SA.nil))))) (SI.len (SL.v 0)),
          Eqn.L (SL.app 114 (SA.l (SL.v 0) (SA.i (SI.v 0) (SA.i (SI.v 6) SA.nil)))) (SL.v 0)] },
    {
      pc :=
        [SB.not (SB.lt (SI.c (Int.ofNat 0)) (SI.sel (SL.v 0) (SI.v 0) 4)), SB.eq (SI.sel (SL.v 0) (SI.v 0) 0) (SI.v 6),
          SB.not (SB.eq (SI.sel (SL.v 0) (SI.v 0) 1) (SI.c (Int.ofNat 0))),
          SB.eq (SI.sel (SL.v 0) (SI.v 0) 0) (SI.c (Int.ofNat 0)), SB.not (SB.le (SI.len (SL.v 0)) (SI.v 0)),
          SB.not (SB.lt (SI.v 0) (SI.c (Int.ofNat 0))), SB.le (SI.c (Int.ofNat 1)) (SI.len (SL.v 0)),
          SB.le (SI.len (SL.v 0)) (SI.c (Int.ofNat 64))],
      eqs :=
        [Eqn.T (SB.eq (SI.len (SL.app 114 (SA.l (SL.v 0) (SA.i (SI.v 0) (SA.i (SI.v 6) SA.nil))))) (SI.len (SL.v 0))),
          Eqn.I (SI.app 114 (SA.l (SL.v 0) (SA.i (SI.v 0) (SA.i (SI.v 6) SA.nil)))) (SI.c (Int.ofNat 0)),
          Eqn.I (SI.len (SL.app 114 (SA.l (SL.v 0) (SA.i (SI.v 0) (SA.i (SI.v 6) SA.nil))))) (SI.len (SL.v 0)),
          Eqn.L (SL.app 114 (SA.l (SL.v 0) (SA.i (SI.v 0) (SA.i (SI.v 6) SA.nil))))
            (SL.app 4
              (SA.l
                (SL.app 4
                  (SA.l
                    (SL.app 4
                      (SA.l
                        (SL.app 4
                          (SA.l
                            (SL.app 4
                              (SA.l (SL.v 0)
                                (SA.i (SI.v 0) (SA.i (SI.c (Int.ofNat 0)) (SA.i (SI.c (Int.ofNat 0)) SA.nil)))))
                            (SA.i (SI.v 0) (SA.i (SI.c (Int.ofNat 1)) (SA.i (SI.c (Int.ofNat 0)) SA.nil)))))
                        (SA.i (SI.v 0) (SA.i (SI.c (Int.ofNat 2)) (SA.i (SI.c (Int.ofNat 0)) SA.nil)))))
                    (SA.i (SI.v 0) (SA.i (SI.c (Int.ofNat 3)) (SA.i (SI.c (Int.ofNat 0)) SA.nil)))))
                (SA.i (SI.v 0) (SA.i (SI.c (Int.ofNat 4)) (SA.i (SI.c (Int.ofNat 0)) SA.nil)))))] },
    {
      pc :=
        [SB.not (SB.eq (SI.sel (SL.v 0) (SI.v 0) 0) (SI.v 6)),
          SB.not (SB.eq (SI.sel (SL.v 0) (SI.v 0) 1) (SI.c (Int.ofNat 0))),
          SB.eq (SI.sel (SL.v 0) (SI.v 0) 0) (SI.c (Int.ofNat 0)), SB.not (SB.le (SI.len (SL.v 0)) (SI.v 0)),
          SB.not (SB.lt (SI.v 0) (SI.c (Int.ofNat 0))), SB.le (SI.c (Int.ofNat 1)) (SI.len (SL.v 0)),
          SB.le (SI.len (SL.v 0)) (SI.c (Int.ofNat 64))],
      eqs :=
        [Eqn.T (SB.eq (SI.len (SL.app 114 (SA.l (SL.v 0) (SA.i (SI.v 0) (SA.i (SI.v 6) SA.nil))))) (SI.len (SL.v 0))),
          Eqn.I (SI.app 114 (SA.l (SL.v 0) (SA.i (SI.v 0) (SA.i (SI.v 6) SA.nil)))) (SI.c (Int.ofNat 7)),
          Eqn.I (SI.len (SL.app 114 (SA.l (SL.v 0) (SA.i (SI.v 0) (SA.i (SI.v 6) SA.nil))))) (SI.len (SL.v 0)),
          Eqn.L (SL.app 114 (SA.l (SL.v 0) (SA.i (SI.v 0) (SA.i (SI.v 6) SA.nil)))) (SL.v 0)] },
    {
      pc :=
        [SB.lt (SI.c (Int.ofNat 0)) (SI.sel (SL.v 0) (SI.v 0) 4), SB.eq (SI.sel (SL.v 0) (SI.v 0) 0) (SI.v 6),
          SB.not (SB.eq (SI.sel (SL.v 0) (SI.v 0) 0) (SI.c (Int.ofNat 0))), SB.not (SB.le (SI.len (SL.v 0)) (SI.v 0)),
          SB.not (SB.lt (SI.v 0) (SI.c (Int.ofNat 0))), SB.le (SI.c (Int.ofNat 1)) (SI.len (SL.v 0)),
          SB.le (SI.len (SL.v 0)) (SI.c (Int.ofNat 64))],
      eqs :=
        [Eqn.T (SB.eq (SI.len (SL.app 114 (SA.l (SL.v 0) (SA.i (SI.v 0) (SA.i (SI.v 6) SA.nil))))) (SI.len (SL.v 0))),
          Eqn.I (SI.app 114 (SA.l (SL.v 0) (SA.i (SI.v 0) (SA.i (SI.v 6) SA.nil)))) (SI.c (Int.ofNat 9)),
          Eqn.I (SI.len (SL.app 114 (SA.l (SL.v 0) (SA.i (SI.v 0) (SA.i (SI.v 6) SA.nil))))) (SI.len (SL.v 0)),
          Eqn.L (SL.app 114 (SA.l (SL.v 0) (SA.i (SI.v 0) (SA.i (SI.v 6) SA.nil)))) (SL.v 0)] },
    {
      pc :=
        [SB.not (SB.lt (SI.c (Int.ofNat 0)) (SI.sel (SL.v 0) (SI.v 0) 4)), SB.eq (SI.sel (SL.v 0) (SI.v 0) 0) (SI.v 6),
          SB.not (SB.eq (SI.sel (SL.v 0) (SI.v 0) 0) (SI.c (Int.ofNat 0))), SB.not (SB.le (SI.len (SL.v 0)) (SI.v 0)),
          SB.not (SB.lt (SI.v 0) (SI.c (Int.ofNat 0))), SB.le (SI.c (Int.ofNat 1)) (SI.len (SL.v 0)),
          SB.le (SI.len (SL.v 0)) (SI.c (Int.ofNat 64))],
      eqs :=
        [Eqn.T (SB.eq (SI.len (SL.app 114 (SA.l (SL.v 0) (SA.i (SI.v 0) (SA.i (SI.v 6) SA.nil))))) (SI.len (SL.v 0))),
          Eqn.I (SI.app 114 (SA.l (SL.v 0) (SA.i (SI.v 0) (SA.i (SI.v 6) SA.nil)))) (SI.c (Int.ofNat 0)),
          Eqn.I (SI.len (SL.app 114 (SA.l (SL.v 0) (SA.i (SI.v 0) (SA.i (SI.v 6) SA.nil))))) (SI.len (SL.v 0)),
          Eqn.L (SL.app 114 (SA.l (SL.v 0) (SA.i (SI.v 0) (SA.i (SI.v 6) SA.nil))))
            (SL.app 4
              (SA.l
                (SL.app 4
                  (SA.l
                    (SL.app 4
                      (SA.l
                        (SL.app 4
                          (SA.l
                            (SL.app 4
                              (SA.l (SL.v 0)
                                (SA.i (SI.v 0) (SA.i (SI.c (Int.ofNat 0)) (SA.i (SI.c (Int.ofNat 0)) SA.nil)))))
                            (SA.i (SI.v 0) (SA.i (SI.c (Int.ofNat 1)) (SA.i (SI.c (Int.ofNat 0)) SA.nil)))))
                        (SA.i (SI.v 0) (SA.i (SI.c (Int.ofNat 2)) (SA.i (SI.c (Int.ofNat 0)) SA.nil)))))
                    (SA.i (SI.v 0) (SA.i (SI.c (Int.ofNat 3)) (SA.i (SI.c (Int.ofNat 0)) SA.nil)))))
                (SA.i (SI.v 0) (SA.i (SI.c (Int.ofNat 4)) (SA.i (SI.c (Int.ofNat 0)) SA.nil)))))] },
    {
      pc :=
        [SB.not (SB.eq (SI.sel (SL.v 0) (SI.v 0) 0) (SI.v 6)),
          SB.not (SB.eq (SI.sel (SL.v 0) (SI.v 0) 0) (SI.c (Int.ofNat 0))), SB.not (SB.le (SI.len (SL.v 0)) (SI.v 0)),
          SB.not (SB.lt (SI.v 0) (SI.c (Int.ofNat 0))), SB.le (SI.c (Int.ofNat 1)) (SI.len (SL.v 0)),
          SB.le (SI.len (SL.v 0)) (SI.c (Int.ofNat 64))],
      eqs :=
        [Eqn.T (SB.eq (SI.len (SL.app 114 (SA.l (SL.v 0) (SA.i (SI.v 0) (SA.i (SI.v 6) SA.nil))))) (SI.len (SL.v 0))),
          Eqn.I (SI.app 114 (SA.l (SL.v 0) (SA.i (SI.v 0) (SA.i (SI.v 6) SA.nil)))) (SI.c (Int.ofNat 7)),
          Eqn.I (SI.len (SL.app 114 (SA.l (SL.v 0) (SA.i (SI.v 0) (SA.i (SI.v 6) SA.nil))))) (SI.len (SL.v 0)),
          Eqn.L (SL.app 114 (SA.l (SL.v 0) (SA.i (SI.v 0) (SA.i (SI.v 6) SA.nil)))) (SL.v 0)] }] := by kernel_rfl
theorem cRevoke_ok : cRevoke.ok Φ Try.prog := by
  refine call_rule (fun ρ => t2_ok ρ) cRevoke_obs ?_
  simp only [and_imp, List.forall_mem_cons, List.not_mem_nil, false_implies, implies_true, and_true, Ob.ok, holds, Eqn.ok, evB_eq, evB_lt, evB_le, evB_not, evB_and, evB_or, evB_eqL, evB_app, evB_v, evB_c, ev_sel, ev_len, ev_v, ev_c, ev_add, ev_sub, ev_mul, ev_quo, ev_rem, ev_bits, ev_wrap, evL_v, evL_lit, evL_app, ev_app, evA_l, evA_i, evA_nil, std_min, std_max, std_cat, std_take, std_drop, std_row, std_set, std_rep, std_find, std_put, std_del, std_flag, std_unflag, std_clr, std_left, std_copy, ints_cons, ints_nil, ofNat_lit, negSucc_lit, decide_eq_true_eq, Bool.and_eq_true, Bool.or_eq_true, Bool.not_eq_true', Bool.and_eq_false_iff, Bool.or_eq_false_iff, decide_eq_false_iff_not, aI110, aI111, aI112, aI113, aI114, aL100, aL101, aL102, aL103, aL110, aL112, aL113, aL114, aL115, aL116, aB130, aB131, aB132, aB199]
  repeat' apply And.intro
  all_goals intro ρ hR
  all_goals intros
  all_goals first
    | (have hT : ∀ r ∈ ρ.l 0, okRow K5 r := hR.row 1 rfl rfl
       have hl := revT_len (ρ.l 0) (ρ.i 0) (ρ.i 6)
       have e := rev_none (T := ρ.l 0) (id := ρ.i 0) (o := ρ.i 6) (none_out (T := ρ.l 0) (id := ρ.i 0) (by omega))
       exact ⟨by omega, e, by omega, rev_no e (by decide)⟩)
    | (have hT : ∀ r ∈ ρ.l 0, okRow K5 r := hR.row 1 rfl rfl
       have hl := revT_len (ρ.l 0) (ρ.i 0) (ρ.i 6)
       have e := rev_none (T := ρ.l 0) (id := ρ.i 0) (o := ρ.i 6) (none_z (T := ρ.l 0) (id := ρ.i 0) hT (by omega) (by omega) (by unfold allZ; omega))
       exact ⟨by omega, e, by omega, rev_no e (by decide)⟩)
    | (have hT : ∀ r ∈ ρ.l 0, okRow K5 r := hR.row 1 rfl rfl
       have hl := revT_len (ρ.l 0) (ρ.i 0) (ρ.i 6)
       have e := rev_wrong (T := ρ.l 0) (id := ρ.i 0) (o := ρ.i 6) (none_not (T := ρ.l 0) (id := ρ.i 0) hT (by omega) (by omega) (by unfold allZ; omega)) (by omega)
       exact ⟨by omega, e, by omega, rev_no e (by decide)⟩)
    | (have hT : ∀ r ∈ ρ.l 0, okRow K5 r := hR.row 1 rfl rfl
       have hl := revT_len (ρ.l 0) (ρ.i 0) (ρ.i 6)
       have e := rev_busy (T := ρ.l 0) (id := ρ.i 0) (o := ρ.i 6) (none_not (T := ρ.l 0) (id := ρ.i 0) hT (by omega) (by omega) (by unfold allZ; omega)) (by omega) (by omega)
       exact ⟨by omega, e, by omega, rev_no e (by decide)⟩)
    | (have hT : ∀ r ∈ ρ.l 0, okRow K5 r := hR.row 1 rfl rfl
       have hl := revT_len (ρ.l 0) (ρ.i 0) (ρ.i 6)
       have e := rev_ok (T := ρ.l 0) (id := ρ.i 0) (o := ρ.i 6) (none_not (T := ρ.l 0) (id := ρ.i 0) hT (by omega) (by omega) (by unfold allZ; omega)) (by omega) (by omega)
       exact ⟨by omega, e.1, by omega, (e.2.trans (set5 hT _ _ _ _ _ _).symm)⟩)
set_option maxRecDepth 100000 in
theorem dr0_obs : loopObs Φ Try.prog t2 1000 dr0.f (loopAt Try.prog dr0.f dr0.id) dr0.n dr0.T k1 dr0.outs = some
  [{
      pc :=
        [SB.lt (SI.sel (SL.v 1) (SI.v 0) 0) (SI.len (SL.v 0)), SB.le (SI.c (Int.ofNat 0)) (SI.sel (SL.v 1) (SI.v 0) 0),
          SB.lt (SI.v 0) (SI.len (SL.v 1)), SB.le (SI.c (Int.ofNat 0)) (SI.v 0), SB.le (SI.v 0) (SI.len (SL.v 1)),
          SB.le (SI.len (SL.v 1)) (SI.c (Int.ofNat 64)), SB.le (SI.len (SL.v 0)) (SI.c (Int.ofNat 64)), SB.c true,
          SB.app 132 (SA.l (SL.v 1) (SA.i (SI.len (SL.v 0)) SA.nil))],
      eqs :=
        [Eqn.T
            (SB.lt (SI.sub (SI.len (SL.v 1)) (SI.add (SI.v 0) (SI.c (Int.ofNat 1))))
              (SI.sub (SI.len (SL.v 1)) (SI.v 0))),
          Eqn.T (SB.lt (SI.c (Int.ofNat 0)) (SI.sub (SI.len (SL.v 1)) (SI.v 0)))] },
    {
      pc :=
        [SB.eq
            (SI.len
              (SL.app 115
                (SA.l
                  (SL.app 4
                    (SA.l
                      (SL.app 4
                        (SA.l
                          (SL.app 4
                            (SA.l
                              (SL.app 4
                                (SA.l
                                  (SL.app 4
                                    (SA.l (SL.v 0)
                                      (SA.i (SI.sel (SL.v 1) (SI.v 0) 0)
                                        (SA.i (SI.c (Int.ofNat 0)) (SA.i (SI.c (Int.ofNat 0)) SA.nil)))))
                                  (SA.i (SI.sel (SL.v 1) (SI.v 0) 0)
                                    (SA.i (SI.c (Int.ofNat 1)) (SA.i (SI.c (Int.ofNat 0)) SA.nil)))))
                              (SA.i (SI.sel (SL.v 1) (SI.v 0) 0)
                                (SA.i (SI.c (Int.ofNat 2)) (SA.i (SI.c (Int.ofNat 0)) SA.nil)))))
                          (SA.i (SI.sel (SL.v 1) (SI.v 0) 0)
                            (SA.i (SI.c (Int.ofNat 3)) (SA.i (SI.c (Int.ofNat 0)) SA.nil)))))
                      (SA.i (SI.sel (SL.v 1) (SI.v 0) 0)
                        (SA.i (SI.c (Int.ofNat 4)) (SA.i (SI.c (Int.ofNat 0)) SA.nil)))))
                  (SA.l (SL.v 1) (SA.i (SI.add (SI.v 0) (SI.c (Int.ofNat 1))) SA.nil)))))
            (SI.len (SL.v 0)),
          SB.lt (SI.sel (SL.v 1) (SI.v 0) 0) (SI.len (SL.v 0)), SB.le (SI.c (Int.ofNat 0)) (SI.sel (SL.v 1) (SI.v 0) 0),
          SB.lt (SI.v 0) (SI.len (SL.v 1)), SB.le (SI.c (Int.ofNat 0)) (SI.v 0), SB.le (SI.v 0) (SI.len (SL.v 1)),
          SB.le (SI.len (SL.v 1)) (SI.c (Int.ofNat 64)), SB.le (SI.len (SL.v 0)) (SI.c (Int.ofNat 64)), SB.c true,
          SB.app 132 (SA.l (SL.v 1) (SA.i (SI.len (SL.v 0)) SA.nil))],
      eqs :=
        [Eqn.T (SB.eq (SI.len (SL.app 115 (SA.l (SL.v 0) (SA.l (SL.v 1) (SA.i (SI.v 0) SA.nil))))) (SI.len (SL.v 0))),
          Eqn.I (SI.len (SL.app 115 (SA.l (SL.v 0) (SA.l (SL.v 1) (SA.i (SI.v 0) SA.nil)))))
            (SI.len
              (SL.app 115
                (SA.l
                  (SL.app 4
                    (SA.l
                      (SL.app 4
                        (SA.l
                          (SL.app 4
                            (SA.l
                              (SL.app 4
                                (SA.l
                                  (SL.app 4
                                    (SA.l (SL.v 0)
                                      (SA.i (SI.sel (SL.v 1) (SI.v 0) 0)
                                        (SA.i (SI.c (Int.ofNat 0)) (SA.i (SI.c (Int.ofNat 0)) SA.nil)))))
                                  (SA.i (SI.sel (SL.v 1) (SI.v 0) 0)
                                    (SA.i (SI.c (Int.ofNat 1)) (SA.i (SI.c (Int.ofNat 0)) SA.nil)))))
                              (SA.i (SI.sel (SL.v 1) (SI.v 0) 0)
                                (SA.i (SI.c (Int.ofNat 2)) (SA.i (SI.c (Int.ofNat 0)) SA.nil)))))
                          (SA.i (SI.sel (SL.v 1) (SI.v 0) 0)
                            (SA.i (SI.c (Int.ofNat 3)) (SA.i (SI.c (Int.ofNat 0)) SA.nil)))))
                      (SA.i (SI.sel (SL.v 1) (SI.v 0) 0)
                        (SA.i (SI.c (Int.ofNat 4)) (SA.i (SI.c (Int.ofNat 0)) SA.nil)))))
                  (SA.l (SL.v 1) (SA.i (SI.add (SI.v 0) (SI.c (Int.ofNat 1))) SA.nil))))),
          Eqn.L (SL.app 115 (SA.l (SL.v 0) (SA.l (SL.v 1) (SA.i (SI.v 0) SA.nil))))
            (SL.app 115
              (SA.l
                (SL.app 4
                  (SA.l
                    (SL.app 4
                      (SA.l
                        (SL.app 4
                          (SA.l
                            (SL.app 4
                              (SA.l
                                (SL.app 4
                                  (SA.l (SL.v 0)
                                    (SA.i (SI.sel (SL.v 1) (SI.v 0) 0)
                                      (SA.i (SI.c (Int.ofNat 0)) (SA.i (SI.c (Int.ofNat 0)) SA.nil)))))
                                (SA.i (SI.sel (SL.v 1) (SI.v 0) 0)
                                  (SA.i (SI.c (Int.ofNat 1)) (SA.i (SI.c (Int.ofNat 0)) SA.nil)))))
                            (SA.i (SI.sel (SL.v 1) (SI.v 0) 0)
                              (SA.i (SI.c (Int.ofNat 2)) (SA.i (SI.c (Int.ofNat 0)) SA.nil)))))
                        (SA.i (SI.sel (SL.v 1) (SI.v 0) 0)
                          (SA.i (SI.c (Int.ofNat 3)) (SA.i (SI.c (Int.ofNat 0)) SA.nil)))))
                    (SA.i (SI.sel (SL.v 1) (SI.v 0) 0) (SA.i (SI.c (Int.ofNat 4)) (SA.i (SI.c (Int.ofNat 0)) SA.nil)))))
                (SA.l (SL.v 1) (SA.i (SI.add (SI.v 0) (SI.c (Int.ofNat 1))) SA.nil))))] },
    {
      pc :=
        [SB.not (SB.lt (SI.sel (SL.v 1) (SI.v 0) 0) (SI.len (SL.v 0))),
          SB.le (SI.c (Int.ofNat 0)) (SI.sel (SL.v 1) (SI.v 0) 0), SB.lt (SI.v 0) (SI.len (SL.v 1)),
          SB.le (SI.c (Int.ofNat 0)) (SI.v 0), SB.le (SI.v 0) (SI.len (SL.v 1)),
          SB.le (SI.len (SL.v 1)) (SI.c (Int.ofNat 64)), SB.le (SI.len (SL.v 0)) (SI.c (Int.ofNat 64)), SB.c true,
          SB.app 132 (SA.l (SL.v 1) (SA.i (SI.len (SL.v 0)) SA.nil))],
      eqs := [Eqn.T (SB.c false)] },
    {
      pc :=
        [SB.not (SB.le (SI.c (Int.ofNat 0)) (SI.sel (SL.v 1) (SI.v 0) 0)), SB.lt (SI.v 0) (SI.len (SL.v 1)),
          SB.le (SI.c (Int.ofNat 0)) (SI.v 0), SB.le (SI.v 0) (SI.len (SL.v 1)),
          SB.le (SI.len (SL.v 1)) (SI.c (Int.ofNat 64)), SB.le (SI.len (SL.v 0)) (SI.c (Int.ofNat 64)), SB.c true,
          SB.app 132 (SA.l (SL.v 1) (SA.i (SI.len (SL.v 0)) SA.nil))],
      eqs := [Eqn.T (SB.c false)] },
    {
      pc :=
        [SB.not (SB.lt (SI.v 0) (SI.len (SL.v 1))), SB.le (SI.c (Int.ofNat 0)) (SI.v 0),
          SB.le (SI.v 0) (SI.len (SL.v 1)), SB.le (SI.len (SL.v 1)) (SI.c (Int.ofNat 64)),
          SB.le (SI.len (SL.v 0)) (SI.c (Int.ofNat 64)), SB.c true,
          SB.app 132 (SA.l (SL.v 1) (SA.i (SI.len (SL.v 0)) SA.nil))],
      eqs :=
        [Eqn.T (SB.eq (SI.len (SL.app 115 (SA.l (SL.v 0) (SA.l (SL.v 1) (SA.i (SI.v 0) SA.nil))))) (SI.len (SL.v 0))),
          Eqn.I (SI.len (SL.app 115 (SA.l (SL.v 0) (SA.l (SL.v 1) (SA.i (SI.v 0) SA.nil))))) (SI.len (SL.v 0)),
          Eqn.L (SL.app 115 (SA.l (SL.v 0) (SA.l (SL.v 1) (SA.i (SI.v 0) SA.nil)))) (SL.v 0)] }] := by kernel_rfl
theorem dr0_ok : dr0.ok Φ Try.prog := by
  refine ⟨by kernel_rfl, loop_rule (fun ρ => t2_ok ρ) (loopAt_sub (by kernel_rfl)) dr0_obs ?_⟩
  simp only [and_imp, List.forall_mem_cons, List.not_mem_nil, false_implies, implies_true, and_true, Ob.ok, holds, Eqn.ok, evB_eq, evB_lt, evB_le, evB_not, evB_and, evB_or, evB_eqL, evB_app, evB_v, evB_c, ev_sel, ev_len, ev_v, ev_c, ev_add, ev_sub, ev_mul, ev_quo, ev_rem, ev_bits, ev_wrap, evL_v, evL_lit, evL_app, ev_app, evA_l, evA_i, evA_nil, std_min, std_max, std_cat, std_take, std_drop, std_row, std_set, std_rep, std_find, std_put, std_del, std_flag, std_unflag, std_clr, std_left, std_copy, ints_cons, ints_nil, ofNat_lit, negSucc_lit, decide_eq_true_eq, Bool.and_eq_true, Bool.or_eq_true, Bool.not_eq_true', Bool.and_eq_false_iff, Bool.or_eq_false_iff, decide_eq_false_iff_not, aI110, aI111, aI112, aI113, aI114, aL100, aL101, aL102, aL103, aL110, aL112, aL113, aL114, aL115, aL116, aB130, aB131, aB132, aB199]
  repeat' apply And.intro
  all_goals intro ρ hR
  all_goals intros
  all_goals first
    | (omega)
    | (have hT : ∀ r ∈ ρ.l 0, okRow K5 r := hR.row 1 rfl rfl
       have e := zero_step (T := ρ.l 0) (L := ρ.l 1) (k := ρ.i 0) (by omega) (by omega)
       rw [← set5 hT] at e
       have hl := congrArg (fun x : Tab => (x.length : Int)) e
       exact ⟨hl.trans (by assumption), hl, e⟩)
    | (have h := in_at (L := ρ.l 1) (n := (ρ.l 0).length) (k := ρ.i 0) (by with_reducible assumption) (by omega) (by omega)
       exfalso
       omega)
    | (have e := zero_end (T := ρ.l 0) (L := ρ.l 1) (k := ρ.i 0) (by omega)
       rw [e]
       exact ⟨rfl, rfl, rfl⟩)
theorem t3_ok (ρ : Env) : TblOK Φ ρ Try.prog t3 := addLp_ok (t2_ok ρ) dr0_ok
set_option maxRecDepth 100000 in
theorem cDrop_obs : callObs Φ Try.prog t3 1000 cDrop.f cDrop.vs cDrop.o cDrop.pc cDrop.outs = some
  [{
      pc :=
        [SB.eq
            (SI.len
              (SL.app 115
                (SA.l (SL.v 0)
                  (SA.l (SL.app 102 (SA.l (SL.v 0) (SA.i (SI.c (Int.ofNat 0)) (SA.i (SI.v 5) SA.nil))))
                    (SA.i (SI.c (Int.ofNat 0)) SA.nil)))))
            (SI.len (SL.v 0)),
          SB.app 132
            (SA.l (SL.app 102 (SA.l (SL.v 0) (SA.i (SI.c (Int.ofNat 0)) (SA.i (SI.v 5) SA.nil))))
              (SA.i (SI.len (SL.v 0)) SA.nil)),
          SB.le (SI.len (SL.app 102 (SA.l (SL.v 0) (SA.i (SI.c (Int.ofNat 0)) (SA.i (SI.v 5) SA.nil)))))
            (SI.len (SL.v 0)),
          SB.le (SI.c (Int.ofNat 1)) (SI.len (SL.v 0)), SB.le (SI.len (SL.v 0)) (SI.c (Int.ofNat 64))],
      eqs :=
        [Eqn.T (SB.eq (SI.len (SL.app 116 (SA.l (SL.v 0) (SA.i (SI.v 5) SA.nil)))) (SI.len (SL.v 0))),
          Eqn.I (SI.len (SL.app 116 (SA.l (SL.v 0) (SA.i (SI.v 5) SA.nil))))
            (SI.len
              (SL.app 115
                (SA.l (SL.v 0)
                  (SA.l (SL.app 102 (SA.l (SL.v 0) (SA.i (SI.c (Int.ofNat 0)) (SA.i (SI.v 5) SA.nil))))
                    (SA.i (SI.c (Int.ofNat 0)) SA.nil))))),
          Eqn.L (SL.app 116 (SA.l (SL.v 0) (SA.i (SI.v 5) SA.nil)))
            (SL.app 115
              (SA.l (SL.v 0)
                (SA.l (SL.app 102 (SA.l (SL.v 0) (SA.i (SI.c (Int.ofNat 0)) (SA.i (SI.v 5) SA.nil))))
                  (SA.i (SI.c (Int.ofNat 0)) SA.nil))))] },
    {
      pc :=
        [SB.not
            (SB.app 132
              (SA.l (SL.app 102 (SA.l (SL.v 0) (SA.i (SI.c (Int.ofNat 0)) (SA.i (SI.v 5) SA.nil))))
                (SA.i (SI.len (SL.v 0)) SA.nil))),
          SB.le (SI.len (SL.app 102 (SA.l (SL.v 0) (SA.i (SI.c (Int.ofNat 0)) (SA.i (SI.v 5) SA.nil)))))
            (SI.len (SL.v 0)),
          SB.le (SI.c (Int.ofNat 1)) (SI.len (SL.v 0)), SB.le (SI.len (SL.v 0)) (SI.c (Int.ofNat 64))],
      eqs := [Eqn.T (SB.c false)] }] := by kernel_rfl
theorem cDrop_ok : cDrop.ok Φ Try.prog := by
  refine call_rule (fun ρ => t3_ok ρ) cDrop_obs ?_
  simp only [and_imp, List.forall_mem_cons, List.not_mem_nil, false_implies, implies_true, and_true, Ob.ok, holds, Eqn.ok, evB_eq, evB_lt, evB_le, evB_not, evB_and, evB_or, evB_eqL, evB_app, evB_v, evB_c, ev_sel, ev_len, ev_v, ev_c, ev_add, ev_sub, ev_mul, ev_quo, ev_rem, ev_bits, ev_wrap, evL_v, evL_lit, evL_app, ev_app, evA_l, evA_i, evA_nil, std_min, std_max, std_cat, std_take, std_drop, std_row, std_set, std_rep, std_find, std_put, std_del, std_flag, std_unflag, std_clr, std_left, std_copy, ints_cons, ints_nil, ofNat_lit, negSucc_lit, decide_eq_true_eq, Bool.and_eq_true, Bool.or_eq_true, Bool.not_eq_true', Bool.and_eq_false_iff, Bool.or_eq_false_iff, decide_eq_false_iff_not, aI110, aI111, aI112, aI113, aI114, aL100, aL101, aL102, aL103, aL110, aL112, aL113, aL114, aL115, aL116, aB130, aB131, aB132, aB199]
  repeat' apply And.intro
  all_goals intro ρ hR
  all_goals intros
  all_goals first
    | (try simp only [show ∀ T : Tab, List.drop (Int.toNat 0) T = T from fun _ => rfl] at *
       have e := clr_zero (ρ.i 5) (ρ.l 0)
       have hl := clrG_len (ρ.i 5) (ρ.l 0)
       rw [e]
       exact ⟨by omega, rfl, rfl⟩)
    | (try simp only [show ∀ T : Tab, List.drop (Int.toNat 0) T = T from fun _ => rfl] at *
       exfalso
       exact Bool.false_ne_true (‹inB _ _ = false›.symm.trans (idx_in _ _)))
set_option maxRecDepth 100000 in
theorem cLen_obs : callObs Φ Try.prog t3 1000 cLen.f cLen.vs cLen.o cLen.pc cLen.outs = some
  [] := by kernel_rfl
theorem cLen_ok : cLen.ok Φ Try.prog := by
  refine call_rule (fun ρ => t3_ok ρ) cLen_obs ?_
  intro ob h; cases h
theorem t4_ok (ρ : Env) : TblOK Φ ρ Try.prog t4 := addFn_ok (addFn_ok (addFn_ok (addFn_ok (addFn_ok (addFn_ok (addFn_ok (addFn_ok (t3_ok ρ) cNew_ok) cOffer_ok) cOf_ok) cTake_ok) cBack_ok) cRevoke_ok) cDrop_ok) cLen_ok
set_option maxRecDepth 100000 in
theorem cKnown_obs : callObs Φ Try.prog t4 1000 cKnown.f cKnown.vs cKnown.o cKnown.pc cKnown.outs = some
  [] := by kernel_rfl
theorem cKnown_ok : cKnown.ok Φ Try.prog := by
  refine call_rule (fun ρ => t4_ok ρ) cKnown_obs ?_
  intro ob h; cases h
theorem t5_ok (ρ : Env) : TblOK Φ ρ Try.prog t5 := addFn_ok noTbl_ok cKnown_ok
theorem t6_ok (ρ : Env) : TblOK Φ ρ Try.prog t6 := addFn_ok (t4_ok ρ) cKnown_ok
set_option maxRecDepth 100000 in
theorem lNil_obs : callObs Φ Try.prog t5 1000 lNil.f lNil.vs lNil.o lNil.pc lNil.outs = some
  [] := by kernel_rfl
theorem lNil_ok : lNil.ok Φ Try.prog := by
  refine call_rule (fun ρ => t5_ok ρ) lNil_obs ?_
  intro ob h; cases h
end Go.SF.C19
