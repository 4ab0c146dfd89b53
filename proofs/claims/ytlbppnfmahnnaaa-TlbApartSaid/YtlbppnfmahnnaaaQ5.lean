/- The laws, shown. -/
import Derived.Test.YtlbppnfmahnnaaaQ4
import Derived.Test.YtlbppnfmahnnaaaC4
import Derived.KernelRfl
namespace Go.SF.C14
open Go Go.SF Go.Proofs
set_option linter.unusedVariables false
set_option linter.unusedSimpArgs false

set_option maxRecDepth 100000 in
theorem plLp_obs : loopObs Φ Try.prog t9 1000 plLp.f (loopAt Try.prog plLp.f plLp.id) plLp.n plLp.T (.sub (.c 81) (.v 0)) plLp.outs = some
  [{
      pc :=
        [SB.lt (SI.c (Int.ofNat 0))
            (SI.len
              (SL.app 120
                (SA.l (SL.v 0)
                  (SA.i (SI.v 1)
                    (SA.i (SI.sel (SL.v 9) (SI.v 0) 1)
                      (SA.i (SI.sel (SL.v 9) (SI.v 0) 2)
                        (SA.i (SI.sel (SL.v 9) (SI.v 0) 3) (SA.i (SI.sel (SL.v 9) (SI.v 0) 4) SA.nil)))))))),
          SB.le
            (SI.len
              (SL.app 120
                (SA.l (SL.v 0)
                  (SA.i (SI.v 1)
                    (SA.i (SI.sel (SL.v 9) (SI.v 0) 1)
                      (SA.i (SI.sel (SL.v 9) (SI.v 0) 2)
                        (SA.i (SI.sel (SL.v 9) (SI.v 0) 3) (SA.i (SI.sel (SL.v 9) (SI.v 0) 4) SA.nil))))))))
            (SI.add (SI.len (SL.v 0)) (SI.c (Int.ofNat 1))),
          SB.eq (SI.sel (SL.v 9) (SI.v 0) 0) (SI.c (Int.ofNat 0)), SB.lt (SI.v 0) (SI.c (Int.ofNat 80)),
          SB.lt (SI.v 0) (SI.len (SL.v 9)), SB.le (SI.c (Int.ofNat 0)) (SI.v 0), SB.le (SI.v 0) (SI.c (Int.ofNat 80)),
          SB.lt (SI.c (Int.ofNat 0)) (SI.v 1), SB.le (SI.len (SL.v 0)) (SI.v 0)],
      eqs :=
        [Eqn.T
            (SB.lt (SI.sub (SI.c (Int.ofNat 81)) (SI.add (SI.v 0) (SI.c (Int.ofNat 1))))
              (SI.sub (SI.c (Int.ofNat 81)) (SI.v 0)))] },
    {
      pc :=
        [SB.not
            (SB.lt (SI.c (Int.ofNat 0))
              (SI.len
                (SL.app 120
                  (SA.l (SL.v 0)
                    (SA.i (SI.v 1)
                      (SA.i (SI.sel (SL.v 9) (SI.v 0) 1)
                        (SA.i (SI.sel (SL.v 9) (SI.v 0) 2)
                          (SA.i (SI.sel (SL.v 9) (SI.v 0) 3) (SA.i (SI.sel (SL.v 9) (SI.v 0) 4) SA.nil))))))))),
          SB.le
            (SI.len
              (SL.app 120
                (SA.l (SL.v 0)
                  (SA.i (SI.v 1)
                    (SA.i (SI.sel (SL.v 9) (SI.v 0) 1)
                      (SA.i (SI.sel (SL.v 9) (SI.v 0) 2)
                        (SA.i (SI.sel (SL.v 9) (SI.v 0) 3) (SA.i (SI.sel (SL.v 9) (SI.v 0) 4) SA.nil))))))))
            (SI.add (SI.len (SL.v 0)) (SI.c (Int.ofNat 1))),
          SB.eq (SI.sel (SL.v 9) (SI.v 0) 0) (SI.c (Int.ofNat 0)), SB.lt (SI.v 0) (SI.c (Int.ofNat 80)),
          SB.lt (SI.v 0) (SI.len (SL.v 9)), SB.le (SI.c (Int.ofNat 0)) (SI.v 0), SB.le (SI.v 0) (SI.c (Int.ofNat 80)),
          SB.lt (SI.c (Int.ofNat 0)) (SI.v 1), SB.le (SI.len (SL.v 0)) (SI.v 0)],
      eqs :=
        [Eqn.T
            (SB.lt (SI.sub (SI.c (Int.ofNat 81)) (SI.add (SI.v 0) (SI.c (Int.ofNat 1))))
              (SI.sub (SI.c (Int.ofNat 81)) (SI.v 0)))] },
    {
      pc :=
        [SB.lt (SI.c (Int.ofNat 0)) (SI.len (SL.v 0)), SB.eq (SI.sel (SL.v 9) (SI.v 0) 0) (SI.c (Int.ofNat 1)),
          SB.not (SB.eq (SI.sel (SL.v 9) (SI.v 0) 0) (SI.c (Int.ofNat 0))), SB.lt (SI.v 0) (SI.c (Int.ofNat 80)),
          SB.lt (SI.v 0) (SI.len (SL.v 9)), SB.le (SI.c (Int.ofNat 0)) (SI.v 0), SB.le (SI.v 0) (SI.c (Int.ofNat 80)),
          SB.lt (SI.c (Int.ofNat 0)) (SI.v 1), SB.le (SI.len (SL.v 0)) (SI.v 0)],
      eqs :=
        [Eqn.T
            (SB.lt (SI.sub (SI.c (Int.ofNat 81)) (SI.add (SI.v 0) (SI.c (Int.ofNat 1))))
              (SI.sub (SI.c (Int.ofNat 81)) (SI.v 0)))] },
    {
      pc :=
        [SB.not (SB.lt (SI.c (Int.ofNat 0)) (SI.len (SL.v 0))), SB.eq (SI.sel (SL.v 9) (SI.v 0) 0) (SI.c (Int.ofNat 1)),
          SB.not (SB.eq (SI.sel (SL.v 9) (SI.v 0) 0) (SI.c (Int.ofNat 0))), SB.lt (SI.v 0) (SI.c (Int.ofNat 80)),
          SB.lt (SI.v 0) (SI.len (SL.v 9)), SB.le (SI.c (Int.ofNat 0)) (SI.v 0), SB.le (SI.v 0) (SI.c (Int.ofNat 80)),
          SB.lt (SI.c (Int.ofNat 0)) (SI.v 1), SB.le (SI.len (SL.v 0)) (SI.v 0)],
      eqs :=
        [Eqn.T
            (SB.lt (SI.sub (SI.c (Int.ofNat 81)) (SI.add (SI.v 0) (SI.c (Int.ofNat 1))))
              (SI.sub (SI.c (Int.ofNat 81)) (SI.v 0)))] },
    {
      pc :=
        [SB.lt (SI.c (Int.ofNat 0))
            (SI.len
              (SL.app 110
                (SA.l (SL.v 0) (SA.i (SI.sel (SL.v 9) (SI.v 0) 1) (SA.i (SI.sel (SL.v 9) (SI.v 0) 2) SA.nil))))),
          SB.le
            (SI.len
              (SL.app 110
                (SA.l (SL.v 0) (SA.i (SI.sel (SL.v 9) (SI.v 0) 1) (SA.i (SI.sel (SL.v 9) (SI.v 0) 2) SA.nil)))))
            (SI.len (SL.v 0)),
          SB.eq (SI.sel (SL.v 9) (SI.v 0) 0) (SI.c (Int.ofNat 2)),
          SB.not (SB.eq (SI.sel (SL.v 9) (SI.v 0) 0) (SI.c (Int.ofNat 1))),
          SB.not (SB.eq (SI.sel (SL.v 9) (SI.v 0) 0) (SI.c (Int.ofNat 0))), SB.lt (SI.v 0) (SI.c (Int.ofNat 80)),
          SB.lt (SI.v 0) (SI.len (SL.v 9)), SB.le (SI.c (Int.ofNat 0)) (SI.v 0), SB.le (SI.v 0) (SI.c (Int.ofNat 80)),
          SB.lt (SI.c (Int.ofNat 0)) (SI.v 1), SB.le (SI.len (SL.v 0)) (SI.v 0)],
      eqs :=
        [Eqn.T
            (SB.lt (SI.sub (SI.c (Int.ofNat 81)) (SI.add (SI.v 0) (SI.c (Int.ofNat 1))))
              (SI.sub (SI.c (Int.ofNat 81)) (SI.v 0)))] },
    {
      pc :=
        [SB.not
            (SB.lt (SI.c (Int.ofNat 0))
              (SI.len
                (SL.app 110
                  (SA.l (SL.v 0) (SA.i (SI.sel (SL.v 9) (SI.v 0) 1) (SA.i (SI.sel (SL.v 9) (SI.v 0) 2) SA.nil)))))),
          SB.le
            (SI.len
              (SL.app 110
                (SA.l (SL.v 0) (SA.i (SI.sel (SL.v 9) (SI.v 0) 1) (SA.i (SI.sel (SL.v 9) (SI.v 0) 2) SA.nil)))))
            (SI.len (SL.v 0)),
          SB.eq (SI.sel (SL.v 9) (SI.v 0) 0) (SI.c (Int.ofNat 2)),
          SB.not (SB.eq (SI.sel (SL.v 9) (SI.v 0) 0) (SI.c (Int.ofNat 1))),
          SB.not (SB.eq (SI.sel (SL.v 9) (SI.v 0) 0) (SI.c (Int.ofNat 0))), SB.lt (SI.v 0) (SI.c (Int.ofNat 80)),
          SB.lt (SI.v 0) (SI.len (SL.v 9)), SB.le (SI.c (Int.ofNat 0)) (SI.v 0), SB.le (SI.v 0) (SI.c (Int.ofNat 80)),
          SB.lt (SI.c (Int.ofNat 0)) (SI.v 1), SB.le (SI.len (SL.v 0)) (SI.v 0)],
      eqs :=
        [Eqn.T
            (SB.lt (SI.sub (SI.c (Int.ofNat 81)) (SI.add (SI.v 0) (SI.c (Int.ofNat 1))))
              (SI.sub (SI.c (Int.ofNat 81)) (SI.v 0)))] },
    {
      pc :=
        [SB.lt (SI.c (Int.ofNat 0)) (SI.len (SL.app 111 (SA.l (SL.v 0) (SA.i (SI.sel (SL.v 9) (SI.v 0) 1) SA.nil)))),
          SB.le (SI.len (SL.app 111 (SA.l (SL.v 0) (SA.i (SI.sel (SL.v 9) (SI.v 0) 1) SA.nil)))) (SI.len (SL.v 0)),
          SB.eq (SI.sel (SL.v 9) (SI.v 0) 0) (SI.c (Int.ofNat 3)),
          SB.not (SB.eq (SI.sel (SL.v 9) (SI.v 0) 0) (SI.c (Int.ofNat 2))),
          SB.not (SB.eq (SI.sel (SL.v 9) (SI.v 0) 0) (SI.c (Int.ofNat 1))),
          SB.not (SB.eq (SI.sel (SL.v 9) (SI.v 0) 0) (SI.c (Int.ofNat 0))), SB.lt (SI.v 0) (SI.c (Int.ofNat 80)),
          SB.lt (SI.v 0) (SI.len (SL.v 9)), SB.le (SI.c (Int.ofNat 0)) (SI.v 0), SB.le (SI.v 0) (SI.c (Int.ofNat 80)),
          SB.lt (SI.c (Int.ofNat 0)) (SI.v 1), SB.le (SI.len (SL.v 0)) (SI.v 0)],
      eqs :=
        [Eqn.T
            (SB.lt (SI.sub (SI.c (Int.ofNat 81)) (SI.add (SI.v 0) (SI.c (Int.ofNat 1))))
              (SI.sub (SI.c (Int.ofNat 81)) (SI.v 0)))] },
    {
      pc :=
        [SB.not
            (SB.lt (SI.c (Int.ofNat 0))
              (SI.len (SL.app 111 (SA.l (SL.v 0) (SA.i (SI.sel (SL.v 9) (SI.v 0) 1) SA.nil))))),
          SB.le (SI.len (SL.app 111 (SA.l (SL.v 0) (SA.i (SI.sel (SL.v 9) (SI.v 0) 1) SA.nil)))) (SI.len (SL.v 0)),
          SB.eq (SI.sel (SL.v 9) (SI.v 0) 0) (SI.c (Int.ofNat 3)),
          SB.not (SB.eq (SI.sel (SL.v 9) (SI.v 0) 0) (SI.c (Int.ofNat 2))),
          SB.not (SB.eq (SI.sel (SL.v 9) (SI.v 0) 0) (SI.c (Int.ofNat 1))),
          SB.not (SB.eq (SI.sel (SL.v 9) (SI.v 0) 0) (SI.c (Int.ofNat 0))), SB.lt (SI.v 0) (SI.c (Int.ofNat 80)),
          SB.lt (SI.v 0) (SI.len (SL.v 9)), SB.le (SI.c (Int.ofNat 0)) (SI.v 0), SB.le (SI.v 0) (SI.c (Int.ofNat 80)),
          SB.lt (SI.c (Int.ofNat 0)) (SI.v 1), SB.le (SI.len (SL.v 0)) (SI.v 0)],
      eqs :=
        [Eqn.T
            (SB.lt (SI.sub (SI.c (Int.ofNat 81)) (SI.add (SI.v 0) (SI.c (Int.ofNat 1))))
              (SI.sub (SI.c (Int.ofNat 81)) (SI.v 0)))] },
    {
      pc :=
        [SB.lt (SI.c (Int.ofNat 0)) (SI.len (SL.app 112 (SA.l (SL.v 0) (SA.i (SI.sel (SL.v 9) (SI.v 0) 3) SA.nil)))),
          SB.le (SI.len (SL.app 112 (SA.l (SL.v 0) (SA.i (SI.sel (SL.v 9) (SI.v 0) 3) SA.nil)))) (SI.len (SL.v 0)),
          SB.eq (SI.sel (SL.v 9) (SI.v 0) 0) (SI.c (Int.ofNat 4)),
          SB.not (SB.eq (SI.sel (SL.v 9) (SI.v 0) 0) (SI.c (Int.ofNat 3))),
          SB.not (SB.eq (SI.sel (SL.v 9) (SI.v 0) 0) (SI.c (Int.ofNat 2))),
          SB.not (SB.eq (SI.sel (SL.v 9) (SI.v 0) 0) (SI.c (Int.ofNat 1))),
          SB.not (SB.eq (SI.sel (SL.v 9) (SI.v 0) 0) (SI.c (Int.ofNat 0))), SB.lt (SI.v 0) (SI.c (Int.ofNat 80)),
          SB.lt (SI.v 0) (SI.len (SL.v 9)), SB.le (SI.c (Int.ofNat 0)) (SI.v 0), SB.le (SI.v 0) (SI.c (Int.ofNat 80)),
          SB.lt (SI.c (Int.ofNat 0)) (SI.v 1), SB.le (SI.len (SL.v 0)) (SI.v 0)],
      eqs :=
        [Eqn.T
            (SB.lt (SI.sub (SI.c (Int.ofNat 81)) (SI.add (SI.v 0) (SI.c (Int.ofNat 1))))
              (SI.sub (SI.c (Int.ofNat 81)) (SI.v 0)))] },
    {
      pc :=
        [SB.not
            (SB.lt (SI.c (Int.ofNat 0))
              (SI.len (SL.app 112 (SA.l (SL.v 0) (SA.i (SI.sel (SL.v 9) (SI.v 0) 3) SA.nil))))),
          SB.le (SI.len (SL.app 112 (SA.l (SL.v 0) (SA.i (SI.sel (SL.v 9) (SI.v 0) 3) SA.nil)))) (SI.len (SL.v 0)),
          SB.eq (SI.sel (SL.v 9) (SI.v 0) 0) (SI.c (Int.ofNat 4)),
          SB.not (SB.eq (SI.sel (SL.v 9) (SI.v 0) 0) (SI.c (Int.ofNat 3))),
          SB.not (SB.eq (SI.sel (SL.v 9) (SI.v 0) 0) (SI.c (Int.ofNat 2))),
          SB.not (SB.eq (SI.sel (SL.v 9) (SI.v 0) 0) (SI.c (Int.ofNat 1))),
          SB.not (SB.eq (SI.sel (SL.v 9) (SI.v 0) 0) (SI.c (Int.ofNat 0))), SB.lt (SI.v 0) (SI.c (Int.ofNat 80)),
          SB.lt (SI.v 0) (SI.len (SL.v 9)), SB.le (SI.c (Int.ofNat 0)) (SI.v 0), SB.le (SI.v 0) (SI.c (Int.ofNat 80)),
          SB.lt (SI.c (Int.ofNat 0)) (SI.v 1), SB.le (SI.len (SL.v 0)) (SI.v 0)],
      eqs :=
        [Eqn.T
            (SB.lt (SI.sub (SI.c (Int.ofNat 81)) (SI.add (SI.v 0) (SI.c (Int.ofNat 1))))
              (SI.sub (SI.c (Int.ofNat 81)) (SI.v 0)))] },
    {
      pc :=
        [SB.lt (SI.c (Int.ofNat 0)) (SI.len (SL.v 0)),
          SB.le
            (SI.len
              (SL.app 111
                (SA.l
                  (SL.app 120
                    (SA.l (SL.v 0)
                      (SA.i (SI.v 1)
                        (SA.i (SI.sel (SL.v 9) (SI.v 0) 1)
                          (SA.i (SI.sel (SL.v 9) (SI.v 0) 2)
                            (SA.i (SI.sel (SL.v 9) (SI.v 0) 3) (SA.i (SI.sel (SL.v 9) (SI.v 0) 4) SA.nil)))))))
                  (SA.i (SI.sel (SL.v 9) (SI.v 0) 1) SA.nil))))
            (SI.len
              (SL.app 120
                (SA.l (SL.v 0)
                  (SA.i (SI.v 1)
                    (SA.i (SI.sel (SL.v 9) (SI.v 0) 1)
                      (SA.i (SI.sel (SL.v 9) (SI.v 0) 2)
                        (SA.i (SI.sel (SL.v 9) (SI.v 0) 3) (SA.i (SI.sel (SL.v 9) (SI.v 0) 4) SA.nil)))))))),
          SB.le
            (SI.len
              (SL.app 120
                (SA.l (SL.v 0)
                  (SA.i (SI.v 1)
                    (SA.i (SI.sel (SL.v 9) (SI.v 0) 1)
                      (SA.i (SI.sel (SL.v 9) (SI.v 0) 2)
                        (SA.i (SI.sel (SL.v 9) (SI.v 0) 3) (SA.i (SI.sel (SL.v 9) (SI.v 0) 4) SA.nil))))))))
            (SI.add (SI.len (SL.v 0)) (SI.c (Int.ofNat 1))),
          SB.not (SB.eq (SI.sel (SL.v 9) (SI.v 0) 0) (SI.c (Int.ofNat 4))),
          SB.not (SB.eq (SI.sel (SL.v 9) (SI.v 0) 0) (SI.c (Int.ofNat 3))),
          SB.not (SB.eq (SI.sel (SL.v 9) (SI.v 0) 0) (SI.c (Int.ofNat 2))),
          SB.not (SB.eq (SI.sel (SL.v 9) (SI.v 0) 0) (SI.c (Int.ofNat 1))),
          SB.not (SB.eq (SI.sel (SL.v 9) (SI.v 0) 0) (SI.c (Int.ofNat 0))), SB.lt (SI.v 0) (SI.c (Int.ofNat 80)),
          SB.lt (SI.v 0) (SI.len (SL.v 9)), SB.le (SI.c (Int.ofNat 0)) (SI.v 0), SB.le (SI.v 0) (SI.c (Int.ofNat 80)),
          SB.lt (SI.c (Int.ofNat 0)) (SI.v 1), SB.le (SI.len (SL.v 0)) (SI.v 0)],
      eqs :=
        [Eqn.T
            (SB.lt (SI.sub (SI.c (Int.ofNat 81)) (SI.add (SI.v 0) (SI.c (Int.ofNat 1))))
              (SI.sub (SI.c (Int.ofNat 81)) (SI.v 0)))] },
    {
      pc :=
        [SB.not (SB.lt (SI.c (Int.ofNat 0)) (SI.len (SL.v 0))),
          SB.le
            (SI.len
              (SL.app 111
                (SA.l
                  (SL.app 120
                    (SA.l (SL.v 0)
                      (SA.i (SI.v 1)
                        (SA.i (SI.sel (SL.v 9) (SI.v 0) 1)
                          (SA.i (SI.sel (SL.v 9) (SI.v 0) 2)
                            (SA.i (SI.sel (SL.v 9) (SI.v 0) 3) (SA.i (SI.sel (SL.v 9) (SI.v 0) 4) SA.nil)))))))
                  (SA.i (SI.sel (SL.v 9) (SI.v 0) 1) SA.nil))))
            (SI.len
              (SL.app 120
                (SA.l (SL.v 0)
                  (SA.i (SI.v 1)
                    (SA.i (SI.sel (SL.v 9) (SI.v 0) 1)
                      (SA.i (SI.sel (SL.v 9) (SI.v 0) 2)
                        (SA.i (SI.sel (SL.v 9) (SI.v 0) 3) (SA.i (SI.sel (SL.v 9) (SI.v 0) 4) SA.nil)))))))),
          SB.le
            (SI.len
              (SL.app 120
                (SA.l (SL.v 0)
                  (SA.i (SI.v 1)
                    (SA.i (SI.sel (SL.v 9) (SI.v 0) 1)
                      (SA.i (SI.sel (SL.v 9) (SI.v 0) 2)
                        (SA.i (SI.sel (SL.v 9) (SI.v 0) 3) (SA.i (SI.sel (SL.v 9) (SI.v 0) 4) SA.nil))))))))
            (SI.add (SI.len (SL.v 0)) (SI.c (Int.ofNat 1))),
          SB.not (SB.eq (SI.sel (SL.v 9) (SI.v 0) 0) (SI.c (Int.ofNat 4))),
          SB.not (SB.eq (SI.sel (SL.v 9) (SI.v 0) 0) (SI.c (Int.ofNat 3))),
          SB.not (SB.eq (SI.sel (SL.v 9) (SI.v 0) 0) (SI.c (Int.ofNat 2))),
          SB.not (SB.eq (SI.sel (SL.v 9) (SI.v 0) 0) (SI.c (Int.ofNat 1))),
          SB.not (SB.eq (SI.sel (SL.v 9) (SI.v 0) 0) (SI.c (Int.ofNat 0))), SB.lt (SI.v 0) (SI.c (Int.ofNat 80)),
          SB.lt (SI.v 0) (SI.len (SL.v 9)), SB.le (SI.c (Int.ofNat 0)) (SI.v 0), SB.le (SI.v 0) (SI.c (Int.ofNat 80)),
          SB.lt (SI.c (Int.ofNat 0)) (SI.v 1), SB.le (SI.len (SL.v 0)) (SI.v 0)],
      eqs :=
        [Eqn.T
            (SB.lt (SI.sub (SI.c (Int.ofNat 81)) (SI.add (SI.v 0) (SI.c (Int.ofNat 1))))
              (SI.sub (SI.c (Int.ofNat 81)) (SI.v 0)))] }] := by kernel_rfl
theorem plLp_ok : plLp.ok Φ Try.prog := by
  refine ⟨by kernel_rfl, loop_rule (fun ρ => t9_ok ρ) (loopAt_sub (by kernel_rfl)) plLp_obs ?_⟩
  simp only [and_imp, List.forall_mem_cons, List.not_mem_nil, false_implies, implies_true, and_true, Ob.ok, holds, Eqn.ok, evB_eq, evB_lt, evB_le, evB_not, evB_and, evB_or, evB_eqL, evB_app, evB_v, evB_c, ev_sel, ev_len, ev_v, ev_c, ev_add, ev_sub, ev_mul, ev_quo, ev_rem, ev_bits, ev_wrap, evL_v, evL_lit, evL_app, ev_app, evA_l, evA_i, evA_nil, std_min, std_max, std_cat, std_take, std_drop, std_row, std_set, std_rep, ints_cons, ints_nil, ofNat_lit, negSucc_lit, decide_eq_true_eq, Bool.and_eq_true, Bool.or_eq_true, Bool.not_eq_true', Bool.and_eq_false_iff, Bool.or_eq_false_iff, decide_eq_false_iff_not, aI100, aL100, aI101, aL101, aI102, aL102, aI111, aI112, aI120, aI130, aI131, aL110, aL111, aL112, aL120, aL140, aL141, aL142, aB100, aB130, aB160, aB162, aB199, aL161]
  repeat' apply And.intro
  all_goals intro ρ hR
  all_goals intros
  all_goals first
    | (omega)
theorem t10_ok (ρ : Env) : TblOK Φ ρ Try.prog t10 := addLp_ok (t9_ok ρ) plLp_ok
set_option maxRecDepth 100000 in
theorem lPlays_obs : callObs Φ Try.prog t10 1000 lPlays.f lPlays.vs lPlays.o lPlays.pc lPlays.outs = some
  [] := by kernel_rfl
theorem lPlays_ok : lPlays.ok Φ Try.prog := by
  refine call_rule (fun ρ => t10_ok ρ) lPlays_obs ?_
  intro ob h; cases h
set_option maxRecDepth 100000 in
theorem on3_obs : loopObs Φ Try.prog t9 1000 on3.f (loopAt Try.prog on3.f on3.id) on3.n on3.T (.sub (.add (.v 3) (.c 1)) (.v 2)) on3.outs = some
  [{
      pc :=
        [SB.eq (SI.sel (SL.v 0) (SI.v 2) 1) (SI.sel (SL.v 0) (SI.v 3) 1),
          SB.eq (SI.sel (SL.v 0) (SI.v 2) 0) (SI.sel (SL.v 0) (SI.v 3) 0), SB.lt (SI.v 2) (SI.v 3),
          SB.le (SI.c (Int.ofNat 0)) (SI.v 2), SB.le (SI.v 2) (SI.v 3), SB.lt (SI.v 3) (SI.len (SL.v 0)),
          SB.le (SI.c (Int.ofNat 0)) (SI.v 0), SB.lt (SI.v 0) (SI.c (Int.ofNat 80)),
          SB.lt (SI.c (Int.ofNat 0)) (SI.v 1), SB.le (SI.v 1) (SI.c (Int.ofNat 8)), SB.app 160 (SA.l (SL.v 0) SA.nil),
          SB.c true, SB.le (SI.len (SL.v 0)) (SI.v 1)],
      eqs := [Eqn.T (SB.app 199 SA.nil)] },
    {
      pc :=
        [SB.not (SB.eq (SI.sel (SL.v 0) (SI.v 2) 1) (SI.sel (SL.v 0) (SI.v 3) 1)),
          SB.eq (SI.sel (SL.v 0) (SI.v 2) 0) (SI.sel (SL.v 0) (SI.v 3) 0), SB.lt (SI.v 2) (SI.v 3),
          SB.le (SI.c (Int.ofNat 0)) (SI.v 2), SB.le (SI.v 2) (SI.v 3), SB.lt (SI.v 3) (SI.len (SL.v 0)),
          SB.le (SI.c (Int.ofNat 0)) (SI.v 0), SB.lt (SI.v 0) (SI.c (Int.ofNat 80)),
          SB.lt (SI.c (Int.ofNat 0)) (SI.v 1), SB.le (SI.v 1) (SI.c (Int.ofNat 8)), SB.app 160 (SA.l (SL.v 0) SA.nil),
          SB.c true, SB.le (SI.len (SL.v 0)) (SI.v 1)],
      eqs :=
        [Eqn.T
            (SB.lt (SI.sub (SI.add (SI.v 3) (SI.c (Int.ofNat 1))) (SI.add (SI.v 2) (SI.c (Int.ofNat 1))))
              (SI.sub (SI.add (SI.v 3) (SI.c (Int.ofNat 1))) (SI.v 2))),
          Eqn.T (SB.lt (SI.c (Int.ofNat 0)) (SI.sub (SI.add (SI.v 3) (SI.c (Int.ofNat 1))) (SI.v 2)))] },
    {
      pc :=
        [SB.not (SB.eq (SI.sel (SL.v 0) (SI.v 2) 0) (SI.sel (SL.v 0) (SI.v 3) 0)), SB.lt (SI.v 2) (SI.v 3),
          SB.le (SI.c (Int.ofNat 0)) (SI.v 2), SB.le (SI.v 2) (SI.v 3), SB.lt (SI.v 3) (SI.len (SL.v 0)),
          SB.le (SI.c (Int.ofNat 0)) (SI.v 0), SB.lt (SI.v 0) (SI.c (Int.ofNat 80)),
          SB.lt (SI.c (Int.ofNat 0)) (SI.v 1), SB.le (SI.v 1) (SI.c (Int.ofNat 8)), SB.app 160 (SA.l (SL.v 0) SA.nil),
          SB.c true, SB.le (SI.len (SL.v 0)) (SI.v 1)],
      eqs :=
        [Eqn.T
            (SB.lt (SI.sub (SI.add (SI.v 3) (SI.c (Int.ofNat 1))) (SI.add (SI.v 2) (SI.c (Int.ofNat 1))))
              (SI.sub (SI.add (SI.v 3) (SI.c (Int.ofNat 1))) (SI.v 2))),
          Eqn.T (SB.lt (SI.c (Int.ofNat 0)) (SI.sub (SI.add (SI.v 3) (SI.c (Int.ofNat 1))) (SI.v 2)))] }] := by kernel_rfl
theorem on3_ok : on3.ok Φ Try.prog := by
  refine ⟨by kernel_rfl, loop_rule (fun ρ => t9_ok ρ) (loopAt_sub (by kernel_rfl)) on3_obs ?_⟩
  simp only [and_imp, List.forall_mem_cons, List.not_mem_nil, false_implies, implies_true, and_true, Ob.ok, holds, Eqn.ok, evB_eq, evB_lt, evB_le, evB_not, evB_and, evB_or, evB_eqL, evB_app, evB_v, evB_c, ev_sel, ev_len, ev_v, ev_c, ev_add, ev_sub, ev_mul, ev_quo, ev_rem, ev_bits, ev_wrap, evL_v, evL_lit, evL_app, ev_app, evA_l, evA_i, evA_nil, std_min, std_max, std_cat, std_take, std_drop, std_row, std_set, std_rep, ints_cons, ints_nil, ofNat_lit, negSucc_lit, decide_eq_true_eq, Bool.and_eq_true, Bool.or_eq_true, Bool.not_eq_true', Bool.and_eq_false_iff, Bool.or_eq_false_iff, decide_eq_false_iff_not, aI100, aL100, aI101, aL101, aI102, aL102, aI111, aI112, aI120, aI130, aI131, aL110, aL111, aL112, aL120, aL140, aL141, aL142, aB100, aB130, aB160, aB162, aB199, aL161]
  repeat' apply And.intro
  all_goals intro ρ hR
  all_goals intros
  all_goals first
    | (omega)
    | (exfalso
       exact nodup_two (A := ρ.l 0) (i := ρ.i 2) (j := ρ.i 3) (by assumption) (by omega) (by omega) (by omega) (by omega) (by omega))
theorem t11_ok (ρ : Env) : TblOK Φ ρ Try.prog t11 := addLp_ok (t9_ok ρ) on3_ok
set_option maxRecDepth 100000 in
theorem on2_obs : loopObs Φ Try.prog t11 1000 on2.f (loopAt Try.prog on2.f on2.id) on2.n on2.T (.sub (.add (.len l0) (.c 1)) (.v 2)) on2.outs = some
  [{
      pc :=
        [SB.lt (SI.v 2) (SI.len (SL.v 0)), SB.le (SI.c (Int.ofNat 0)) (SI.v 2), SB.le (SI.v 2) (SI.len (SL.v 0)),
          SB.le (SI.c (Int.ofNat 0)) (SI.v 0), SB.lt (SI.v 0) (SI.c (Int.ofNat 80)),
          SB.lt (SI.c (Int.ofNat 0)) (SI.v 1), SB.le (SI.v 1) (SI.c (Int.ofNat 8)), SB.app 160 (SA.l (SL.v 0) SA.nil),
          SB.c true, SB.le (SI.len (SL.v 0)) (SI.v 1)],
      eqs :=
        [Eqn.T
            (SB.lt (SI.sub (SI.add (SI.len (SL.v 0)) (SI.c (Int.ofNat 1))) (SI.add (SI.v 2) (SI.c (Int.ofNat 1))))
              (SI.sub (SI.add (SI.len (SL.v 0)) (SI.c (Int.ofNat 1))) (SI.v 2))),
          Eqn.T (SB.lt (SI.c (Int.ofNat 0)) (SI.sub (SI.add (SI.len (SL.v 0)) (SI.c (Int.ofNat 1))) (SI.v 2)))] }] := by kernel_rfl
theorem on2_ok : on2.ok Φ Try.prog := by
  refine ⟨by kernel_rfl, loop_rule (fun ρ => t11_ok ρ) (loopAt_sub (by kernel_rfl)) on2_obs ?_⟩
  simp only [and_imp, List.forall_mem_cons, List.not_mem_nil, false_implies, implies_true, and_true, Ob.ok, holds, Eqn.ok, evB_eq, evB_lt, evB_le, evB_not, evB_and, evB_or, evB_eqL, evB_app, evB_v, evB_c, ev_sel, ev_len, ev_v, ev_c, ev_add, ev_sub, ev_mul, ev_quo, ev_rem, ev_bits, ev_wrap, evL_v, evL_lit, evL_app, ev_app, evA_l, evA_i, evA_nil, std_min, std_max, std_cat, std_take, std_drop, std_row, std_set, std_rep, ints_cons, ints_nil, ofNat_lit, negSucc_lit, decide_eq_true_eq, Bool.and_eq_true, Bool.or_eq_true, Bool.not_eq_true', Bool.and_eq_false_iff, Bool.or_eq_false_iff, decide_eq_false_iff_not, aI100, aL100, aI101, aL101, aI102, aL102, aI111, aI112, aI120, aI130, aI131, aL110, aL111, aL112, aL120, aL140, aL141, aL142, aB100, aB130, aB160, aB162, aB199, aL161]
  repeat' apply And.intro
  all_goals intro ρ hR
  all_goals intros
  all_goals first
    | (omega)
theorem t12_ok (ρ : Env) : TblOK Φ ρ Try.prog t12 := addLp_ok (t11_ok ρ) on2_ok
set_option maxRecDepth 100000 in
theorem on1_obs : loopObs Φ Try.prog t12 1000 on1.f (loopAt Try.prog on1.f on1.id) on1.n on1.T (.sub (.c 81) (.v 0)) on1.outs = some
  [{
      pc :=
        [SB.app 160
            (SA.l
              (SL.app 120
                (SA.l (SL.v 0)
                  (SA.i (SI.v 1)
                    (SA.i (SI.sel (SL.v 9) (SI.v 0) 1)
                      (SA.i (SI.sel (SL.v 9) (SI.v 0) 2)
                        (SA.i (SI.sel (SL.v 9) (SI.v 0) 3) (SA.i (SI.sel (SL.v 9) (SI.v 0) 4) SA.nil)))))))
              SA.nil),
          SB.le
            (SI.len
              (SL.app 120
                (SA.l (SL.v 0)
                  (SA.i (SI.v 1)
                    (SA.i (SI.sel (SL.v 9) (SI.v 0) 1)
                      (SA.i (SI.sel (SL.v 9) (SI.v 0) 2)
                        (SA.i (SI.sel (SL.v 9) (SI.v 0) 3) (SA.i (SI.sel (SL.v 9) (SI.v 0) 4) SA.nil))))))))
            (SI.v 1),
          SB.eq
            (SI.app 131
              (SA.l
                (SL.app 120
                  (SA.l (SL.v 0)
                    (SA.i (SI.v 1)
                      (SA.i (SI.sel (SL.v 9) (SI.v 0) 1)
                        (SA.i (SI.sel (SL.v 9) (SI.v 0) 2)
                          (SA.i (SI.sel (SL.v 9) (SI.v 0) 3) (SA.i (SI.sel (SL.v 9) (SI.v 0) 4) SA.nil)))))))
                (SA.i (SI.c (Int.ofNat 0))
                  (SA.i (SI.sel (SL.v 9) (SI.v 0) 1)
                    (SA.i (SI.sel (SL.v 9) (SI.v 0) 2) (SA.i (SI.sel (SL.v 9) (SI.v 0) 4) SA.nil))))))
            (SI.c (Int.ofNat 0)),
          SB.eq
            (SI.app 130
              (SA.l
                (SL.app 120
                  (SA.l (SL.v 0)
                    (SA.i (SI.v 1)
                      (SA.i (SI.sel (SL.v 9) (SI.v 0) 1)
                        (SA.i (SI.sel (SL.v 9) (SI.v 0) 2)
                          (SA.i (SI.sel (SL.v 9) (SI.v 0) 3) (SA.i (SI.sel (SL.v 9) (SI.v 0) 4) SA.nil)))))))
                (SA.i (SI.c (Int.ofNat 0))
                  (SA.i (SI.sel (SL.v 9) (SI.v 0) 1)
                    (SA.i (SI.sel (SL.v 9) (SI.v 0) 2) (SA.i (SI.sel (SL.v 9) (SI.v 0) 4) SA.nil))))))
            (SI.sel (SL.v 9) (SI.v 0) 3),
          SB.eq
            (SI.app 120
              (SA.i (SI.sel (SL.v 9) (SI.v 0) 1)
                (SA.i (SI.sel (SL.v 9) (SI.v 0) 2)
                  (SA.i (SI.sel (SL.v 9) (SI.v 0) 3) (SA.i (SI.sel (SL.v 9) (SI.v 0) 4) SA.nil)))))
            (SI.c (Int.ofNat 0)),
          SB.le
            (SI.len
              (SL.app 120
                (SA.l (SL.v 0)
                  (SA.i (SI.v 1)
                    (SA.i (SI.sel (SL.v 9) (SI.v 0) 1)
                      (SA.i (SI.sel (SL.v 9) (SI.v 0) 2)
                        (SA.i (SI.sel (SL.v 9) (SI.v 0) 3) (SA.i (SI.sel (SL.v 9) (SI.v 0) 4) SA.nil))))))))
            (SI.add (SI.len (SL.v 0)) (SI.c (Int.ofNat 1))),
          SB.eq (SI.sel (SL.v 9) (SI.v 0) 0) (SI.c (Int.ofNat 0)), SB.lt (SI.v 0) (SI.c (Int.ofNat 80)),
          SB.lt (SI.v 0) (SI.len (SL.v 9)), SB.le (SI.c (Int.ofNat 0)) (SI.v 0), SB.le (SI.v 0) (SI.c (Int.ofNat 80)),
          SB.lt (SI.c (Int.ofNat 0)) (SI.v 1), SB.le (SI.v 1) (SI.c (Int.ofNat 8)), SB.le (SI.len (SL.v 0)) (SI.v 1),
          SB.app 160 (SA.l (SL.v 0) SA.nil)],
      eqs :=
        [Eqn.T
            (SB.lt (SI.sub (SI.c (Int.ofNat 81)) (SI.add (SI.v 0) (SI.c (Int.ofNat 1))))
              (SI.sub (SI.c (Int.ofNat 81)) (SI.v 0)))] },
    {
      pc :=
        [SB.not
            (SB.app 160
              (SA.l
                (SL.app 120
                  (SA.l (SL.v 0)
                    (SA.i (SI.v 1)
                      (SA.i (SI.sel (SL.v 9) (SI.v 0) 1)
                        (SA.i (SI.sel (SL.v 9) (SI.v 0) 2)
                          (SA.i (SI.sel (SL.v 9) (SI.v 0) 3) (SA.i (SI.sel (SL.v 9) (SI.v 0) 4) SA.nil)))))))
                SA.nil)),
          SB.eq
            (SI.app 131
              (SA.l
                (SL.app 120
                  (SA.l (SL.v 0)
                    (SA.i (SI.v 1)
                      (SA.i (SI.sel (SL.v 9) (SI.v 0) 1)
                        (SA.i (SI.sel (SL.v 9) (SI.v 0) 2)
                          (SA.i (SI.sel (SL.v 9) (SI.v 0) 3) (SA.i (SI.sel (SL.v 9) (SI.v 0) 4) SA.nil)))))))
                (SA.i (SI.c (Int.ofNat 0))
                  (SA.i (SI.sel (SL.v 9) (SI.v 0) 1)
                    (SA.i (SI.sel (SL.v 9) (SI.v 0) 2) (SA.i (SI.sel (SL.v 9) (SI.v 0) 4) SA.nil))))))
            (SI.c (Int.ofNat 0)),
          SB.eq
            (SI.app 130
              (SA.l
                (SL.app 120
                  (SA.l (SL.v 0)
                    (SA.i (SI.v 1)
                      (SA.i (SI.sel (SL.v 9) (SI.v 0) 1)
                        (SA.i (SI.sel (SL.v 9) (SI.v 0) 2)
                          (SA.i (SI.sel (SL.v 9) (SI.v 0) 3) (SA.i (SI.sel (SL.v 9) (SI.v 0) 4) SA.nil)))))))
                (SA.i (SI.c (Int.ofNat 0))
                  (SA.i (SI.sel (SL.v 9) (SI.v 0) 1)
                    (SA.i (SI.sel (SL.v 9) (SI.v 0) 2) (SA.i (SI.sel (SL.v 9) (SI.v 0) 4) SA.nil))))))
            (SI.sel (SL.v 9) (SI.v 0) 3),
          SB.eq
            (SI.app 120
              (SA.i (SI.sel (SL.v 9) (SI.v 0) 1)
                (SA.i (SI.sel (SL.v 9) (SI.v 0) 2)
                  (SA.i (SI.sel (SL.v 9) (SI.v 0) 3) (SA.i (SI.sel (SL.v 9) (SI.v 0) 4) SA.nil)))))
            (SI.c (Int.ofNat 0)),
          SB.le
            (SI.len
              (SL.app 120
                (SA.l (SL.v 0)
                  (SA.i (SI.v 1)
                    (SA.i (SI.sel (SL.v 9) (SI.v 0) 1)
                      (SA.i (SI.sel (SL.v 9) (SI.v 0) 2)
                        (SA.i (SI.sel (SL.v 9) (SI.v 0) 3) (SA.i (SI.sel (SL.v 9) (SI.v 0) 4) SA.nil))))))))
            (SI.add (SI.len (SL.v 0)) (SI.c (Int.ofNat 1))),
          SB.eq (SI.sel (SL.v 9) (SI.v 0) 0) (SI.c (Int.ofNat 0)), SB.lt (SI.v 0) (SI.c (Int.ofNat 80)),
          SB.lt (SI.v 0) (SI.len (SL.v 9)), SB.le (SI.c (Int.ofNat 0)) (SI.v 0), SB.le (SI.v 0) (SI.c (Int.ofNat 80)),
          SB.lt (SI.c (Int.ofNat 0)) (SI.v 1), SB.le (SI.v 1) (SI.c (Int.ofNat 8)), SB.le (SI.len (SL.v 0)) (SI.v 1),
          SB.app 160 (SA.l (SL.v 0) SA.nil)],
      eqs := [Eqn.T (SB.c false)] },
    {
      pc :=
        [SB.not
            (SB.le
              (SI.len
                (SL.app 120
                  (SA.l (SL.v 0)
                    (SA.i (SI.v 1)
                      (SA.i (SI.sel (SL.v 9) (SI.v 0) 1)
                        (SA.i (SI.sel (SL.v 9) (SI.v 0) 2)
                          (SA.i (SI.sel (SL.v 9) (SI.v 0) 3) (SA.i (SI.sel (SL.v 9) (SI.v 0) 4) SA.nil))))))))
              (SI.v 1)),
          SB.eq
            (SI.app 131
              (SA.l
                (SL.app 120
                  (SA.l (SL.v 0)
                    (SA.i (SI.v 1)
                      (SA.i (SI.sel (SL.v 9) (SI.v 0) 1)
                        (SA.i (SI.sel (SL.v 9) (SI.v 0) 2)
                          (SA.i (SI.sel (SL.v 9) (SI.v 0) 3) (SA.i (SI.sel (SL.v 9) (SI.v 0) 4) SA.nil)))))))
                (SA.i (SI.c (Int.ofNat 0))
                  (SA.i (SI.sel (SL.v 9) (SI.v 0) 1)
                    (SA.i (SI.sel (SL.v 9) (SI.v 0) 2) (SA.i (SI.sel (SL.v 9) (SI.v 0) 4) SA.nil))))))
            (SI.c (Int.ofNat 0)),
          SB.eq
            (SI.app 130
              (SA.l
                (SL.app 120
                  (SA.l (SL.v 0)
                    (SA.i (SI.v 1)
                      (SA.i (SI.sel (SL.v 9) (SI.v 0) 1)
                        (SA.i (SI.sel (SL.v 9) (SI.v 0) 2)
                          (SA.i (SI.sel (SL.v 9) (SI.v 0) 3) (SA.i (SI.sel (SL.v 9) (SI.v 0) 4) SA.nil)))))))
                (SA.i (SI.c (Int.ofNat 0))
                  (SA.i (SI.sel (SL.v 9) (SI.v 0) 1)
                    (SA.i (SI.sel (SL.v 9) (SI.v 0) 2) (SA.i (SI.sel (SL.v 9) (SI.v 0) 4) SA.nil))))))
            (SI.sel (SL.v 9) (SI.v 0) 3),
          SB.eq
            (SI.app 120
              (SA.i (SI.sel (SL.v 9) (SI.v 0) 1)
                (SA.i (SI.sel (SL.v 9) (SI.v 0) 2)
                  (SA.i (SI.sel (SL.v 9) (SI.v 0) 3) (SA.i (SI.sel (SL.v 9) (SI.v 0) 4) SA.nil)))))
            (SI.c (Int.ofNat 0)),
          SB.le
            (SI.len
              (SL.app 120
                (SA.l (SL.v 0)
                  (SA.i (SI.v 1)
                    (SA.i (SI.sel (SL.v 9) (SI.v 0) 1)
                      (SA.i (SI.sel (SL.v 9) (SI.v 0) 2)
                        (SA.i (SI.sel (SL.v 9) (SI.v 0) 3) (SA.i (SI.sel (SL.v 9) (SI.v 0) 4) SA.nil))))))))
            (SI.add (SI.len (SL.v 0)) (SI.c (Int.ofNat 1))),
          SB.eq (SI.sel (SL.v 9) (SI.v 0) 0) (SI.c (Int.ofNat 0)), SB.lt (SI.v 0) (SI.c (Int.ofNat 80)),
          SB.lt (SI.v 0) (SI.len (SL.v 9)), SB.le (SI.c (Int.ofNat 0)) (SI.v 0), SB.le (SI.v 0) (SI.c (Int.ofNat 80)),
          SB.lt (SI.c (Int.ofNat 0)) (SI.v 1), SB.le (SI.v 1) (SI.c (Int.ofNat 8)), SB.le (SI.len (SL.v 0)) (SI.v 1),
          SB.app 160 (SA.l (SL.v 0) SA.nil)],
      eqs := [Eqn.T (SB.c false)] },
    {
      pc :=
        [SB.not
            (SB.eq
              (SI.app 131
                (SA.l
                  (SL.app 120
                    (SA.l (SL.v 0)
                      (SA.i (SI.v 1)
                        (SA.i (SI.sel (SL.v 9) (SI.v 0) 1)
                          (SA.i (SI.sel (SL.v 9) (SI.v 0) 2)
                            (SA.i (SI.sel (SL.v 9) (SI.v 0) 3) (SA.i (SI.sel (SL.v 9) (SI.v 0) 4) SA.nil)))))))
                  (SA.i (SI.c (Int.ofNat 0))
                    (SA.i (SI.sel (SL.v 9) (SI.v 0) 1)
                      (SA.i (SI.sel (SL.v 9) (SI.v 0) 2) (SA.i (SI.sel (SL.v 9) (SI.v 0) 4) SA.nil))))))
              (SI.c (Int.ofNat 0))),
          SB.eq
            (SI.app 130
              (SA.l
                (SL.app 120
                  (SA.l (SL.v 0)
                    (SA.i (SI.v 1)
                      (SA.i (SI.sel (SL.v 9) (SI.v 0) 1)
                        (SA.i (SI.sel (SL.v 9) (SI.v 0) 2)
                          (SA.i (SI.sel (SL.v 9) (SI.v 0) 3) (SA.i (SI.sel (SL.v 9) (SI.v 0) 4) SA.nil)))))))
                (SA.i (SI.c (Int.ofNat 0))
                  (SA.i (SI.sel (SL.v 9) (SI.v 0) 1)
                    (SA.i (SI.sel (SL.v 9) (SI.v 0) 2) (SA.i (SI.sel (SL.v 9) (SI.v 0) 4) SA.nil))))))
            (SI.sel (SL.v 9) (SI.v 0) 3),
          SB.eq
            (SI.app 120
              (SA.i (SI.sel (SL.v 9) (SI.v 0) 1)
                (SA.i (SI.sel (SL.v 9) (SI.v 0) 2)
                  (SA.i (SI.sel (SL.v 9) (SI.v 0) 3) (SA.i (SI.sel (SL.v 9) (SI.v 0) 4) SA.nil)))))
            (SI.c (Int.ofNat 0)),
          SB.le
            (SI.len
              (SL.app 120
                (SA.l (SL.v 0)
                  (SA.i (SI.v 1)
                    (SA.i (SI.sel (SL.v 9) (SI.v 0) 1)
                      (SA.i (SI.sel (SL.v 9) (SI.v 0) 2)
                        (SA.i (SI.sel (SL.v 9) (SI.v 0) 3) (SA.i (SI.sel (SL.v 9) (SI.v 0) 4) SA.nil))))))))
            (SI.add (SI.len (SL.v 0)) (SI.c (Int.ofNat 1))),
          SB.eq (SI.sel (SL.v 9) (SI.v 0) 0) (SI.c (Int.ofNat 0)), SB.lt (SI.v 0) (SI.c (Int.ofNat 80)),
          SB.lt (SI.v 0) (SI.len (SL.v 9)), SB.le (SI.c (Int.ofNat 0)) (SI.v 0), SB.le (SI.v 0) (SI.c (Int.ofNat 80)),
          SB.lt (SI.c (Int.ofNat 0)) (SI.v 1), SB.le (SI.v 1) (SI.c (Int.ofNat 8)), SB.le (SI.len (SL.v 0)) (SI.v 1),
          SB.app 160 (SA.l (SL.v 0) SA.nil)],
      eqs := [Eqn.T (SB.app 199 SA.nil)] },
    {
      pc :=
        [SB.not
            (SB.eq
              (SI.app 130
                (SA.l
                  (SL.app 120
                    (SA.l (SL.v 0)
                      (SA.i (SI.v 1)
                        (SA.i (SI.sel (SL.v 9) (SI.v 0) 1)
                          (SA.i (SI.sel (SL.v 9) (SI.v 0) 2)
                            (SA.i (SI.sel (SL.v 9) (SI.v 0) 3) (SA.i (SI.sel (SL.v 9) (SI.v 0) 4) SA.nil)))))))
                  (SA.i (SI.c (Int.ofNat 0))
                    (SA.i (SI.sel (SL.v 9) (SI.v 0) 1)
                      (SA.i (SI.sel (SL.v 9) (SI.v 0) 2) (SA.i (SI.sel (SL.v 9) (SI.v 0) 4) SA.nil))))))
              (SI.sel (SL.v 9) (SI.v 0) 3)),
          SB.eq
            (SI.app 120
              (SA.i (SI.sel (SL.v 9) (SI.v 0) 1)
                (SA.i (SI.sel (SL.v 9) (SI.v 0) 2)
                  (SA.i (SI.sel (SL.v 9) (SI.v 0) 3) (SA.i (SI.sel (SL.v 9) (SI.v 0) 4) SA.nil)))))
            (SI.c (Int.ofNat 0)),
          SB.le
            (SI.len
              (SL.app 120
                (SA.l (SL.v 0)
                  (SA.i (SI.v 1)
                    (SA.i (SI.sel (SL.v 9) (SI.v 0) 1)
                      (SA.i (SI.sel (SL.v 9) (SI.v 0) 2)
                        (SA.i (SI.sel (SL.v 9) (SI.v 0) 3) (SA.i (SI.sel (SL.v 9) (SI.v 0) 4) SA.nil))))))))
            (SI.add (SI.len (SL.v 0)) (SI.c (Int.ofNat 1))),
          SB.eq (SI.sel (SL.v 9) (SI.v 0) 0) (SI.c (Int.ofNat 0)), SB.lt (SI.v 0) (SI.c (Int.ofNat 80)),
          SB.lt (SI.v 0) (SI.len (SL.v 9)), SB.le (SI.c (Int.ofNat 0)) (SI.v 0), SB.le (SI.v 0) (SI.c (Int.ofNat 80)),
          SB.lt (SI.c (Int.ofNat 0)) (SI.v 1), SB.le (SI.v 1) (SI.c (Int.ofNat 8)), SB.le (SI.len (SL.v 0)) (SI.v 1),
          SB.app 160 (SA.l (SL.v 0) SA.nil)],
      eqs := [Eqn.T (SB.app 199 SA.nil)] },
    {
      pc :=
        [SB.app 160
            (SA.l
              (SL.app 120
                (SA.l (SL.v 0)
                  (SA.i (SI.v 1)
                    (SA.i (SI.sel (SL.v 9) (SI.v 0) 1)
                      (SA.i (SI.sel (SL.v 9) (SI.v 0) 2)
                        (SA.i (SI.sel (SL.v 9) (SI.v 0) 3) (SA.i (SI.sel (SL.v 9) (SI.v 0) 4) SA.nil)))))))
              SA.nil),
          SB.le
            (SI.len
              (SL.app 120
                (SA.l (SL.v 0)
                  (SA.i (SI.v 1)
                    (SA.i (SI.sel (SL.v 9) (SI.v 0) 1)
                      (SA.i (SI.sel (SL.v 9) (SI.v 0) 2)
                        (SA.i (SI.sel (SL.v 9) (SI.v 0) 3) (SA.i (SI.sel (SL.v 9) (SI.v 0) 4) SA.nil))))))))
            (SI.v 1),
          SB.not
            (SB.eq
              (SI.app 120
                (SA.i (SI.sel (SL.v 9) (SI.v 0) 1)
                  (SA.i (SI.sel (SL.v 9) (SI.v 0) 2)
                    (SA.i (SI.sel (SL.v 9) (SI.v 0) 3) (SA.i (SI.sel (SL.v 9) (SI.v 0) 4) SA.nil)))))
              (SI.c (Int.ofNat 0))),
          SB.le
            (SI.len
              (SL.app 120
                (SA.l (SL.v 0)
                  (SA.i (SI.v 1)
                    (SA.i (SI.sel (SL.v 9) (SI.v 0) 1)
                      (SA.i (SI.sel (SL.v 9) (SI.v 0) 2)
                        (SA.i (SI.sel (SL.v 9) (SI.v 0) 3) (SA.i (SI.sel (SL.v 9) (SI.v 0) 4) SA.nil))))))))
            (SI.add (SI.len (SL.v 0)) (SI.c (Int.ofNat 1))),
          SB.eq (SI.sel (SL.v 9) (SI.v 0) 0) (SI.c (Int.ofNat 0)), SB.lt (SI.v 0) (SI.c (Int.ofNat 80)),
          SB.lt (SI.v 0) (SI.len (SL.v 9)), SB.le (SI.c (Int.ofNat 0)) (SI.v 0), SB.le (SI.v 0) (SI.c (Int.ofNat 80)),
          SB.lt (SI.c (Int.ofNat 0)) (SI.v 1), SB.le (SI.v 1) (SI.c (Int.ofNat 8)), SB.le (SI.len (SL.v 0)) (SI.v 1),
          SB.app 160 (SA.l (SL.v 0) SA.nil)],
      eqs :=
        [Eqn.T
            (SB.lt (SI.sub (SI.c (Int.ofNat 81)) (SI.add (SI.v 0) (SI.c (Int.ofNat 1))))
              (SI.sub (SI.c (Int.ofNat 81)) (SI.v 0)))] },
    {
      pc :=
        [SB.not
            (SB.app 160
              (SA.l
                (SL.app 120
                  (SA.l (SL.v 0)
                    (SA.i (SI.v 1)
                      (SA.i (SI.sel (SL.v 9) (SI.v 0) 1)
                        (SA.i (SI.sel (SL.v 9) (SI.v 0) 2)
                          (SA.i (SI.sel (SL.v 9) (SI.v 0) 3) (SA.i (SI.sel (SL.v 9) (SI.v 0) 4) SA.nil)))))))
                SA.nil)),
          SB.not
            (SB.eq
              (SI.app 120
                (SA.i (SI.sel (SL.v 9) (SI.v 0) 1)
                  (SA.i (SI.sel (SL.v 9) (SI.v 0) 2)
                    (SA.i (SI.sel (SL.v 9) (SI.v 0) 3) (SA.i (SI.sel (SL.v 9) (SI.v 0) 4) SA.nil)))))
              (SI.c (Int.ofNat 0))),
          SB.le
            (SI.len
              (SL.app 120
                (SA.l (SL.v 0)
                  (SA.i (SI.v 1)
                    (SA.i (SI.sel (SL.v 9) (SI.v 0) 1)
                      (SA.i (SI.sel (SL.v 9) (SI.v 0) 2)
                        (SA.i (SI.sel (SL.v 9) (SI.v 0) 3) (SA.i (SI.sel (SL.v 9) (SI.v 0) 4) SA.nil))))))))
            (SI.add (SI.len (SL.v 0)) (SI.c (Int.ofNat 1))),
          SB.eq (SI.sel (SL.v 9) (SI.v 0) 0) (SI.c (Int.ofNat 0)), SB.lt (SI.v 0) (SI.c (Int.ofNat 80)),
          SB.lt (SI.v 0) (SI.len (SL.v 9)), SB.le (SI.c (Int.ofNat 0)) (SI.v 0), SB.le (SI.v 0) (SI.c (Int.ofNat 80)),
          SB.lt (SI.c (Int.ofNat 0)) (SI.v 1), SB.le (SI.v 1) (SI.c (Int.ofNat 8)), SB.le (SI.len (SL.v 0)) (SI.v 1),
          SB.app 160 (SA.l (SL.v 0) SA.nil)],
      eqs := [Eqn.T (SB.c false)] },
    {
      pc :=
        [SB.not
            (SB.le
              (SI.len
                (SL.app 120
                  (SA.l (SL.v 0)
                    (SA.i (SI.v 1)
                      (SA.i (SI.sel (SL.v 9) (SI.v 0) 1)
                        (SA.i (SI.sel (SL.v 9) (SI.v 0) 2)
                          (SA.i (SI.sel (SL.v 9) (SI.v 0) 3) (SA.i (SI.sel (SL.v 9) (SI.v 0) 4) SA.nil))))))))
              (SI.v 1)),
          SB.not
            (SB.eq
              (SI.app 120
                (SA.i (SI.sel (SL.v 9) (SI.v 0) 1)
                  (SA.i (SI.sel (SL.v 9) (SI.v 0) 2)
                    (SA.i (SI.sel (SL.v 9) (SI.v 0) 3) (SA.i (SI.sel (SL.v 9) (SI.v 0) 4) SA.nil)))))
              (SI.c (Int.ofNat 0))),
          SB.le
            (SI.len
              (SL.app 120
                (SA.l (SL.v 0)
                  (SA.i (SI.v 1)
                    (SA.i (SI.sel (SL.v 9) (SI.v 0) 1)
                      (SA.i (SI.sel (SL.v 9) (SI.v 0) 2)
                        (SA.i (SI.sel (SL.v 9) (SI.v 0) 3) (SA.i (SI.sel (SL.v 9) (SI.v 0) 4) SA.nil))))))))
            (SI.add (SI.len (SL.v 0)) (SI.c (Int.ofNat 1))),
          SB.eq (SI.sel (SL.v 9) (SI.v 0) 0) (SI.c (Int.ofNat 0)), SB.lt (SI.v 0) (SI.c (Int.ofNat 80)),
          SB.lt (SI.v 0) (SI.len (SL.v 9)), SB.le (SI.c (Int.ofNat 0)) (SI.v 0), SB.le (SI.v 0) (SI.c (Int.ofNat 80)),
          SB.lt (SI.c (Int.ofNat 0)) (SI.v 1), SB.le (SI.v 1) (SI.c (Int.ofNat 8)), SB.le (SI.len (SL.v 0)) (SI.v 1),
          SB.app 160 (SA.l (SL.v 0) SA.nil)],
      eqs := [Eqn.T (SB.c false)] },
    {
      pc :=
        [SB.app 160
            (SA.l
              (SL.app 110
                (SA.l (SL.v 0) (SA.i (SI.sel (SL.v 9) (SI.v 0) 1) (SA.i (SI.sel (SL.v 9) (SI.v 0) 2) SA.nil))))
              SA.nil),
          SB.eq
            (SI.app 131
              (SA.l
                (SL.app 110
                  (SA.l (SL.v 0) (SA.i (SI.sel (SL.v 9) (SI.v 0) 1) (SA.i (SI.sel (SL.v 9) (SI.v 0) 2) SA.nil))))
                (SA.i (SI.c (Int.ofNat 0))
                  (SA.i (SI.sel (SL.v 9) (SI.v 0) 1)
                    (SA.i (SI.sel (SL.v 9) (SI.v 0) 2) (SA.i (SI.c (Int.ofNat 0)) SA.nil))))))
            (SI.c (Int.ofNat 4)),
          SB.le
            (SI.len
              (SL.app 110
                (SA.l (SL.v 0) (SA.i (SI.sel (SL.v 9) (SI.v 0) 1) (SA.i (SI.sel (SL.v 9) (SI.v 0) 2) SA.nil)))))
            (SI.len (SL.v 0)),
          SB.eq (SI.sel (SL.v 9) (SI.v 0) 0) (SI.c (Int.ofNat 2)),
          SB.not (SB.eq (SI.sel (SL.v 9) (SI.v 0) 0) (SI.c (Int.ofNat 0))), SB.lt (SI.v 0) (SI.c (Int.ofNat 80)),
          SB.lt (SI.v 0) (SI.len (SL.v 9)), SB.le (SI.c (Int.ofNat 0)) (SI.v 0), SB.le (SI.v 0) (SI.c (Int.ofNat 80)),
          SB.lt (SI.c (Int.ofNat 0)) (SI.v 1), SB.le (SI.v 1) (SI.c (Int.ofNat 8)), SB.le (SI.len (SL.v 0)) (SI.v 1),
          SB.app 160 (SA.l (SL.v 0) SA.nil)],
      eqs :=
        [Eqn.T
            (SB.lt (SI.sub (SI.c (Int.ofNat 81)) (SI.add (SI.v 0) (SI.c (Int.ofNat 1))))
              (SI.sub (SI.c (Int.ofNat 81)) (SI.v 0)))] },
    {
      pc :=
        [SB.not
            (SB.app 160
              (SA.l
                (SL.app 110
                  (SA.l (SL.v 0) (SA.i (SI.sel (SL.v 9) (SI.v 0) 1) (SA.i (SI.sel (SL.v 9) (SI.v 0) 2) SA.nil))))
                SA.nil)),
          SB.eq
            (SI.app 131
              (SA.l
                (SL.app 110
                  (SA.l (SL.v 0) (SA.i (SI.sel (SL.v 9) (SI.v 0) 1) (SA.i (SI.sel (SL.v 9) (SI.v 0) 2) SA.nil))))
                (SA.i (SI.c (Int.ofNat 0))
                  (SA.i (SI.sel (SL.v 9) (SI.v 0) 1)
                    (SA.i (SI.sel (SL.v 9) (SI.v 0) 2) (SA.i (SI.c (Int.ofNat 0)) SA.nil))))))
            (SI.c (Int.ofNat 4)),
          SB.le
            (SI.len
              (SL.app 110
                (SA.l (SL.v 0) (SA.i (SI.sel (SL.v 9) (SI.v 0) 1) (SA.i (SI.sel (SL.v 9) (SI.v 0) 2) SA.nil)))))
            (SI.len (SL.v 0)),
          SB.eq (SI.sel (SL.v 9) (SI.v 0) 0) (SI.c (Int.ofNat 2)),
          SB.not (SB.eq (SI.sel (SL.v 9) (SI.v 0) 0) (SI.c (Int.ofNat 0))), SB.lt (SI.v 0) (SI.c (Int.ofNat 80)),
          SB.lt (SI.v 0) (SI.len (SL.v 9)), SB.le (SI.c (Int.ofNat 0)) (SI.v 0), SB.le (SI.v 0) (SI.c (Int.ofNat 80)),
          SB.lt (SI.c (Int.ofNat 0)) (SI.v 1), SB.le (SI.v 1) (SI.c (Int.ofNat 8)), SB.le (SI.len (SL.v 0)) (SI.v 1),
          SB.app 160 (SA.l (SL.v 0) SA.nil)],
      eqs := [Eqn.T (SB.c false)] },
    {
      pc :=
        [SB.not
            (SB.eq
              (SI.app 131
                (SA.l
                  (SL.app 110
                    (SA.l (SL.v 0) (SA.i (SI.sel (SL.v 9) (SI.v 0) 1) (SA.i (SI.sel (SL.v 9) (SI.v 0) 2) SA.nil))))
                  (SA.i (SI.c (Int.ofNat 0))
                    (SA.i (SI.sel (SL.v 9) (SI.v 0) 1)
                      (SA.i (SI.sel (SL.v 9) (SI.v 0) 2) (SA.i (SI.c (Int.ofNat 0)) SA.nil))))))
              (SI.c (Int.ofNat 4))),
          SB.le
            (SI.len
              (SL.app 110
                (SA.l (SL.v 0) (SA.i (SI.sel (SL.v 9) (SI.v 0) 1) (SA.i (SI.sel (SL.v 9) (SI.v 0) 2) SA.nil)))))
            (SI.len (SL.v 0)),
          SB.eq (SI.sel (SL.v 9) (SI.v 0) 0) (SI.c (Int.ofNat 2)),
          SB.not (SB.eq (SI.sel (SL.v 9) (SI.v 0) 0) (SI.c (Int.ofNat 0))), SB.lt (SI.v 0) (SI.c (Int.ofNat 80)),
          SB.lt (SI.v 0) (SI.len (SL.v 9)), SB.le (SI.c (Int.ofNat 0)) (SI.v 0), SB.le (SI.v 0) (SI.c (Int.ofNat 80)),
          SB.lt (SI.c (Int.ofNat 0)) (SI.v 1), SB.le (SI.v 1) (SI.c (Int.ofNat 8)), SB.le (SI.len (SL.v 0)) (SI.v 1),
          SB.app 160 (SA.l (SL.v 0) SA.nil)],
      eqs := [Eqn.T (SB.app 199 SA.nil)] },
    {
      pc :=
        [SB.not (SB.eq (SI.sel (SL.v 9) (SI.v 0) 0) (SI.c (Int.ofNat 2))),
          SB.not (SB.eq (SI.sel (SL.v 9) (SI.v 0) 0) (SI.c (Int.ofNat 0))), SB.lt (SI.v 0) (SI.c (Int.ofNat 80)),
          SB.lt (SI.v 0) (SI.len (SL.v 9)), SB.le (SI.c (Int.ofNat 0)) (SI.v 0), SB.le (SI.v 0) (SI.c (Int.ofNat 80)),
          SB.lt (SI.c (Int.ofNat 0)) (SI.v 1), SB.le (SI.v 1) (SI.c (Int.ofNat 8)), SB.le (SI.len (SL.v 0)) (SI.v 1),
          SB.app 160 (SA.l (SL.v 0) SA.nil)],
      eqs :=
        [Eqn.T
            (SB.lt (SI.sub (SI.c (Int.ofNat 81)) (SI.add (SI.v 0) (SI.c (Int.ofNat 1))))
              (SI.sub (SI.c (Int.ofNat 81)) (SI.v 0)))] }] := by kernel_rfl
theorem on1_ok : on1.ok Φ Try.prog := by
  refine ⟨by kernel_rfl, loop_rule (fun ρ => t12_ok ρ) (loopAt_sub (by kernel_rfl)) on1_obs ?_⟩
  simp only [and_imp, List.forall_mem_cons, List.not_mem_nil, false_implies, implies_true, and_true, Ob.ok, holds, Eqn.ok, evB_eq, evB_lt, evB_le, evB_not, evB_and, evB_or, evB_eqL, evB_app, evB_v, evB_c, ev_sel, ev_len, ev_v, ev_c, ev_add, ev_sub, ev_mul, ev_quo, ev_rem, ev_bits, ev_wrap, evL_v, evL_lit, evL_app, ev_app, evA_l, evA_i, evA_nil, std_min, std_max, std_cat, std_take, std_drop, std_row, std_set, std_rep, ints_cons, ints_nil, ofNat_lit, negSucc_lit, decide_eq_true_eq, Bool.and_eq_true, Bool.or_eq_true, Bool.not_eq_true', Bool.and_eq_false_iff, Bool.or_eq_false_iff, decide_eq_false_iff_not, aI100, aL100, aI101, aL101, aI102, aL102, aI111, aI112, aI120, aI130, aI131, aL110, aL111, aL112, aL120, aL140, aL141, aL142, aB100, aB130, aB160, aB162, aB199, aL161]
  repeat' apply And.intro
  all_goals intro ρ hR
  all_goals intros
  all_goals first
    | (omega)
    | (exfalso
       have hf := ‹nodupL (fillL _ _ _ _ _ _) = false›
       exact Bool.false_ne_true (hf.symm.trans (nodup_fill (by assumption))))
    | (exfalso
       have hf := ‹nodupL (keep _ _) = false›
       exact Bool.false_ne_true (hf.symm.trans (nodup_keep _ (by assumption))))
    | (exfalso
       have hf := fill_len (A := ρ.l 0) (s := ρ.i 1) (t := ((ρ.l 9).getD (ρ.i 0).toNat []).getD 1 0) (p := ((ρ.l 9).getD (ρ.i 0).toNat []).getD 2 0) (f := ((ρ.l 9).getD (ρ.i 0).toNat []).getD 3 0) (r := ((ρ.l 9).getD (ρ.i 0).toNat []).getD 4 0) (by omega)
       omega)
    | (exfalso
       exact absurd (lookE_fill (rightB_of (by assumption))) (by assumption))
    | (exfalso
       exact absurd (lookF_fill (rightB_of (by assumption))) (by assumption))
    | (exfalso
       exact absurd (lookE_keep) (by assumption))
theorem t13_ok (ρ : Env) : TblOK Φ ρ Try.prog t13 := addLp_ok (t12_ok ρ) on1_ok
set_option maxRecDepth 100000 in
theorem lOne_obs : callObs Φ Try.prog t13 1000 lOne.f lOne.vs lOne.o lOne.pc lOne.outs = some
  [] := by kernel_rfl
theorem lOne_ok : lOne.ok Φ Try.prog := by
  refine call_rule (fun ρ => t13_ok ρ) lOne_obs ?_
  intro ob h; cases h
set_option maxRecDepth 100000 in
theorem la1_obs : loopObs Φ Try.prog t9 1000 la1.f (loopAt Try.prog la1.f la1.id) la1.n la1.T (.sub (.add (.v 1) (.c 1)) (.v 0)) la1.outs = some
  [{
      pc :=
        [SB.le
            (SI.len
              (SL.app 120
                (SA.l (SL.v 0)
                  (SA.i (SI.v 1)
                    (SA.i (SI.v 2)
                      (SA.i (SI.v 0)
                        (SA.i (SI.add (SI.v 0) (SI.c (Int.ofNat 100))) (SA.i (SI.c (Int.ofNat 1)) SA.nil))))))))
            (SI.add (SI.len (SL.v 0)) (SI.c (Int.ofNat 1))),
          SB.lt (SI.v 0) (SI.v 1), SB.le (SI.c (Int.ofNat 0)) (SI.v 0), SB.le (SI.v 0) (SI.v 1),
          SB.le (SI.c (Int.ofNat 1)) (SI.v 1), SB.le (SI.v 1) (SI.c (Int.ofNat 64)),
          SB.le (SI.c (Int.ofNat 1)) (SI.v 2), SB.le (SI.v 2) (SI.c (Int.ofNat 16)),
          SB.eqL (SL.v 0) (SL.app 161 (SA.i (SI.v 2) (SA.i (SI.v 0) SA.nil))), SB.eq (SI.len (SL.v 0)) (SI.v 0)],
      eqs :=
        [Eqn.T
            (SB.lt (SI.sub (SI.add (SI.v 1) (SI.c (Int.ofNat 1))) (SI.add (SI.v 0) (SI.c (Int.ofNat 1))))
              (SI.sub (SI.add (SI.v 1) (SI.c (Int.ofNat 1))) (SI.v 0))),
          Eqn.T (SB.lt (SI.c (Int.ofNat 0)) (SI.sub (SI.add (SI.v 1) (SI.c (Int.ofNat 1))) (SI.v 0))),
          Eqn.T
            (SB.eqL
              (SL.app 120
                (SA.l (SL.v 0)
                  (SA.i (SI.v 1)
                    (SA.i (SI.v 2)
                      (SA.i (SI.v 0)
                        (SA.i (SI.add (SI.v 0) (SI.c (Int.ofNat 100))) (SA.i (SI.c (Int.ofNat 1)) SA.nil)))))))
              (SL.app 161 (SA.i (SI.v 2) (SA.i (SI.add (SI.v 0) (SI.c (Int.ofNat 1))) SA.nil)))),
          Eqn.T
            (SB.eq
              (SI.len
                (SL.app 120
                  (SA.l (SL.v 0)
                    (SA.i (SI.v 1)
                      (SA.i (SI.v 2)
                        (SA.i (SI.v 0)
                          (SA.i (SI.add (SI.v 0) (SI.c (Int.ofNat 100))) (SA.i (SI.c (Int.ofNat 1)) SA.nil))))))))
              (SI.add (SI.v 0) (SI.c (Int.ofNat 1))))] },
    {
      pc :=
        [SB.not (SB.lt (SI.v 0) (SI.v 1)), SB.le (SI.c (Int.ofNat 0)) (SI.v 0), SB.le (SI.v 0) (SI.v 1),
          SB.le (SI.c (Int.ofNat 1)) (SI.v 1), SB.le (SI.v 1) (SI.c (Int.ofNat 64)),
          SB.le (SI.c (Int.ofNat 1)) (SI.v 2), SB.le (SI.v 2) (SI.c (Int.ofNat 16)),
          SB.eqL (SL.v 0) (SL.app 161 (SA.i (SI.v 2) (SA.i (SI.v 0) SA.nil))), SB.eq (SI.len (SL.v 0)) (SI.v 0)],
      eqs :=
        [Eqn.T (SB.eq (SI.len (SL.app 161 (SA.i (SI.v 2) (SA.i (SI.v 1) SA.nil)))) (SI.v 1)),
          Eqn.I (SI.len (SL.app 161 (SA.i (SI.v 2) (SA.i (SI.v 1) SA.nil)))) (SI.len (SL.v 0)),
          Eqn.L (SL.app 161 (SA.i (SI.v 2) (SA.i (SI.v 1) SA.nil))) (SL.v 0)] }] := by kernel_rfl
theorem la1_ok : la1.ok Φ Try.prog := by
  refine ⟨by kernel_rfl, loop_rule (fun ρ => t9_ok ρ) (loopAt_sub (by kernel_rfl)) la1_obs ?_⟩
  simp only [and_imp, List.forall_mem_cons, List.not_mem_nil, false_implies, implies_true, and_true, Ob.ok, holds, Eqn.ok, evB_eq, evB_lt, evB_le, evB_not, evB_and, evB_or, evB_eqL, evB_app, evB_v, evB_c, ev_sel, ev_len, ev_v, ev_c, ev_add, ev_sub, ev_mul, ev_quo, ev_rem, ev_bits, ev_wrap, evL_v, evL_lit, evL_app, ev_app, evA_l, evA_i, evA_nil, std_min, std_max, std_cat, std_take, std_drop, std_row, std_set, std_rep, ints_cons, ints_nil, ofNat_lit, negSucc_lit, decide_eq_true_eq, Bool.and_eq_true, Bool.or_eq_true, Bool.not_eq_true', Bool.and_eq_false_iff, Bool.or_eq_false_iff, decide_eq_false_iff_not, aI100, aL100, aI101, aL101, aI102, aL102, aI111, aI112, aI120, aI130, aI131, aL110, aL111, aL112, aL120, aL140, aL141, aL142, aB100, aB130, aB160, aB162, aB199, aL161]
  repeat' apply And.intro
  all_goals intro ρ hR
  all_goals intros
  all_goals first
    | (have e : ρ.l 0 = lastA (ρ.i 2) (ρ.i 0) := by assumption
       have hf := last_fill (g := ρ.i 2) (i := ρ.i 0) (n := ρ.i 1) (by omega) (by omega) (by omega) (by omega) (by omega)
       rw [Int.add_comm 100] at hf
       rw [e, hf]
       have hl := lastA_len (g := ρ.i 2) (i := ρ.i 0 + 1) (by omega)
       exact ⟨by omega, by omega, rfl, by omega⟩)
    | (have e : ρ.l 0 = lastA (ρ.i 2) (ρ.i 0) := by assumption
       have h1 : ρ.i 0 = ρ.i 1 := by omega
       rw [h1] at e
       have hl := lastA_len (g := ρ.i 2) (i := ρ.i 1) (by omega)
       exact ⟨hl, by rw [e], e.symm⟩)
set_option maxRecDepth 100000 in
theorem la2_obs : loopObs Φ Try.prog t9 1000 la2.f (loopAt Try.prog la2.f la2.id) la2.n la2.T (.sub (.add (.v 1) (.c 1)) (.v 0)) la2.outs = some
  [{
      pc :=
        [SB.eq
            (SI.app 131
              (SA.l (SL.app 161 (SA.i (SI.v 2) (SA.i (SI.v 1) SA.nil)))
                (SA.i (SI.c (Int.ofNat 0)) (SA.i (SI.v 2) (SA.i (SI.v 0) (SA.i (SI.c (Int.ofNat 1)) SA.nil))))))
            (SI.c (Int.ofNat 0)),
          SB.eq
            (SI.app 130
              (SA.l (SL.app 161 (SA.i (SI.v 2) (SA.i (SI.v 1) SA.nil)))
                (SA.i (SI.c (Int.ofNat 0)) (SA.i (SI.v 2) (SA.i (SI.v 0) (SA.i (SI.c (Int.ofNat 1)) SA.nil))))))
            (SI.add (SI.v 0) (SI.c (Int.ofNat 100))),
          SB.lt (SI.v 0) (SI.v 1), SB.le (SI.c (Int.ofNat 0)) (SI.v 0), SB.le (SI.v 0) (SI.v 1),
          SB.le (SI.c (Int.ofNat 1)) (SI.v 1), SB.le (SI.v 1) (SI.c (Int.ofNat 64)),
          SB.le (SI.c (Int.ofNat 1)) (SI.v 2), SB.le (SI.v 2) (SI.c (Int.ofNat 16)),
          SB.eq (SI.len (SL.app 161 (SA.i (SI.v 2) (SA.i (SI.v 1) SA.nil)))) (SI.v 1)],
      eqs :=
        [Eqn.T
            (SB.lt (SI.sub (SI.add (SI.v 1) (SI.c (Int.ofNat 1))) (SI.add (SI.v 0) (SI.c (Int.ofNat 1))))
              (SI.sub (SI.add (SI.v 1) (SI.c (Int.ofNat 1))) (SI.v 0))),
          Eqn.T (SB.lt (SI.c (Int.ofNat 0)) (SI.sub (SI.add (SI.v 1) (SI.c (Int.ofNat 1))) (SI.v 0)))] },
    {
      pc :=
        [SB.not
            (SB.eq
              (SI.app 131
                (SA.l (SL.app 161 (SA.i (SI.v 2) (SA.i (SI.v 1) SA.nil)))
                  (SA.i (SI.c (Int.ofNat 0)) (SA.i (SI.v 2) (SA.i (SI.v 0) (SA.i (SI.c (Int.ofNat 1)) SA.nil))))))
              (SI.c (Int.ofNat 0))),
          SB.eq
            (SI.app 130
              (SA.l (SL.app 161 (SA.i (SI.v 2) (SA.i (SI.v 1) SA.nil)))
                (SA.i (SI.c (Int.ofNat 0)) (SA.i (SI.v 2) (SA.i (SI.v 0) (SA.i (SI.c (Int.ofNat 1)) SA.nil))))))
            (SI.add (SI.v 0) (SI.c (Int.ofNat 100))),
          SB.lt (SI.v 0) (SI.v 1), SB.le (SI.c (Int.ofNat 0)) (SI.v 0), SB.le (SI.v 0) (SI.v 1),
          SB.le (SI.c (Int.ofNat 1)) (SI.v 1), SB.le (SI.v 1) (SI.c (Int.ofNat 64)),
          SB.le (SI.c (Int.ofNat 1)) (SI.v 2), SB.le (SI.v 2) (SI.c (Int.ofNat 16)),
          SB.eq (SI.len (SL.app 161 (SA.i (SI.v 2) (SA.i (SI.v 1) SA.nil)))) (SI.v 1)],
      eqs := [Eqn.T (SB.app 199 SA.nil)] },
    {
      pc :=
        [SB.not
            (SB.eq
              (SI.app 130
                (SA.l (SL.app 161 (SA.i (SI.v 2) (SA.i (SI.v 1) SA.nil)))
                  (SA.i (SI.c (Int.ofNat 0)) (SA.i (SI.v 2) (SA.i (SI.v 0) (SA.i (SI.c (Int.ofNat 1)) SA.nil))))))
              (SI.add (SI.v 0) (SI.c (Int.ofNat 100)))),
          SB.lt (SI.v 0) (SI.v 1), SB.le (SI.c (Int.ofNat 0)) (SI.v 0), SB.le (SI.v 0) (SI.v 1),
          SB.le (SI.c (Int.ofNat 1)) (SI.v 1), SB.le (SI.v 1) (SI.c (Int.ofNat 64)),
          SB.le (SI.c (Int.ofNat 1)) (SI.v 2), SB.le (SI.v 2) (SI.c (Int.ofNat 16)),
          SB.eq (SI.len (SL.app 161 (SA.i (SI.v 2) (SA.i (SI.v 1) SA.nil)))) (SI.v 1)],
      eqs := [Eqn.T (SB.app 199 SA.nil)] }] := by kernel_rfl
theorem la2_ok : la2.ok Φ Try.prog := by
  refine ⟨by kernel_rfl, loop_rule (fun ρ => t9_ok ρ) (loopAt_sub (by kernel_rfl)) la2_obs ?_⟩
  simp only [and_imp, List.forall_mem_cons, List.not_mem_nil, false_implies, implies_true, and_true, Ob.ok, holds, Eqn.ok, evB_eq, evB_lt, evB_le, evB_not, evB_and, evB_or, evB_eqL, evB_app, evB_v, evB_c, ev_sel, ev_len, ev_v, ev_c, ev_add, ev_sub, ev_mul, ev_quo, ev_rem, ev_bits, ev_wrap, evL_v, evL_lit, evL_app, ev_app, evA_l, evA_i, evA_nil, std_min, std_max, std_cat, std_take, std_drop, std_row, std_set, std_rep, ints_cons, ints_nil, ofNat_lit, negSucc_lit, decide_eq_true_eq, Bool.and_eq_true, Bool.or_eq_true, Bool.not_eq_true', Bool.and_eq_false_iff, Bool.or_eq_false_iff, decide_eq_false_iff_not, aI100, aL100, aI101, aL101, aI102, aL102, aI111, aI112, aI120, aI130, aI131, aL110, aL111, aL112, aL120, aL140, aL141, aL142, aB100, aB130, aB160, aB162, aB199, aL161]
  repeat' apply And.intro
  all_goals intro ρ hR
  all_goals intros
  all_goals first
    | (omega)
    | (exfalso
       exact absurd (last_lookE (by omega) (by omega)) (by assumption))
    | (exfalso
       exact absurd (last_lookF (by omega) (by omega)) (by assumption))
theorem t14_ok (ρ : Env) : TblOK Φ ρ Try.prog t14 := addLp_ok (addLp_ok (t9_ok ρ) la1_ok) la2_ok
set_option maxRecDepth 100000 in
theorem lLast_obs : callObs Φ Try.prog t14 1000 lLast.f lLast.vs lLast.o lLast.pc lLast.outs = some
  [{
      pc :=
        [SB.not
            (SB.eq
              (SI.len
                (SL.app 111
                  (SA.l
                    (SL.app 120
                      (SA.l
                        (SL.app 161
                          (SA.i (SI.add (SI.rem (SI.v 1) (SI.c (Int.ofNat 16))) (SI.c (Int.ofNat 1)))
                            (SA.i (SI.add (SI.rem (SI.v 0) (SI.c (Int.ofNat 64))) (SI.c (Int.ofNat 1))) SA.nil)))
                        (SA.i (SI.add (SI.rem (SI.v 0) (SI.c (Int.ofNat 64))) (SI.c (Int.ofNat 1)))
                          (SA.i (SI.add (SI.rem (SI.v 1) (SI.c (Int.ofNat 16))) (SI.c (Int.ofNat 1)))
                            (SA.i (SI.c (Int.ofNat 1000))
                              (SA.i (SI.c (Int.ofNat 9)) (SA.i (SI.c (Int.ofNat 1)) SA.nil)))))))
                    (SA.i (SI.add (SI.rem (SI.v 1) (SI.c (Int.ofNat 16))) (SI.c (Int.ofNat 1))) SA.nil))))
              (SI.c (Int.ofNat 0))),
          SB.eq
            (SI.app 111
              (SA.l
                (SL.app 120
                  (SA.l
                    (SL.app 161
                      (SA.i (SI.add (SI.rem (SI.v 1) (SI.c (Int.ofNat 16))) (SI.c (Int.ofNat 1)))
                        (SA.i (SI.add (SI.rem (SI.v 0) (SI.c (Int.ofNat 64))) (SI.c (Int.ofNat 1))) SA.nil)))
                    (SA.i (SI.add (SI.rem (SI.v 0) (SI.c (Int.ofNat 64))) (SI.c (Int.ofNat 1)))
                      (SA.i (SI.add (SI.rem (SI.v 1) (SI.c (Int.ofNat 16))) (SI.c (Int.ofNat 1)))
                        (SA.i (SI.c (Int.ofNat 1000))
                          (SA.i (SI.c (Int.ofNat 9)) (SA.i (SI.c (Int.ofNat 1)) SA.nil)))))))
                (SA.i (SI.add (SI.rem (SI.v 1) (SI.c (Int.ofNat 16))) (SI.c (Int.ofNat 1))) SA.nil)))
            (SI.add (SI.rem (SI.v 0) (SI.c (Int.ofNat 64))) (SI.c (Int.ofNat 1))),
          SB.le
            (SI.len
              (SL.app 111
                (SA.l
                  (SL.app 120
                    (SA.l
                      (SL.app 161
                        (SA.i (SI.add (SI.rem (SI.v 1) (SI.c (Int.ofNat 16))) (SI.c (Int.ofNat 1)))
                          (SA.i (SI.add (SI.rem (SI.v 0) (SI.c (Int.ofNat 64))) (SI.c (Int.ofNat 1))) SA.nil)))
                      (SA.i (SI.add (SI.rem (SI.v 0) (SI.c (Int.ofNat 64))) (SI.c (Int.ofNat 1)))
                        (SA.i (SI.add (SI.rem (SI.v 1) (SI.c (Int.ofNat 16))) (SI.c (Int.ofNat 1)))
                          (SA.i (SI.c (Int.ofNat 1000))
                            (SA.i (SI.c (Int.ofNat 9)) (SA.i (SI.c (Int.ofNat 1)) SA.nil)))))))
                  (SA.i (SI.add (SI.rem (SI.v 1) (SI.c (Int.ofNat 16))) (SI.c (Int.ofNat 1))) SA.nil))))
            (SI.len
              (SL.app 120
                (SA.l
                  (SL.app 161
                    (SA.i (SI.add (SI.rem (SI.v 1) (SI.c (Int.ofNat 16))) (SI.c (Int.ofNat 1)))
                      (SA.i (SI.add (SI.rem (SI.v 0) (SI.c (Int.ofNat 64))) (SI.c (Int.ofNat 1))) SA.nil)))
                  (SA.i (SI.add (SI.rem (SI.v 0) (SI.c (Int.ofNat 64))) (SI.c (Int.ofNat 1)))
                    (SA.i (SI.add (SI.rem (SI.v 1) (SI.c (Int.ofNat 16))) (SI.c (Int.ofNat 1)))
                      (SA.i (SI.c (Int.ofNat 1000))
                        (SA.i (SI.c (Int.ofNat 9)) (SA.i (SI.c (Int.ofNat 1)) SA.nil)))))))),
          SB.eq
            (SI.len
              (SL.app 120
                (SA.l
                  (SL.app 161
                    (SA.i (SI.add (SI.rem (SI.v 1) (SI.c (Int.ofNat 16))) (SI.c (Int.ofNat 1)))
                      (SA.i (SI.add (SI.rem (SI.v 0) (SI.c (Int.ofNat 64))) (SI.c (Int.ofNat 1))) SA.nil)))
                  (SA.i (SI.add (SI.rem (SI.v 0) (SI.c (Int.ofNat 64))) (SI.c (Int.ofNat 1)))
                    (SA.i (SI.add (SI.rem (SI.v 1) (SI.c (Int.ofNat 16))) (SI.c (Int.ofNat 1)))
                      (SA.i (SI.c (Int.ofNat 1000)) (SA.i (SI.c (Int.ofNat 9)) (SA.i (SI.c (Int.ofNat 1)) SA.nil))))))))
            (SI.add (SI.rem (SI.v 0) (SI.c (Int.ofNat 64))) (SI.c (Int.ofNat 1))),
          SB.eq
            (SI.app 131
              (SA.l
                (SL.app 120
                  (SA.l
                    (SL.app 161
                      (SA.i (SI.add (SI.rem (SI.v 1) (SI.c (Int.ofNat 16))) (SI.c (Int.ofNat 1)))
                        (SA.i (SI.add (SI.rem (SI.v 0) (SI.c (Int.ofNat 64))) (SI.c (Int.ofNat 1))) SA.nil)))
                    (SA.i (SI.add (SI.rem (SI.v 0) (SI.c (Int.ofNat 64))) (SI.c (Int.ofNat 1)))
                      (SA.i (SI.add (SI.rem (SI.v 1) (SI.c (Int.ofNat 16))) (SI.c (Int.ofNat 1)))
                        (SA.i (SI.c (Int.ofNat 1000))
                          (SA.i (SI.c (Int.ofNat 9)) (SA.i (SI.c (Int.ofNat 1)) SA.nil)))))))
                (SA.i (SI.c (Int.ofNat 0))
                  (SA.i (SI.add (SI.rem (SI.v 1) (SI.c (Int.ofNat 16))) (SI.c (Int.ofNat 1)))
                    (SA.i (SI.c (Int.ofNat 1000)) (SA.i (SI.c (Int.ofNat 0)) SA.nil))))))
            (SI.c (Int.ofNat 0)),
          SB.eq
            (SI.app 130
              (SA.l
                (SL.app 120
                  (SA.l
                    (SL.app 161
                      (SA.i (SI.add (SI.rem (SI.v 1) (SI.c (Int.ofNat 16))) (SI.c (Int.ofNat 1)))
                        (SA.i (SI.add (SI.rem (SI.v 0) (SI.c (Int.ofNat 64))) (SI.c (Int.ofNat 1))) SA.nil)))
                    (SA.i (SI.add (SI.rem (SI.v 0) (SI.c (Int.ofNat 64))) (SI.c (Int.ofNat 1)))
                      (SA.i (SI.add (SI.rem (SI.v 1) (SI.c (Int.ofNat 16))) (SI.c (Int.ofNat 1)))
                        (SA.i (SI.c (Int.ofNat 1000))
                          (SA.i (SI.c (Int.ofNat 9)) (SA.i (SI.c (Int.ofNat 1)) SA.nil)))))))
                (SA.i (SI.c (Int.ofNat 0))
                  (SA.i (SI.add (SI.rem (SI.v 1) (SI.c (Int.ofNat 16))) (SI.c (Int.ofNat 1)))
                    (SA.i (SI.c (Int.ofNat 1000)) (SA.i (SI.c (Int.ofNat 0)) SA.nil))))))
            (SI.c (Int.ofNat 9)),
          SB.eq
            (SI.app 131
              (SA.l
                (SL.app 120
                  (SA.l
                    (SL.app 161
                      (SA.i (SI.add (SI.rem (SI.v 1) (SI.c (Int.ofNat 16))) (SI.c (Int.ofNat 1)))
                        (SA.i (SI.add (SI.rem (SI.v 0) (SI.c (Int.ofNat 64))) (SI.c (Int.ofNat 1))) SA.nil)))
                    (SA.i (SI.add (SI.rem (SI.v 0) (SI.c (Int.ofNat 64))) (SI.c (Int.ofNat 1)))
                      (SA.i (SI.add (SI.rem (SI.v 1) (SI.c (Int.ofNat 16))) (SI.c (Int.ofNat 1)))
                        (SA.i (SI.c (Int.ofNat 1000))
                          (SA.i (SI.c (Int.ofNat 9)) (SA.i (SI.c (Int.ofNat 1)) SA.nil)))))))
                (SA.i (SI.c (Int.ofNat 0))
                  (SA.i (SI.add (SI.rem (SI.v 1) (SI.c (Int.ofNat 16))) (SI.c (Int.ofNat 1)))
                    (SA.i (SI.c (Int.ofNat 0)) (SA.i (SI.c (Int.ofNat 0)) SA.nil))))))
            (SI.c (Int.ofNat 4)),
          SB.le
            (SI.len
              (SL.app 120
                (SA.l
                  (SL.app 161
                    (SA.i (SI.add (SI.rem (SI.v 1) (SI.c (Int.ofNat 16))) (SI.c (Int.ofNat 1)))
                      (SA.i (SI.add (SI.rem (SI.v 0) (SI.c (Int.ofNat 64))) (SI.c (Int.ofNat 1))) SA.nil)))
                  (SA.i (SI.add (SI.rem (SI.v 0) (SI.c (Int.ofNat 64))) (SI.c (Int.ofNat 1)))
                    (SA.i (SI.add (SI.rem (SI.v 1) (SI.c (Int.ofNat 16))) (SI.c (Int.ofNat 1)))
                      (SA.i (SI.c (Int.ofNat 1000)) (SA.i (SI.c (Int.ofNat 9)) (SA.i (SI.c (Int.ofNat 1)) SA.nil))))))))
            (SI.add
              (SI.len
                (SL.app 161
                  (SA.i (SI.add (SI.rem (SI.v 1) (SI.c (Int.ofNat 16))) (SI.c (Int.ofNat 1)))
                    (SA.i (SI.add (SI.rem (SI.v 0) (SI.c (Int.ofNat 64))) (SI.c (Int.ofNat 1))) SA.nil))))
              (SI.c (Int.ofNat 1))),
          SB.eq
            (SI.len
              (SL.app 161
                (SA.i (SI.add (SI.rem (SI.v 1) (SI.c (Int.ofNat 16))) (SI.c (Int.ofNat 1)))
                  (SA.i (SI.add (SI.rem (SI.v 0) (SI.c (Int.ofNat 64))) (SI.c (Int.ofNat 1))) SA.nil))))
            (SI.add (SI.rem (SI.v 0) (SI.c (Int.ofNat 64))) (SI.c (Int.ofNat 1))),
          SB.eqL (SL.lit [])
            (SL.app 161
              (SA.i (SI.add (SI.rem (SI.v 1) (SI.c (Int.ofNat 16))) (SI.c (Int.ofNat 1)))
                (SA.i (SI.c (Int.ofNat 0)) SA.nil))),
          SB.le (SI.c (Int.ofNat 0)) (SI.v 0), SB.le (SI.v 0) (SI.c (Int.ofNat 255)),
          SB.le (SI.c (Int.ofNat 0)) (SI.v 1), SB.le (SI.v 1) (SI.c (Int.ofNat 255))],
      eqs := [Eqn.B (SB.c true) (SB.c false)] },
    {
      pc :=
        [SB.not
            (SB.eq
              (SI.app 111
                (SA.l
                  (SL.app 120
                    (SA.l
                      (SL.app 161
                        (SA.i (SI.add (SI.rem (SI.v 1) (SI.c (Int.ofNat 16))) (SI.c (Int.ofNat 1)))
                          (SA.i (SI.add (SI.rem (SI.v 0) (SI.c (Int.ofNat 64))) (SI.c (Int.ofNat 1))) SA.nil)))
                      (SA.i (SI.add (SI.rem (SI.v 0) (SI.c (Int.ofNat 64))) (SI.c (Int.ofNat 1)))
                        (SA.i (SI.add (SI.rem (SI.v 1) (SI.c (Int.ofNat 16))) (SI.c (Int.ofNat 1)))
                          (SA.i (SI.c (Int.ofNat 1000))
                            (SA.i (SI.c (Int.ofNat 9)) (SA.i (SI.c (Int.ofNat 1)) SA.nil)))))))
                  (SA.i (SI.add (SI.rem (SI.v 1) (SI.c (Int.ofNat 16))) (SI.c (Int.ofNat 1))) SA.nil)))
              (SI.add (SI.rem (SI.v 0) (SI.c (Int.ofNat 64))) (SI.c (Int.ofNat 1)))),
          SB.le
            (SI.len
              (SL.app 111
                (SA.l
                  (SL.app 120
                    (SA.l
                      (SL.app 161
                        (SA.i (SI.add (SI.rem (SI.v 1) (SI.c (Int.ofNat 16))) (SI.c (Int.ofNat 1)))
                          (SA.i (SI.add (SI.rem (SI.v 0) (SI.c (Int.ofNat 64))) (SI.c (Int.ofNat 1))) SA.nil)))
                      (SA.i (SI.add (SI.rem (SI.v 0) (SI.c (Int.ofNat 64))) (SI.c (Int.ofNat 1)))
                        (SA.i (SI.add (SI.rem (SI.v 1) (SI.c (Int.ofNat 16))) (SI.c (Int.ofNat 1)))
                          (SA.i (SI.c (Int.ofNat 1000))
                            (SA.i (SI.c (Int.ofNat 9)) (SA.i (SI.c (Int.ofNat 1)) SA.nil)))))))
                  (SA.i (SI.add (SI.rem (SI.v 1) (SI.c (Int.ofNat 16))) (SI.c (Int.ofNat 1))) SA.nil))))
            (SI.len
              (SL.app 120
                (SA.l
                  (SL.app 161
                    (SA.i (SI.add (SI.rem (SI.v 1) (SI.c (Int.ofNat 16))) (SI.c (Int.ofNat 1)))
                      (SA.i (SI.add (SI.rem (SI.v 0) (SI.c (Int.ofNat 64))) (SI.c (Int.ofNat 1))) SA.nil)))
                  (SA.i (SI.add (SI.rem (SI.v 0) (SI.c (Int.ofNat 64))) (SI.c (Int.ofNat 1)))
                    (SA.i (SI.add (SI.rem (SI.v 1) (SI.c (Int.ofNat 16))) (SI.c (Int.ofNat 1)))
                      (SA.i (SI.c (Int.ofNat 1000))
                        (SA.i (SI.c (Int.ofNat 9)) (SA.i (SI.c (Int.ofNat 1)) SA.nil)))))))),
          SB.eq
            (SI.len
              (SL.app 120
                (SA.l
                  (SL.app 161
                    (SA.i (SI.add (SI.rem (SI.v 1) (SI.c (Int.ofNat 16))) (SI.c (Int.ofNat 1)))
                      (SA.i (SI.add (SI.rem (SI.v 0) (SI.c (Int.ofNat 64))) (SI.c (Int.ofNat 1))) SA.nil)))
                  (SA.i (SI.add (SI.rem (SI.v 0) (SI.c (Int.ofNat 64))) (SI.c (Int.ofNat 1)))
                    (SA.i (SI.add (SI.rem (SI.v 1) (SI.c (Int.ofNat 16))) (SI.c (Int.ofNat 1)))
                      (SA.i (SI.c (Int.ofNat 1000)) (SA.i (SI.c (Int.ofNat 9)) (SA.i (SI.c (Int.ofNat 1)) SA.nil))))))))
            (SI.add (SI.rem (SI.v 0) (SI.c (Int.ofNat 64))) (SI.c (Int.ofNat 1))),
          SB.eq
            (SI.app 131
              (SA.l
                (SL.app 120
                  (SA.l
                    (SL.app 161
                      (SA.i (SI.add (SI.rem (SI.v 1) (SI.c (Int.ofNat 16))) (SI.c (Int.ofNat 1)))
                        (SA.i (SI.add (SI.rem (SI.v 0) (SI.c (Int.ofNat 64))) (SI.c (Int.ofNat 1))) SA.nil)))
                    (SA.i (SI.add (SI.rem (SI.v 0) (SI.c (Int.ofNat 64))) (SI.c (Int.ofNat 1)))
                      (SA.i (SI.add (SI.rem (SI.v 1) (SI.c (Int.ofNat 16))) (SI.c (Int.ofNat 1)))
                        (SA.i (SI.c (Int.ofNat 1000))
                          (SA.i (SI.c (Int.ofNat 9)) (SA.i (SI.c (Int.ofNat 1)) SA.nil)))))))
                (SA.i (SI.c (Int.ofNat 0))
                  (SA.i (SI.add (SI.rem (SI.v 1) (SI.c (Int.ofNat 16))) (SI.c (Int.ofNat 1)))
                    (SA.i (SI.c (Int.ofNat 1000)) (SA.i (SI.c (Int.ofNat 0)) SA.nil))))))
            (SI.c (Int.ofNat 0)),
          SB.eq
            (SI.app 130
              (SA.l
                (SL.app 120
                  (SA.l
                    (SL.app 161
                      (SA.i (SI.add (SI.rem (SI.v 1) (SI.c (Int.ofNat 16))) (SI.c (Int.ofNat 1)))
                        (SA.i (SI.add (SI.rem (SI.v 0) (SI.c (Int.ofNat 64))) (SI.c (Int.ofNat 1))) SA.nil)))
                    (SA.i (SI.add (SI.rem (SI.v 0) (SI.c (Int.ofNat 64))) (SI.c (Int.ofNat 1)))
                      (SA.i (SI.add (SI.rem (SI.v 1) (SI.c (Int.ofNat 16))) (SI.c (Int.ofNat 1)))
                        (SA.i (SI.c (Int.ofNat 1000))
                          (SA.i (SI.c (Int.ofNat 9)) (SA.i (SI.c (Int.ofNat 1)) SA.nil)))))))
                (SA.i (SI.c (Int.ofNat 0))
                  (SA.i (SI.add (SI.rem (SI.v 1) (SI.c (Int.ofNat 16))) (SI.c (Int.ofNat 1)))
                    (SA.i (SI.c (Int.ofNat 1000)) (SA.i (SI.c (Int.ofNat 0)) SA.nil))))))
            (SI.c (Int.ofNat 9)),
          SB.eq
            (SI.app 131
              (SA.l
                (SL.app 120
                  (SA.l
                    (SL.app 161
                      (SA.i (SI.add (SI.rem (SI.v 1) (SI.c (Int.ofNat 16))) (SI.c (Int.ofNat 1)))
                        (SA.i (SI.add (SI.rem (SI.v 0) (SI.c (Int.ofNat 64))) (SI.c (Int.ofNat 1))) SA.nil)))
                    (SA.i (SI.add (SI.rem (SI.v 0) (SI.c (Int.ofNat 64))) (SI.c (Int.ofNat 1)))
                      (SA.i (SI.add (SI.rem (SI.v 1) (SI.c (Int.ofNat 16))) (SI.c (Int.ofNat 1)))
                        (SA.i (SI.c (Int.ofNat 1000))
                          (SA.i (SI.c (Int.ofNat 9)) (SA.i (SI.c (Int.ofNat 1)) SA.nil)))))))
                (SA.i (SI.c (Int.ofNat 0))
                  (SA.i (SI.add (SI.rem (SI.v 1) (SI.c (Int.ofNat 16))) (SI.c (Int.ofNat 1)))
                    (SA.i (SI.c (Int.ofNat 0)) (SA.i (SI.c (Int.ofNat 0)) SA.nil))))))
            (SI.c (Int.ofNat 4)),
          SB.le
            (SI.len
              (SL.app 120
                (SA.l
                  (SL.app 161
                    (SA.i (SI.add (SI.rem (SI.v 1) (SI.c (Int.ofNat 16))) (SI.c (Int.ofNat 1)))
                      (SA.i (SI.add (SI.rem (SI.v 0) (SI.c (Int.ofNat 64))) (SI.c (Int.ofNat 1))) SA.nil)))
                  (SA.i (SI.add (SI.rem (SI.v 0) (SI.c (Int.ofNat 64))) (SI.c (Int.ofNat 1)))
                    (SA.i (SI.add (SI.rem (SI.v 1) (SI.c (Int.ofNat 16))) (SI.c (Int.ofNat 1)))
                      (SA.i (SI.c (Int.ofNat 1000)) (SA.i (SI.c (Int.ofNat 9)) (SA.i (SI.c (Int.ofNat 1)) SA.nil))))))))
            (SI.add
              (SI.len
                (SL.app 161
                  (SA.i (SI.add (SI.rem (SI.v 1) (SI.c (Int.ofNat 16))) (SI.c (Int.ofNat 1)))
                    (SA.i (SI.add (SI.rem (SI.v 0) (SI.c (Int.ofNat 64))) (SI.c (Int.ofNat 1))) SA.nil))))
              (SI.c (Int.ofNat 1))),
          SB.eq
            (SI.len
              (SL.app 161
                (SA.i (SI.add (SI.rem (SI.v 1) (SI.c (Int.ofNat 16))) (SI.c (Int.ofNat 1)))
                  (SA.i (SI.add (SI.rem (SI.v 0) (SI.c (Int.ofNat 64))) (SI.c (Int.ofNat 1))) SA.nil))))
            (SI.add (SI.rem (SI.v 0) (SI.c (Int.ofNat 64))) (SI.c (Int.ofNat 1))),
          SB.eqL (SL.lit [])
            (SL.app 161
              (SA.i (SI.add (SI.rem (SI.v 1) (SI.c (Int.ofNat 16))) (SI.c (Int.ofNat 1)))
                (SA.i (SI.c (Int.ofNat 0)) SA.nil))),
          SB.le (SI.c (Int.ofNat 0)) (SI.v 0), SB.le (SI.v 0) (SI.c (Int.ofNat 255)),
          SB.le (SI.c (Int.ofNat 0)) (SI.v 1), SB.le (SI.v 1) (SI.c (Int.ofNat 255))],
      eqs := [Eqn.B (SB.c true) (SB.c false)] },
    {
      pc :=
        [SB.not
            (SB.eq
              (SI.len
                (SL.app 120
                  (SA.l
                    (SL.app 161
                      (SA.i (SI.add (SI.rem (SI.v 1) (SI.c (Int.ofNat 16))) (SI.c (Int.ofNat 1)))
                        (SA.i (SI.add (SI.rem (SI.v 0) (SI.c (Int.ofNat 64))) (SI.c (Int.ofNat 1))) SA.nil)))
                    (SA.i (SI.add (SI.rem (SI.v 0) (SI.c (Int.ofNat 64))) (SI.c (Int.ofNat 1)))
                      (SA.i (SI.add (SI.rem (SI.v 1) (SI.c (Int.ofNat 16))) (SI.c (Int.ofNat 1)))
                        (SA.i (SI.c (Int.ofNat 1000))
                          (SA.i (SI.c (Int.ofNat 9)) (SA.i (SI.c (Int.ofNat 1)) SA.nil))))))))
              (SI.add (SI.rem (SI.v 0) (SI.c (Int.ofNat 64))) (SI.c (Int.ofNat 1)))),
          SB.eq
            (SI.app 131
              (SA.l
                (SL.app 120
                  (SA.l
                    (SL.app 161
                      (SA.i (SI.add (SI.rem (SI.v 1) (SI.c (Int.ofNat 16))) (SI.c (Int.ofNat 1)))
                        (SA.i (SI.add (SI.rem (SI.v 0) (SI.c (Int.ofNat 64))) (SI.c (Int.ofNat 1))) SA.nil)))
                    (SA.i (SI.add (SI.rem (SI.v 0) (SI.c (Int.ofNat 64))) (SI.c (Int.ofNat 1)))
                      (SA.i (SI.add (SI.rem (SI.v 1) (SI.c (Int.ofNat 16))) (SI.c (Int.ofNat 1)))
                        (SA.i (SI.c (Int.ofNat 1000))
                          (SA.i (SI.c (Int.ofNat 9)) (SA.i (SI.c (Int.ofNat 1)) SA.nil)))))))
                (SA.i (SI.c (Int.ofNat 0))
                  (SA.i (SI.add (SI.rem (SI.v 1) (SI.c (Int.ofNat 16))) (SI.c (Int.ofNat 1)))
                    (SA.i (SI.c (Int.ofNat 1000)) (SA.i (SI.c (Int.ofNat 0)) SA.nil))))))
            (SI.c (Int.ofNat 0)),
          SB.eq
            (SI.app 130
              (SA.l
                (SL.app 120
                  (SA.l
                    (SL.app 161
                      (SA.i (SI.add (SI.rem (SI.v 1) (SI.c (Int.ofNat 16))) (SI.c (Int.ofNat 1)))
                        (SA.i (SI.add (SI.rem (SI.v 0) (SI.c (Int.ofNat 64))) (SI.c (Int.ofNat 1))) SA.nil)))
                    (SA.i (SI.add (SI.rem (SI.v 0) (SI.c (Int.ofNat 64))) (SI.c (Int.ofNat 1)))
                      (SA.i (SI.add (SI.rem (SI.v 1) (SI.c (Int.ofNat 16))) (SI.c (Int.ofNat 1)))
                        (SA.i (SI.c (Int.ofNat 1000))
                          (SA.i (SI.c (Int.ofNat 9)) (SA.i (SI.c (Int.ofNat 1)) SA.nil)))))))
                (SA.i (SI.c (Int.ofNat 0))
                  (SA.i (SI.add (SI.rem (SI.v 1) (SI.c (Int.ofNat 16))) (SI.c (Int.ofNat 1)))
                    (SA.i (SI.c (Int.ofNat 1000)) (SA.i (SI.c (Int.ofNat 0)) SA.nil))))))
            (SI.c (Int.ofNat 9)),
          SB.eq
            (SI.app 131
              (SA.l
                (SL.app 120
                  (SA.l
                    (SL.app 161
                      (SA.i (SI.add (SI.rem (SI.v 1) (SI.c (Int.ofNat 16))) (SI.c (Int.ofNat 1)))
                        (SA.i (SI.add (SI.rem (SI.v 0) (SI.c (Int.ofNat 64))) (SI.c (Int.ofNat 1))) SA.nil)))
                    (SA.i (SI.add (SI.rem (SI.v 0) (SI.c (Int.ofNat 64))) (SI.c (Int.ofNat 1)))
                      (SA.i (SI.add (SI.rem (SI.v 1) (SI.c (Int.ofNat 16))) (SI.c (Int.ofNat 1)))
                        (SA.i (SI.c (Int.ofNat 1000))
                          (SA.i (SI.c (Int.ofNat 9)) (SA.i (SI.c (Int.ofNat 1)) SA.nil)))))))
                (SA.i (SI.c (Int.ofNat 0))
                  (SA.i (SI.add (SI.rem (SI.v 1) (SI.c (Int.ofNat 16))) (SI.c (Int.ofNat 1)))
                    (SA.i (SI.c (Int.ofNat 0)) (SA.i (SI.c (Int.ofNat 0)) SA.nil))))))
            (SI.c (Int.ofNat 4)),
          SB.le
            (SI.len
              (SL.app 120
                (SA.l
                  (SL.app 161
                    (SA.i (SI.add (SI.rem (SI.v 1) (SI.c (Int.ofNat 16))) (SI.c (Int.ofNat 1)))
                      (SA.i (SI.add (SI.rem (SI.v 0) (SI.c (Int.ofNat 64))) (SI.c (Int.ofNat 1))) SA.nil)))
                  (SA.i (SI.add (SI.rem (SI.v 0) (SI.c (Int.ofNat 64))) (SI.c (Int.ofNat 1)))
                    (SA.i (SI.add (SI.rem (SI.v 1) (SI.c (Int.ofNat 16))) (SI.c (Int.ofNat 1)))
                      (SA.i (SI.c (Int.ofNat 1000)) (SA.i (SI.c (Int.ofNat 9)) (SA.i (SI.c (Int.ofNat 1)) SA.nil))))))))
            (SI.add
              (SI.len
                (SL.app 161
                  (SA.i (SI.add (SI.rem (SI.v 1) (SI.c (Int.ofNat 16))) (SI.c (Int.ofNat 1)))
                    (SA.i (SI.add (SI.rem (SI.v 0) (SI.c (Int.ofNat 64))) (SI.c (Int.ofNat 1))) SA.nil))))
              (SI.c (Int.ofNat 1))),
          SB.eq
            (SI.len
              (SL.app 161
                (SA.i (SI.add (SI.rem (SI.v 1) (SI.c (Int.ofNat 16))) (SI.c (Int.ofNat 1)))
                  (SA.i (SI.add (SI.rem (SI.v 0) (SI.c (Int.ofNat 64))) (SI.c (Int.ofNat 1))) SA.nil))))
            (SI.add (SI.rem (SI.v 0) (SI.c (Int.ofNat 64))) (SI.c (Int.ofNat 1))),
          SB.eqL (SL.lit [])
            (SL.app 161
              (SA.i (SI.add (SI.rem (SI.v 1) (SI.c (Int.ofNat 16))) (SI.c (Int.ofNat 1)))
                (SA.i (SI.c (Int.ofNat 0)) SA.nil))),
          SB.le (SI.c (Int.ofNat 0)) (SI.v 0), SB.le (SI.v 0) (SI.c (Int.ofNat 255)),
          SB.le (SI.c (Int.ofNat 0)) (SI.v 1), SB.le (SI.v 1) (SI.c (Int.ofNat 255))],
      eqs := [Eqn.B (SB.c true) (SB.c false)] },
    {
      pc :=
        [SB.not
            (SB.eq
              (SI.app 131
                (SA.l
                  (SL.app 120
                    (SA.l
                      (SL.app 161
                        (SA.i (SI.add (SI.rem (SI.v 1) (SI.c (Int.ofNat 16))) (SI.c (Int.ofNat 1)))
                          (SA.i (SI.add (SI.rem (SI.v 0) (SI.c (Int.ofNat 64))) (SI.c (Int.ofNat 1))) SA.nil)))
                      (SA.i (SI.add (SI.rem (SI.v 0) (SI.c (Int.ofNat 64))) (SI.c (Int.ofNat 1)))
                        (SA.i (SI.add (SI.rem (SI.v 1) (SI.c (Int.ofNat 16))) (SI.c (Int.ofNat 1)))
                          (SA.i (SI.c (Int.ofNat 1000))
                            (SA.i (SI.c (Int.ofNat 9)) (SA.i (SI.c (Int.ofNat 1)) SA.nil)))))))
                  (SA.i (SI.c (Int.ofNat 0))
                    (SA.i (SI.add (SI.rem (SI.v 1) (SI.c (Int.ofNat 16))) (SI.c (Int.ofNat 1)))
                      (SA.i (SI.c (Int.ofNat 1000)) (SA.i (SI.c (Int.ofNat 0)) SA.nil))))))
              (SI.c (Int.ofNat 0))),
          SB.eq
            (SI.app 130
              (SA.l
                (SL.app 120
                  (SA.l
                    (SL.app 161
                      (SA.i (SI.add (SI.rem (SI.v 1) (SI.c (Int.ofNat 16))) (SI.c (Int.ofNat 1)))
                        (SA.i (SI.add (SI.rem (SI.v 0) (SI.c (Int.ofNat 64))) (SI.c (Int.ofNat 1))) SA.nil)))
                    (SA.i (SI.add (SI.rem (SI.v 0) (SI.c (Int.ofNat 64))) (SI.c (Int.ofNat 1)))
                      (SA.i (SI.add (SI.rem (SI.v 1) (SI.c (Int.ofNat 16))) (SI.c (Int.ofNat 1)))
                        (SA.i (SI.c (Int.ofNat 1000))
                          (SA.i (SI.c (Int.ofNat 9)) (SA.i (SI.c (Int.ofNat 1)) SA.nil)))))))
                (SA.i (SI.c (Int.ofNat 0))
                  (SA.i (SI.add (SI.rem (SI.v 1) (SI.c (Int.ofNat 16))) (SI.c (Int.ofNat 1)))
                    (SA.i (SI.c (Int.ofNat 1000)) (SA.i (SI.c (Int.ofNat 0)) SA.nil))))))
            (SI.c (Int.ofNat 9)),
          SB.eq
            (SI.app 131
              (SA.l
                (SL.app 120
                  (SA.l
                    (SL.app 161
                      (SA.i (SI.add (SI.rem (SI.v 1) (SI.c (Int.ofNat 16))) (SI.c (Int.ofNat 1)))
                        (SA.i (SI.add (SI.rem (SI.v 0) (SI.c (Int.ofNat 64))) (SI.c (Int.ofNat 1))) SA.nil)))
                    (SA.i (SI.add (SI.rem (SI.v 0) (SI.c (Int.ofNat 64))) (SI.c (Int.ofNat 1)))
                      (SA.i (SI.add (SI.rem (SI.v 1) (SI.c (Int.ofNat 16))) (SI.c (Int.ofNat 1)))
                        (SA.i (SI.c (Int.ofNat 1000))
                          (SA.i (SI.c (Int.ofNat 9)) (SA.i (SI.c (Int.ofNat 1)) SA.nil)))))))
                (SA.i (SI.c (Int.ofNat 0))
                  (SA.i (SI.add (SI.rem (SI.v 1) (SI.c (Int.ofNat 16))) (SI.c (Int.ofNat 1)))
                    (SA.i (SI.c (Int.ofNat 0)) (SA.i (SI.c (Int.ofNat 0)) SA.nil))))))
            (SI.c (Int.ofNat 4)),
          SB.le
            (SI.len
              (SL.app 120
                (SA.l
                  (SL.app 161
                    (SA.i (SI.add (SI.rem (SI.v 1) (SI.c (Int.ofNat 16))) (SI.c (Int.ofNat 1)))
                      (SA.i (SI.add (SI.rem (SI.v 0) (SI.c (Int.ofNat 64))) (SI.c (Int.ofNat 1))) SA.nil)))
                  (SA.i (SI.add (SI.rem (SI.v 0) (SI.c (Int.ofNat 64))) (SI.c (Int.ofNat 1)))
                    (SA.i (SI.add (SI.rem (SI.v 1) (SI.c (Int.ofNat 16))) (SI.c (Int.ofNat 1)))
                      (SA.i (SI.c (Int.ofNat 1000)) (SA.i (SI.c (Int.ofNat 9)) (SA.i (SI.c (Int.ofNat 1)) SA.nil))))))))
            (SI.add
              (SI.len
                (SL.app 161
                  (SA.i (SI.add (SI.rem (SI.v 1) (SI.c (Int.ofNat 16))) (SI.c (Int.ofNat 1)))
                    (SA.i (SI.add (SI.rem (SI.v 0) (SI.c (Int.ofNat 64))) (SI.c (Int.ofNat 1))) SA.nil))))
              (SI.c (Int.ofNat 1))),
          SB.eq
            (SI.len
              (SL.app 161
                (SA.i (SI.add (SI.rem (SI.v 1) (SI.c (Int.ofNat 16))) (SI.c (Int.ofNat 1)))
                  (SA.i (SI.add (SI.rem (SI.v 0) (SI.c (Int.ofNat 64))) (SI.c (Int.ofNat 1))) SA.nil))))
            (SI.add (SI.rem (SI.v 0) (SI.c (Int.ofNat 64))) (SI.c (Int.ofNat 1))),
          SB.eqL (SL.lit [])
            (SL.app 161
              (SA.i (SI.add (SI.rem (SI.v 1) (SI.c (Int.ofNat 16))) (SI.c (Int.ofNat 1)))
                (SA.i (SI.c (Int.ofNat 0)) SA.nil))),
          SB.le (SI.c (Int.ofNat 0)) (SI.v 0), SB.le (SI.v 0) (SI.c (Int.ofNat 255)),
          SB.le (SI.c (Int.ofNat 0)) (SI.v 1), SB.le (SI.v 1) (SI.c (Int.ofNat 255))],
      eqs := [Eqn.B (SB.c true) (SB.c false)] },
    {
      pc :=
        [SB.not
            (SB.eq
              (SI.app 130
                (SA.l
                  (SL.app 120
                    (SA.l
                      (SL.app 161
                        (SA.i (SI.add (SI.rem (SI.v 1) (SI.c (Int.ofNat 16))) (SI.c (Int.ofNat 1)))
                          (SA.i (SI.add (SI.rem (SI.v 0) (SI.c (Int.ofNat 64))) (SI.c (Int.ofNat 1))) SA.nil)))
                      (SA.i (SI.add (SI.rem (SI.v 0) (SI.c (Int.ofNat 64))) (SI.c (Int.ofNat 1)))
                        (SA.i (SI.add (SI.rem (SI.v 1) (SI.c (Int.ofNat 16))) (SI.c (Int.ofNat 1)))
                          (SA.i (SI.c (Int.ofNat 1000))
                            (SA.i (SI.c (Int.ofNat 9)) (SA.i (SI.c (Int.ofNat 1)) SA.nil)))))))
                  (SA.i (SI.c (Int.ofNat 0))
                    (SA.i (SI.add (SI.rem (SI.v 1) (SI.c (Int.ofNat 16))) (SI.c (Int.ofNat 1)))
                      (SA.i (SI.c (Int.ofNat 1000)) (SA.i (SI.c (Int.ofNat 0)) SA.nil))))))
              (SI.c (Int.ofNat 9))),
          SB.eq
            (SI.app 131
              (SA.l
                (SL.app 120
                  (SA.l
                    (SL.app 161
                      (SA.i (SI.add (SI.rem (SI.v 1) (SI.c (Int.ofNat 16))) (SI.c (Int.ofNat 1)))
                        (SA.i (SI.add (SI.rem (SI.v 0) (SI.c (Int.ofNat 64))) (SI.c (Int.ofNat 1))) SA.nil)))
                    (SA.i (SI.add (SI.rem (SI.v 0) (SI.c (Int.ofNat 64))) (SI.c (Int.ofNat 1)))
                      (SA.i (SI.add (SI.rem (SI.v 1) (SI.c (Int.ofNat 16))) (SI.c (Int.ofNat 1)))
                        (SA.i (SI.c (Int.ofNat 1000))
                          (SA.i (SI.c (Int.ofNat 9)) (SA.i (SI.c (Int.ofNat 1)) SA.nil)))))))
                (SA.i (SI.c (Int.ofNat 0))
                  (SA.i (SI.add (SI.rem (SI.v 1) (SI.c (Int.ofNat 16))) (SI.c (Int.ofNat 1)))
                    (SA.i (SI.c (Int.ofNat 0)) (SA.i (SI.c (Int.ofNat 0)) SA.nil))))))
            (SI.c (Int.ofNat 4)),
          SB.le
            (SI.len
              (SL.app 120
                (SA.l
                  (SL.app 161
                    (SA.i (SI.add (SI.rem (SI.v 1) (SI.c (Int.ofNat 16))) (SI.c (Int.ofNat 1)))
                      (SA.i (SI.add (SI.rem (SI.v 0) (SI.c (Int.ofNat 64))) (SI.c (Int.ofNat 1))) SA.nil)))
                  (SA.i (SI.add (SI.rem (SI.v 0) (SI.c (Int.ofNat 64))) (SI.c (Int.ofNat 1)))
                    (SA.i (SI.add (SI.rem (SI.v 1) (SI.c (Int.ofNat 16))) (SI.c (Int.ofNat 1)))
                      (SA.i (SI.c (Int.ofNat 1000)) (SA.i (SI.c (Int.ofNat 9)) (SA.i (SI.c (Int.ofNat 1)) SA.nil))))))))
            (SI.add
              (SI.len
                (SL.app 161
                  (SA.i (SI.add (SI.rem (SI.v 1) (SI.c (Int.ofNat 16))) (SI.c (Int.ofNat 1)))
                    (SA.i (SI.add (SI.rem (SI.v 0) (SI.c (Int.ofNat 64))) (SI.c (Int.ofNat 1))) SA.nil))))
              (SI.c (Int.ofNat 1))),
          SB.eq
            (SI.len
              (SL.app 161
                (SA.i (SI.add (SI.rem (SI.v 1) (SI.c (Int.ofNat 16))) (SI.c (Int.ofNat 1)))
                  (SA.i (SI.add (SI.rem (SI.v 0) (SI.c (Int.ofNat 64))) (SI.c (Int.ofNat 1))) SA.nil))))
            (SI.add (SI.rem (SI.v 0) (SI.c (Int.ofNat 64))) (SI.c (Int.ofNat 1))),
          SB.eqL (SL.lit [])
            (SL.app 161
              (SA.i (SI.add (SI.rem (SI.v 1) (SI.c (Int.ofNat 16))) (SI.c (Int.ofNat 1)))
                (SA.i (SI.c (Int.ofNat 0)) SA.nil))),
          SB.le (SI.c (Int.ofNat 0)) (SI.v 0), SB.le (SI.v 0) (SI.c (Int.ofNat 255)),
          SB.le (SI.c (Int.ofNat 0)) (SI.v 1), SB.le (SI.v 1) (SI.c (Int.ofNat 255))],
      eqs := [Eqn.B (SB.c true) (SB.c false)] },
    {
      pc :=
        [SB.not
            (SB.eq
              (SI.app 131
                (SA.l
                  (SL.app 120
                    (SA.l
                      (SL.app 161
                        (SA.i (SI.add (SI.rem (SI.v 1) (SI.c (Int.ofNat 16))) (SI.c (Int.ofNat 1)))
                          (SA.i (SI.add (SI.rem (SI.v 0) (SI.c (Int.ofNat 64))) (SI.c (Int.ofNat 1))) SA.nil)))
                      (SA.i (SI.add (SI.rem (SI.v 0) (SI.c (Int.ofNat 64))) (SI.c (Int.ofNat 1)))
                        (SA.i (SI.add (SI.rem (SI.v 1) (SI.c (Int.ofNat 16))) (SI.c (Int.ofNat 1)))
                          (SA.i (SI.c (Int.ofNat 1000))
                            (SA.i (SI.c (Int.ofNat 9)) (SA.i (SI.c (Int.ofNat 1)) SA.nil)))))))
                  (SA.i (SI.c (Int.ofNat 0))
                    (SA.i (SI.add (SI.rem (SI.v 1) (SI.c (Int.ofNat 16))) (SI.c (Int.ofNat 1)))
                      (SA.i (SI.c (Int.ofNat 0)) (SA.i (SI.c (Int.ofNat 0)) SA.nil))))))
              (SI.c (Int.ofNat 4))),
          SB.le
            (SI.len
              (SL.app 120
                (SA.l
                  (SL.app 161
                    (SA.i (SI.add (SI.rem (SI.v 1) (SI.c (Int.ofNat 16))) (SI.c (Int.ofNat 1)))
                      (SA.i (SI.add (SI.rem (SI.v 0) (SI.c (Int.ofNat 64))) (SI.c (Int.ofNat 1))) SA.nil)))
                  (SA.i (SI.add (SI.rem (SI.v 0) (SI.c (Int.ofNat 64))) (SI.c (Int.ofNat 1)))
                    (SA.i (SI.add (SI.rem (SI.v 1) (SI.c (Int.ofNat 16))) (SI.c (Int.ofNat 1)))
                      (SA.i (SI.c (Int.ofNat 1000)) (SA.i (SI.c (Int.ofNat 9)) (SA.i (SI.c (Int.ofNat 1)) SA.nil))))))))
            (SI.add
              (SI.len
                (SL.app 161
                  (SA.i (SI.add (SI.rem (SI.v 1) (SI.c (Int.ofNat 16))) (SI.c (Int.ofNat 1)))
                    (SA.i (SI.add (SI.rem (SI.v 0) (SI.c (Int.ofNat 64))) (SI.c (Int.ofNat 1))) SA.nil))))
              (SI.c (Int.ofNat 1))),
          SB.eq
            (SI.len
              (SL.app 161
                (SA.i (SI.add (SI.rem (SI.v 1) (SI.c (Int.ofNat 16))) (SI.c (Int.ofNat 1)))
                  (SA.i (SI.add (SI.rem (SI.v 0) (SI.c (Int.ofNat 64))) (SI.c (Int.ofNat 1))) SA.nil))))
            (SI.add (SI.rem (SI.v 0) (SI.c (Int.ofNat 64))) (SI.c (Int.ofNat 1))),
          SB.eqL (SL.lit [])
            (SL.app 161
              (SA.i (SI.add (SI.rem (SI.v 1) (SI.c (Int.ofNat 16))) (SI.c (Int.ofNat 1)))
                (SA.i (SI.c (Int.ofNat 0)) SA.nil))),
          SB.le (SI.c (Int.ofNat 0)) (SI.v 0), SB.le (SI.v 0) (SI.c (Int.ofNat 255)),
          SB.le (SI.c (Int.ofNat 0)) (SI.v 1), SB.le (SI.v 1) (SI.c (Int.ofNat 255))],
      eqs := [Eqn.B (SB.c true) (SB.c false)] },
    {
      pc :=
        [SB.not
            (SB.eqL (SL.lit [])
              (SL.app 161
                (SA.i (SI.add (SI.rem (SI.v 1) (SI.c (Int.ofNat 16))) (SI.c (Int.ofNat 1)))
                  (SA.i (SI.c (Int.ofNat 0)) SA.nil)))),
          SB.le (SI.c (Int.ofNat 0)) (SI.v 0), SB.le (SI.v 0) (SI.c (Int.ofNat 255)),
          SB.le (SI.c (Int.ofNat 0)) (SI.v 1), SB.le (SI.v 1) (SI.c (Int.ofNat 255))],
      eqs := [Eqn.T (SB.c false)] }] := by kernel_rfl
theorem lLast_ok : lLast.ok Φ Try.prog := by
  refine call_rule (fun ρ => t14_ok ρ) lLast_obs ?_
  simp only [and_imp, List.forall_mem_cons, List.not_mem_nil, false_implies, implies_true, and_true, Ob.ok, holds, Eqn.ok, evB_eq, evB_lt, evB_le, evB_not, evB_and, evB_or, evB_eqL, evB_app, evB_v, evB_c, ev_sel, ev_len, ev_v, ev_c, ev_add, ev_sub, ev_mul, ev_quo, ev_rem, ev_bits, ev_wrap, evL_v, evL_lit, evL_app, ev_app, evA_l, evA_i, evA_nil, std_min, std_max, std_cat, std_take, std_drop, std_row, std_set, std_rep, ints_cons, ints_nil, ofNat_lit, negSucc_lit, decide_eq_true_eq, Bool.and_eq_true, Bool.or_eq_true, Bool.not_eq_true', Bool.and_eq_false_iff, Bool.or_eq_false_iff, decide_eq_false_iff_not, aI100, aL100, aI101, aL101, aI102, aL102, aI111, aI112, aI120, aI130, aI131, aL110, aL111, aL112, aL120, aL140, aL141, aL142, aB100, aB130, aB160, aB162, aB199, aL161]
  repeat' apply And.intro
  all_goals intro ρ hR
  all_goals intros
  all_goals first
    | (have t1 := tmod_range (a := ρ.i 0) (n := 64) (by omega) (by omega)
       have t2 := tmod_range (a := ρ.i 1) (n := 16) (by omega) (by omega)
       exfalso
       exact absurd (rfl) (by assumption))
    | (have t1 := tmod_range (a := ρ.i 0) (n := 64) (by omega) (by omega)
       have t2 := tmod_range (a := ρ.i 1) (n := 16) (by omega) (by omega)
       exfalso
       exact absurd ((last_all (g := (ρ.i 1).tmod 16 + 1) (n := (ρ.i 0).tmod 64 + 1) (by omega) (by omega) (by omega) (by omega)).1) (by assumption))
    | (have t1 := tmod_range (a := ρ.i 0) (n := 64) (by omega) (by omega)
       have t2 := tmod_range (a := ρ.i 1) (n := 16) (by omega) (by omega)
       exfalso
       exact absurd ((last_all (g := (ρ.i 1).tmod 16 + 1) (n := (ρ.i 0).tmod 64 + 1) (by omega) (by omega) (by omega) (by omega)).2.1) (by assumption))
    | (have t1 := tmod_range (a := ρ.i 0) (n := 64) (by omega) (by omega)
       have t2 := tmod_range (a := ρ.i 1) (n := 16) (by omega) (by omega)
       exfalso
       exact absurd ((last_all (g := (ρ.i 1).tmod 16 + 1) (n := (ρ.i 0).tmod 64 + 1) (by omega) (by omega) (by omega) (by omega)).2.2.1) (by assumption))
    | (have t1 := tmod_range (a := ρ.i 0) (n := 64) (by omega) (by omega)
       have t2 := tmod_range (a := ρ.i 1) (n := 16) (by omega) (by omega)
       exfalso
       exact absurd ((last_all (g := (ρ.i 1).tmod 16 + 1) (n := (ρ.i 0).tmod 64 + 1) (by omega) (by omega) (by omega) (by omega)).2.2.2.1) (by assumption))
    | (have t1 := tmod_range (a := ρ.i 0) (n := 64) (by omega) (by omega)
       have t2 := tmod_range (a := ρ.i 1) (n := 16) (by omega) (by omega)
       exfalso
       exact absurd ((last_all (g := (ρ.i 1).tmod 16 + 1) (n := (ρ.i 0).tmod 64 + 1) (by omega) (by omega) (by omega) (by omega)).2.2.2.2.1) (by assumption))
    | (have t1 := tmod_range (a := ρ.i 0) (n := 64) (by omega) (by omega)
       have t2 := tmod_range (a := ρ.i 1) (n := 16) (by omega) (by omega)
       exfalso
       exact absurd ((last_all (g := (ρ.i 1).tmod 16 + 1) (n := (ρ.i 0).tmod 64 + 1) (by omega) (by omega) (by omega) (by omega)).2.2.2.2.2) (by assumption))
set_option maxRecDepth 100000 in
theorem ap1_obs : loopObs Φ Try.prog t9 1000 ap1.f (loopAt Try.prog ap1.f ap1.id) ap1.n ap1.T (.sub (.c 61) (.v 0)) ap1.outs = some
  [{
      pc :=
        [SB.eq (SI.sel (SL.v 9) (SI.v 0) 1) (SI.c (Int.ofNat 9)), SB.lt (SI.v 0) (SI.c (Int.ofNat 60)),
          SB.lt (SI.v 0) (SI.len (SL.v 9)), SB.le (SI.c (Int.ofNat 0)) (SI.v 1),
          SB.le (SI.v 1) (SI.c (Int.ofNat 65535)), SB.le (SI.c (Int.ofNat 0)) (SI.v 0),
          SB.le (SI.v 0) (SI.c (Int.ofNat 60)), SB.lt (SI.len (SL.v 0)) (SI.add (SI.v 0) (SI.c (Int.ofNat 2))),
          SB.app 162 (SA.l (SL.v 0) (SA.i (SI.v 1) SA.nil))],
      eqs :=
        [Eqn.T
            (SB.lt (SI.sub (SI.c (Int.ofNat 61)) (SI.add (SI.v 0) (SI.c (Int.ofNat 1))))
              (SI.sub (SI.c (Int.ofNat 61)) (SI.v 0)))] },
    {
      pc :=
        [SB.eq (SI.sel (SL.v 9) (SI.v 0) 3) (SI.c (Int.ofNat 4000)),
          SB.not (SB.eq (SI.sel (SL.v 9) (SI.v 0) 1) (SI.c (Int.ofNat 9))), SB.lt (SI.v 0) (SI.c (Int.ofNat 60)),
          SB.lt (SI.v 0) (SI.len (SL.v 9)), SB.le (SI.c (Int.ofNat 0)) (SI.v 1),
          SB.le (SI.v 1) (SI.c (Int.ofNat 65535)), SB.le (SI.c (Int.ofNat 0)) (SI.v 0),
          SB.le (SI.v 0) (SI.c (Int.ofNat 60)), SB.lt (SI.len (SL.v 0)) (SI.add (SI.v 0) (SI.c (Int.ofNat 2))),
          SB.app 162 (SA.l (SL.v 0) (SA.i (SI.v 1) SA.nil))],
      eqs :=
        [Eqn.T
            (SB.lt (SI.sub (SI.c (Int.ofNat 61)) (SI.add (SI.v 0) (SI.c (Int.ofNat 1))))
              (SI.sub (SI.c (Int.ofNat 61)) (SI.v 0)))] },
    {
      pc :=
        [SB.eq
            (SI.app 131
              (SA.l
                (SL.app 120
                  (SA.l (SL.v 0)
                    (SA.i (SI.c (Int.ofNat 64))
                      (SA.i (SI.sel (SL.v 9) (SI.v 0) 1)
                        (SA.i (SI.sel (SL.v 9) (SI.v 0) 2)
                          (SA.i (SI.sel (SL.v 9) (SI.v 0) 3) (SA.i (SI.sel (SL.v 9) (SI.v 0) 4) SA.nil)))))))
                (SA.i (SI.c (Int.ofNat 0))
                  (SA.i (SI.c (Int.ofNat 9)) (SA.i (SI.v 1) (SA.i (SI.c (Int.ofNat 5)) SA.nil))))))
            (SI.c (Int.ofNat 0)),
          SB.eq
            (SI.app 130
              (SA.l
                (SL.app 120
                  (SA.l (SL.v 0)
                    (SA.i (SI.c (Int.ofNat 64))
                      (SA.i (SI.sel (SL.v 9) (SI.v 0) 1)
                        (SA.i (SI.sel (SL.v 9) (SI.v 0) 2)
                          (SA.i (SI.sel (SL.v 9) (SI.v 0) 3) (SA.i (SI.sel (SL.v 9) (SI.v 0) 4) SA.nil)))))))
                (SA.i (SI.c (Int.ofNat 0))
                  (SA.i (SI.c (Int.ofNat 9)) (SA.i (SI.v 1) (SA.i (SI.c (Int.ofNat 5)) SA.nil))))))
            (SI.c (Int.ofNat 4000)),
          SB.le
            (SI.len
              (SL.app 120
                (SA.l (SL.v 0)
                  (SA.i (SI.c (Int.ofNat 64))
                    (SA.i (SI.sel (SL.v 9) (SI.v 0) 1)
                      (SA.i (SI.sel (SL.v 9) (SI.v 0) 2)
                        (SA.i (SI.sel (SL.v 9) (SI.v 0) 3) (SA.i (SI.sel (SL.v 9) (SI.v 0) 4) SA.nil))))))))
            (SI.add (SI.len (SL.v 0)) (SI.c (Int.ofNat 1))),
          SB.eq (SI.sel (SL.v 9) (SI.v 0) 0) (SI.c (Int.ofNat 0)),
          SB.not (SB.eq (SI.sel (SL.v 9) (SI.v 0) 3) (SI.c (Int.ofNat 4000))),
          SB.not (SB.eq (SI.sel (SL.v 9) (SI.v 0) 1) (SI.c (Int.ofNat 9))), SB.lt (SI.v 0) (SI.c (Int.ofNat 60)),
          SB.lt (SI.v 0) (SI.len (SL.v 9)), SB.le (SI.c (Int.ofNat 0)) (SI.v 1),
          SB.le (SI.v 1) (SI.c (Int.ofNat 65535)), SB.le (SI.c (Int.ofNat 0)) (SI.v 0),
          SB.le (SI.v 0) (SI.c (Int.ofNat 60)), SB.lt (SI.len (SL.v 0)) (SI.add (SI.v 0) (SI.c (Int.ofNat 2))),
          SB.app 162 (SA.l (SL.v 0) (SA.i (SI.v 1) SA.nil))],
      eqs :=
        [Eqn.T
            (SB.lt (SI.sub (SI.c (Int.ofNat 61)) (SI.add (SI.v 0) (SI.c (Int.ofNat 1))))
              (SI.sub (SI.c (Int.ofNat 61)) (SI.v 0))),
          Eqn.T
            (SB.app 162
              (SA.l
                (SL.app 120
                  (SA.l (SL.v 0)
                    (SA.i (SI.c (Int.ofNat 64))
                      (SA.i (SI.sel (SL.v 9) (SI.v 0) 1)
                        (SA.i (SI.sel (SL.v 9) (SI.v 0) 2)
                          (SA.i (SI.sel (SL.v 9) (SI.v 0) 3) (SA.i (SI.sel (SL.v 9) (SI.v 0) 4) SA.nil)))))))
                (SA.i (SI.v 1) SA.nil)))] },
    {
      pc :=
        [SB.not
            (SB.eq
              (SI.app 131
                (SA.l
                  (SL.app 120
                    (SA.l (SL.v 0)
                      (SA.i (SI.c (Int.ofNat 64))
                        (SA.i (SI.sel (SL.v 9) (SI.v 0) 1)
                          (SA.i (SI.sel (SL.v 9) (SI.v 0) 2)
                            (SA.i (SI.sel (SL.v 9) (SI.v 0) 3) (SA.i (SI.sel (SL.v 9) (SI.v 0) 4) SA.nil)))))))
                  (SA.i (SI.c (Int.ofNat 0))
                    (SA.i (SI.c (Int.ofNat 9)) (SA.i (SI.v 1) (SA.i (SI.c (Int.ofNat 5)) SA.nil))))))
              (SI.c (Int.ofNat 0))),
          SB.eq
            (SI.app 130
              (SA.l
                (SL.app 120
                  (SA.l (SL.v 0)
                    (SA.i (SI.c (Int.ofNat 64))
                      (SA.i (SI.sel (SL.v 9) (SI.v 0) 1)
                        (SA.i (SI.sel (SL.v 9) (SI.v 0) 2)
                          (SA.i (SI.sel (SL.v 9) (SI.v 0) 3) (SA.i (SI.sel (SL.v 9) (SI.v 0) 4) SA.nil)))))))
                (SA.i (SI.c (Int.ofNat 0))
                  (SA.i (SI.c (Int.ofNat 9)) (SA.i (SI.v 1) (SA.i (SI.c (Int.ofNat 5)) SA.nil))))))
            (SI.c (Int.ofNat 4000)),
          SB.le
            (SI.len
              (SL.app 120
                (SA.l (SL.v 0)
                  (SA.i (SI.c (Int.ofNat 64))
                    (SA.i (SI.sel (SL.v 9) (SI.v 0) 1)
                      (SA.i (SI.sel (SL.v 9) (SI.v 0) 2)
                        (SA.i (SI.sel (SL.v 9) (SI.v 0) 3) (SA.i (SI.sel (SL.v 9) (SI.v 0) 4) SA.nil))))))))
            (SI.add (SI.len (SL.v 0)) (SI.c (Int.ofNat 1))),
          SB.eq (SI.sel (SL.v 9) (SI.v 0) 0) (SI.c (Int.ofNat 0)),
          SB.not (SB.eq (SI.sel (SL.v 9) (SI.v 0) 3) (SI.c (Int.ofNat 4000))),
          SB.not (SB.eq (SI.sel (SL.v 9) (SI.v 0) 1) (SI.c (Int.ofNat 9))), SB.lt (SI.v 0) (SI.c (Int.ofNat 60)),
          SB.lt (SI.v 0) (SI.len (SL.v 9)), SB.le (SI.c (Int.ofNat 0)) (SI.v 1),
          SB.le (SI.v 1) (SI.c (Int.ofNat 65535)), SB.le (SI.c (Int.ofNat 0)) (SI.v 0),
          SB.le (SI.v 0) (SI.c (Int.ofNat 60)), SB.lt (SI.len (SL.v 0)) (SI.add (SI.v 0) (SI.c (Int.ofNat 2))),
          SB.app 162 (SA.l (SL.v 0) (SA.i (SI.v 1) SA.nil))],
      eqs := [Eqn.T (SB.app 199 SA.nil)] },
    {
      pc :=
        [SB.not
            (SB.eq
              (SI.app 130
                (SA.l
                  (SL.app 120
                    (SA.l (SL.v 0)
                      (SA.i (SI.c (Int.ofNat 64))
                        (SA.i (SI.sel (SL.v 9) (SI.v 0) 1)
                          (SA.i (SI.sel (SL.v 9) (SI.v 0) 2)
                            (SA.i (SI.sel (SL.v 9) (SI.v 0) 3) (SA.i (SI.sel (SL.v 9) (SI.v 0) 4) SA.nil)))))))
                  (SA.i (SI.c (Int.ofNat 0))
                    (SA.i (SI.c (Int.ofNat 9)) (SA.i (SI.v 1) (SA.i (SI.c (Int.ofNat 5)) SA.nil))))))
              (SI.c (Int.ofNat 4000))),
          SB.le
            (SI.len
              (SL.app 120
                (SA.l (SL.v 0)
                  (SA.i (SI.c (Int.ofNat 64))
                    (SA.i (SI.sel (SL.v 9) (SI.v 0) 1)
                      (SA.i (SI.sel (SL.v 9) (SI.v 0) 2)
                        (SA.i (SI.sel (SL.v 9) (SI.v 0) 3) (SA.i (SI.sel (SL.v 9) (SI.v 0) 4) SA.nil))))))))
            (SI.add (SI.len (SL.v 0)) (SI.c (Int.ofNat 1))),
          SB.eq (SI.sel (SL.v 9) (SI.v 0) 0) (SI.c (Int.ofNat 0)),
          SB.not (SB.eq (SI.sel (SL.v 9) (SI.v 0) 3) (SI.c (Int.ofNat 4000))),
          SB.not (SB.eq (SI.sel (SL.v 9) (SI.v 0) 1) (SI.c (Int.ofNat 9))), SB.lt (SI.v 0) (SI.c (Int.ofNat 60)),
          SB.lt (SI.v 0) (SI.len (SL.v 9)), SB.le (SI.c (Int.ofNat 0)) (SI.v 1),
          SB.le (SI.v 1) (SI.c (Int.ofNat 65535)), SB.le (SI.c (Int.ofNat 0)) (SI.v 0),
          SB.le (SI.v 0) (SI.c (Int.ofNat 60)), SB.lt (SI.len (SL.v 0)) (SI.add (SI.v 0) (SI.c (Int.ofNat 2))),
          SB.app 162 (SA.l (SL.v 0) (SA.i (SI.v 1) SA.nil))],
      eqs := [Eqn.T (SB.app 199 SA.nil)] },
    {
      pc :=
        [SB.eq
            (SI.app 131
              (SA.l
                (SL.app 110
                  (SA.l (SL.v 0) (SA.i (SI.sel (SL.v 9) (SI.v 0) 1) (SA.i (SI.sel (SL.v 9) (SI.v 0) 2) SA.nil))))
                (SA.i (SI.c (Int.ofNat 0))
                  (SA.i (SI.c (Int.ofNat 9)) (SA.i (SI.v 1) (SA.i (SI.c (Int.ofNat 5)) SA.nil))))))
            (SI.c (Int.ofNat 0)),
          SB.eq
            (SI.app 130
              (SA.l
                (SL.app 110
                  (SA.l (SL.v 0) (SA.i (SI.sel (SL.v 9) (SI.v 0) 1) (SA.i (SI.sel (SL.v 9) (SI.v 0) 2) SA.nil))))
                (SA.i (SI.c (Int.ofNat 0))
                  (SA.i (SI.c (Int.ofNat 9)) (SA.i (SI.v 1) (SA.i (SI.c (Int.ofNat 5)) SA.nil))))))
            (SI.c (Int.ofNat 4000)),
          SB.le
            (SI.len
              (SL.app 110
                (SA.l (SL.v 0) (SA.i (SI.sel (SL.v 9) (SI.v 0) 1) (SA.i (SI.sel (SL.v 9) (SI.v 0) 2) SA.nil)))))
            (SI.len (SL.v 0)),
          SB.eq (SI.sel (SL.v 9) (SI.v 0) 0) (SI.c (Int.ofNat 2)),
          SB.not (SB.eq (SI.sel (SL.v 9) (SI.v 0) 0) (SI.c (Int.ofNat 0))),
          SB.not (SB.eq (SI.sel (SL.v 9) (SI.v 0) 3) (SI.c (Int.ofNat 4000))),
          SB.not (SB.eq (SI.sel (SL.v 9) (SI.v 0) 1) (SI.c (Int.ofNat 9))), SB.lt (SI.v 0) (SI.c (Int.ofNat 60)),
          SB.lt (SI.v 0) (SI.len (SL.v 9)), SB.le (SI.c (Int.ofNat 0)) (SI.v 1),
          SB.le (SI.v 1) (SI.c (Int.ofNat 65535)), SB.le (SI.c (Int.ofNat 0)) (SI.v 0),
          SB.le (SI.v 0) (SI.c (Int.ofNat 60)), SB.lt (SI.len (SL.v 0)) (SI.add (SI.v 0) (SI.c (Int.ofNat 2))),
          SB.app 162 (SA.l (SL.v 0) (SA.i (SI.v 1) SA.nil))],
      eqs :=
        [Eqn.T
            (SB.lt (SI.sub (SI.c (Int.ofNat 61)) (SI.add (SI.v 0) (SI.c (Int.ofNat 1))))
              (SI.sub (SI.c (Int.ofNat 61)) (SI.v 0))),
          Eqn.T
            (SB.app 162
              (SA.l
                (SL.app 110
                  (SA.l (SL.v 0) (SA.i (SI.sel (SL.v 9) (SI.v 0) 1) (SA.i (SI.sel (SL.v 9) (SI.v 0) 2) SA.nil))))
                (SA.i (SI.v 1) SA.nil)))] },
    {
      pc :=
        [SB.not
            (SB.eq
              (SI.app 131
                (SA.l
                  (SL.app 110
                    (SA.l (SL.v 0) (SA.i (SI.sel (SL.v 9) (SI.v 0) 1) (SA.i (SI.sel (SL.v 9) (SI.v 0) 2) SA.nil))))
                  (SA.i (SI.c (Int.ofNat 0))
                    (SA.i (SI.c (Int.ofNat 9)) (SA.i (SI.v 1) (SA.i (SI.c (Int.ofNat 5)) SA.nil))))))
              (SI.c (Int.ofNat 0))),
          SB.eq
            (SI.app 130
              (SA.l
                (SL.app 110
                  (SA.l (SL.v 0) (SA.i (SI.sel (SL.v 9) (SI.v 0) 1) (SA.i (SI.sel (SL.v 9) (SI.v 0) 2) SA.nil))))
                (SA.i (SI.c (Int.ofNat 0))
                  (SA.i (SI.c (Int.ofNat 9)) (SA.i (SI.v 1) (SA.i (SI.c (Int.ofNat 5)) SA.nil))))))
            (SI.c (Int.ofNat 4000)),
          SB.le
            (SI.len
              (SL.app 110
                (SA.l (SL.v 0) (SA.i (SI.sel (SL.v 9) (SI.v 0) 1) (SA.i (SI.sel (SL.v 9) (SI.v 0) 2) SA.nil)))))
            (SI.len (SL.v 0)),
          SB.eq (SI.sel (SL.v 9) (SI.v 0) 0) (SI.c (Int.ofNat 2)),
          SB.not (SB.eq (SI.sel (SL.v 9) (SI.v 0) 0) (SI.c (Int.ofNat 0))),
          SB.not (SB.eq (SI.sel (SL.v 9) (SI.v 0) 3) (SI.c (Int.ofNat 4000))),
          SB.not (SB.eq (SI.sel (SL.v 9) (SI.v 0) 1) (SI.c (Int.ofNat 9))), SB.lt (SI.v 0) (SI.c (Int.ofNat 60)),
          SB.lt (SI.v 0) (SI.len (SL.v 9)), SB.le (SI.c (Int.ofNat 0)) (SI.v 1),
          SB.le (SI.v 1) (SI.c (Int.ofNat 65535)), SB.le (SI.c (Int.ofNat 0)) (SI.v 0),
          SB.le (SI.v 0) (SI.c (Int.ofNat 60)), SB.lt (SI.len (SL.v 0)) (SI.add (SI.v 0) (SI.c (Int.ofNat 2))),
          SB.app 162 (SA.l (SL.v 0) (SA.i (SI.v 1) SA.nil))],
      eqs := [Eqn.T (SB.app 199 SA.nil)] },
    {
      pc :=
        [SB.not
            (SB.eq
              (SI.app 130
                (SA.l
                  (SL.app 110
                    (SA.l (SL.v 0) (SA.i (SI.sel (SL.v 9) (SI.v 0) 1) (SA.i (SI.sel (SL.v 9) (SI.v 0) 2) SA.nil))))
                  (SA.i (SI.c (Int.ofNat 0))
                    (SA.i (SI.c (Int.ofNat 9)) (SA.i (SI.v 1) (SA.i (SI.c (Int.ofNat 5)) SA.nil))))))
              (SI.c (Int.ofNat 4000))),
          SB.le
            (SI.len
              (SL.app 110
                (SA.l (SL.v 0) (SA.i (SI.sel (SL.v 9) (SI.v 0) 1) (SA.i (SI.sel (SL.v 9) (SI.v 0) 2) SA.nil)))))
            (SI.len (SL.v 0)),
          SB.eq (SI.sel (SL.v 9) (SI.v 0) 0) (SI.c (Int.ofNat 2)),
          SB.not (SB.eq (SI.sel (SL.v 9) (SI.v 0) 0) (SI.c (Int.ofNat 0))),
          SB.not (SB.eq (SI.sel (SL.v 9) (SI.v 0) 3) (SI.c (Int.ofNat 4000))),
          SB.not (SB.eq (SI.sel (SL.v 9) (SI.v 0) 1) (SI.c (Int.ofNat 9))), SB.lt (SI.v 0) (SI.c (Int.ofNat 60)),
          SB.lt (SI.v 0) (SI.len (SL.v 9)), SB.le (SI.c (Int.ofNat 0)) (SI.v 1),
          SB.le (SI.v 1) (SI.c (Int.ofNat 65535)), SB.le (SI.c (Int.ofNat 0)) (SI.v 0),
          SB.le (SI.v 0) (SI.c (Int.ofNat 60)), SB.lt (SI.len (SL.v 0)) (SI.add (SI.v 0) (SI.c (Int.ofNat 2))),
          SB.app 162 (SA.l (SL.v 0) (SA.i (SI.v 1) SA.nil))],
      eqs := [Eqn.T (SB.app 199 SA.nil)] },
    {
      pc :=
        [SB.eq
            (SI.app 131
              (SA.l (SL.app 111 (SA.l (SL.v 0) (SA.i (SI.sel (SL.v 9) (SI.v 0) 1) SA.nil)))
                (SA.i (SI.c (Int.ofNat 0))
                  (SA.i (SI.c (Int.ofNat 9)) (SA.i (SI.v 1) (SA.i (SI.c (Int.ofNat 5)) SA.nil))))))
            (SI.c (Int.ofNat 0)),
          SB.eq
            (SI.app 130
              (SA.l (SL.app 111 (SA.l (SL.v 0) (SA.i (SI.sel (SL.v 9) (SI.v 0) 1) SA.nil)))
                (SA.i (SI.c (Int.ofNat 0))
                  (SA.i (SI.c (Int.ofNat 9)) (SA.i (SI.v 1) (SA.i (SI.c (Int.ofNat 5)) SA.nil))))))
            (SI.c (Int.ofNat 4000)),
          SB.le (SI.len (SL.app 111 (SA.l (SL.v 0) (SA.i (SI.sel (SL.v 9) (SI.v 0) 1) SA.nil)))) (SI.len (SL.v 0)),
          SB.eq (SI.sel (SL.v 9) (SI.v 0) 0) (SI.c (Int.ofNat 3)),
          SB.not (SB.eq (SI.sel (SL.v 9) (SI.v 0) 0) (SI.c (Int.ofNat 2))),
          SB.not (SB.eq (SI.sel (SL.v 9) (SI.v 0) 0) (SI.c (Int.ofNat 0))),
          SB.not (SB.eq (SI.sel (SL.v 9) (SI.v 0) 3) (SI.c (Int.ofNat 4000))),
          SB.not (SB.eq (SI.sel (SL.v 9) (SI.v 0) 1) (SI.c (Int.ofNat 9))), SB.lt (SI.v 0) (SI.c (Int.ofNat 60)),
          SB.lt (SI.v 0) (SI.len (SL.v 9)), SB.le (SI.c (Int.ofNat 0)) (SI.v 1),
          SB.le (SI.v 1) (SI.c (Int.ofNat 65535)), SB.le (SI.c (Int.ofNat 0)) (SI.v 0),
          SB.le (SI.v 0) (SI.c (Int.ofNat 60)), SB.lt (SI.len (SL.v 0)) (SI.add (SI.v 0) (SI.c (Int.ofNat 2))),
          SB.app 162 (SA.l (SL.v 0) (SA.i (SI.v 1) SA.nil))],
      eqs :=
        [Eqn.T
            (SB.lt (SI.sub (SI.c (Int.ofNat 61)) (SI.add (SI.v 0) (SI.c (Int.ofNat 1))))
              (SI.sub (SI.c (Int.ofNat 61)) (SI.v 0))),
          Eqn.T
            (SB.app 162
              (SA.l (SL.app 111 (SA.l (SL.v 0) (SA.i (SI.sel (SL.v 9) (SI.v 0) 1) SA.nil))) (SA.i (SI.v 1) SA.nil)))] },
    {
      pc :=
        [SB.not
            (SB.eq
              (SI.app 131
                (SA.l (SL.app 111 (SA.l (SL.v 0) (SA.i (SI.sel (SL.v 9) (SI.v 0) 1) SA.nil)))
                  (SA.i (SI.c (Int.ofNat 0))
                    (SA.i (SI.c (Int.ofNat 9)) (SA.i (SI.v 1) (SA.i (SI.c (Int.ofNat 5)) SA.nil))))))
              (SI.c (Int.ofNat 0))),
          SB.eq
            (SI.app 130
              (SA.l (SL.app 111 (SA.l (SL.v 0) (SA.i (SI.sel (SL.v 9) (SI.v 0) 1) SA.nil)))
                (SA.i (SI.c (Int.ofNat 0))
                  (SA.i (SI.c (Int.ofNat 9)) (SA.i (SI.v 1) (SA.i (SI.c (Int.ofNat 5)) SA.nil))))))
            (SI.c (Int.ofNat 4000)),
          SB.le (SI.len (SL.app 111 (SA.l (SL.v 0) (SA.i (SI.sel (SL.v 9) (SI.v 0) 1) SA.nil)))) (SI.len (SL.v 0)),
          SB.eq (SI.sel (SL.v 9) (SI.v 0) 0) (SI.c (Int.ofNat 3)),
          SB.not (SB.eq (SI.sel (SL.v 9) (SI.v 0) 0) (SI.c (Int.ofNat 2))),
          SB.not (SB.eq (SI.sel (SL.v 9) (SI.v 0) 0) (SI.c (Int.ofNat 0))),
          SB.not (SB.eq (SI.sel (SL.v 9) (SI.v 0) 3) (SI.c (Int.ofNat 4000))),
          SB.not (SB.eq (SI.sel (SL.v 9) (SI.v 0) 1) (SI.c (Int.ofNat 9))), SB.lt (SI.v 0) (SI.c (Int.ofNat 60)),
          SB.lt (SI.v 0) (SI.len (SL.v 9)), SB.le (SI.c (Int.ofNat 0)) (SI.v 1),
          SB.le (SI.v 1) (SI.c (Int.ofNat 65535)), SB.le (SI.c (Int.ofNat 0)) (SI.v 0),
          SB.le (SI.v 0) (SI.c (Int.ofNat 60)), SB.lt (SI.len (SL.v 0)) (SI.add (SI.v 0) (SI.c (Int.ofNat 2))),
          SB.app 162 (SA.l (SL.v 0) (SA.i (SI.v 1) SA.nil))],
      eqs := [Eqn.T (SB.app 199 SA.nil)] },
    {
      pc :=
        [SB.not
            (SB.eq
              (SI.app 130
                (SA.l (SL.app 111 (SA.l (SL.v 0) (SA.i (SI.sel (SL.v 9) (SI.v 0) 1) SA.nil)))
                  (SA.i (SI.c (Int.ofNat 0))
                    (SA.i (SI.c (Int.ofNat 9)) (SA.i (SI.v 1) (SA.i (SI.c (Int.ofNat 5)) SA.nil))))))
              (SI.c (Int.ofNat 4000))),
          SB.le (SI.len (SL.app 111 (SA.l (SL.v 0) (SA.i (SI.sel (SL.v 9) (SI.v 0) 1) SA.nil)))) (SI.len (SL.v 0)),
          SB.eq (SI.sel (SL.v 9) (SI.v 0) 0) (SI.c (Int.ofNat 3)),
          SB.not (SB.eq (SI.sel (SL.v 9) (SI.v 0) 0) (SI.c (Int.ofNat 2))),
          SB.not (SB.eq (SI.sel (SL.v 9) (SI.v 0) 0) (SI.c (Int.ofNat 0))),
          SB.not (SB.eq (SI.sel (SL.v 9) (SI.v 0) 3) (SI.c (Int.ofNat 4000))),
          SB.not (SB.eq (SI.sel (SL.v 9) (SI.v 0) 1) (SI.c (Int.ofNat 9))), SB.lt (SI.v 0) (SI.c (Int.ofNat 60)),
          SB.lt (SI.v 0) (SI.len (SL.v 9)), SB.le (SI.c (Int.ofNat 0)) (SI.v 1),
          SB.le (SI.v 1) (SI.c (Int.ofNat 65535)), SB.le (SI.c (Int.ofNat 0)) (SI.v 0),
          SB.le (SI.v 0) (SI.c (Int.ofNat 60)), SB.lt (SI.len (SL.v 0)) (SI.add (SI.v 0) (SI.c (Int.ofNat 2))),
          SB.app 162 (SA.l (SL.v 0) (SA.i (SI.v 1) SA.nil))],
      eqs := [Eqn.T (SB.app 199 SA.nil)] },
    {
      pc :=
        [SB.eq
            (SI.app 131
              (SA.l (SL.app 112 (SA.l (SL.v 0) (SA.i (SI.sel (SL.v 9) (SI.v 0) 3) SA.nil)))
                (SA.i (SI.c (Int.ofNat 0))
                  (SA.i (SI.c (Int.ofNat 9)) (SA.i (SI.v 1) (SA.i (SI.c (Int.ofNat 5)) SA.nil))))))
            (SI.c (Int.ofNat 0)),
          SB.eq
            (SI.app 130
              (SA.l (SL.app 112 (SA.l (SL.v 0) (SA.i (SI.sel (SL.v 9) (SI.v 0) 3) SA.nil)))
                (SA.i (SI.c (Int.ofNat 0))
                  (SA.i (SI.c (Int.ofNat 9)) (SA.i (SI.v 1) (SA.i (SI.c (Int.ofNat 5)) SA.nil))))))
            (SI.c (Int.ofNat 4000)),
          SB.le (SI.len (SL.app 112 (SA.l (SL.v 0) (SA.i (SI.sel (SL.v 9) (SI.v 0) 3) SA.nil)))) (SI.len (SL.v 0)),
          SB.eq (SI.sel (SL.v 9) (SI.v 0) 0) (SI.c (Int.ofNat 4)),
          SB.not (SB.eq (SI.sel (SL.v 9) (SI.v 0) 0) (SI.c (Int.ofNat 3))),
          SB.not (SB.eq (SI.sel (SL.v 9) (SI.v 0) 0) (SI.c (Int.ofNat 2))),
          SB.not (SB.eq (SI.sel (SL.v 9) (SI.v 0) 0) (SI.c (Int.ofNat 0))),
          SB.not (SB.eq (SI.sel (SL.v 9) (SI.v 0) 3) (SI.c (Int.ofNat 4000))),
          SB.not (SB.eq (SI.sel (SL.v 9) (SI.v 0) 1) (SI.c (Int.ofNat 9))), SB.lt (SI.v 0) (SI.c (Int.ofNat 60)),
          SB.lt (SI.v 0) (SI.len (SL.v 9)), SB.le (SI.c (Int.ofNat 0)) (SI.v 1),
          SB.le (SI.v 1) (SI.c (Int.ofNat 65535)), SB.le (SI.c (Int.ofNat 0)) (SI.v 0),
          SB.le (SI.v 0) (SI.c (Int.ofNat 60)), SB.lt (SI.len (SL.v 0)) (SI.add (SI.v 0) (SI.c (Int.ofNat 2))),
          SB.app 162 (SA.l (SL.v 0) (SA.i (SI.v 1) SA.nil))],
      eqs :=
        [Eqn.T
            (SB.lt (SI.sub (SI.c (Int.ofNat 61)) (SI.add (SI.v 0) (SI.c (Int.ofNat 1))))
              (SI.sub (SI.c (Int.ofNat 61)) (SI.v 0))),
          Eqn.T
            (SB.app 162
              (SA.l (SL.app 112 (SA.l (SL.v 0) (SA.i (SI.sel (SL.v 9) (SI.v 0) 3) SA.nil))) (SA.i (SI.v 1) SA.nil)))] },
    {
      pc :=
        [SB.not
            (SB.eq
              (SI.app 131
                (SA.l (SL.app 112 (SA.l (SL.v 0) (SA.i (SI.sel (SL.v 9) (SI.v 0) 3) SA.nil)))
                  (SA.i (SI.c (Int.ofNat 0))
                    (SA.i (SI.c (Int.ofNat 9)) (SA.i (SI.v 1) (SA.i (SI.c (Int.ofNat 5)) SA.nil))))))
              (SI.c (Int.ofNat 0))),
          SB.eq
            (SI.app 130
              (SA.l (SL.app 112 (SA.l (SL.v 0) (SA.i (SI.sel (SL.v 9) (SI.v 0) 3) SA.nil)))
                (SA.i (SI.c (Int.ofNat 0))
                  (SA.i (SI.c (Int.ofNat 9)) (SA.i (SI.v 1) (SA.i (SI.c (Int.ofNat 5)) SA.nil))))))
            (SI.c (Int.ofNat 4000)),
          SB.le (SI.len (SL.app 112 (SA.l (SL.v 0) (SA.i (SI.sel (SL.v 9) (SI.v 0) 3) SA.nil)))) (SI.len (SL.v 0)),
          SB.eq (SI.sel (SL.v 9) (SI.v 0) 0) (SI.c (Int.ofNat 4)),
          SB.not (SB.eq (SI.sel (SL.v 9) (SI.v 0) 0) (SI.c (Int.ofNat 3))),
          SB.not (SB.eq (SI.sel (SL.v 9) (SI.v 0) 0) (SI.c (Int.ofNat 2))),
          SB.not (SB.eq (SI.sel (SL.v 9) (SI.v 0) 0) (SI.c (Int.ofNat 0))),
          SB.not (SB.eq (SI.sel (SL.v 9) (SI.v 0) 3) (SI.c (Int.ofNat 4000))),
          SB.not (SB.eq (SI.sel (SL.v 9) (SI.v 0) 1) (SI.c (Int.ofNat 9))), SB.lt (SI.v 0) (SI.c (Int.ofNat 60)),
          SB.lt (SI.v 0) (SI.len (SL.v 9)), SB.le (SI.c (Int.ofNat 0)) (SI.v 1),
          SB.le (SI.v 1) (SI.c (Int.ofNat 65535)), SB.le (SI.c (Int.ofNat 0)) (SI.v 0),
          SB.le (SI.v 0) (SI.c (Int.ofNat 60)), SB.lt (SI.len (SL.v 0)) (SI.add (SI.v 0) (SI.c (Int.ofNat 2))),
          SB.app 162 (SA.l (SL.v 0) (SA.i (SI.v 1) SA.nil))],
      eqs := [Eqn.T (SB.app 199 SA.nil)] },
    {
      pc :=
        [SB.not
            (SB.eq
              (SI.app 130
                (SA.l (SL.app 112 (SA.l (SL.v 0) (SA.i (SI.sel (SL.v 9) (SI.v 0) 3) SA.nil)))
                  (SA.i (SI.c (Int.ofNat 0))
                    (SA.i (SI.c (Int.ofNat 9)) (SA.i (SI.v 1) (SA.i (SI.c (Int.ofNat 5)) SA.nil))))))
              (SI.c (Int.ofNat 4000))),
          SB.le (SI.len (SL.app 112 (SA.l (SL.v 0) (SA.i (SI.sel (SL.v 9) (SI.v 0) 3) SA.nil)))) (SI.len (SL.v 0)),
          SB.eq (SI.sel (SL.v 9) (SI.v 0) 0) (SI.c (Int.ofNat 4)),
          SB.not (SB.eq (SI.sel (SL.v 9) (SI.v 0) 0) (SI.c (Int.ofNat 3))),
          SB.not (SB.eq (SI.sel (SL.v 9) (SI.v 0) 0) (SI.c (Int.ofNat 2))),
          SB.not (SB.eq (SI.sel (SL.v 9) (SI.v 0) 0) (SI.c (Int.ofNat 0))),
          SB.not (SB.eq (SI.sel (SL.v 9) (SI.v 0) 3) (SI.c (Int.ofNat 4000))),
          SB.not (SB.eq (SI.sel (SL.v 9) (SI.v 0) 1) (SI.c (Int.ofNat 9))), SB.lt (SI.v 0) (SI.c (Int.ofNat 60)),
          SB.lt (SI.v 0) (SI.len (SL.v 9)), SB.le (SI.c (Int.ofNat 0)) (SI.v 1),
          SB.le (SI.v 1) (SI.c (Int.ofNat 65535)), SB.le (SI.c (Int.ofNat 0)) (SI.v 0),
          SB.le (SI.v 0) (SI.c (Int.ofNat 60)), SB.lt (SI.len (SL.v 0)) (SI.add (SI.v 0) (SI.c (Int.ofNat 2))),
          SB.app 162 (SA.l (SL.v 0) (SA.i (SI.v 1) SA.nil))],
      eqs := [Eqn.T (SB.app 199 SA.nil)] },
    {
      pc :=
        [SB.eq
            (SI.app 131
              (SA.l (SL.v 0)
                (SA.i (SI.c (Int.ofNat 0))
                  (SA.i (SI.c (Int.ofNat 9)) (SA.i (SI.v 1) (SA.i (SI.c (Int.ofNat 5)) SA.nil))))))
            (SI.c (Int.ofNat 0)),
          SB.eq
            (SI.app 130
              (SA.l (SL.v 0)
                (SA.i (SI.c (Int.ofNat 0))
                  (SA.i (SI.c (Int.ofNat 9)) (SA.i (SI.v 1) (SA.i (SI.c (Int.ofNat 5)) SA.nil))))))
            (SI.c (Int.ofNat 4000)),
          SB.not (SB.eq (SI.sel (SL.v 9) (SI.v 0) 0) (SI.c (Int.ofNat 4))),
          SB.not (SB.eq (SI.sel (SL.v 9) (SI.v 0) 0) (SI.c (Int.ofNat 3))),
          SB.not (SB.eq (SI.sel (SL.v 9) (SI.v 0) 0) (SI.c (Int.ofNat 2))),
          SB.not (SB.eq (SI.sel (SL.v 9) (SI.v 0) 0) (SI.c (Int.ofNat 0))),
          SB.not (SB.eq (SI.sel (SL.v 9) (SI.v 0) 3) (SI.c (Int.ofNat 4000))),
          SB.not (SB.eq (SI.sel (SL.v 9) (SI.v 0) 1) (SI.c (Int.ofNat 9))), SB.lt (SI.v 0) (SI.c (Int.ofNat 60)),
          SB.lt (SI.v 0) (SI.len (SL.v 9)), SB.le (SI.c (Int.ofNat 0)) (SI.v 1),
          SB.le (SI.v 1) (SI.c (Int.ofNat 65535)), SB.le (SI.c (Int.ofNat 0)) (SI.v 0),
          SB.le (SI.v 0) (SI.c (Int.ofNat 60)), SB.lt (SI.len (SL.v 0)) (SI.add (SI.v 0) (SI.c (Int.ofNat 2))),
          SB.app 162 (SA.l (SL.v 0) (SA.i (SI.v 1) SA.nil))],
      eqs :=
        [Eqn.T
            (SB.lt (SI.sub (SI.c (Int.ofNat 61)) (SI.add (SI.v 0) (SI.c (Int.ofNat 1))))
              (SI.sub (SI.c (Int.ofNat 61)) (SI.v 0)))] },
    {
      pc :=
        [SB.not
            (SB.eq
              (SI.app 131
                (SA.l (SL.v 0)
                  (SA.i (SI.c (Int.ofNat 0))
                    (SA.i (SI.c (Int.ofNat 9)) (SA.i (SI.v 1) (SA.i (SI.c (Int.ofNat 5)) SA.nil))))))
              (SI.c (Int.ofNat 0))),
          SB.eq
            (SI.app 130
              (SA.l (SL.v 0)
                (SA.i (SI.c (Int.ofNat 0))
                  (SA.i (SI.c (Int.ofNat 9)) (SA.i (SI.v 1) (SA.i (SI.c (Int.ofNat 5)) SA.nil))))))
            (SI.c (Int.ofNat 4000)),
          SB.not (SB.eq (SI.sel (SL.v 9) (SI.v 0) 0) (SI.c (Int.ofNat 4))),
          SB.not (SB.eq (SI.sel (SL.v 9) (SI.v 0) 0) (SI.c (Int.ofNat 3))),
          SB.not (SB.eq (SI.sel (SL.v 9) (SI.v 0) 0) (SI.c (Int.ofNat 2))),
          SB.not (SB.eq (SI.sel (SL.v 9) (SI.v 0) 0) (SI.c (Int.ofNat 0))),
          SB.not (SB.eq (SI.sel (SL.v 9) (SI.v 0) 3) (SI.c (Int.ofNat 4000))),
          SB.not (SB.eq (SI.sel (SL.v 9) (SI.v 0) 1) (SI.c (Int.ofNat 9))), SB.lt (SI.v 0) (SI.c (Int.ofNat 60)),
          SB.lt (SI.v 0) (SI.len (SL.v 9)), SB.le (SI.c (Int.ofNat 0)) (SI.v 1),
          SB.le (SI.v 1) (SI.c (Int.ofNat 65535)), SB.le (SI.c (Int.ofNat 0)) (SI.v 0),
          SB.le (SI.v 0) (SI.c (Int.ofNat 60)), SB.lt (SI.len (SL.v 0)) (SI.add (SI.v 0) (SI.c (Int.ofNat 2))),
          SB.app 162 (SA.l (SL.v 0) (SA.i (SI.v 1) SA.nil))],
      eqs := [Eqn.T (SB.app 199 SA.nil)] },
    {
      pc :=
        [SB.not
            (SB.eq
              (SI.app 130
                (SA.l (SL.v 0)
                  (SA.i (SI.c (Int.ofNat 0))
                    (SA.i (SI.c (Int.ofNat 9)) (SA.i (SI.v 1) (SA.i (SI.c (Int.ofNat 5)) SA.nil))))))
              (SI.c (Int.ofNat 4000))),
          SB.not (SB.eq (SI.sel (SL.v 9) (SI.v 0) 0) (SI.c (Int.ofNat 4))),
          SB.not (SB.eq (SI.sel (SL.v 9) (SI.v 0) 0) (SI.c (Int.ofNat 3))),
          SB.not (SB.eq (SI.sel (SL.v 9) (SI.v 0) 0) (SI.c (Int.ofNat 2))),
          SB.not (SB.eq (SI.sel (SL.v 9) (SI.v 0) 0) (SI.c (Int.ofNat 0))),
          SB.not (SB.eq (SI.sel (SL.v 9) (SI.v 0) 3) (SI.c (Int.ofNat 4000))),
          SB.not (SB.eq (SI.sel (SL.v 9) (SI.v 0) 1) (SI.c (Int.ofNat 9))), SB.lt (SI.v 0) (SI.c (Int.ofNat 60)),
          SB.lt (SI.v 0) (SI.len (SL.v 9)), SB.le (SI.c (Int.ofNat 0)) (SI.v 1),
          SB.le (SI.v 1) (SI.c (Int.ofNat 65535)), SB.le (SI.c (Int.ofNat 0)) (SI.v 0),
          SB.le (SI.v 0) (SI.c (Int.ofNat 60)), SB.lt (SI.len (SL.v 0)) (SI.add (SI.v 0) (SI.c (Int.ofNat 2))),
          SB.app 162 (SA.l (SL.v 0) (SA.i (SI.v 1) SA.nil))],
      eqs := [Eqn.T (SB.app 199 SA.nil)] }] := by kernel_rfl
theorem ap1_ok : ap1.ok Φ Try.prog := by
  refine ⟨by kernel_rfl, loop_rule (fun ρ => t9_ok ρ) (loopAt_sub (by kernel_rfl)) ap1_obs ?_⟩
  simp only [and_imp, List.forall_mem_cons, List.not_mem_nil, false_implies, implies_true, and_true, Ob.ok, holds, Eqn.ok, evB_eq, evB_lt, evB_le, evB_not, evB_and, evB_or, evB_eqL, evB_app, evB_v, evB_c, ev_sel, ev_len, ev_v, ev_c, ev_add, ev_sub, ev_mul, ev_quo, ev_rem, ev_bits, ev_wrap, evL_v, evL_lit, evL_app, ev_app, evA_l, evA_i, evA_nil, std_min, std_max, std_cat, std_take, std_drop, std_row, std_set, std_rep, ints_cons, ints_nil, ofNat_lit, negSucc_lit, decide_eq_true_eq, Bool.and_eq_true, Bool.or_eq_true, Bool.not_eq_true', Bool.and_eq_false_iff, Bool.or_eq_false_iff, decide_eq_false_iff_not, aI100, aL100, aI101, aL101, aI102, aL102, aI111, aI112, aI120, aI130, aI131, aL110, aL111, aL112, aL120, aL140, aL141, aL142, aB100, aB130, aB160, aB162, aB199, aL161]
  repeat' apply And.intro
  all_goals intro ρ hR
  all_goals intros
  all_goals first
    | (omega)
    | (exact ⟨by omega, (by assumption)⟩)
    | (exact ⟨by omega, (nine_fill (by assumption) (by assumption) (by omega))⟩)
    | (exact ⟨by omega, (nine_keep (by assumption) (by simp only [pOf, pTag, pFrame, at', List.getD_cons_zero, List.getD_cons_succ, Bool.and_eq_false_iff, decide_eq_false_iff_not]; omega))⟩)
    | (exfalso
       have hf := ‹¬ lookE _ _ = _›
       exact hf (nine_lookE (by assumption)))
    | (exfalso
       have hf := ‹¬ lookF _ _ = _›
       exact hf (nine_lookF (by assumption)))
    | (exfalso
       have hf := ‹¬ lookE _ _ = _›
       exact hf (nine_lookE (nine_fill (by assumption) (by assumption) (by omega))))
    | (exfalso
       have hf := ‹¬ lookF _ _ = _›
       exact hf (nine_lookF (nine_fill (by assumption) (by assumption) (by omega))))
    | (exfalso
       have hf := ‹¬ lookE _ _ = _›
       exact hf (nine_lookE (nine_keep (by assumption) (by simp only [pOf, pTag, pFrame, at', List.getD_cons_zero, List.getD_cons_succ, Bool.and_eq_false_iff, decide_eq_false_iff_not]; omega))))
    | (exfalso
       have hf := ‹¬ lookF _ _ = _›
       exact hf (nine_lookF (nine_keep (by assumption) (by simp only [pOf, pTag, pFrame, at', List.getD_cons_zero, List.getD_cons_succ, Bool.and_eq_false_iff, decide_eq_false_iff_not]; omega))))
theorem t15_ok (ρ : Env) : TblOK Φ ρ Try.prog t15 := addLp_ok (t9_ok ρ) ap1_ok
set_option maxRecDepth 100000 in
theorem lApart_obs : callObs Φ Try.prog t15 1000 lApart.f lApart.vs lApart.o lApart.pc lApart.outs = some
  [{
      pc :=
        [SB.not (SB.eq (SI.app 111 (SA.l (SL.v 1000) (SA.i (SI.c (Int.ofNat 9)) SA.nil))) (SI.c (Int.ofNat 1))),
          SB.le (SI.len (SL.app 111 (SA.l (SL.v 1000) (SA.i (SI.c (Int.ofNat 9)) SA.nil)))) (SI.len (SL.v 1000)),
          SB.le (SI.len (SL.v 1000)) (SI.c (Int.ofNat 64)), SB.app 162 (SA.l (SL.v 1000) (SA.i (SI.v 0) SA.nil)),
          SB.app 162
            (SA.l
              (SL.app 120
                (SA.l (SL.lit [])
                  (SA.i (SI.c (Int.ofNat 64))
                    (SA.i (SI.c (Int.ofNat 9))
                      (SA.i (SI.v 0) (SA.i (SI.c (Int.ofNat 4000)) (SA.i (SI.c (Int.ofNat 5)) SA.nil)))))))
              (SA.i (SI.v 0) SA.nil)),
          SB.le
            (SI.len
              (SL.app 120
                (SA.l (SL.lit [])
                  (SA.i (SI.c (Int.ofNat 64))
                    (SA.i (SI.c (Int.ofNat 9))
                      (SA.i (SI.v 0) (SA.i (SI.c (Int.ofNat 4000)) (SA.i (SI.c (Int.ofNat 5)) SA.nil))))))))
            (SI.c (Int.ofNat 1)),
          SB.le (SI.c (Int.ofNat 0)) (SI.v 0), SB.le (SI.v 0) (SI.c (Int.ofNat 65535))],
      eqs := [Eqn.B (SB.c true) (SB.c false)] },
    {
      pc :=
        [SB.not
            (SB.app 162
              (SA.l
                (SL.app 120
                  (SA.l (SL.lit [])
                    (SA.i (SI.c (Int.ofNat 64))
                      (SA.i (SI.c (Int.ofNat 9))
                        (SA.i (SI.v 0) (SA.i (SI.c (Int.ofNat 4000)) (SA.i (SI.c (Int.ofNat 5)) SA.nil)))))))
                (SA.i (SI.v 0) SA.nil))),
          SB.le
            (SI.len
              (SL.app 120
                (SA.l (SL.lit [])
                  (SA.i (SI.c (Int.ofNat 64))
                    (SA.i (SI.c (Int.ofNat 9))
                      (SA.i (SI.v 0) (SA.i (SI.c (Int.ofNat 4000)) (SA.i (SI.c (Int.ofNat 5)) SA.nil))))))))
            (SI.c (Int.ofNat 1)),
          SB.le (SI.c (Int.ofNat 0)) (SI.v 0), SB.le (SI.v 0) (SI.c (Int.ofNat 65535))],
      eqs := [Eqn.T (SB.c false)] }] := by kernel_rfl
theorem lApart_ok : lApart.ok Φ Try.prog := by
  refine call_rule (fun ρ => t15_ok ρ) lApart_obs ?_
  simp only [and_imp, List.forall_mem_cons, List.not_mem_nil, false_implies, implies_true, and_true, Ob.ok, holds, Eqn.ok, evB_eq, evB_lt, evB_le, evB_not, evB_and, evB_or, evB_eqL, evB_app, evB_v, evB_c, ev_sel, ev_len, ev_v, ev_c, ev_add, ev_sub, ev_mul, ev_quo, ev_rem, ev_bits, ev_wrap, evL_v, evL_lit, evL_app, ev_app, evA_l, evA_i, evA_nil, std_min, std_max, std_cat, std_take, std_drop, std_row, std_set, std_rep, ints_cons, ints_nil, ofNat_lit, negSucc_lit, decide_eq_true_eq, Bool.and_eq_true, Bool.or_eq_true, Bool.not_eq_true', Bool.and_eq_false_iff, Bool.or_eq_false_iff, decide_eq_false_iff_not, aI100, aL100, aI101, aL101, aI102, aL102, aI111, aI112, aI120, aI130, aI131, aL110, aL111, aL112, aL120, aL140, aL141, aL142, aB100, aB130, aB160, aB162, aB199, aL161]
  repeat' apply And.intro
  all_goals intro ρ hR
  all_goals intros
  all_goals first
    | (exfalso
       have hf := ‹¬ ((List.countP (pTag 9) _ : Nat) : Int) = 1›
       exact hf (nine_count (by assumption)))
    | (exfalso
       have hf := ‹nineB (fillL _ _ _ _ _ _) _ = false›
       rw [nine_start (by omega) (by omega)] at hf
       cases hf)
set_option maxRecDepth 100000 in
theorem lRights_obs : callObs Φ Try.prog t9 1000 lRights.f lRights.vs lRights.o lRights.pc lRights.outs = some
  [{
      pc :=
        [SB.not
            (SB.eq
              (SI.app 131
                (SA.l
                  (SL.app 120
                    (SA.l (SL.lit [])
                      (SA.i (SI.c (Int.ofNat 3))
                        (SA.i (SI.v 0) (SA.i (SI.v 1) (SA.i (SI.v 2) (SA.i (SI.v 3) SA.nil)))))))
                  (SA.i (SI.c (Int.ofNat 0)) (SA.i (SI.v 0) (SA.i (SI.v 1) (SA.i (SI.c (Int.ofNat 0)) SA.nil))))))
              (SI.c (Int.ofNat 0))),
          SB.eq
            (SI.app 130
              (SA.l
                (SL.app 120
                  (SA.l (SL.lit [])
                    (SA.i (SI.c (Int.ofNat 3)) (SA.i (SI.v 0) (SA.i (SI.v 1) (SA.i (SI.v 2) (SA.i (SI.v 3) SA.nil)))))))
                (SA.i (SI.c (Int.ofNat 0)) (SA.i (SI.v 0) (SA.i (SI.v 1) (SA.i (SI.c (Int.ofNat 0)) SA.nil))))))
            (SI.v 2),
          SB.eq
            (SI.app 131
              (SA.l
                (SL.app 120
                  (SA.l (SL.lit [])
                    (SA.i (SI.c (Int.ofNat 3)) (SA.i (SI.v 0) (SA.i (SI.v 1) (SA.i (SI.v 2) (SA.i (SI.v 3) SA.nil)))))))
                (SA.i (SI.c (Int.ofNat 0))
                  (SA.i (SI.v 0)
                    (SA.i (SI.v 1)
                      (SA.i
                        (SI.bits BinOp.or IntKind.i64 (SI.rem (SI.v 4) (SI.c (Int.ofNat 8)))
                          (SI.rem (SI.v 5) (SI.c (Int.ofNat 8))))
                        SA.nil))))))
            (SI.c (Int.ofNat 0)),
          SB.eq
            (SI.app 131
              (SA.l
                (SL.app 120
                  (SA.l (SL.lit [])
                    (SA.i (SI.c (Int.ofNat 3)) (SA.i (SI.v 0) (SA.i (SI.v 1) (SA.i (SI.v 2) (SA.i (SI.v 3) SA.nil)))))))
                (SA.i (SI.c (Int.ofNat 0))
                  (SA.i (SI.v 0) (SA.i (SI.v 1) (SA.i (SI.rem (SI.v 5) (SI.c (Int.ofNat 8))) SA.nil))))))
            (SI.c (Int.ofNat 0)),
          SB.eq
            (SI.app 131
              (SA.l
                (SL.app 120
                  (SA.l (SL.lit [])
                    (SA.i (SI.c (Int.ofNat 3)) (SA.i (SI.v 0) (SA.i (SI.v 1) (SA.i (SI.v 2) (SA.i (SI.v 3) SA.nil)))))))
                (SA.i (SI.c (Int.ofNat 0))
                  (SA.i (SI.v 0) (SA.i (SI.v 1) (SA.i (SI.rem (SI.v 4) (SI.c (Int.ofNat 8))) SA.nil))))))
            (SI.c (Int.ofNat 0)),
          SB.eq (SI.app 120 (SA.i (SI.v 0) (SA.i (SI.v 1) (SA.i (SI.v 2) (SA.i (SI.v 3) SA.nil)))))
            (SI.c (Int.ofNat 0)),
          SB.le
            (SI.len
              (SL.app 120
                (SA.l (SL.lit [])
                  (SA.i (SI.c (Int.ofNat 3)) (SA.i (SI.v 0) (SA.i (SI.v 1) (SA.i (SI.v 2) (SA.i (SI.v 3) SA.nil))))))))
            (SI.c (Int.ofNat 1)),
          SB.le (SI.c (Int.ofNat 0)) (SI.v 4), SB.le (SI.v 4) (SI.c (Int.ofNat 255)),
          SB.le (SI.c (Int.ofNat 0)) (SI.v 5), SB.le (SI.v 5) (SI.c (Int.ofNat 255))],
      eqs := [Eqn.B (SB.c true) (SB.c false)] },
    {
      pc :=
        [SB.not
            (SB.eq
              (SI.app 130
                (SA.l
                  (SL.app 120
                    (SA.l (SL.lit [])
                      (SA.i (SI.c (Int.ofNat 3))
                        (SA.i (SI.v 0) (SA.i (SI.v 1) (SA.i (SI.v 2) (SA.i (SI.v 3) SA.nil)))))))
                  (SA.i (SI.c (Int.ofNat 0)) (SA.i (SI.v 0) (SA.i (SI.v 1) (SA.i (SI.c (Int.ofNat 0)) SA.nil))))))
              (SI.v 2)),
          SB.eq
            (SI.app 131
              (SA.l
                (SL.app 120
                  (SA.l (SL.lit [])
                    (SA.i (SI.c (Int.ofNat 3)) (SA.i (SI.v 0) (SA.i (SI.v 1) (SA.i (SI.v 2) (SA.i (SI.v 3) SA.nil)))))))
                (SA.i (SI.c (Int.ofNat 0))
                  (SA.i (SI.v 0)
                    (SA.i (SI.v 1)
                      (SA.i
                        (SI.bits BinOp.or IntKind.i64 (SI.rem (SI.v 4) (SI.c (Int.ofNat 8)))
                          (SI.rem (SI.v 5) (SI.c (Int.ofNat 8))))
                        SA.nil))))))
            (SI.c (Int.ofNat 0)),
          SB.eq
            (SI.app 131
              (SA.l
                (SL.app 120
                  (SA.l (SL.lit [])
                    (SA.i (SI.c (Int.ofNat 3)) (SA.i (SI.v 0) (SA.i (SI.v 1) (SA.i (SI.v 2) (SA.i (SI.v 3) SA.nil)))))))
                (SA.i (SI.c (Int.ofNat 0))
                  (SA.i (SI.v 0) (SA.i (SI.v 1) (SA.i (SI.rem (SI.v 5) (SI.c (Int.ofNat 8))) SA.nil))))))
            (SI.c (Int.ofNat 0)),
          SB.eq
            (SI.app 131
              (SA.l
                (SL.app 120
                  (SA.l (SL.lit [])
                    (SA.i (SI.c (Int.ofNat 3)) (SA.i (SI.v 0) (SA.i (SI.v 1) (SA.i (SI.v 2) (SA.i (SI.v 3) SA.nil)))))))
                (SA.i (SI.c (Int.ofNat 0))
                  (SA.i (SI.v 0) (SA.i (SI.v 1) (SA.i (SI.rem (SI.v 4) (SI.c (Int.ofNat 8))) SA.nil))))))
            (SI.c (Int.ofNat 0)),
          SB.eq (SI.app 120 (SA.i (SI.v 0) (SA.i (SI.v 1) (SA.i (SI.v 2) (SA.i (SI.v 3) SA.nil)))))
            (SI.c (Int.ofNat 0)),
          SB.le
            (SI.len
              (SL.app 120
                (SA.l (SL.lit [])
                  (SA.i (SI.c (Int.ofNat 3)) (SA.i (SI.v 0) (SA.i (SI.v 1) (SA.i (SI.v 2) (SA.i (SI.v 3) SA.nil))))))))
            (SI.c (Int.ofNat 1)),
          SB.le (SI.c (Int.ofNat 0)) (SI.v 4), SB.le (SI.v 4) (SI.c (Int.ofNat 255)),
          SB.le (SI.c (Int.ofNat 0)) (SI.v 5), SB.le (SI.v 5) (SI.c (Int.ofNat 255))],
      eqs := [Eqn.B (SB.c true) (SB.c false)] },
    {
      pc :=
        [SB.not
            (SB.eq
              (SI.app 131
                (SA.l
                  (SL.app 120
                    (SA.l (SL.lit [])
                      (SA.i (SI.c (Int.ofNat 3))
                        (SA.i (SI.v 0) (SA.i (SI.v 1) (SA.i (SI.v 2) (SA.i (SI.v 3) SA.nil)))))))
                  (SA.i (SI.c (Int.ofNat 0))
                    (SA.i (SI.v 0)
                      (SA.i (SI.v 1)
                        (SA.i
                          (SI.bits BinOp.or IntKind.i64 (SI.rem (SI.v 4) (SI.c (Int.ofNat 8)))
                            (SI.rem (SI.v 5) (SI.c (Int.ofNat 8))))
                          SA.nil))))))
              (SI.c (Int.ofNat 0))),
          SB.eq
            (SI.app 131
              (SA.l
                (SL.app 120
                  (SA.l (SL.lit [])
                    (SA.i (SI.c (Int.ofNat 3)) (SA.i (SI.v 0) (SA.i (SI.v 1) (SA.i (SI.v 2) (SA.i (SI.v 3) SA.nil)))))))
                (SA.i (SI.c (Int.ofNat 0))
                  (SA.i (SI.v 0) (SA.i (SI.v 1) (SA.i (SI.rem (SI.v 5) (SI.c (Int.ofNat 8))) SA.nil))))))
            (SI.c (Int.ofNat 0)),
          SB.eq
            (SI.app 131
              (SA.l
                (SL.app 120
                  (SA.l (SL.lit [])
                    (SA.i (SI.c (Int.ofNat 3)) (SA.i (SI.v 0) (SA.i (SI.v 1) (SA.i (SI.v 2) (SA.i (SI.v 3) SA.nil)))))))
                (SA.i (SI.c (Int.ofNat 0))
                  (SA.i (SI.v 0) (SA.i (SI.v 1) (SA.i (SI.rem (SI.v 4) (SI.c (Int.ofNat 8))) SA.nil))))))
            (SI.c (Int.ofNat 0)),
          SB.eq (SI.app 120 (SA.i (SI.v 0) (SA.i (SI.v 1) (SA.i (SI.v 2) (SA.i (SI.v 3) SA.nil)))))
            (SI.c (Int.ofNat 0)),
          SB.le
            (SI.len
              (SL.app 120
                (SA.l (SL.lit [])
                  (SA.i (SI.c (Int.ofNat 3)) (SA.i (SI.v 0) (SA.i (SI.v 1) (SA.i (SI.v 2) (SA.i (SI.v 3) SA.nil))))))))
            (SI.c (Int.ofNat 1)),
          SB.le (SI.c (Int.ofNat 0)) (SI.v 4), SB.le (SI.v 4) (SI.c (Int.ofNat 255)),
          SB.le (SI.c (Int.ofNat 0)) (SI.v 5), SB.le (SI.v 5) (SI.c (Int.ofNat 255))],
      eqs := [Eqn.B (SB.c true) (SB.c false)] },
    {
      pc :=
        [SB.eq
            (SI.app 131
              (SA.l
                (SL.app 120
                  (SA.l (SL.lit [])
                    (SA.i (SI.c (Int.ofNat 3)) (SA.i (SI.v 0) (SA.i (SI.v 1) (SA.i (SI.v 2) (SA.i (SI.v 3) SA.nil)))))))
                (SA.i (SI.c (Int.ofNat 0))
                  (SA.i (SI.v 0)
                    (SA.i (SI.v 1)
                      (SA.i
                        (SI.bits BinOp.or IntKind.i64 (SI.rem (SI.v 4) (SI.c (Int.ofNat 8)))
                          (SI.rem (SI.v 5) (SI.c (Int.ofNat 8))))
                        SA.nil))))))
            (SI.c (Int.ofNat 0)),
          SB.not
            (SB.eq
              (SI.app 131
                (SA.l
                  (SL.app 120
                    (SA.l (SL.lit [])
                      (SA.i (SI.c (Int.ofNat 3))
                        (SA.i (SI.v 0) (SA.i (SI.v 1) (SA.i (SI.v 2) (SA.i (SI.v 3) SA.nil)))))))
                  (SA.i (SI.c (Int.ofNat 0))
                    (SA.i (SI.v 0) (SA.i (SI.v 1) (SA.i (SI.rem (SI.v 5) (SI.c (Int.ofNat 8))) SA.nil))))))
              (SI.c (Int.ofNat 0))),
          SB.eq
            (SI.app 131
              (SA.l
                (SL.app 120
                  (SA.l (SL.lit [])
                    (SA.i (SI.c (Int.ofNat 3)) (SA.i (SI.v 0) (SA.i (SI.v 1) (SA.i (SI.v 2) (SA.i (SI.v 3) SA.nil)))))))
                (SA.i (SI.c (Int.ofNat 0))
                  (SA.i (SI.v 0) (SA.i (SI.v 1) (SA.i (SI.rem (SI.v 4) (SI.c (Int.ofNat 8))) SA.nil))))))
            (SI.c (Int.ofNat 0)),
          SB.eq (SI.app 120 (SA.i (SI.v 0) (SA.i (SI.v 1) (SA.i (SI.v 2) (SA.i (SI.v 3) SA.nil)))))
            (SI.c (Int.ofNat 0)),
          SB.le
            (SI.len
              (SL.app 120
                (SA.l (SL.lit [])
                  (SA.i (SI.c (Int.ofNat 3)) (SA.i (SI.v 0) (SA.i (SI.v 1) (SA.i (SI.v 2) (SA.i (SI.v 3) SA.nil))))))))
            (SI.c (Int.ofNat 1)),
          SB.le (SI.c (Int.ofNat 0)) (SI.v 4), SB.le (SI.v 4) (SI.c (Int.ofNat 255)),
          SB.le (SI.c (Int.ofNat 0)) (SI.v 5), SB.le (SI.v 5) (SI.c (Int.ofNat 255))],
      eqs := [Eqn.B (SB.c true) (SB.c false)] },
    {
      pc :=
        [SB.not
            (SB.eq
              (SI.app 131
                (SA.l
                  (SL.app 120
                    (SA.l (SL.lit [])
                      (SA.i (SI.c (Int.ofNat 3))
                        (SA.i (SI.v 0) (SA.i (SI.v 1) (SA.i (SI.v 2) (SA.i (SI.v 3) SA.nil)))))))
                  (SA.i (SI.c (Int.ofNat 0)) (SA.i (SI.v 0) (SA.i (SI.v 1) (SA.i (SI.c (Int.ofNat 0)) SA.nil))))))
              (SI.c (Int.ofNat 0))),
          SB.eq
            (SI.app 130
              (SA.l
                (SL.app 120
                  (SA.l (SL.lit [])
                    (SA.i (SI.c (Int.ofNat 3)) (SA.i (SI.v 0) (SA.i (SI.v 1) (SA.i (SI.v 2) (SA.i (SI.v 3) SA.nil)))))))
                (SA.i (SI.c (Int.ofNat 0)) (SA.i (SI.v 0) (SA.i (SI.v 1) (SA.i (SI.c (Int.ofNat 0)) SA.nil))))))
            (SI.v 2),
          SB.not
            (SB.eq
              (SI.app 131
                (SA.l
                  (SL.app 120
                    (SA.l (SL.lit [])
                      (SA.i (SI.c (Int.ofNat 3))
                        (SA.i (SI.v 0) (SA.i (SI.v 1) (SA.i (SI.v 2) (SA.i (SI.v 3) SA.nil)))))))
                  (SA.i (SI.c (Int.ofNat 0))
                    (SA.i (SI.v 0)
                      (SA.i (SI.v 1)
                        (SA.i
                          (SI.bits BinOp.or IntKind.i64 (SI.rem (SI.v 4) (SI.c (Int.ofNat 8)))
                            (SI.rem (SI.v 5) (SI.c (Int.ofNat 8))))
                          SA.nil))))))
              (SI.c (Int.ofNat 0))),
          SB.not
            (SB.eq
              (SI.app 131
                (SA.l
                  (SL.app 120
                    (SA.l (SL.lit [])
                      (SA.i (SI.c (Int.ofNat 3))
                        (SA.i (SI.v 0) (SA.i (SI.v 1) (SA.i (SI.v 2) (SA.i (SI.v 3) SA.nil)))))))
                  (SA.i (SI.c (Int.ofNat 0))
                    (SA.i (SI.v 0) (SA.i (SI.v 1) (SA.i (SI.rem (SI.v 5) (SI.c (Int.ofNat 8))) SA.nil))))))
              (SI.c (Int.ofNat 0))),
          SB.eq
            (SI.app 131
              (SA.l
                (SL.app 120
                  (SA.l (SL.lit [])
                    (SA.i (SI.c (Int.ofNat 3)) (SA.i (SI.v 0) (SA.i (SI.v 1) (SA.i (SI.v 2) (SA.i (SI.v 3) SA.nil)))))))
                (SA.i (SI.c (Int.ofNat 0))
                  (SA.i (SI.v 0) (SA.i (SI.v 1) (SA.i (SI.rem (SI.v 4) (SI.c (Int.ofNat 8))) SA.nil))))))
            (SI.c (Int.ofNat 0)),
          SB.eq (SI.app 120 (SA.i (SI.v 0) (SA.i (SI.v 1) (SA.i (SI.v 2) (SA.i (SI.v 3) SA.nil)))))
            (SI.c (Int.ofNat 0)),
          SB.le
            (SI.len
              (SL.app 120
                (SA.l (SL.lit [])
                  (SA.i (SI.c (Int.ofNat 3)) (SA.i (SI.v 0) (SA.i (SI.v 1) (SA.i (SI.v 2) (SA.i (SI.v 3) SA.nil))))))))
            (SI.c (Int.ofNat 1)),
          SB.le (SI.c (Int.ofNat 0)) (SI.v 4), SB.le (SI.v 4) (SI.c (Int.ofNat 255)),
          SB.le (SI.c (Int.ofNat 0)) (SI.v 5), SB.le (SI.v 5) (SI.c (Int.ofNat 255))],
      eqs := [Eqn.B (SB.c true) (SB.c false)] },
    {
      pc :=
        [SB.not
            (SB.eq
              (SI.app 130
                (SA.l
                  (SL.app 120
                    (SA.l (SL.lit [])
                      (SA.i (SI.c (Int.ofNat 3))
                        (SA.i (SI.v 0) (SA.i (SI.v 1) (SA.i (SI.v 2) (SA.i (SI.v 3) SA.nil)))))))
                  (SA.i (SI.c (Int.ofNat 0)) (SA.i (SI.v 0) (SA.i (SI.v 1) (SA.i (SI.c (Int.ofNat 0)) SA.nil))))))
              (SI.v 2)),
          SB.not
            (SB.eq
              (SI.app 131
                (SA.l
                  (SL.app 120
                    (SA.l (SL.lit [])
                      (SA.i (SI.c (Int.ofNat 3))
                        (SA.i (SI.v 0) (SA.i (SI.v 1) (SA.i (SI.v 2) (SA.i (SI.v 3) SA.nil)))))))
                  (SA.i (SI.c (Int.ofNat 0))
                    (SA.i (SI.v 0)
                      (SA.i (SI.v 1)
                        (SA.i
                          (SI.bits BinOp.or IntKind.i64 (SI.rem (SI.v 4) (SI.c (Int.ofNat 8)))
                            (SI.rem (SI.v 5) (SI.c (Int.ofNat 8))))
                          SA.nil))))))
              (SI.c (Int.ofNat 0))),
          SB.not
            (SB.eq
              (SI.app 131
                (SA.l
                  (SL.app 120
                    (SA.l (SL.lit [])
                      (SA.i (SI.c (Int.ofNat 3))
                        (SA.i (SI.v 0) (SA.i (SI.v 1) (SA.i (SI.v 2) (SA.i (SI.v 3) SA.nil)))))))
                  (SA.i (SI.c (Int.ofNat 0))
                    (SA.i (SI.v 0) (SA.i (SI.v 1) (SA.i (SI.rem (SI.v 5) (SI.c (Int.ofNat 8))) SA.nil))))))
              (SI.c (Int.ofNat 0))),
          SB.eq
            (SI.app 131
              (SA.l
                (SL.app 120
                  (SA.l (SL.lit [])
                    (SA.i (SI.c (Int.ofNat 3)) (SA.i (SI.v 0) (SA.i (SI.v 1) (SA.i (SI.v 2) (SA.i (SI.v 3) SA.nil)))))))
                (SA.i (SI.c (Int.ofNat 0))
                  (SA.i (SI.v 0) (SA.i (SI.v 1) (SA.i (SI.rem (SI.v 4) (SI.c (Int.ofNat 8))) SA.nil))))))
            (SI.c (Int.ofNat 0)),
          SB.eq (SI.app 120 (SA.i (SI.v 0) (SA.i (SI.v 1) (SA.i (SI.v 2) (SA.i (SI.v 3) SA.nil)))))
            (SI.c (Int.ofNat 0)),
          SB.le
            (SI.len
              (SL.app 120
                (SA.l (SL.lit [])
                  (SA.i (SI.c (Int.ofNat 3)) (SA.i (SI.v 0) (SA.i (SI.v 1) (SA.i (SI.v 2) (SA.i (SI.v 3) SA.nil))))))))
            (SI.c (Int.ofNat 1)),
          SB.le (SI.c (Int.ofNat 0)) (SI.v 4), SB.le (SI.v 4) (SI.c (Int.ofNat 255)),
          SB.le (SI.c (Int.ofNat 0)) (SI.v 5), SB.le (SI.v 5) (SI.c (Int.ofNat 255))],
      eqs := [Eqn.B (SB.c true) (SB.c false)] },
    {
      pc :=
        [SB.eq
            (SI.app 131
              (SA.l
                (SL.app 120
                  (SA.l (SL.lit [])
                    (SA.i (SI.c (Int.ofNat 3)) (SA.i (SI.v 0) (SA.i (SI.v 1) (SA.i (SI.v 2) (SA.i (SI.v 3) SA.nil)))))))
                (SA.i (SI.c (Int.ofNat 0))
                  (SA.i (SI.v 0)
                    (SA.i (SI.v 1)
                      (SA.i
                        (SI.bits BinOp.or IntKind.i64 (SI.rem (SI.v 4) (SI.c (Int.ofNat 8)))
                          (SI.rem (SI.v 5) (SI.c (Int.ofNat 8))))
                        SA.nil))))))
            (SI.c (Int.ofNat 0)),
          SB.not
            (SB.eq
              (SI.app 131
                (SA.l
                  (SL.app 120
                    (SA.l (SL.lit [])
                      (SA.i (SI.c (Int.ofNat 3))
                        (SA.i (SI.v 0) (SA.i (SI.v 1) (SA.i (SI.v 2) (SA.i (SI.v 3) SA.nil)))))))
                  (SA.i (SI.c (Int.ofNat 0))
                    (SA.i (SI.v 0) (SA.i (SI.v 1) (SA.i (SI.rem (SI.v 4) (SI.c (Int.ofNat 8))) SA.nil))))))
              (SI.c (Int.ofNat 0))),
          SB.eq (SI.app 120 (SA.i (SI.v 0) (SA.i (SI.v 1) (SA.i (SI.v 2) (SA.i (SI.v 3) SA.nil)))))
            (SI.c (Int.ofNat 0)),
          SB.le
            (SI.len
              (SL.app 120
                (SA.l (SL.lit [])
                  (SA.i (SI.c (Int.ofNat 3)) (SA.i (SI.v 0) (SA.i (SI.v 1) (SA.i (SI.v 2) (SA.i (SI.v 3) SA.nil))))))))
            (SI.c (Int.ofNat 1)),
          SB.le (SI.c (Int.ofNat 0)) (SI.v 4), SB.le (SI.v 4) (SI.c (Int.ofNat 255)),
          SB.le (SI.c (Int.ofNat 0)) (SI.v 5), SB.le (SI.v 5) (SI.c (Int.ofNat 255))],
      eqs := [Eqn.B (SB.c true) (SB.c false)] },
    {
      pc :=
        [SB.not
            (SB.eq
              (SI.app 131
                (SA.l
                  (SL.app 120
                    (SA.l (SL.lit [])
                      (SA.i (SI.c (Int.ofNat 3))
                        (SA.i (SI.v 0) (SA.i (SI.v 1) (SA.i (SI.v 2) (SA.i (SI.v 3) SA.nil)))))))
                  (SA.i (SI.c (Int.ofNat 0)) (SA.i (SI.v 0) (SA.i (SI.v 1) (SA.i (SI.c (Int.ofNat 0)) SA.nil))))))
              (SI.c (Int.ofNat 0))),
          SB.eq
            (SI.app 130
              (SA.l
                (SL.app 120
                  (SA.l (SL.lit [])
                    (SA.i (SI.c (Int.ofNat 3)) (SA.i (SI.v 0) (SA.i (SI.v 1) (SA.i (SI.v 2) (SA.i (SI.v 3) SA.nil)))))))
                (SA.i (SI.c (Int.ofNat 0)) (SA.i (SI.v 0) (SA.i (SI.v 1) (SA.i (SI.c (Int.ofNat 0)) SA.nil))))))
            (SI.v 2),
          SB.not
            (SB.eq
              (SI.app 131
                (SA.l
                  (SL.app 120
                    (SA.l (SL.lit [])
                      (SA.i (SI.c (Int.ofNat 3))
                        (SA.i (SI.v 0) (SA.i (SI.v 1) (SA.i (SI.v 2) (SA.i (SI.v 3) SA.nil)))))))
                  (SA.i (SI.c (Int.ofNat 0))
                    (SA.i (SI.v 0)
                      (SA.i (SI.v 1)
                        (SA.i
                          (SI.bits BinOp.or IntKind.i64 (SI.rem (SI.v 4) (SI.c (Int.ofNat 8)))
                            (SI.rem (SI.v 5) (SI.c (Int.ofNat 8))))
                          SA.nil))))))
              (SI.c (Int.ofNat 0))),
          SB.not
            (SB.eq
              (SI.app 131
                (SA.l
                  (SL.app 120
                    (SA.l (SL.lit [])
                      (SA.i (SI.c (Int.ofNat 3))
                        (SA.i (SI.v 0) (SA.i (SI.v 1) (SA.i (SI.v 2) (SA.i (SI.v 3) SA.nil)))))))
                  (SA.i (SI.c (Int.ofNat 0))
                    (SA.i (SI.v 0) (SA.i (SI.v 1) (SA.i (SI.rem (SI.v 4) (SI.c (Int.ofNat 8))) SA.nil))))))
              (SI.c (Int.ofNat 0))),
          SB.eq (SI.app 120 (SA.i (SI.v 0) (SA.i (SI.v 1) (SA.i (SI.v 2) (SA.i (SI.v 3) SA.nil)))))
            (SI.c (Int.ofNat 0)),
          SB.le
            (SI.len
              (SL.app 120
                (SA.l (SL.lit [])
                  (SA.i (SI.c (Int.ofNat 3)) (SA.i (SI.v 0) (SA.i (SI.v 1) (SA.i (SI.v 2) (SA.i (SI.v 3) SA.nil))))))))
            (SI.c (Int.ofNat 1)),
          SB.le (SI.c (Int.ofNat 0)) (SI.v 4), SB.le (SI.v 4) (SI.c (Int.ofNat 255)),
          SB.le (SI.c (Int.ofNat 0)) (SI.v 5), SB.le (SI.v 5) (SI.c (Int.ofNat 255))],
      eqs := [Eqn.B (SB.c true) (SB.c false)] },
    {
      pc :=
        [SB.not
            (SB.eq
              (SI.app 130
                (SA.l
                  (SL.app 120
                    (SA.l (SL.lit [])
                      (SA.i (SI.c (Int.ofNat 3))
                        (SA.i (SI.v 0) (SA.i (SI.v 1) (SA.i (SI.v 2) (SA.i (SI.v 3) SA.nil)))))))
                  (SA.i (SI.c (Int.ofNat 0)) (SA.i (SI.v 0) (SA.i (SI.v 1) (SA.i (SI.c (Int.ofNat 0)) SA.nil))))))
              (SI.v 2)),
          SB.not
            (SB.eq
              (SI.app 131
                (SA.l
                  (SL.app 120
                    (SA.l (SL.lit [])
                      (SA.i (SI.c (Int.ofNat 3))
                        (SA.i (SI.v 0) (SA.i (SI.v 1) (SA.i (SI.v 2) (SA.i (SI.v 3) SA.nil)))))))
                  (SA.i (SI.c (Int.ofNat 0))
                    (SA.i (SI.v 0)
                      (SA.i (SI.v 1)
                        (SA.i
                          (SI.bits BinOp.or IntKind.i64 (SI.rem (SI.v 4) (SI.c (Int.ofNat 8)))
                            (SI.rem (SI.v 5) (SI.c (Int.ofNat 8))))
                          SA.nil))))))
              (SI.c (Int.ofNat 0))),
          SB.not
            (SB.eq
              (SI.app 131
                (SA.l
                  (SL.app 120
                    (SA.l (SL.lit [])
                      (SA.i (SI.c (Int.ofNat 3))
                        (SA.i (SI.v 0) (SA.i (SI.v 1) (SA.i (SI.v 2) (SA.i (SI.v 3) SA.nil)))))))
                  (SA.i (SI.c (Int.ofNat 0))
                    (SA.i (SI.v 0) (SA.i (SI.v 1) (SA.i (SI.rem (SI.v 4) (SI.c (Int.ofNat 8))) SA.nil))))))
              (SI.c (Int.ofNat 0))),
          SB.eq (SI.app 120 (SA.i (SI.v 0) (SA.i (SI.v 1) (SA.i (SI.v 2) (SA.i (SI.v 3) SA.nil)))))
            (SI.c (Int.ofNat 0)),
          SB.le
            (SI.len
              (SL.app 120
                (SA.l (SL.lit [])
                  (SA.i (SI.c (Int.ofNat 3)) (SA.i (SI.v 0) (SA.i (SI.v 1) (SA.i (SI.v 2) (SA.i (SI.v 3) SA.nil))))))))
            (SI.c (Int.ofNat 1)),
          SB.le (SI.c (Int.ofNat 0)) (SI.v 4), SB.le (SI.v 4) (SI.c (Int.ofNat 255)),
          SB.le (SI.c (Int.ofNat 0)) (SI.v 5), SB.le (SI.v 5) (SI.c (Int.ofNat 255))],
      eqs := [Eqn.B (SB.c true) (SB.c false)] },
    {
      pc :=
        [SB.not
            (SB.eq
              (SI.len
                (SL.app 120
                  (SA.l (SL.lit [])
                    (SA.i (SI.c (Int.ofNat 3))
                      (SA.i (SI.v 0) (SA.i (SI.v 1) (SA.i (SI.v 2) (SA.i (SI.v 3) SA.nil))))))))
              (SI.c (Int.ofNat 0))),
          SB.not
            (SB.eq (SI.app 120 (SA.i (SI.v 0) (SA.i (SI.v 1) (SA.i (SI.v 2) (SA.i (SI.v 3) SA.nil)))))
              (SI.c (Int.ofNat 0))),
          SB.le
            (SI.len
              (SL.app 120
                (SA.l (SL.lit [])
                  (SA.i (SI.c (Int.ofNat 3)) (SA.i (SI.v 0) (SA.i (SI.v 1) (SA.i (SI.v 2) (SA.i (SI.v 3) SA.nil))))))))
            (SI.c (Int.ofNat 1)),
          SB.le (SI.c (Int.ofNat 0)) (SI.v 4), SB.le (SI.v 4) (SI.c (Int.ofNat 255)),
          SB.le (SI.c (Int.ofNat 0)) (SI.v 5), SB.le (SI.v 5) (SI.c (Int.ofNat 255))],
      eqs := [Eqn.B (SB.c true) (SB.c false)] }] := by kernel_rfl
theorem lRights_ok : lRights.ok Φ Try.prog := by
  refine call_rule (fun ρ => t9_ok ρ) lRights_obs ?_
  simp only [and_imp, List.forall_mem_cons, List.not_mem_nil, false_implies, implies_true, and_true, Ob.ok, holds, Eqn.ok, evB_eq, evB_lt, evB_le, evB_not, evB_and, evB_or, evB_eqL, evB_app, evB_v, evB_c, ev_sel, ev_len, ev_v, ev_c, ev_add, ev_sub, ev_mul, ev_quo, ev_rem, ev_bits, ev_wrap, evL_v, evL_lit, evL_app, ev_app, evA_l, evA_i, evA_nil, std_min, std_max, std_cat, std_take, std_drop, std_row, std_set, std_rep, ints_cons, ints_nil, ofNat_lit, negSucc_lit, decide_eq_true_eq, Bool.and_eq_true, Bool.or_eq_true, Bool.not_eq_true', Bool.and_eq_false_iff, Bool.or_eq_false_iff, decide_eq_false_iff_not, aI100, aL100, aI101, aL101, aI102, aL102, aI111, aI112, aI120, aI130, aI131, aL110, aL111, aL112, aL120, aL140, aL141, aL142, aB100, aB130, aB160, aB162, aB199, aL161]
  repeat' apply And.intro
  all_goals intro ρ hR
  all_goals intros
  all_goals first
    | (exfalso
       exact absurd (fill_not (by assumption)) (by assumption))
    | (have t1 := tmod_range (a := ρ.i 4) (n := 8) (by omega) (by omega)
       have t2 := tmod_range (a := ρ.i 5) (n := 8) (by omega) (by omega)
       have h := rights_all (A := []) (s := 3) (a := (ρ.i 4).tmod 8) (b := (ρ.i 5).tmod 8) (rightB_of (t := ρ.i 0) (p := ρ.i 1) (f := ρ.i 2) (r := ρ.i 3) (by assumption)) (by omega) (by omega) (by omega) (by omega)
       exfalso
       exact absurd (h.2.1) (by assumption))
    | (have t1 := tmod_range (a := ρ.i 4) (n := 8) (by omega) (by omega)
       have t2 := tmod_range (a := ρ.i 5) (n := 8) (by omega) (by omega)
       have h := rights_all (A := []) (s := 3) (a := (ρ.i 4).tmod 8) (b := (ρ.i 5).tmod 8) (rightB_of (t := ρ.i 0) (p := ρ.i 1) (f := ρ.i 2) (r := ρ.i 3) (by assumption)) (by omega) (by omega) (by omega) (by omega)
       exfalso
       exact absurd (h.2.2) (by assumption))
    | (have t1 := tmod_range (a := ρ.i 4) (n := 8) (by omega) (by omega)
       have t2 := tmod_range (a := ρ.i 5) (n := 8) (by omega) (by omega)
       have h := rights_all (A := []) (s := 3) (a := (ρ.i 4).tmod 8) (b := (ρ.i 5).tmod 8) (rightB_of (t := ρ.i 0) (p := ρ.i 1) (f := ρ.i 2) (r := ρ.i 3) (by assumption)) (by omega) (by omega) (by omega) (by omega)
       exfalso
       exact absurd (h.1.2 ⟨by assumption, by assumption⟩) (by assumption))
    | (have t1 := tmod_range (a := ρ.i 4) (n := 8) (by omega) (by omega)
       have t2 := tmod_range (a := ρ.i 5) (n := 8) (by omega) (by omega)
       have h := rights_all (A := []) (s := 3) (a := (ρ.i 4).tmod 8) (b := (ρ.i 5).tmod 8) (rightB_of (t := ρ.i 0) (p := ρ.i 1) (f := ρ.i 2) (r := ρ.i 3) (by assumption)) (by omega) (by omega) (by omega) (by omega)
       exfalso
       exact absurd ((h.1.1 (by assumption)).1) (by assumption))
    | (have t1 := tmod_range (a := ρ.i 4) (n := 8) (by omega) (by omega)
       have t2 := tmod_range (a := ρ.i 5) (n := 8) (by omega) (by omega)
       have h := rights_all (A := []) (s := 3) (a := (ρ.i 4).tmod 8) (b := (ρ.i 5).tmod 8) (rightB_of (t := ρ.i 0) (p := ρ.i 1) (f := ρ.i 2) (r := ρ.i 3) (by assumption)) (by omega) (by omega) (by omega) (by omega)
       exfalso
       exact absurd ((h.1.1 (by assumption)).2) (by assumption))
end Go.SF.C14
