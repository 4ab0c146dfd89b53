/- The law of any script, shown. -/
import Derived.Test.YtnjnmeidjcdppaaQ5
import Derived.KernelRfl
namespace Go.SF.C18
open Go Go.SF Go.Proofs
set_option linter.unusedVariables false
set_option linter.unusedSimpArgs false

set_option maxRecDepth 100000 in
theorem pyW_obs : partObs Φ Try.prog s1 1000 pyW.f (loopAt Try.prog pyW.f pyW.id) pyW.n pyW.T pyW.outs = some
  [{
      pc :=
        [SB.le
            (SI.len
              (SL.app 152 (SA.l (SL.v 2) (SA.i (SI.v 11) (SA.i (SI.v 12) (SA.i (SI.v 13) (SA.i (SI.v 9) SA.nil)))))))
            (SI.add (SI.len (SL.v 2)) (SI.c (Int.ofNat 1))),
          SB.le
            (SI.len
              (SL.app 110 (SA.l (SL.v 0) (SA.i (SI.v 11) (SA.i (SI.v 12) (SA.i (SI.v 13) (SA.i (SI.v 9) SA.nil)))))))
            (SI.add (SI.len (SL.v 0)) (SI.c (Int.ofNat 1))),
          SB.eq (SI.v 10) (SI.c (Int.ofNat 0)), SB.le (SI.c (Int.ofNat 1)) (SI.v 8),
          SB.le (SI.v 8) (SI.c (Int.ofNat 10000)), SB.le (SI.c (Int.ofNat 0)) (SI.v 9),
          SB.le (SI.v 9) (SI.c (Int.ofNat 549755813888)), SB.le (SI.len (SL.v 0)) (SI.v 0),
          SB.le (SI.len (SL.v 2)) (SI.v 0), SB.le (SI.len (SL.v 3)) (SI.v 0), SB.le (SI.c (Int.ofNat 0)) (SI.v 0),
          SB.lt (SI.v 0) (SI.c (Int.ofNat 80)), SB.c true, SB.app 150 (SA.l (SL.v 0) (SA.l (SL.v 2) SA.nil)),
          SB.app 151 (SA.l (SL.v 1) (SA.l (SL.v 3) SA.nil)), SB.app 152 (SA.l (SL.v 0) (SA.i (SI.v 9) SA.nil))],
      eqs :=
        [Eqn.T
            (SB.app 150
              (SA.l
                (SL.app 110 (SA.l (SL.v 0) (SA.i (SI.v 11) (SA.i (SI.v 12) (SA.i (SI.v 13) (SA.i (SI.v 9) SA.nil))))))
                (SA.l
                  (SL.app 152 (SA.l (SL.v 2) (SA.i (SI.v 11) (SA.i (SI.v 12) (SA.i (SI.v 13) (SA.i (SI.v 9) SA.nil))))))
                  SA.nil))),
          Eqn.T
            (SB.app 152
              (SA.l
                (SL.app 110 (SA.l (SL.v 0) (SA.i (SI.v 11) (SA.i (SI.v 12) (SA.i (SI.v 13) (SA.i (SI.v 9) SA.nil))))))
                (SA.i (SI.v 9) SA.nil)))] },
    {
      pc :=
        [SB.lt (SI.len (SL.app 150 (SA.l (SL.v 2) (SA.i (SI.v 11) SA.nil)))) (SI.len (SL.v 2)),
          SB.lt (SI.c (Int.ofNat 0)) (SI.len (SL.app 6 (SA.l (SL.v 0) (SA.i (SI.v 11) SA.nil)))),
          SB.le (SI.len (SL.app 150 (SA.l (SL.v 2) (SA.i (SI.v 11) SA.nil)))) (SI.len (SL.v 2)),
          SB.eq (SI.v 10) (SI.c (Int.ofNat 1)), SB.not (SB.eq (SI.v 10) (SI.c (Int.ofNat 0))),
          SB.le (SI.c (Int.ofNat 1)) (SI.v 8), SB.le (SI.v 8) (SI.c (Int.ofNat 10000)),
          SB.le (SI.c (Int.ofNat 0)) (SI.v 9), SB.le (SI.v 9) (SI.c (Int.ofNat 549755813888)),
          SB.le (SI.len (SL.v 0)) (SI.v 0), SB.le (SI.len (SL.v 2)) (SI.v 0), SB.le (SI.len (SL.v 3)) (SI.v 0),
          SB.le (SI.c (Int.ofNat 0)) (SI.v 0), SB.lt (SI.v 0) (SI.c (Int.ofNat 80)), SB.c true,
          SB.app 150 (SA.l (SL.v 0) (SA.l (SL.v 2) SA.nil)), SB.app 151 (SA.l (SL.v 1) (SA.l (SL.v 3) SA.nil)),
          SB.app 152 (SA.l (SL.v 0) (SA.i (SI.v 9) SA.nil))],
      eqs :=
        [Eqn.T
            (SB.le (SI.len (SL.app 8 (SA.l (SL.v 0) (SA.i (SI.v 11) SA.nil)))) (SI.add (SI.v 0) (SI.c (Int.ofNat 1)))),
          Eqn.T
            (SB.app 150
              (SA.l (SL.app 8 (SA.l (SL.v 0) (SA.i (SI.v 11) SA.nil)))
                (SA.l (SL.app 150 (SA.l (SL.v 2) (SA.i (SI.v 11) SA.nil))) SA.nil))),
          Eqn.T (SB.app 152 (SA.l (SL.app 8 (SA.l (SL.v 0) (SA.i (SI.v 11) SA.nil))) (SA.i (SI.v 9) SA.nil)))] },
    {
      pc :=
        [SB.not (SB.lt (SI.len (SL.app 150 (SA.l (SL.v 2) (SA.i (SI.v 11) SA.nil)))) (SI.len (SL.v 2))),
          SB.lt (SI.c (Int.ofNat 0)) (SI.len (SL.app 6 (SA.l (SL.v 0) (SA.i (SI.v 11) SA.nil)))),
          SB.le (SI.len (SL.app 150 (SA.l (SL.v 2) (SA.i (SI.v 11) SA.nil)))) (SI.len (SL.v 2)),
          SB.eq (SI.v 10) (SI.c (Int.ofNat 1)), SB.not (SB.eq (SI.v 10) (SI.c (Int.ofNat 0))),
          SB.le (SI.c (Int.ofNat 1)) (SI.v 8), SB.le (SI.v 8) (SI.c (Int.ofNat 10000)),
          SB.le (SI.c (Int.ofNat 0)) (SI.v 9), SB.le (SI.v 9) (SI.c (Int.ofNat 549755813888)),
          SB.le (SI.len (SL.v 0)) (SI.v 0), SB.le (SI.len (SL.v 2)) (SI.v 0), SB.le (SI.len (SL.v 3)) (SI.v 0),
          SB.le (SI.c (Int.ofNat 0)) (SI.v 0), SB.lt (SI.v 0) (SI.c (Int.ofNat 80)), SB.c true,
          SB.app 150 (SA.l (SL.v 0) (SA.l (SL.v 2) SA.nil)), SB.app 151 (SA.l (SL.v 1) (SA.l (SL.v 3) SA.nil)),
          SB.app 152 (SA.l (SL.v 0) (SA.i (SI.v 9) SA.nil))],
      eqs := [Eqn.T (SB.app 199 SA.nil)] },
    {
      pc :=
        [SB.lt (SI.len (SL.app 150 (SA.l (SL.v 2) (SA.i (SI.v 11) SA.nil)))) (SI.len (SL.v 2)),
          SB.not (SB.lt (SI.c (Int.ofNat 0)) (SI.len (SL.app 6 (SA.l (SL.v 0) (SA.i (SI.v 11) SA.nil))))),
          SB.le (SI.len (SL.app 150 (SA.l (SL.v 2) (SA.i (SI.v 11) SA.nil)))) (SI.len (SL.v 2)),
          SB.eq (SI.v 10) (SI.c (Int.ofNat 1)), SB.not (SB.eq (SI.v 10) (SI.c (Int.ofNat 0))),
          SB.le (SI.c (Int.ofNat 1)) (SI.v 8), SB.le (SI.v 8) (SI.c (Int.ofNat 10000)),
          SB.le (SI.c (Int.ofNat 0)) (SI.v 9), SB.le (SI.v 9) (SI.c (Int.ofNat 549755813888)),
          SB.le (SI.len (SL.v 0)) (SI.v 0), SB.le (SI.len (SL.v 2)) (SI.v 0), SB.le (SI.len (SL.v 3)) (SI.v 0),
          SB.le (SI.c (Int.ofNat 0)) (SI.v 0), SB.lt (SI.v 0) (SI.c (Int.ofNat 80)), SB.c true,
          SB.app 150 (SA.l (SL.v 0) (SA.l (SL.v 2) SA.nil)), SB.app 151 (SA.l (SL.v 1) (SA.l (SL.v 3) SA.nil)),
          SB.app 152 (SA.l (SL.v 0) (SA.i (SI.v 9) SA.nil))],
      eqs := [Eqn.T (SB.app 199 SA.nil)] },
    {
      pc :=
        [SB.not (SB.lt (SI.len (SL.app 150 (SA.l (SL.v 2) (SA.i (SI.v 11) SA.nil)))) (SI.len (SL.v 2))),
          SB.not (SB.lt (SI.c (Int.ofNat 0)) (SI.len (SL.app 6 (SA.l (SL.v 0) (SA.i (SI.v 11) SA.nil))))),
          SB.le (SI.len (SL.app 150 (SA.l (SL.v 2) (SA.i (SI.v 11) SA.nil)))) (SI.len (SL.v 2)),
          SB.eq (SI.v 10) (SI.c (Int.ofNat 1)), SB.not (SB.eq (SI.v 10) (SI.c (Int.ofNat 0))),
          SB.le (SI.c (Int.ofNat 1)) (SI.v 8), SB.le (SI.v 8) (SI.c (Int.ofNat 10000)),
          SB.le (SI.c (Int.ofNat 0)) (SI.v 9), SB.le (SI.v 9) (SI.c (Int.ofNat 549755813888)),
          SB.le (SI.len (SL.v 0)) (SI.v 0), SB.le (SI.len (SL.v 2)) (SI.v 0), SB.le (SI.len (SL.v 3)) (SI.v 0),
          SB.le (SI.c (Int.ofNat 0)) (SI.v 0), SB.lt (SI.v 0) (SI.c (Int.ofNat 80)), SB.c true,
          SB.app 150 (SA.l (SL.v 0) (SA.l (SL.v 2) SA.nil)), SB.app 151 (SA.l (SL.v 1) (SA.l (SL.v 3) SA.nil)),
          SB.app 152 (SA.l (SL.v 0) (SA.i (SI.v 9) SA.nil))],
      eqs :=
        [Eqn.T
            (SB.le (SI.len (SL.app 8 (SA.l (SL.v 0) (SA.i (SI.v 11) SA.nil)))) (SI.add (SI.v 0) (SI.c (Int.ofNat 1)))),
          Eqn.T
            (SB.app 150
              (SA.l (SL.app 8 (SA.l (SL.v 0) (SA.i (SI.v 11) SA.nil)))
                (SA.l (SL.app 150 (SA.l (SL.v 2) (SA.i (SI.v 11) SA.nil))) SA.nil))),
          Eqn.T (SB.app 152 (SA.l (SL.app 8 (SA.l (SL.v 0) (SA.i (SI.v 11) SA.nil))) (SA.i (SI.v 9) SA.nil)))] },
    {
      pc :=
        [SB.eqL (SL.lit []) (SL.app 154 (SA.l (SL.v 2) (SA.i (SI.v 12) SA.nil))),
          SB.lt (SI.len (SL.app 153 (SA.l (SL.v 2) (SA.i (SI.v 12) SA.nil)))) (SI.c (Int.ofNat 80000)),
          SB.lt (SI.len (SL.app 154 (SA.l (SL.v 2) (SA.i (SI.v 12) SA.nil)))) (SI.c (Int.ofNat 80000)),
          SB.le (SI.v 12) (SI.c (Int.ofNat 549755813888)), SB.le (SI.v 9) (SI.v 12),
          SB.app 152 (SA.l (SL.v 2) (SA.i (SI.c (Int.ofNat 0)) SA.nil)),
          SB.or (SB.lt (SI.v 12) (SI.v 9)) (SB.lt (SI.c (Int.ofNat 549755813888)) (SI.v 12)),
          SB.eq (SI.v 10) (SI.c (Int.ofNat 2)), SB.not (SB.eq (SI.v 10) (SI.c (Int.ofNat 1))),
          SB.not (SB.eq (SI.v 10) (SI.c (Int.ofNat 0))), SB.le (SI.c (Int.ofNat 1)) (SI.v 8),
          SB.le (SI.v 8) (SI.c (Int.ofNat 10000)), SB.le (SI.c (Int.ofNat 0)) (SI.v 9),
          SB.le (SI.v 9) (SI.c (Int.ofNat 549755813888)), SB.le (SI.len (SL.v 0)) (SI.v 0),
          SB.le (SI.len (SL.v 2)) (SI.v 0), SB.le (SI.len (SL.v 3)) (SI.v 0), SB.le (SI.c (Int.ofNat 0)) (SI.v 0),
          SB.lt (SI.v 0) (SI.c (Int.ofNat 80)), SB.c true, SB.app 150 (SA.l (SL.v 0) (SA.l (SL.v 2) SA.nil)),
          SB.app 151 (SA.l (SL.v 1) (SA.l (SL.v 3) SA.nil)), SB.app 152 (SA.l (SL.v 0) (SA.i (SI.v 9) SA.nil))],
      eqs := [Eqn.T (SB.app 199 SA.nil)] },
    {
      pc :=
        [SB.not (SB.eqL (SL.lit []) (SL.app 154 (SA.l (SL.v 2) (SA.i (SI.v 12) SA.nil)))),
          SB.lt (SI.len (SL.app 153 (SA.l (SL.v 2) (SA.i (SI.v 12) SA.nil)))) (SI.c (Int.ofNat 80000)),
          SB.lt (SI.len (SL.app 154 (SA.l (SL.v 2) (SA.i (SI.v 12) SA.nil)))) (SI.c (Int.ofNat 80000)),
          SB.le (SI.v 12) (SI.c (Int.ofNat 549755813888)), SB.le (SI.v 9) (SI.v 12),
          SB.app 152 (SA.l (SL.v 2) (SA.i (SI.c (Int.ofNat 0)) SA.nil)),
          SB.or (SB.lt (SI.v 12) (SI.v 9)) (SB.lt (SI.c (Int.ofNat 549755813888)) (SI.v 12)),
          SB.eq (SI.v 10) (SI.c (Int.ofNat 2)), SB.not (SB.eq (SI.v 10) (SI.c (Int.ofNat 1))),
          SB.not (SB.eq (SI.v 10) (SI.c (Int.ofNat 0))), SB.le (SI.c (Int.ofNat 1)) (SI.v 8),
          SB.le (SI.v 8) (SI.c (Int.ofNat 10000)), SB.le (SI.c (Int.ofNat 0)) (SI.v 9),
          SB.le (SI.v 9) (SI.c (Int.ofNat 549755813888)), SB.le (SI.len (SL.v 0)) (SI.v 0),
          SB.le (SI.len (SL.v 2)) (SI.v 0), SB.le (SI.len (SL.v 3)) (SI.v 0), SB.le (SI.c (Int.ofNat 0)) (SI.v 0),
          SB.lt (SI.v 0) (SI.c (Int.ofNat 80)), SB.c true, SB.app 150 (SA.l (SL.v 0) (SA.l (SL.v 2) SA.nil)),
          SB.app 151 (SA.l (SL.v 1) (SA.l (SL.v 3) SA.nil)), SB.app 152 (SA.l (SL.v 0) (SA.i (SI.v 9) SA.nil))],
      eqs := [Eqn.T (SB.app 199 SA.nil)] },
    {
      pc :=
        [SB.not (SB.app 152 (SA.l (SL.v 2) (SA.i (SI.c (Int.ofNat 0)) SA.nil))),
          SB.or (SB.lt (SI.v 12) (SI.v 9)) (SB.lt (SI.c (Int.ofNat 549755813888)) (SI.v 12)),
          SB.eq (SI.v 10) (SI.c (Int.ofNat 2)), SB.not (SB.eq (SI.v 10) (SI.c (Int.ofNat 1))),
          SB.not (SB.eq (SI.v 10) (SI.c (Int.ofNat 0))), SB.le (SI.c (Int.ofNat 1)) (SI.v 8),
          SB.le (SI.v 8) (SI.c (Int.ofNat 10000)), SB.le (SI.c (Int.ofNat 0)) (SI.v 9),
          SB.le (SI.v 9) (SI.c (Int.ofNat 549755813888)), SB.le (SI.len (SL.v 0)) (SI.v 0),
          SB.le (SI.len (SL.v 2)) (SI.v 0), SB.le (SI.len (SL.v 3)) (SI.v 0), SB.le (SI.c (Int.ofNat 0)) (SI.v 0),
          SB.lt (SI.v 0) (SI.c (Int.ofNat 80)), SB.c true, SB.app 150 (SA.l (SL.v 0) (SA.l (SL.v 2) SA.nil)),
          SB.app 151 (SA.l (SL.v 1) (SA.l (SL.v 3) SA.nil)), SB.app 152 (SA.l (SL.v 0) (SA.i (SI.v 9) SA.nil))],
      eqs := [Eqn.T (SB.c false)] },
    {
      pc :=
        [SB.eqL (SL.app 124 (SA.l (SL.v 0) (SA.i (SI.v 12) SA.nil)))
            (SL.app 154 (SA.l (SL.v 2) (SA.i (SI.v 12) SA.nil))),
          SB.lt (SI.len (SL.app 153 (SA.l (SL.v 2) (SA.i (SI.v 12) SA.nil)))) (SI.c (Int.ofNat 80000)),
          SB.lt (SI.len (SL.app 154 (SA.l (SL.v 2) (SA.i (SI.v 12) SA.nil)))) (SI.c (Int.ofNat 80000)),
          SB.app 152 (SA.l (SL.v 2) (SA.i (SI.c (Int.ofNat 0)) SA.nil)),
          SB.le (SI.len (SL.app 125 (SA.l (SL.v 0) (SA.i (SI.v 12) SA.nil)))) (SI.len (SL.v 0)),
          SB.lt (SI.len (SL.app 124 (SA.l (SL.v 0) (SA.i (SI.v 12) SA.nil)))) (SI.c (Int.ofNat 80000)),
          SB.le (SI.v 12) (SI.c (Int.ofNat 549755813888)), SB.le (SI.v 9) (SI.v 12),
          SB.eq (SI.v 10) (SI.c (Int.ofNat 2)), SB.not (SB.eq (SI.v 10) (SI.c (Int.ofNat 1))),
          SB.not (SB.eq (SI.v 10) (SI.c (Int.ofNat 0))), SB.le (SI.c (Int.ofNat 1)) (SI.v 8),
          SB.le (SI.v 8) (SI.c (Int.ofNat 10000)), SB.le (SI.c (Int.ofNat 0)) (SI.v 9),
          SB.le (SI.v 9) (SI.c (Int.ofNat 549755813888)), SB.le (SI.len (SL.v 0)) (SI.v 0),
          SB.le (SI.len (SL.v 2)) (SI.v 0), SB.le (SI.len (SL.v 3)) (SI.v 0), SB.le (SI.c (Int.ofNat 0)) (SI.v 0),
          SB.lt (SI.v 0) (SI.c (Int.ofNat 80)), SB.c true, SB.app 150 (SA.l (SL.v 0) (SA.l (SL.v 2) SA.nil)),
          SB.app 151 (SA.l (SL.v 1) (SA.l (SL.v 3) SA.nil)), SB.app 152 (SA.l (SL.v 0) (SA.i (SI.v 9) SA.nil))],
      eqs :=
        [Eqn.T
            (SB.le (SI.len (SL.app 153 (SA.l (SL.v 2) (SA.i (SI.v 12) SA.nil))))
              (SI.add (SI.v 0) (SI.c (Int.ofNat 1)))),
          Eqn.T
            (SB.app 150
              (SA.l (SL.app 125 (SA.l (SL.v 0) (SA.i (SI.v 12) SA.nil)))
                (SA.l (SL.app 153 (SA.l (SL.v 2) (SA.i (SI.v 12) SA.nil))) SA.nil))),
          Eqn.T (SB.app 152 (SA.l (SL.app 125 (SA.l (SL.v 0) (SA.i (SI.v 12) SA.nil))) (SA.i (SI.v 12) SA.nil)))] },
    {
      pc :=
        [SB.not
            (SB.eqL (SL.app 124 (SA.l (SL.v 0) (SA.i (SI.v 12) SA.nil)))
              (SL.app 154 (SA.l (SL.v 2) (SA.i (SI.v 12) SA.nil)))),
          SB.lt (SI.len (SL.app 153 (SA.l (SL.v 2) (SA.i (SI.v 12) SA.nil)))) (SI.c (Int.ofNat 80000)),
          SB.lt (SI.len (SL.app 154 (SA.l (SL.v 2) (SA.i (SI.v 12) SA.nil)))) (SI.c (Int.ofNat 80000)),
          SB.app 152 (SA.l (SL.v 2) (SA.i (SI.c (Int.ofNat 0)) SA.nil)),
          SB.le (SI.len (SL.app 125 (SA.l (SL.v 0) (SA.i (SI.v 12) SA.nil)))) (SI.len (SL.v 0)),
          SB.lt (SI.len (SL.app 124 (SA.l (SL.v 0) (SA.i (SI.v 12) SA.nil)))) (SI.c (Int.ofNat 80000)),
          SB.le (SI.v 12) (SI.c (Int.ofNat 549755813888)), SB.le (SI.v 9) (SI.v 12),
          SB.eq (SI.v 10) (SI.c (Int.ofNat 2)), SB.not (SB.eq (SI.v 10) (SI.c (Int.ofNat 1))),
          SB.not (SB.eq (SI.v 10) (SI.c (Int.ofNat 0))), SB.le (SI.c (Int.ofNat 1)) (SI.v 8),
          SB.le (SI.v 8) (SI.c (Int.ofNat 10000)), SB.le (SI.c (Int.ofNat 0)) (SI.v 9),
          SB.le (SI.v 9) (SI.c (Int.ofNat 549755813888)), SB.le (SI.len (SL.v 0)) (SI.v 0),
          SB.le (SI.len (SL.v 2)) (SI.v 0), SB.le (SI.len (SL.v 3)) (SI.v 0), SB.le (SI.c (Int.ofNat 0)) (SI.v 0),
          SB.lt (SI.v 0) (SI.c (Int.ofNat 80)), SB.c true, SB.app 150 (SA.l (SL.v 0) (SA.l (SL.v 2) SA.nil)),
          SB.app 151 (SA.l (SL.v 1) (SA.l (SL.v 3) SA.nil)), SB.app 152 (SA.l (SL.v 0) (SA.i (SI.v 9) SA.nil))],
      eqs := [Eqn.T (SB.app 199 SA.nil)] },
    {
      pc :=
        [SB.not (SB.app 152 (SA.l (SL.v 2) (SA.i (SI.c (Int.ofNat 0)) SA.nil))),
          SB.le (SI.len (SL.app 125 (SA.l (SL.v 0) (SA.i (SI.v 12) SA.nil)))) (SI.len (SL.v 0)),
          SB.lt (SI.len (SL.app 124 (SA.l (SL.v 0) (SA.i (SI.v 12) SA.nil)))) (SI.c (Int.ofNat 80000)),
          SB.le (SI.v 12) (SI.c (Int.ofNat 549755813888)), SB.le (SI.v 9) (SI.v 12),
          SB.eq (SI.v 10) (SI.c (Int.ofNat 2)), SB.not (SB.eq (SI.v 10) (SI.c (Int.ofNat 1))),
          SB.not (SB.eq (SI.v 10) (SI.c (Int.ofNat 0))), SB.le (SI.c (Int.ofNat 1)) (SI.v 8),
          SB.le (SI.v 8) (SI.c (Int.ofNat 10000)), SB.le (SI.c (Int.ofNat 0)) (SI.v 9),
          SB.le (SI.v 9) (SI.c (Int.ofNat 549755813888)), SB.le (SI.len (SL.v 0)) (SI.v 0),
          SB.le (SI.len (SL.v 2)) (SI.v 0), SB.le (SI.len (SL.v 3)) (SI.v 0), SB.le (SI.c (Int.ofNat 0)) (SI.v 0),
          SB.lt (SI.v 0) (SI.c (Int.ofNat 80)), SB.c true, SB.app 150 (SA.l (SL.v 0) (SA.l (SL.v 2) SA.nil)),
          SB.app 151 (SA.l (SL.v 1) (SA.l (SL.v 3) SA.nil)), SB.app 152 (SA.l (SL.v 0) (SA.i (SI.v 9) SA.nil))],
      eqs := [Eqn.T (SB.c false)] },
    {
      pc :=
        [SB.lt (SI.app 113 (SA.l (SL.v 1) (SA.i (SI.v 11) (SA.i (SI.v 13) SA.nil)))) (SI.c (Int.ofNat 1)),
          SB.eq (SI.app 113 (SA.l (SL.v 1) (SA.i (SI.v 11) (SA.i (SI.v 13) SA.nil))))
            (SI.app 151 (SA.l (SL.v 3) (SA.i (SI.v 11) (SA.i (SI.v 13) SA.nil)))),
          SB.le
            (SI.len
              (SL.app 158
                (SA.l (SL.v 3)
                  (SA.i (SI.v 11)
                    (SA.i (SI.app 151 (SA.l (SL.v 3) (SA.i (SI.v 11) (SA.i (SI.v 13) SA.nil))))
                      (SA.i (SI.c (Int.ofNat 0)) SA.nil))))))
            (SI.add (SI.len (SL.v 3)) (SI.c (Int.ofNat 1))),
          SB.eq (SI.v 10) (SI.c (Int.ofNat 3)), SB.not (SB.eq (SI.v 10) (SI.c (Int.ofNat 2))),
          SB.not (SB.eq (SI.v 10) (SI.c (Int.ofNat 1))), SB.not (SB.eq (SI.v 10) (SI.c (Int.ofNat 0))),
          SB.le (SI.c (Int.ofNat 1)) (SI.v 8), SB.le (SI.v 8) (SI.c (Int.ofNat 10000)),
          SB.le (SI.c (Int.ofNat 0)) (SI.v 9), SB.le (SI.v 9) (SI.c (Int.ofNat 549755813888)),
          SB.le (SI.len (SL.v 0)) (SI.v 0), SB.le (SI.len (SL.v 2)) (SI.v 0), SB.le (SI.len (SL.v 3)) (SI.v 0),
          SB.le (SI.c (Int.ofNat 0)) (SI.v 0), SB.lt (SI.v 0) (SI.c (Int.ofNat 80)), SB.c true,
          SB.app 150 (SA.l (SL.v 0) (SA.l (SL.v 2) SA.nil)), SB.app 151 (SA.l (SL.v 1) (SA.l (SL.v 3) SA.nil)),
          SB.app 152 (SA.l (SL.v 0) (SA.i (SI.v 9) SA.nil))],
      eqs :=
        [Eqn.T
            (SB.app 151
              (SA.l
                (SL.app 7
                  (SA.l (SL.v 1)
                    (SA.i (SI.v 11)
                      (SA.i (SI.app 113 (SA.l (SL.v 1) (SA.i (SI.v 11) (SA.i (SI.v 13) SA.nil)))) SA.nil))))
                (SA.l
                  (SL.app 158
                    (SA.l (SL.v 3)
                      (SA.i (SI.v 11)
                        (SA.i (SI.app 151 (SA.l (SL.v 3) (SA.i (SI.v 11) (SA.i (SI.v 13) SA.nil))))
                          (SA.i (SI.c (Int.ofNat 0)) SA.nil)))))
                  SA.nil)))] },
    {
      pc :=
        [SB.not (SB.lt (SI.app 113 (SA.l (SL.v 1) (SA.i (SI.v 11) (SA.i (SI.v 13) SA.nil)))) (SI.c (Int.ofNat 1))),
          SB.eq (SI.app 113 (SA.l (SL.v 1) (SA.i (SI.v 11) (SA.i (SI.v 13) SA.nil))))
            (SI.app 151 (SA.l (SL.v 3) (SA.i (SI.v 11) (SA.i (SI.v 13) SA.nil)))),
          SB.le
            (SI.len
              (SL.app 158
                (SA.l (SL.v 3)
                  (SA.i (SI.v 11)
                    (SA.i (SI.app 151 (SA.l (SL.v 3) (SA.i (SI.v 11) (SA.i (SI.v 13) SA.nil))))
                      (SA.i (SI.c (Int.ofNat 0)) SA.nil))))))
            (SI.add (SI.len (SL.v 3)) (SI.c (Int.ofNat 1))),
          SB.eq (SI.v 10) (SI.c (Int.ofNat 3)), SB.not (SB.eq (SI.v 10) (SI.c (Int.ofNat 2))),
          SB.not (SB.eq (SI.v 10) (SI.c (Int.ofNat 1))), SB.not (SB.eq (SI.v 10) (SI.c (Int.ofNat 0))),
          SB.le (SI.c (Int.ofNat 1)) (SI.v 8), SB.le (SI.v 8) (SI.c (Int.ofNat 10000)),
          SB.le (SI.c (Int.ofNat 0)) (SI.v 9), SB.le (SI.v 9) (SI.c (Int.ofNat 549755813888)),
          SB.le (SI.len (SL.v 0)) (SI.v 0), SB.le (SI.len (SL.v 2)) (SI.v 0), SB.le (SI.len (SL.v 3)) (SI.v 0),
          SB.le (SI.c (Int.ofNat 0)) (SI.v 0), SB.lt (SI.v 0) (SI.c (Int.ofNat 80)), SB.c true,
          SB.app 150 (SA.l (SL.v 0) (SA.l (SL.v 2) SA.nil)), SB.app 151 (SA.l (SL.v 1) (SA.l (SL.v 3) SA.nil)),
          SB.app 152 (SA.l (SL.v 0) (SA.i (SI.v 9) SA.nil))],
      eqs :=
        [Eqn.T
            (SB.app 151
              (SA.l
                (SL.app 7
                  (SA.l (SL.v 1)
                    (SA.i (SI.v 11)
                      (SA.i (SI.app 113 (SA.l (SL.v 1) (SA.i (SI.v 11) (SA.i (SI.v 13) SA.nil)))) SA.nil))))
                (SA.l
                  (SL.app 158
                    (SA.l (SL.v 3)
                      (SA.i (SI.v 11)
                        (SA.i (SI.app 151 (SA.l (SL.v 3) (SA.i (SI.v 11) (SA.i (SI.v 13) SA.nil))))
                          (SA.i (SI.c (Int.ofNat 0)) SA.nil)))))
                  SA.nil)))] },
    {
      pc :=
        [SB.not
            (SB.eq (SI.app 113 (SA.l (SL.v 1) (SA.i (SI.v 11) (SA.i (SI.v 13) SA.nil))))
              (SI.app 151 (SA.l (SL.v 3) (SA.i (SI.v 11) (SA.i (SI.v 13) SA.nil))))),
          SB.le
            (SI.len
              (SL.app 158
                (SA.l (SL.v 3)
                  (SA.i (SI.v 11)
                    (SA.i (SI.app 151 (SA.l (SL.v 3) (SA.i (SI.v 11) (SA.i (SI.v 13) SA.nil))))
                      (SA.i (SI.c (Int.ofNat 0)) SA.nil))))))
            (SI.add (SI.len (SL.v 3)) (SI.c (Int.ofNat 1))),
          SB.eq (SI.v 10) (SI.c (Int.ofNat 3)), SB.not (SB.eq (SI.v 10) (SI.c (Int.ofNat 2))),
          SB.not (SB.eq (SI.v 10) (SI.c (Int.ofNat 1))), SB.not (SB.eq (SI.v 10) (SI.c (Int.ofNat 0))),
          SB.le (SI.c (Int.ofNat 1)) (SI.v 8), SB.le (SI.v 8) (SI.c (Int.ofNat 10000)),
          SB.le (SI.c (Int.ofNat 0)) (SI.v 9), SB.le (SI.v 9) (SI.c (Int.ofNat 549755813888)),
          SB.le (SI.len (SL.v 0)) (SI.v 0), SB.le (SI.len (SL.v 2)) (SI.v 0), SB.le (SI.len (SL.v 3)) (SI.v 0),
          SB.le (SI.c (Int.ofNat 0)) (SI.v 0), SB.lt (SI.v 0) (SI.c (Int.ofNat 80)), SB.c true,
          SB.app 150 (SA.l (SL.v 0) (SA.l (SL.v 2) SA.nil)), SB.app 151 (SA.l (SL.v 1) (SA.l (SL.v 3) SA.nil)),
          SB.app 152 (SA.l (SL.v 0) (SA.i (SI.v 9) SA.nil))],
      eqs := [Eqn.T (SB.app 199 SA.nil)] },
    {
      pc :=
        [SB.eq (SI.app 114 (SA.l (SL.v 1) (SA.i (SI.v 11) (SA.i (SI.v 8) (SA.i (SI.v 13) SA.nil)))))
            (SI.app 152 (SA.l (SL.v 3) (SA.i (SI.v 11) (SA.i (SI.v 8) (SA.i (SI.v 13) SA.nil))))),
          SB.le
            (SI.len
              (SL.app 158
                (SA.l (SL.v 3)
                  (SA.i (SI.v 11)
                    (SA.i (SI.app 152 (SA.l (SL.v 3) (SA.i (SI.v 11) (SA.i (SI.v 8) (SA.i (SI.v 13) SA.nil)))))
                      (SA.i (SI.c (Int.ofNat 0)) SA.nil))))))
            (SI.add (SI.len (SL.v 3)) (SI.c (Int.ofNat 1))),
          SB.not (SB.eq (SI.v 10) (SI.c (Int.ofNat 3))), SB.not (SB.eq (SI.v 10) (SI.c (Int.ofNat 2))),
          SB.not (SB.eq (SI.v 10) (SI.c (Int.ofNat 1))), SB.not (SB.eq (SI.v 10) (SI.c (Int.ofNat 0))),
          SB.le (SI.c (Int.ofNat 1)) (SI.v 8), SB.le (SI.v 8) (SI.c (Int.ofNat 10000)),
          SB.le (SI.c (Int.ofNat 0)) (SI.v 9), SB.le (SI.v 9) (SI.c (Int.ofNat 549755813888)),
          SB.le (SI.len (SL.v 0)) (SI.v 0), SB.le (SI.len (SL.v 2)) (SI.v 0), SB.le (SI.len (SL.v 3)) (SI.v 0),
          SB.le (SI.c (Int.ofNat 0)) (SI.v 0), SB.lt (SI.v 0) (SI.c (Int.ofNat 80)), SB.c true,
          SB.app 150 (SA.l (SL.v 0) (SA.l (SL.v 2) SA.nil)), SB.app 151 (SA.l (SL.v 1) (SA.l (SL.v 3) SA.nil)),
          SB.app 152 (SA.l (SL.v 0) (SA.i (SI.v 9) SA.nil))],
      eqs :=
        [Eqn.T
            (SB.app 151
              (SA.l
                (SL.app 7
                  (SA.l (SL.v 1)
                    (SA.i (SI.v 11)
                      (SA.i (SI.app 114 (SA.l (SL.v 1) (SA.i (SI.v 11) (SA.i (SI.v 8) (SA.i (SI.v 13) SA.nil)))))
                        SA.nil))))
                (SA.l
                  (SL.app 158
                    (SA.l (SL.v 3)
                      (SA.i (SI.v 11)
                        (SA.i (SI.app 152 (SA.l (SL.v 3) (SA.i (SI.v 11) (SA.i (SI.v 8) (SA.i (SI.v 13) SA.nil)))))
                          (SA.i (SI.c (Int.ofNat 0)) SA.nil)))))
                  SA.nil)))] },
    {
      pc :=
        [SB.not
            (SB.eq (SI.app 114 (SA.l (SL.v 1) (SA.i (SI.v 11) (SA.i (SI.v 8) (SA.i (SI.v 13) SA.nil)))))
              (SI.app 152 (SA.l (SL.v 3) (SA.i (SI.v 11) (SA.i (SI.v 8) (SA.i (SI.v 13) SA.nil)))))),
          SB.le
            (SI.len
              (SL.app 158
                (SA.l (SL.v 3)
                  (SA.i (SI.v 11)
                    (SA.i (SI.app 152 (SA.l (SL.v 3) (SA.i (SI.v 11) (SA.i (SI.v 8) (SA.i (SI.v 13) SA.nil)))))
                      (SA.i (SI.c (Int.ofNat 0)) SA.nil))))))
            (SI.add (SI.len (SL.v 3)) (SI.c (Int.ofNat 1))),
          SB.not (SB.eq (SI.v 10) (SI.c (Int.ofNat 3))), SB.not (SB.eq (SI.v 10) (SI.c (Int.ofNat 2))),
          SB.not (SB.eq (SI.v 10) (SI.c (Int.ofNat 1))), SB.not (SB.eq (SI.v 10) (SI.c (Int.ofNat 0))),
          SB.le (SI.c (Int.ofNat 1)) (SI.v 8), SB.le (SI.v 8) (SI.c (Int.ofNat 10000)),
          SB.le (SI.c (Int.ofNat 0)) (SI.v 9), SB.le (SI.v 9) (SI.c (Int.ofNat 549755813888)),
          SB.le (SI.len (SL.v 0)) (SI.v 0), SB.le (SI.len (SL.v 2)) (SI.v 0), SB.le (SI.len (SL.v 3)) (SI.v 0),
          SB.le (SI.c (Int.ofNat 0)) (SI.v 0), SB.lt (SI.v 0) (SI.c (Int.ofNat 80)), SB.c true,
          SB.app 150 (SA.l (SL.v 0) (SA.l (SL.v 2) SA.nil)), SB.app 151 (SA.l (SL.v 1) (SA.l (SL.v 3) SA.nil)),
          SB.app 152 (SA.l (SL.v 0) (SA.i (SI.v 9) SA.nil))],
      eqs := [Eqn.T (SB.app 199 SA.nil)] }] := by kernel_rfl
theorem pyW_ok : pyW.ok Φ Try.prog := by
  refine ⟨by kernel_rfl, part_rule (fun ρ => s1_ok ρ) (loopAt_sub (by kernel_rfl)) pyW_obs ?_⟩
  simp only [and_imp, List.forall_mem_cons, List.not_mem_nil, false_implies, implies_true, and_true, Ob.ok, holds, Eqn.ok, evB_eq, evB_lt, evB_le, evB_not, evB_and, evB_or, evB_eqL, evB_app, evB_v, evB_c, ev_sel, ev_len, ev_v, ev_c, ev_add, ev_sub, ev_mul, ev_quo, ev_rem, ev_bits, ev_wrap, evL_v, evL_lit, evL_app, ev_app, evA_l, evA_i, evA_nil, std_min, std_max, std_cat, std_take, std_drop, std_row, std_set, std_rep, std_find, std_put, std_del, std_flag, std_unflag, std_clr, std_left, std_copy, ints_cons, ints_nil, ofNat_lit, negSucc_lit, decide_eq_true_eq, Bool.and_eq_true, Bool.or_eq_true, Bool.not_eq_true', Bool.and_eq_false_iff, Bool.or_eq_false_iff, decide_eq_false_iff_not, aI110, aI111, aI112, aI113, aI114, aI115, aI120, aI121, aI122, aL110, aL116, aL120, aL122, aL123, aL124, aL125, aB130, aB132, aB140, aB141, aB142, aL126, aL127, aL128, aB199, aI150, aI151, aI152, aL150, aL151, aL152, aL153, aL154, aL155, aL156, aL157, aL158, aB150, aB151, aB152, aB153]
  repeat' apply And.intro
  all_goals intro ρ hR
  all_goals intros
  all_goals first
    | (have e : chI (ρ.l 1) (ρ.i 11) (ρ.i 13) = max (-1073741824) (W (crG (ρ.l 3) (ρ.i 11) 0 - max 0 (min (ρ.i 13) 1073741824))) := by with_reducible assumption
       have hi : isB (ρ.l 0) (ρ.l 2) = true := by with_reducible assumption
       have hc : crB (ρ.l 1) (ρ.l 3) = true := by with_reducible assumption
       have ht : timB (ρ.l 0) (ρ.i 9) = true := by with_reducible assumption
       rw [← e]
       with_reducible exact cr_set hc)
    | (have e : rfI (ρ.l 1) (ρ.i 11) (ρ.i 8) (ρ.i 13) = min (moreI (ρ.i 8) (ρ.i 13)) (W (crG (ρ.l 3) (ρ.i 11) 0 + moreI (ρ.i 8) (ρ.i 13))) := by with_reducible assumption
       have hi : isB (ρ.l 0) (ρ.l 2) = true := by with_reducible assumption
       have hc : crB (ρ.l 1) (ρ.l 3) = true := by with_reducible assumption
       have ht : timB (ρ.l 0) (ρ.i 9) = true := by with_reducible assumption
       rw [← e]
       with_reducible exact cr_set hc)
    | (have h : ¬ chI (ρ.l 1) (ρ.i 11) (ρ.i 13) = max (-1073741824) (W (crG (ρ.l 3) (ρ.i 11) 0 - max 0 (min (ρ.i 13) 1073741824))) := by with_reducible assumption
       have hi : isB (ρ.l 0) (ρ.l 2) = true := by with_reducible assumption
       have hc : crB (ρ.l 1) (ρ.l 3) = true := by with_reducible assumption
       have ht : timB (ρ.l 0) (ρ.i 9) = true := by with_reducible assumption
       exfalso
       rw [cr_now hc] at h
       exact h rfl)
    | (have h : ¬ rfI (ρ.l 1) (ρ.i 11) (ρ.i 8) (ρ.i 13) = min (moreI (ρ.i 8) (ρ.i 13)) (W (crG (ρ.l 3) (ρ.i 11) 0 + moreI (ρ.i 8) (ρ.i 13))) := by with_reducible assumption
       have hi : isB (ρ.l 0) (ρ.l 2) = true := by with_reducible assumption
       have hc : crB (ρ.l 1) (ρ.l 3) = true := by with_reducible assumption
       have ht : timB (ρ.l 0) (ρ.i 9) = true := by with_reducible assumption
       exfalso
       rw [cr_now hc] at h
       exact h rfl)
    | (exfalso
       omega)
    | (have hi : isB (ρ.l 0) (ρ.l 2) = true := by with_reducible assumption
       have hc : crB (ρ.l 1) (ρ.l 3) = true := by with_reducible assumption
       have ht : timB (ρ.l 0) (ρ.i 9) = true := by with_reducible assumption
       refine ⟨?_, ?_⟩
       · with_reducible exact is_arm hi
       · with_reducible exact tim_arm ht)
    | (have hi : isB (ρ.l 0) (ρ.l 2) = true := by with_reducible assumption
       have hc : crB (ρ.l 1) (ρ.l 3) = true := by with_reducible assumption
       have ht : timB (ρ.l 0) (ρ.i 9) = true := by with_reducible assumption
       have hn := del_len (ρ.l 0) (ρ.i 11)
       have hd := is_dis_len (id := ρ.i 11) hi
       have hl := is_len hi
       refine ⟨by omega, ?_, ?_⟩
       · with_reducible exact is_dis hi
       · with_reducible exact tim_del ht)
    | (have hi : isB (ρ.l 0) (ρ.l 2) = true := by with_reducible assumption
       have hc : crB (ρ.l 1) (ρ.l 3) = true := by with_reducible assumption
       have ht : timB (ρ.l 0) (ρ.i 9) = true := by with_reducible assumption
       have hn := del_len (ρ.l 0) (ρ.i 11)
       have hd := is_dis_len (id := ρ.i 11) hi
       have hl := is_len hi
       exfalso
       omega)
    | (have h : timB (ρ.l 2) 0 = false := by with_reducible assumption
       have hi : isB (ρ.l 0) (ρ.l 2) = true := by with_reducible assumption
       have hc : crB (ρ.l 1) (ρ.l 3) = true := by with_reducible assumption
       have ht : timB (ρ.l 0) (ρ.i 9) = true := by with_reducible assumption
       exfalso
       exact Bool.false_ne_true (h.symm.trans (is_tim hi ht (by omega))))
    | (have h : ¬ tickL (ρ.l 0) (ρ.i 12) = outL (ρ.i 12) (dueL (ρ.l 2) (ρ.i 12)) := by with_reducible assumption
       have hi : isB (ρ.l 0) (ρ.l 2) = true := by with_reducible assumption
       have hc : crB (ρ.l 1) (ρ.l 3) = true := by with_reducible assumption
       have ht : timB (ρ.l 0) (ρ.i 9) = true := by with_reducible assumption
       exfalso
       exact h (is_out hi))
    | (have hi : isB (ρ.l 0) (ρ.l 2) = true := by with_reducible assumption
       have hc : crB (ρ.l 1) (ρ.l 3) = true := by with_reducible assumption
       have ht : timB (ρ.l 0) (ρ.i 9) = true := by with_reducible assumption
       have e := is_len (is_tick (now := ρ.i 12) hi)
       refine ⟨by omega, ?_, ?_⟩
       · with_reducible exact is_tick hi
       · exact tim_tick ht (by omega) (by omega) (by omega))
theorem s2_ok (ρ : Env) : TblOK Φ ρ Try.prog s2 := addLp_ok (s1_ok ρ) pyW_ok
set_option maxRecDepth 100000 in
theorem py1_obs : loopObs Φ Try.prog s2 1000 py1.f (loopAt Try.prog py1.f py1.id) py1.n py1.T i12 py1.outs = some
  [{
      pc :=
        [SB.eq (SI.sel (SL.app 6 (SA.l (SL.v 1001) (SA.i (SI.sel (SL.v 9) (SI.v 0) 1) SA.nil))) (SI.c (Int.ofNat 0)) 1)
            (SI.app 150 (SA.l (SL.v 1003) (SA.i (SI.sel (SL.v 9) (SI.v 0) 1) (SA.i (SI.c (Int.ofNat 0)) SA.nil)))),
          SB.eq (SI.len (SL.v 1002)) (SI.c (Int.ofNat 0)), SB.eq (SI.len (SL.v 1000)) (SI.c (Int.ofNat 0)),
          SB.app 152 (SA.l (SL.v 1000) (SA.i (SI.v 1000) SA.nil)),
          SB.app 151 (SA.l (SL.v 1001) (SA.l (SL.v 1003) SA.nil)),
          SB.app 150 (SA.l (SL.v 1000) (SA.l (SL.v 1002) SA.nil)),
          SB.le (SI.len (SL.v 1003)) (SI.add (SI.v 0) (SI.c (Int.ofNat 1))),
          SB.le (SI.len (SL.v 1002)) (SI.add (SI.v 0) (SI.c (Int.ofNat 1))),
          SB.le (SI.len (SL.v 1000)) (SI.add (SI.v 0) (SI.c (Int.ofNat 1))),
          SB.le (SI.v 1000) (SI.c (Int.ofNat 549755813888)), SB.le (SI.c (Int.ofNat 0)) (SI.v 1000),
          SB.lt (SI.v 0) (SI.c (Int.ofNat 80)), SB.lt (SI.v 0) (SI.len (SL.v 9)), SB.le (SI.c (Int.ofNat 1)) (SI.v 8),
          SB.le (SI.v 8) (SI.c (Int.ofNat 10000)), SB.le (SI.c (Int.ofNat 0)) (SI.v 9),
          SB.le (SI.v 9) (SI.c (Int.ofNat 549755813888)), SB.le (SI.len (SL.v 0)) (SI.v 0),
          SB.le (SI.len (SL.v 2)) (SI.v 0), SB.le (SI.len (SL.v 3)) (SI.v 0), SB.le (SI.c (Int.ofNat 0)) (SI.v 0),
          SB.le (SI.v 0) (SI.c (Int.ofNat 80)), SB.c true, SB.app 150 (SA.l (SL.v 0) (SA.l (SL.v 2) SA.nil)),
          SB.app 151 (SA.l (SL.v 1) (SA.l (SL.v 3) SA.nil)), SB.app 152 (SA.l (SL.v 0) (SA.i (SI.v 9) SA.nil))],
      eqs :=
        [Eqn.T
            (SB.lt (SI.sub (SI.c (Int.ofNat 80)) (SI.add (SI.v 0) (SI.c (Int.ofNat 1))))
              (SI.sub (SI.c (Int.ofNat 80)) (SI.v 0)))] },
    {
      pc :=
        [SB.not
            (SB.eq
              (SI.sel (SL.app 6 (SA.l (SL.v 1001) (SA.i (SI.sel (SL.v 9) (SI.v 0) 1) SA.nil))) (SI.c (Int.ofNat 0)) 1)
              (SI.app 150 (SA.l (SL.v 1003) (SA.i (SI.sel (SL.v 9) (SI.v 0) 1) (SA.i (SI.c (Int.ofNat 0)) SA.nil))))),
          SB.eq (SI.len (SL.v 1002)) (SI.c (Int.ofNat 0)), SB.eq (SI.len (SL.v 1000)) (SI.c (Int.ofNat 0)),
          SB.app 152 (SA.l (SL.v 1000) (SA.i (SI.v 1000) SA.nil)),
          SB.app 151 (SA.l (SL.v 1001) (SA.l (SL.v 1003) SA.nil)),
          SB.app 150 (SA.l (SL.v 1000) (SA.l (SL.v 1002) SA.nil)),
          SB.le (SI.len (SL.v 1003)) (SI.add (SI.v 0) (SI.c (Int.ofNat 1))),
          SB.le (SI.len (SL.v 1002)) (SI.add (SI.v 0) (SI.c (Int.ofNat 1))),
          SB.le (SI.len (SL.v 1000)) (SI.add (SI.v 0) (SI.c (Int.ofNat 1))),
          SB.le (SI.v 1000) (SI.c (Int.ofNat 549755813888)), SB.le (SI.c (Int.ofNat 0)) (SI.v 1000),
          SB.lt (SI.v 0) (SI.c (Int.ofNat 80)), SB.lt (SI.v 0) (SI.len (SL.v 9)), SB.le (SI.c (Int.ofNat 1)) (SI.v 8),
          SB.le (SI.v 8) (SI.c (Int.ofNat 10000)), SB.le (SI.c (Int.ofNat 0)) (SI.v 9),
          SB.le (SI.v 9) (SI.c (Int.ofNat 549755813888)), SB.le (SI.len (SL.v 0)) (SI.v 0),
          SB.le (SI.len (SL.v 2)) (SI.v 0), SB.le (SI.len (SL.v 3)) (SI.v 0), SB.le (SI.c (Int.ofNat 0)) (SI.v 0),
          SB.le (SI.v 0) (SI.c (Int.ofNat 80)), SB.c true, SB.app 150 (SA.l (SL.v 0) (SA.l (SL.v 2) SA.nil)),
          SB.app 151 (SA.l (SL.v 1) (SA.l (SL.v 3) SA.nil)), SB.app 152 (SA.l (SL.v 0) (SA.i (SI.v 9) SA.nil))],
      eqs := [Eqn.T (SB.app 199 SA.nil)] },
    {
      pc :=
        [SB.eq (SI.sel (SL.v 1002) (SI.c (Int.ofNat 0)) 1) (SI.c (Int.ofNat 0)),
          SB.not (SB.eq (SI.len (SL.v 1002)) (SI.c (Int.ofNat 0))), SB.eq (SI.len (SL.v 1000)) (SI.c (Int.ofNat 0)),
          SB.app 152 (SA.l (SL.v 1000) (SA.i (SI.v 1000) SA.nil)),
          SB.app 151 (SA.l (SL.v 1001) (SA.l (SL.v 1003) SA.nil)),
          SB.app 150 (SA.l (SL.v 1000) (SA.l (SL.v 1002) SA.nil)),
          SB.le (SI.len (SL.v 1003)) (SI.add (SI.v 0) (SI.c (Int.ofNat 1))),
          SB.le (SI.len (SL.v 1002)) (SI.add (SI.v 0) (SI.c (Int.ofNat 1))),
          SB.le (SI.len (SL.v 1000)) (SI.add (SI.v 0) (SI.c (Int.ofNat 1))),
          SB.le (SI.v 1000) (SI.c (Int.ofNat 549755813888)), SB.le (SI.c (Int.ofNat 0)) (SI.v 1000),
          SB.lt (SI.v 0) (SI.c (Int.ofNat 80)), SB.lt (SI.v 0) (SI.len (SL.v 9)), SB.le (SI.c (Int.ofNat 1)) (SI.v 8),
          SB.le (SI.v 8) (SI.c (Int.ofNat 10000)), SB.le (SI.c (Int.ofNat 0)) (SI.v 9),
          SB.le (SI.v 9) (SI.c (Int.ofNat 549755813888)), SB.le (SI.len (SL.v 0)) (SI.v 0),
          SB.le (SI.len (SL.v 2)) (SI.v 0), SB.le (SI.len (SL.v 3)) (SI.v 0), SB.le (SI.c (Int.ofNat 0)) (SI.v 0),
          SB.le (SI.v 0) (SI.c (Int.ofNat 80)), SB.c true, SB.app 150 (SA.l (SL.v 0) (SA.l (SL.v 2) SA.nil)),
          SB.app 151 (SA.l (SL.v 1) (SA.l (SL.v 3) SA.nil)), SB.app 152 (SA.l (SL.v 0) (SA.i (SI.v 9) SA.nil))],
      eqs := [Eqn.T (SB.app 199 SA.nil)] },
    {
      pc :=
        [SB.not (SB.eq (SI.sel (SL.v 1002) (SI.c (Int.ofNat 0)) 1) (SI.c (Int.ofNat 0))),
          SB.not (SB.eq (SI.len (SL.v 1002)) (SI.c (Int.ofNat 0))), SB.eq (SI.len (SL.v 1000)) (SI.c (Int.ofNat 0)),
          SB.app 152 (SA.l (SL.v 1000) (SA.i (SI.v 1000) SA.nil)),
          SB.app 151 (SA.l (SL.v 1001) (SA.l (SL.v 1003) SA.nil)),
          SB.app 150 (SA.l (SL.v 1000) (SA.l (SL.v 1002) SA.nil)),
          SB.le (SI.len (SL.v 1003)) (SI.add (SI.v 0) (SI.c (Int.ofNat 1))),
          SB.le (SI.len (SL.v 1002)) (SI.add (SI.v 0) (SI.c (Int.ofNat 1))),
          SB.le (SI.len (SL.v 1000)) (SI.add (SI.v 0) (SI.c (Int.ofNat 1))),
          SB.le (SI.v 1000) (SI.c (Int.ofNat 549755813888)), SB.le (SI.c (Int.ofNat 0)) (SI.v 1000),
          SB.lt (SI.v 0) (SI.c (Int.ofNat 80)), SB.lt (SI.v 0) (SI.len (SL.v 9)), SB.le (SI.c (Int.ofNat 1)) (SI.v 8),
          SB.le (SI.v 8) (SI.c (Int.ofNat 10000)), SB.le (SI.c (Int.ofNat 0)) (SI.v 9),
          SB.le (SI.v 9) (SI.c (Int.ofNat 549755813888)), SB.le (SI.len (SL.v 0)) (SI.v 0),
          SB.le (SI.len (SL.v 2)) (SI.v 0), SB.le (SI.len (SL.v 3)) (SI.v 0), SB.le (SI.c (Int.ofNat 0)) (SI.v 0),
          SB.le (SI.v 0) (SI.c (Int.ofNat 80)), SB.c true, SB.app 150 (SA.l (SL.v 0) (SA.l (SL.v 2) SA.nil)),
          SB.app 151 (SA.l (SL.v 1) (SA.l (SL.v 3) SA.nil)), SB.app 152 (SA.l (SL.v 0) (SA.i (SI.v 9) SA.nil))],
      eqs := [Eqn.T (SB.app 199 SA.nil)] },
    {
      pc :=
        [SB.eq (SI.app 112 (SA.l (SL.v 1000) SA.nil)) (SI.c (Int.ofNat 0)),
          SB.eq (SI.len (SL.v 1002)) (SI.c (Int.ofNat 0)), SB.not (SB.eq (SI.len (SL.v 1000)) (SI.c (Int.ofNat 0))),
          SB.app 152 (SA.l (SL.v 1000) (SA.i (SI.v 1000) SA.nil)),
          SB.app 151 (SA.l (SL.v 1001) (SA.l (SL.v 1003) SA.nil)),
          SB.app 150 (SA.l (SL.v 1000) (SA.l (SL.v 1002) SA.nil)),
          SB.le (SI.len (SL.v 1003)) (SI.add (SI.v 0) (SI.c (Int.ofNat 1))),
          SB.le (SI.len (SL.v 1002)) (SI.add (SI.v 0) (SI.c (Int.ofNat 1))),
          SB.le (SI.len (SL.v 1000)) (SI.add (SI.v 0) (SI.c (Int.ofNat 1))),
          SB.le (SI.v 1000) (SI.c (Int.ofNat 549755813888)), SB.le (SI.c (Int.ofNat 0)) (SI.v 1000),
          SB.lt (SI.v 0) (SI.c (Int.ofNat 80)), SB.lt (SI.v 0) (SI.len (SL.v 9)), SB.le (SI.c (Int.ofNat 1)) (SI.v 8),
          SB.le (SI.v 8) (SI.c (Int.ofNat 10000)), SB.le (SI.c (Int.ofNat 0)) (SI.v 9),
          SB.le (SI.v 9) (SI.c (Int.ofNat 549755813888)), SB.le (SI.len (SL.v 0)) (SI.v 0),
          SB.le (SI.len (SL.v 2)) (SI.v 0), SB.le (SI.len (SL.v 3)) (SI.v 0), SB.le (SI.c (Int.ofNat 0)) (SI.v 0),
          SB.le (SI.v 0) (SI.c (Int.ofNat 80)), SB.c true, SB.app 150 (SA.l (SL.v 0) (SA.l (SL.v 2) SA.nil)),
          SB.app 151 (SA.l (SL.v 1) (SA.l (SL.v 3) SA.nil)), SB.app 152 (SA.l (SL.v 0) (SA.i (SI.v 9) SA.nil))],
      eqs := [Eqn.T (SB.app 199 SA.nil)] },
    {
      pc :=
        [SB.not (SB.eq (SI.app 112 (SA.l (SL.v 1000) SA.nil)) (SI.c (Int.ofNat 0))),
          SB.eq (SI.len (SL.v 1002)) (SI.c (Int.ofNat 0)), SB.not (SB.eq (SI.len (SL.v 1000)) (SI.c (Int.ofNat 0))),
          SB.app 152 (SA.l (SL.v 1000) (SA.i (SI.v 1000) SA.nil)),
          SB.app 151 (SA.l (SL.v 1001) (SA.l (SL.v 1003) SA.nil)),
          SB.app 150 (SA.l (SL.v 1000) (SA.l (SL.v 1002) SA.nil)),
          SB.le (SI.len (SL.v 1003)) (SI.add (SI.v 0) (SI.c (Int.ofNat 1))),
          SB.le (SI.len (SL.v 1002)) (SI.add (SI.v 0) (SI.c (Int.ofNat 1))),
          SB.le (SI.len (SL.v 1000)) (SI.add (SI.v 0) (SI.c (Int.ofNat 1))),
          SB.le (SI.v 1000) (SI.c (Int.ofNat 549755813888)), SB.le (SI.c (Int.ofNat 0)) (SI.v 1000),
          SB.lt (SI.v 0) (SI.c (Int.ofNat 80)), SB.lt (SI.v 0) (SI.len (SL.v 9)), SB.le (SI.c (Int.ofNat 1)) (SI.v 8),
          SB.le (SI.v 8) (SI.c (Int.ofNat 10000)), SB.le (SI.c (Int.ofNat 0)) (SI.v 9),
          SB.le (SI.v 9) (SI.c (Int.ofNat 549755813888)), SB.le (SI.len (SL.v 0)) (SI.v 0),
          SB.le (SI.len (SL.v 2)) (SI.v 0), SB.le (SI.len (SL.v 3)) (SI.v 0), SB.le (SI.c (Int.ofNat 0)) (SI.v 0),
          SB.le (SI.v 0) (SI.c (Int.ofNat 80)), SB.c true, SB.app 150 (SA.l (SL.v 0) (SA.l (SL.v 2) SA.nil)),
          SB.app 151 (SA.l (SL.v 1) (SA.l (SL.v 3) SA.nil)), SB.app 152 (SA.l (SL.v 0) (SA.i (SI.v 9) SA.nil))],
      eqs := [Eqn.T (SB.app 199 SA.nil)] },
    {
      pc :=
        [SB.eq (SI.sel (SL.app 6 (SA.l (SL.v 1001) (SA.i (SI.sel (SL.v 9) (SI.v 0) 1) SA.nil))) (SI.c (Int.ofNat 0)) 1)
            (SI.app 150 (SA.l (SL.v 1003) (SA.i (SI.sel (SL.v 9) (SI.v 0) 1) (SA.i (SI.c (Int.ofNat 0)) SA.nil)))),
          SB.eq (SI.app 112 (SA.l (SL.v 1000) SA.nil)) (SI.sel (SL.v 1002) (SI.c (Int.ofNat 0)) 1),
          SB.not (SB.eq (SI.len (SL.v 1002)) (SI.c (Int.ofNat 0))),
          SB.not (SB.eq (SI.len (SL.v 1000)) (SI.c (Int.ofNat 0))),
          SB.app 152 (SA.l (SL.v 1000) (SA.i (SI.v 1000) SA.nil)),
          SB.app 151 (SA.l (SL.v 1001) (SA.l (SL.v 1003) SA.nil)),
          SB.app 150 (SA.l (SL.v 1000) (SA.l (SL.v 1002) SA.nil)),
          SB.le (SI.len (SL.v 1003)) (SI.add (SI.v 0) (SI.c (Int.ofNat 1))),
          SB.le (SI.len (SL.v 1002)) (SI.add (SI.v 0) (SI.c (Int.ofNat 1))),
          SB.le (SI.len (SL.v 1000)) (SI.add (SI.v 0) (SI.c (Int.ofNat 1))),
          SB.le (SI.v 1000) (SI.c (Int.ofNat 549755813888)), SB.le (SI.c (Int.ofNat 0)) (SI.v 1000),
          SB.lt (SI.v 0) (SI.c (Int.ofNat 80)), SB.lt (SI.v 0) (SI.len (SL.v 9)), SB.le (SI.c (Int.ofNat 1)) (SI.v 8),
          SB.le (SI.v 8) (SI.c (Int.ofNat 10000)), SB.le (SI.c (Int.ofNat 0)) (SI.v 9),
          SB.le (SI.v 9) (SI.c (Int.ofNat 549755813888)), SB.le (SI.len (SL.v 0)) (SI.v 0),
          SB.le (SI.len (SL.v 2)) (SI.v 0), SB.le (SI.len (SL.v 3)) (SI.v 0), SB.le (SI.c (Int.ofNat 0)) (SI.v 0),
          SB.le (SI.v 0) (SI.c (Int.ofNat 80)), SB.c true, SB.app 150 (SA.l (SL.v 0) (SA.l (SL.v 2) SA.nil)),
          SB.app 151 (SA.l (SL.v 1) (SA.l (SL.v 3) SA.nil)), SB.app 152 (SA.l (SL.v 0) (SA.i (SI.v 9) SA.nil))],
      eqs :=
        [Eqn.T
            (SB.lt (SI.sub (SI.c (Int.ofNat 80)) (SI.add (SI.v 0) (SI.c (Int.ofNat 1))))
              (SI.sub (SI.c (Int.ofNat 80)) (SI.v 0)))] },
    {
      pc :=
        [SB.not
            (SB.eq
              (SI.sel (SL.app 6 (SA.l (SL.v 1001) (SA.i (SI.sel (SL.v 9) (SI.v 0) 1) SA.nil))) (SI.c (Int.ofNat 0)) 1)
              (SI.app 150 (SA.l (SL.v 1003) (SA.i (SI.sel (SL.v 9) (SI.v 0) 1) (SA.i (SI.c (Int.ofNat 0)) SA.nil))))),
          SB.eq (SI.app 112 (SA.l (SL.v 1000) SA.nil)) (SI.sel (SL.v 1002) (SI.c (Int.ofNat 0)) 1),
          SB.not (SB.eq (SI.len (SL.v 1002)) (SI.c (Int.ofNat 0))),
          SB.not (SB.eq (SI.len (SL.v 1000)) (SI.c (Int.ofNat 0))),
          SB.app 152 (SA.l (SL.v 1000) (SA.i (SI.v 1000) SA.nil)),
          SB.app 151 (SA.l (SL.v 1001) (SA.l (SL.v 1003) SA.nil)),
          SB.app 150 (SA.l (SL.v 1000) (SA.l (SL.v 1002) SA.nil)),
          SB.le (SI.len (SL.v 1003)) (SI.add (SI.v 0) (SI.c (Int.ofNat 1))),
          SB.le (SI.len (SL.v 1002)) (SI.add (SI.v 0) (SI.c (Int.ofNat 1))),
          SB.le (SI.len (SL.v 1000)) (SI.add (SI.v 0) (SI.c (Int.ofNat 1))),
          SB.le (SI.v 1000) (SI.c (Int.ofNat 549755813888)), SB.le (SI.c (Int.ofNat 0)) (SI.v 1000),
          SB.lt (SI.v 0) (SI.c (Int.ofNat 80)), SB.lt (SI.v 0) (SI.len (SL.v 9)), SB.le (SI.c (Int.ofNat 1)) (SI.v 8),
          SB.le (SI.v 8) (SI.c (Int.ofNat 10000)), SB.le (SI.c (Int.ofNat 0)) (SI.v 9),
          SB.le (SI.v 9) (SI.c (Int.ofNat 549755813888)), SB.le (SI.len (SL.v 0)) (SI.v 0),
          SB.le (SI.len (SL.v 2)) (SI.v 0), SB.le (SI.len (SL.v 3)) (SI.v 0), SB.le (SI.c (Int.ofNat 0)) (SI.v 0),
          SB.le (SI.v 0) (SI.c (Int.ofNat 80)), SB.c true, SB.app 150 (SA.l (SL.v 0) (SA.l (SL.v 2) SA.nil)),
          SB.app 151 (SA.l (SL.v 1) (SA.l (SL.v 3) SA.nil)), SB.app 152 (SA.l (SL.v 0) (SA.i (SI.v 9) SA.nil))],
      eqs := [Eqn.T (SB.app 199 SA.nil)] },
    {
      pc :=
        [SB.not (SB.eq (SI.app 112 (SA.l (SL.v 1000) SA.nil)) (SI.sel (SL.v 1002) (SI.c (Int.ofNat 0)) 1)),
          SB.not (SB.eq (SI.len (SL.v 1002)) (SI.c (Int.ofNat 0))),
          SB.not (SB.eq (SI.len (SL.v 1000)) (SI.c (Int.ofNat 0))),
          SB.app 152 (SA.l (SL.v 1000) (SA.i (SI.v 1000) SA.nil)),
          SB.app 151 (SA.l (SL.v 1001) (SA.l (SL.v 1003) SA.nil)),
          SB.app 150 (SA.l (SL.v 1000) (SA.l (SL.v 1002) SA.nil)),
          SB.le (SI.len (SL.v 1003)) (SI.add (SI.v 0) (SI.c (Int.ofNat 1))),
          SB.le (SI.len (SL.v 1002)) (SI.add (SI.v 0) (SI.c (Int.ofNat 1))),
          SB.le (SI.len (SL.v 1000)) (SI.add (SI.v 0) (SI.c (Int.ofNat 1))),
          SB.le (SI.v 1000) (SI.c (Int.ofNat 549755813888)), SB.le (SI.c (Int.ofNat 0)) (SI.v 1000),
          SB.lt (SI.v 0) (SI.c (Int.ofNat 80)), SB.lt (SI.v 0) (SI.len (SL.v 9)), SB.le (SI.c (Int.ofNat 1)) (SI.v 8),
          SB.le (SI.v 8) (SI.c (Int.ofNat 10000)), SB.le (SI.c (Int.ofNat 0)) (SI.v 9),
          SB.le (SI.v 9) (SI.c (Int.ofNat 549755813888)), SB.le (SI.len (SL.v 0)) (SI.v 0),
          SB.le (SI.len (SL.v 2)) (SI.v 0), SB.le (SI.len (SL.v 3)) (SI.v 0), SB.le (SI.c (Int.ofNat 0)) (SI.v 0),
          SB.le (SI.v 0) (SI.c (Int.ofNat 80)), SB.c true, SB.app 150 (SA.l (SL.v 0) (SA.l (SL.v 2) SA.nil)),
          SB.app 151 (SA.l (SL.v 1) (SA.l (SL.v 3) SA.nil)), SB.app 152 (SA.l (SL.v 0) (SA.i (SI.v 9) SA.nil))],
      eqs := [Eqn.T (SB.app 199 SA.nil)] }] := by kernel_rfl
theorem py1_ok : py1.ok Φ Try.prog := by
  refine ⟨by kernel_rfl, loop_rule (fun ρ => s2_ok ρ) (loopAt_sub (by kernel_rfl)) py1_obs ?_⟩
  simp only [and_imp, List.forall_mem_cons, List.not_mem_nil, false_implies, implies_true, and_true, Ob.ok, holds, Eqn.ok, evB_eq, evB_lt, evB_le, evB_not, evB_and, evB_or, evB_eqL, evB_app, evB_v, evB_c, ev_sel, ev_len, ev_v, ev_c, ev_add, ev_sub, ev_mul, ev_quo, ev_rem, ev_bits, ev_wrap, evL_v, evL_lit, evL_app, ev_app, evA_l, evA_i, evA_nil, std_min, std_max, std_cat, std_take, std_drop, std_row, std_set, std_rep, std_find, std_put, std_del, std_flag, std_unflag, std_clr, std_left, std_copy, ints_cons, ints_nil, ofNat_lit, negSucc_lit, decide_eq_true_eq, Bool.and_eq_true, Bool.or_eq_true, Bool.not_eq_true', Bool.and_eq_false_iff, Bool.or_eq_false_iff, decide_eq_false_iff_not, aI110, aI111, aI112, aI113, aI114, aI115, aI120, aI121, aI122, aL110, aL116, aL120, aL122, aL123, aL124, aL125, aB130, aB132, aB140, aB141, aB142, aL126, aL127, aL128, aB199, aI150, aI151, aI152, aL150, aL151, aL152, aL153, aL154, aL155, aL156, aL157, aL158, aB150, aB151, aB152, aB153]
  repeat' apply And.intro
  all_goals intro ρ hR
  all_goals intros
  all_goals first
    | (omega)
    | (have hi : isB (ρ.l 1000) (ρ.l 1002) = true := by with_reducible assumption
       have hc : crB (ρ.l 1001) (ρ.l 1003) = true := by with_reducible assumption
       have ht : timB (ρ.l 1000) (ρ.i 1000) = true := by with_reducible assumption
       have hl := is_len hi
       exfalso
       omega)
    | (have h : ¬ leastI (ρ.l 1000) = ((ρ.l 1002).getD (0 : Int).toNat []).getD 1 0 := by with_reducible assumption
       have hi : isB (ρ.l 1000) (ρ.l 1002) = true := by with_reducible assumption
       have hc : crB (ρ.l 1001) (ρ.l 1003) = true := by with_reducible assumption
       have ht : timB (ρ.l 1000) (ρ.i 1000) = true := by with_reducible assumption
       have hl := is_len hi
       exfalso
       exact h (is_head hi ht (by omega)))
    | (have h : ¬ ((findK (ρ.l 1001) (((ρ.l 9).getD (ρ.i 0).toNat []).getD 1 0)).getD (0 : Int).toNat []).getD 1 0 = crG (ρ.l 1003) (((ρ.l 9).getD (ρ.i 0).toNat []).getD 1 0) 0 := by with_reducible assumption
       have hi : isB (ρ.l 1000) (ρ.l 1002) = true := by with_reducible assumption
       have hc : crB (ρ.l 1001) (ρ.l 1003) = true := by with_reducible assumption
       have ht : timB (ρ.l 1000) (ρ.i 1000) = true := by with_reducible assumption
       have hl := is_len hi
       exfalso
       rw [cr_now hc] at h
       exact h rfl)
theorem s3_ok (ρ : Env) : TblOK Φ ρ Try.prog s3 := addLp_ok (s1_ok ρ) py1_ok
set_option maxRecDepth 100000 in
theorem lPlays0_obs : callObs Φ Try.prog s3 1000 lPlays0.f lPlays0.vs lPlays0.o lPlays0.pc lPlays0.outs = some
  [{
      pc :=
        [SB.le (SI.v 0) (SI.c (Int.ofNat 10000)), SB.le (SI.c (Int.ofNat 1)) (SI.v 0),
          SB.or (SB.lt (SI.v 0) (SI.c (Int.ofNat 1))) (SB.lt (SI.c (Int.ofNat 10000)) (SI.v 0))],
      eqs := [Eqn.T (SB.app 199 SA.nil)] }] := by kernel_rfl
theorem lPlays0_ok : lPlays0.ok Φ Try.prog := by
  refine call_rule (fun ρ => s3_ok ρ) lPlays0_obs ?_
  simp only [and_imp, List.forall_mem_cons, List.not_mem_nil, false_implies, implies_true, and_true, Ob.ok, holds, Eqn.ok, evB_eq, evB_lt, evB_le, evB_not, evB_and, evB_or, evB_eqL, evB_app, evB_v, evB_c, ev_sel, ev_len, ev_v, ev_c, ev_add, ev_sub, ev_mul, ev_quo, ev_rem, ev_bits, ev_wrap, evL_v, evL_lit, evL_app, ev_app, evA_l, evA_i, evA_nil, std_min, std_max, std_cat, std_take, std_drop, std_row, std_set, std_rep, std_find, std_put, std_del, std_flag, std_unflag, std_clr, std_left, std_copy, ints_cons, ints_nil, ofNat_lit, negSucc_lit, decide_eq_true_eq, Bool.and_eq_true, Bool.or_eq_true, Bool.not_eq_true', Bool.and_eq_false_iff, Bool.or_eq_false_iff, decide_eq_false_iff_not, aI110, aI111, aI112, aI113, aI114, aI115, aI120, aI121, aI122, aL110, aL116, aL120, aL122, aL123, aL124, aL125, aB130, aB132, aB140, aB141, aB142, aL126, aL127, aL128, aB199, aI150, aI151, aI152, aL150, aL151, aL152, aL153, aL154, aL155, aL156, aL157, aL158, aB150, aB151, aB152, aB153]
  repeat' apply And.intro
  all_goals intro ρ hR
  all_goals intros
  all_goals first
    | (exfalso
       omega)
theorem lPlays_ok : lPlays.ok Φ Try.prog := drop_never rfl lPlays0_ok
end Go.SF.C18
