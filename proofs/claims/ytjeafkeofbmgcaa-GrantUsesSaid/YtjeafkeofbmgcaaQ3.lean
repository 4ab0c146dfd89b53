/- The law of what is in use, shown. -/
import Derived.Test.YtjeafkeofbmgcaaQ2
import Derived.Test.YtjeafkeofbmgcaaC3
import Derived.KernelRfl
namespace Go.SF.C19
open Go Go.SF Go.Proofs
set_option linter.unusedVariables false
set_option linter.unusedSimpArgs false

set_option maxRecDepth 100000 in
theorem us24_obs : partObs Φ Try.prog t6 1000 us24.f (loopAt Try.prog us24.f us24.id) us24.n us24.T us24.outs = some
  [{
      pc :=
        [SB.eq (SI.v 24) (SI.c (Int.ofNat 0)),
          SB.eq (SI.app 114 (SA.l (SL.v 0) (SA.i (SI.v 14) (SA.i (SI.v 11) SA.nil)))) (SI.c (Int.ofNat 0)),
          SB.eq (SI.v 20) (SI.v 11), SB.v 1,
          SB.app 130
            (SA.l (SL.app 114 (SA.l (SL.v 0) (SA.i (SI.v 14) (SA.i (SI.v 11) SA.nil)))) (SA.i (SI.v 14) SA.nil)),
          SB.eq (SI.len (SL.app 114 (SA.l (SL.v 0) (SA.i (SI.v 14) (SA.i (SI.v 11) SA.nil))))) (SI.len (SL.v 0)),
          SB.v 2, SB.v 5, SB.le (SI.c (Int.ofNat 1)) (SI.len (SL.v 0)), SB.le (SI.len (SL.v 0)) (SI.c (Int.ofNat 64)),
          SB.eq (SI.len (SL.v 0)) (SI.v 2), SB.c true, SB.app 131 (SA.l (SL.v 0) SA.nil),
          SB.or
            (SB.and (SB.v 1)
              (SB.and (SB.not (SB.app 130 (SA.l (SL.v 0) (SA.i (SI.v 14) SA.nil))))
                (SB.and (SB.eq (SI.v 20) (SI.sel (SL.v 0) (SI.v 14) 0))
                  (SB.and (SB.eq (SI.v 22) (SI.sel (SL.v 0) (SI.v 14) 2))
                    (SB.and (SB.eq (SI.v 24) (SI.sel (SL.v 0) (SI.v 14) 4))
                      (SB.or (SB.and (SB.v 3) (SB.not (SB.eq (SI.sel (SL.v 0) (SI.v 14) 3) (SI.c (Int.ofNat 0)))))
                        (SB.and (SB.not (SB.v 3)) (SB.eq (SI.sel (SL.v 0) (SI.v 14) 3) (SI.c (Int.ofNat 0))))))))))
            (SB.and (SB.not (SB.v 1)) (SB.app 130 (SA.l (SL.v 0) (SA.i (SI.v 14) SA.nil)))),
          SB.and (SB.c true) (SB.or (SB.v 5) (SB.not (SB.v 5)))],
      eqs := [Eqn.T (SB.app 131 (SA.l (SL.app 114 (SA.l (SL.v 0) (SA.i (SI.v 14) (SA.i (SI.v 11) SA.nil)))) SA.nil))] },
    {
      pc :=
        [SB.not (SB.eq (SI.v 24) (SI.c (Int.ofNat 0))),
          SB.eq (SI.app 114 (SA.l (SL.v 0) (SA.i (SI.v 14) (SA.i (SI.v 11) SA.nil)))) (SI.c (Int.ofNat 0)),
          SB.eq (SI.v 20) (SI.v 11), SB.v 1,
          SB.app 130
            (SA.l (SL.app 114 (SA.l (SL.v 0) (SA.i (SI.v 14) (SA.i (SI.v 11) SA.nil)))) (SA.i (SI.v 14) SA.nil)),
          SB.eq (SI.len (SL.app 114 (SA.l (SL.v 0) (SA.i (SI.v 14) (SA.i (SI.v 11) SA.nil))))) (SI.len (SL.v 0)),
          SB.v 2, SB.v 5, SB.le (SI.c (Int.ofNat 1)) (SI.len (SL.v 0)), SB.le (SI.len (SL.v 0)) (SI.c (Int.ofNat 64)),
          SB.eq (SI.len (SL.v 0)) (SI.v 2), SB.c true, SB.app 131 (SA.l (SL.v 0) SA.nil),
          SB.or
            (SB.and (SB.v 1)
              (SB.and (SB.not (SB.app 130 (SA.l (SL.v 0) (SA.i (SI.v 14) SA.nil))))
                (SB.and (SB.eq (SI.v 20) (SI.sel (SL.v 0) (SI.v 14) 0))
                  (SB.and (SB.eq (SI.v 22) (SI.sel (SL.v 0) (SI.v 14) 2))
                    (SB.and (SB.eq (SI.v 24) (SI.sel (SL.v 0) (SI.v 14) 4))
                      (SB.or (SB.and (SB.v 3) (SB.not (SB.eq (SI.sel (SL.v 0) (SI.v 14) 3) (SI.c (Int.ofNat 0)))))
                        (SB.and (SB.not (SB.v 3)) (SB.eq (SI.sel (SL.v 0) (SI.v 14) 3) (SI.c (Int.ofNat 0))))))))))
            (SB.and (SB.not (SB.v 1)) (SB.app 130 (SA.l (SL.v 0) (SA.i (SI.v 14) SA.nil)))),
          SB.and (SB.c true) (SB.or (SB.v 5) (SB.not (SB.v 5)))],
      eqs := [Eqn.T (SB.app 199 SA.nil)] },
    {
      pc :=
        [SB.eq (SI.v 24) (SI.c (Int.ofNat 0)),
          SB.not (SB.eq (SI.app 114 (SA.l (SL.v 0) (SA.i (SI.v 14) (SA.i (SI.v 11) SA.nil)))) (SI.c (Int.ofNat 0))),
          SB.eq (SI.v 20) (SI.v 11), SB.v 1,
          SB.app 130
            (SA.l (SL.app 114 (SA.l (SL.v 0) (SA.i (SI.v 14) (SA.i (SI.v 11) SA.nil)))) (SA.i (SI.v 14) SA.nil)),
          SB.eq (SI.len (SL.app 114 (SA.l (SL.v 0) (SA.i (SI.v 14) (SA.i (SI.v 11) SA.nil))))) (SI.len (SL.v 0)),
          SB.v 2, SB.v 5, SB.le (SI.c (Int.ofNat 1)) (SI.len (SL.v 0)), SB.le (SI.len (SL.v 0)) (SI.c (Int.ofNat 64)),
          SB.eq (SI.len (SL.v 0)) (SI.v 2), SB.c true, SB.app 131 (SA.l (SL.v 0) SA.nil),
          SB.or
            (SB.and (SB.v 1)
              (SB.and (SB.not (SB.app 130 (SA.l (SL.v 0) (SA.i (SI.v 14) SA.nil))))
                (SB.and (SB.eq (SI.v 20) (SI.sel (SL.v 0) (SI.v 14) 0))
                  (SB.and (SB.eq (SI.v 22) (SI.sel (SL.v 0) (SI.v 14) 2))
                    (SB.and (SB.eq (SI.v 24) (SI.sel (SL.v 0) (SI.v 14) 4))
                      (SB.or (SB.and (SB.v 3) (SB.not (SB.eq (SI.sel (SL.v 0) (SI.v 14) 3) (SI.c (Int.ofNat 0)))))
                        (SB.and (SB.not (SB.v 3)) (SB.eq (SI.sel (SL.v 0) (SI.v 14) 3) (SI.c (Int.ofNat 0))))))))))
            (SB.and (SB.not (SB.v 1)) (SB.app 130 (SA.l (SL.v 0) (SA.i (SI.v 14) SA.nil)))),
          SB.and (SB.c true) (SB.or (SB.v 5) (SB.not (SB.v 5)))],
      eqs := [Eqn.T (SB.app 199 SA.nil)] },
    {
      pc :=
        [SB.not (SB.eq (SI.v 24) (SI.c (Int.ofNat 0))),
          SB.not (SB.eq (SI.app 114 (SA.l (SL.v 0) (SA.i (SI.v 14) (SA.i (SI.v 11) SA.nil)))) (SI.c (Int.ofNat 0))),
          SB.eq (SI.v 20) (SI.v 11), SB.v 1,
          SB.app 130
            (SA.l (SL.app 114 (SA.l (SL.v 0) (SA.i (SI.v 14) (SA.i (SI.v 11) SA.nil)))) (SA.i (SI.v 14) SA.nil)),
          SB.eq (SI.len (SL.app 114 (SA.l (SL.v 0) (SA.i (SI.v 14) (SA.i (SI.v 11) SA.nil))))) (SI.len (SL.v 0)),
          SB.v 2, SB.v 5, SB.le (SI.c (Int.ofNat 1)) (SI.len (SL.v 0)), SB.le (SI.len (SL.v 0)) (SI.c (Int.ofNat 64)),
          SB.eq (SI.len (SL.v 0)) (SI.v 2), SB.c true, SB.app 131 (SA.l (SL.v 0) SA.nil),
          SB.or
            (SB.and (SB.v 1)
              (SB.and (SB.not (SB.app 130 (SA.l (SL.v 0) (SA.i (SI.v 14) SA.nil))))
                (SB.and (SB.eq (SI.v 20) (SI.sel (SL.v 0) (SI.v 14) 0))
                  (SB.and (SB.eq (SI.v 22) (SI.sel (SL.v 0) (SI.v 14) 2))
                    (SB.and (SB.eq (SI.v 24) (SI.sel (SL.v 0) (SI.v 14) 4))
                      (SB.or (SB.and (SB.v 3) (SB.not (SB.eq (SI.sel (SL.v 0) (SI.v 14) 3) (SI.c (Int.ofNat 0)))))
                        (SB.and (SB.not (SB.v 3)) (SB.eq (SI.sel (SL.v 0) (SI.v 14) 3) (SI.c (Int.ofNat 0))))))))))
            (SB.and (SB.not (SB.v 1)) (SB.app 130 (SA.l (SL.v 0) (SA.i (SI.v 14) SA.nil)))),
          SB.and (SB.c true) (SB.or (SB.v 5) (SB.not (SB.v 5)))],
      eqs := [Eqn.T (SB.app 199 SA.nil)] },
    {
      pc :=
        [SB.eq (SI.app 114 (SA.l (SL.v 0) (SA.i (SI.v 14) (SA.i (SI.v 11) SA.nil)))) (SI.c (Int.ofNat 0)),
          SB.not (SB.eq (SI.v 20) (SI.v 11)), SB.v 1,
          SB.app 130
            (SA.l (SL.app 114 (SA.l (SL.v 0) (SA.i (SI.v 14) (SA.i (SI.v 11) SA.nil)))) (SA.i (SI.v 14) SA.nil)),
          SB.eq (SI.len (SL.app 114 (SA.l (SL.v 0) (SA.i (SI.v 14) (SA.i (SI.v 11) SA.nil))))) (SI.len (SL.v 0)),
          SB.v 2, SB.v 5, SB.le (SI.c (Int.ofNat 1)) (SI.len (SL.v 0)), SB.le (SI.len (SL.v 0)) (SI.c (Int.ofNat 64)),
          SB.eq (SI.len (SL.v 0)) (SI.v 2), SB.c true, SB.app 131 (SA.l (SL.v 0) SA.nil),
          SB.or
            (SB.and (SB.v 1)
              (SB.and (SB.not (SB.app 130 (SA.l (SL.v 0) (SA.i (SI.v 14) SA.nil))))
                (SB.and (SB.eq (SI.v 20) (SI.sel (SL.v 0) (SI.v 14) 0))
                  (SB.and (SB.eq (SI.v 22) (SI.sel (SL.v 0) (SI.v 14) 2))
                    (SB.and (SB.eq (SI.v 24) (SI.sel (SL.v 0) (SI.v 14) 4))
                      (SB.or (SB.and (SB.v 3) (SB.not (SB.eq (SI.sel (SL.v 0) (SI.v 14) 3) (SI.c (Int.ofNat 0)))))
                        (SB.and (SB.not (SB.v 3)) (SB.eq (SI.sel (SL.v 0) (SI.v 14) 3) (SI.c (Int.ofNat 0))))))))))
            (SB.and (SB.not (SB.v 1)) (SB.app 130 (SA.l (SL.v 0) (SA.i (SI.v 14) SA.nil)))),
          SB.and (SB.c true) (SB.or (SB.v 5) (SB.not (SB.v 5)))],
      eqs := [Eqn.T (SB.app 199 SA.nil)] },
    {
      pc :=
        [SB.not (SB.eq (SI.app 114 (SA.l (SL.v 0) (SA.i (SI.v 14) (SA.i (SI.v 11) SA.nil)))) (SI.c (Int.ofNat 0))),
          SB.not (SB.eq (SI.v 20) (SI.v 11)), SB.v 1,
          SB.app 130
            (SA.l (SL.app 114 (SA.l (SL.v 0) (SA.i (SI.v 14) (SA.i (SI.v 11) SA.nil)))) (SA.i (SI.v 14) SA.nil)),
          SB.eq (SI.len (SL.app 114 (SA.l (SL.v 0) (SA.i (SI.v 14) (SA.i (SI.v 11) SA.nil))))) (SI.len (SL.v 0)),
          SB.v 2, SB.v 5, SB.le (SI.c (Int.ofNat 1)) (SI.len (SL.v 0)), SB.le (SI.len (SL.v 0)) (SI.c (Int.ofNat 64)),
          SB.eq (SI.len (SL.v 0)) (SI.v 2), SB.c true, SB.app 131 (SA.l (SL.v 0) SA.nil),
          SB.or
            (SB.and (SB.v 1)
              (SB.and (SB.not (SB.app 130 (SA.l (SL.v 0) (SA.i (SI.v 14) SA.nil))))
                (SB.and (SB.eq (SI.v 20) (SI.sel (SL.v 0) (SI.v 14) 0))
                  (SB.and (SB.eq (SI.v 22) (SI.sel (SL.v 0) (SI.v 14) 2))
                    (SB.and (SB.eq (SI.v 24) (SI.sel (SL.v 0) (SI.v 14) 4))
                      (SB.or (SB.and (SB.v 3) (SB.not (SB.eq (SI.sel (SL.v 0) (SI.v 14) 3) (SI.c (Int.ofNat 0)))))
                        (SB.and (SB.not (SB.v 3)) (SB.eq (SI.sel (SL.v 0) (SI.v 14) 3) (SI.c (Int.ofNat 0))))))))))
            (SB.and (SB.not (SB.v 1)) (SB.app 130 (SA.l (SL.v 0) (SA.i (SI.v 14) SA.nil)))),
          SB.and (SB.c true) (SB.or (SB.v 5) (SB.not (SB.v 5)))],
      eqs := [Eqn.T (SB.app 199 SA.nil)] },
    {
      pc :=
        [SB.eq (SI.app 114 (SA.l (SL.v 0) (SA.i (SI.v 14) (SA.i (SI.v 11) SA.nil)))) (SI.c (Int.ofNat 0)),
          SB.not (SB.v 1),
          SB.app 130
            (SA.l (SL.app 114 (SA.l (SL.v 0) (SA.i (SI.v 14) (SA.i (SI.v 11) SA.nil)))) (SA.i (SI.v 14) SA.nil)),
          SB.eq (SI.len (SL.app 114 (SA.l (SL.v 0) (SA.i (SI.v 14) (SA.i (SI.v 11) SA.nil))))) (SI.len (SL.v 0)),
          SB.v 2, SB.v 5, SB.le (SI.c (Int.ofNat 1)) (SI.len (SL.v 0)), SB.le (SI.len (SL.v 0)) (SI.c (Int.ofNat 64)),
          SB.eq (SI.len (SL.v 0)) (SI.v 2), SB.c true, SB.app 131 (SA.l (SL.v 0) SA.nil),
          SB.or
            (SB.and (SB.v 1)
              (SB.and (SB.not (SB.app 130 (SA.l (SL.v 0) (SA.i (SI.v 14) SA.nil))))
                (SB.and (SB.eq (SI.v 20) (SI.sel (SL.v 0) (SI.v 14) 0))
                  (SB.and (SB.eq (SI.v 22) (SI.sel (SL.v 0) (SI.v 14) 2))
                    (SB.and (SB.eq (SI.v 24) (SI.sel (SL.v 0) (SI.v 14) 4))
                      (SB.or (SB.and (SB.v 3) (SB.not (SB.eq (SI.sel (SL.v 0) (SI.v 14) 3) (SI.c (Int.ofNat 0)))))
                        (SB.and (SB.not (SB.v 3)) (SB.eq (SI.sel (SL.v 0) (SI.v 14) 3) (SI.c (Int.ofNat 0))))))))))
            (SB.and (SB.not (SB.v 1)) (SB.app 130 (SA.l (SL.v 0) (SA.i (SI.v 14) SA.nil)))),
          SB.and (SB.c true) (SB.or (SB.v 5) (SB.not (SB.v 5)))],
      eqs := [Eqn.T (SB.app 199 SA.nil)] },
    {
      pc :=
        [SB.not (SB.eq (SI.app 114 (SA.l (SL.v 0) (SA.i (SI.v 14) (SA.i (SI.v 11) SA.nil)))) (SI.c (Int.ofNat 0))),
          SB.not (SB.v 1),
          SB.app 130
            (SA.l (SL.app 114 (SA.l (SL.v 0) (SA.i (SI.v 14) (SA.i (SI.v 11) SA.nil)))) (SA.i (SI.v 14) SA.nil)),
          SB.eq (SI.len (SL.app 114 (SA.l (SL.v 0) (SA.i (SI.v 14) (SA.i (SI.v 11) SA.nil))))) (SI.len (SL.v 0)),
          SB.v 2, SB.v 5, SB.le (SI.c (Int.ofNat 1)) (SI.len (SL.v 0)), SB.le (SI.len (SL.v 0)) (SI.c (Int.ofNat 64)),
          SB.eq (SI.len (SL.v 0)) (SI.v 2), SB.c true, SB.app 131 (SA.l (SL.v 0) SA.nil),
          SB.or
            (SB.and (SB.v 1)
              (SB.and (SB.not (SB.app 130 (SA.l (SL.v 0) (SA.i (SI.v 14) SA.nil))))
                (SB.and (SB.eq (SI.v 20) (SI.sel (SL.v 0) (SI.v 14) 0))
                  (SB.and (SB.eq (SI.v 22) (SI.sel (SL.v 0) (SI.v 14) 2))
                    (SB.and (SB.eq (SI.v 24) (SI.sel (SL.v 0) (SI.v 14) 4))
                      (SB.or (SB.and (SB.v 3) (SB.not (SB.eq (SI.sel (SL.v 0) (SI.v 14) 3) (SI.c (Int.ofNat 0)))))
                        (SB.and (SB.not (SB.v 3)) (SB.eq (SI.sel (SL.v 0) (SI.v 14) 3) (SI.c (Int.ofNat 0))))))))))
            (SB.and (SB.not (SB.v 1)) (SB.app 130 (SA.l (SL.v 0) (SA.i (SI.v 14) SA.nil)))),
          SB.and (SB.c true) (SB.or (SB.v 5) (SB.not (SB.v 5)))],
      eqs := [Eqn.T (SB.app 131 (SA.l (SL.app 114 (SA.l (SL.v 0) (SA.i (SI.v 14) (SA.i (SI.v 11) SA.nil)))) SA.nil))] },
    {
      pc :=
        [SB.eq (SI.v 24) (SI.c (Int.ofNat 0)),
          SB.eq (SI.app 114 (SA.l (SL.v 0) (SA.i (SI.v 14) (SA.i (SI.v 11) SA.nil)))) (SI.c (Int.ofNat 0)),
          SB.eq (SI.v 20) (SI.v 11), SB.v 1,
          SB.lt (SI.v 14) (SI.len (SL.app 114 (SA.l (SL.v 0) (SA.i (SI.v 14) (SA.i (SI.v 11) SA.nil))))),
          SB.le (SI.c (Int.ofNat 0)) (SI.v 14),
          SB.not
            (SB.app 130
              (SA.l (SL.app 114 (SA.l (SL.v 0) (SA.i (SI.v 14) (SA.i (SI.v 11) SA.nil)))) (SA.i (SI.v 14) SA.nil))),
          SB.eq (SI.len (SL.app 114 (SA.l (SL.v 0) (SA.i (SI.v 14) (SA.i (SI.v 11) SA.nil))))) (SI.len (SL.v 0)),
          SB.v 2, SB.v 5, SB.le (SI.c (Int.ofNat 1)) (SI.len (SL.v 0)), SB.le (SI.len (SL.v 0)) (SI.c (Int.ofNat 64)),
          SB.eq (SI.len (SL.v 0)) (SI.v 2), SB.c true, SB.app 131 (SA.l (SL.v 0) SA.nil),
          SB.or
            (SB.and (SB.v 1)
              (SB.and (SB.not (SB.app 130 (SA.l (SL.v 0) (SA.i (SI.v 14) SA.nil))))
                (SB.and (SB.eq (SI.v 20) (SI.sel (SL.v 0) (SI.v 14) 0))
                  (SB.and (SB.eq (SI.v 22) (SI.sel (SL.v 0) (SI.v 14) 2))
                    (SB.and (SB.eq (SI.v 24) (SI.sel (SL.v 0) (SI.v 14) 4))
                      (SB.or (SB.and (SB.v 3) (SB.not (SB.eq (SI.sel (SL.v 0) (SI.v 14) 3) (SI.c (Int.ofNat 0)))))
                        (SB.and (SB.not (SB.v 3)) (SB.eq (SI.sel (SL.v 0) (SI.v 14) 3) (SI.c (Int.ofNat 0))))))))))
            (SB.and (SB.not (SB.v 1)) (SB.app 130 (SA.l (SL.v 0) (SA.i (SI.v 14) SA.nil)))),
          SB.and (SB.c true) (SB.or (SB.v 5) (SB.not (SB.v 5)))],
      eqs := [Eqn.T (SB.app 199 SA.nil)] },
    {
      pc :=
        [SB.not (SB.eq (SI.v 24) (SI.c (Int.ofNat 0))),
          SB.eq (SI.app 114 (SA.l (SL.v 0) (SA.i (SI.v 14) (SA.i (SI.v 11) SA.nil)))) (SI.c (Int.ofNat 0)),
          SB.eq (SI.v 20) (SI.v 11), SB.v 1,
          SB.lt (SI.v 14) (SI.len (SL.app 114 (SA.l (SL.v 0) (SA.i (SI.v 14) (SA.i (SI.v 11) SA.nil))))),
          SB.le (SI.c (Int.ofNat 0)) (SI.v 14),
          SB.not
            (SB.app 130
              (SA.l (SL.app 114 (SA.l (SL.v 0) (SA.i (SI.v 14) (SA.i (SI.v 11) SA.nil)))) (SA.i (SI.v 14) SA.nil))),
          SB.eq (SI.len (SL.app 114 (SA.l (SL.v 0) (SA.i (SI.v 14) (SA.i (SI.v 11) SA.nil))))) (SI.len (SL.v 0)),
          SB.v 2, SB.v 5, SB.le (SI.c (Int.ofNat 1)) (SI.len (SL.v 0)), SB.le (SI.len (SL.v 0)) (SI.c (Int.ofNat 64)),
          SB.eq (SI.len (SL.v 0)) (SI.v 2), SB.c true, SB.app 131 (SA.l (SL.v 0) SA.nil),
          SB.or
            (SB.and (SB.v 1)
              (SB.and (SB.not (SB.app 130 (SA.l (SL.v 0) (SA.i (SI.v 14) SA.nil))))
                (SB.and (SB.eq (SI.v 20) (SI.sel (SL.v 0) (SI.v 14) 0))
                  (SB.and (SB.eq (SI.v 22) (SI.sel (SL.v 0) (SI.v 14) 2))
                    (SB.and (SB.eq (SI.v 24) (SI.sel (SL.v 0) (SI.v 14) 4))
                      (SB.or (SB.and (SB.v 3) (SB.not (SB.eq (SI.sel (SL.v 0) (SI.v 14) 3) (SI.c (Int.ofNat 0)))))
                        (SB.and (SB.not (SB.v 3)) (SB.eq (SI.sel (SL.v 0) (SI.v 14) 3) (SI.c (Int.ofNat 0))))))))))
            (SB.and (SB.not (SB.v 1)) (SB.app 130 (SA.l (SL.v 0) (SA.i (SI.v 14) SA.nil)))),
          SB.and (SB.c true) (SB.or (SB.v 5) (SB.not (SB.v 5)))],
      eqs := [Eqn.T (SB.app 199 SA.nil)] },
    {
      pc :=
        [SB.eq (SI.v 24) (SI.c (Int.ofNat 0)),
          SB.not (SB.eq (SI.app 114 (SA.l (SL.v 0) (SA.i (SI.v 14) (SA.i (SI.v 11) SA.nil)))) (SI.c (Int.ofNat 0))),
          SB.eq (SI.v 20) (SI.v 11), SB.v 1,
          SB.lt (SI.v 14) (SI.len (SL.app 114 (SA.l (SL.v 0) (SA.i (SI.v 14) (SA.i (SI.v 11) SA.nil))))),
          SB.le (SI.c (Int.ofNat 0)) (SI.v 14),
          SB.not
            (SB.app 130
              (SA.l (SL.app 114 (SA.l (SL.v 0) (SA.i (SI.v 14) (SA.i (SI.v 11) SA.nil)))) (SA.i (SI.v 14) SA.nil))),
          SB.eq (SI.len (SL.app 114 (SA.l (SL.v 0) (SA.i (SI.v 14) (SA.i (SI.v 11) SA.nil))))) (SI.len (SL.v 0)),
          SB.v 2, SB.v 5, SB.le (SI.c (Int.ofNat 1)) (SI.len (SL.v 0)), SB.le (SI.len (SL.v 0)) (SI.c (Int.ofNat 64)),
          SB.eq (SI.len (SL.v 0)) (SI.v 2), SB.c true, SB.app 131 (SA.l (SL.v 0) SA.nil),
          SB.or
            (SB.and (SB.v 1)
              (SB.and (SB.not (SB.app 130 (SA.l (SL.v 0) (SA.i (SI.v 14) SA.nil))))
                (SB.and (SB.eq (SI.v 20) (SI.sel (SL.v 0) (SI.v 14) 0))
                  (SB.and (SB.eq (SI.v 22) (SI.sel (SL.v 0) (SI.v 14) 2))
                    (SB.and (SB.eq (SI.v 24) (SI.sel (SL.v 0) (SI.v 14) 4))
                      (SB.or (SB.and (SB.v 3) (SB.not (SB.eq (SI.sel (SL.v 0) (SI.v 14) 3) (SI.c (Int.ofNat 0)))))
                        (SB.and (SB.not (SB.v 3)) (SB.eq (SI.sel (SL.v 0) (SI.v 14) 3) (SI.c (Int.ofNat 0))))))))))
            (SB.and (SB.not (SB.v 1)) (SB.app 130 (SA.l (SL.v 0) (SA.i (SI.v 14) SA.nil)))),
          SB.and (SB.c true) (SB.or (SB.v 5) (SB.not (SB.v 5)))],
      eqs := [Eqn.T (SB.app 199 SA.nil)] },
    {
      pc :=
        [SB.not (SB.eq (SI.v 24) (SI.c (Int.ofNat 0))),
          SB.not (SB.eq (SI.app 114 (SA.l (SL.v 0) (SA.i (SI.v 14) (SA.i (SI.v 11) SA.nil)))) (SI.c (Int.ofNat 0))),
          SB.eq (SI.v 20) (SI.v 11), SB.v 1,
          SB.lt (SI.v 14) (SI.len (SL.app 114 (SA.l (SL.v 0) (SA.i (SI.v 14) (SA.i (SI.v 11) SA.nil))))),
          SB.le (SI.c (Int.ofNat 0)) (SI.v 14),
          SB.not
            (SB.app 130
              (SA.l (SL.app 114 (SA.l (SL.v 0) (SA.i (SI.v 14) (SA.i (SI.v 11) SA.nil)))) (SA.i (SI.v 14) SA.nil))),
          SB.eq (SI.len (SL.app 114 (SA.l (SL.v 0) (SA.i (SI.v 14) (SA.i (SI.v 11) SA.nil))))) (SI.len (SL.v 0)),
          SB.v 2, SB.v 5, SB.le (SI.c (Int.ofNat 1)) (SI.len (SL.v 0)), SB.le (SI.len (SL.v 0)) (SI.c (Int.ofNat 64)),
          SB.eq (SI.len (SL.v 0)) (SI.v 2), SB.c true, SB.app 131 (SA.l (SL.v 0) SA.nil),
          SB.or
            (SB.and (SB.v 1)
              (SB.and (SB.not (SB.app 130 (SA.l (SL.v 0) (SA.i (SI.v 14) SA.nil))))
                (SB.and (SB.eq (SI.v 20) (SI.sel (SL.v 0) (SI.v 14) 0))
                  (SB.and (SB.eq (SI.v 22) (SI.sel (SL.v 0) (SI.v 14) 2))
                    (SB.and (SB.eq (SI.v 24) (SI.sel (SL.v 0) (SI.v 14) 4))
                      (SB.or (SB.and (SB.v 3) (SB.not (SB.eq (SI.sel (SL.v 0) (SI.v 14) 3) (SI.c (Int.ofNat 0)))))
                        (SB.and (SB.not (SB.v 3)) (SB.eq (SI.sel (SL.v 0) (SI.v 14) 3) (SI.c (Int.ofNat 0))))))))))
            (SB.and (SB.not (SB.v 1)) (SB.app 130 (SA.l (SL.v 0) (SA.i (SI.v 14) SA.nil)))),
          SB.and (SB.c true) (SB.or (SB.v 5) (SB.not (SB.v 5)))],
      eqs := [Eqn.T (SB.app 131 (SA.l (SL.app 114 (SA.l (SL.v 0) (SA.i (SI.v 14) (SA.i (SI.v 11) SA.nil)))) SA.nil))] },
    {
      pc :=
        [SB.eq (SI.app 114 (SA.l (SL.v 0) (SA.i (SI.v 14) (SA.i (SI.v 11) SA.nil)))) (SI.c (Int.ofNat 0)),
          SB.not (SB.eq (SI.v 20) (SI.v 11)), SB.v 1,
          SB.lt (SI.v 14) (SI.len (SL.app 114 (SA.l (SL.v 0) (SA.i (SI.v 14) (SA.i (SI.v 11) SA.nil))))),
          SB.le (SI.c (Int.ofNat 0)) (SI.v 14),
          SB.not
            (SB.app 130
              (SA.l (SL.app 114 (SA.l (SL.v 0) (SA.i (SI.v 14) (SA.i (SI.v 11) SA.nil)))) (SA.i (SI.v 14) SA.nil))),
          SB.eq (SI.len (SL.app 114 (SA.l (SL.v 0) (SA.i (SI.v 14) (SA.i (SI.v 11) SA.nil))))) (SI.len (SL.v 0)),
          SB.v 2, SB.v 5, SB.le (SI.c (Int.ofNat 1)) (SI.len (SL.v 0)), SB.le (SI.len (SL.v 0)) (SI.c (Int.ofNat 64)),
          SB.eq (SI.len (SL.v 0)) (SI.v 2), SB.c true, SB.app 131 (SA.l (SL.v 0) SA.nil),
          SB.or
            (SB.and (SB.v 1)
              (SB.and (SB.not (SB.app 130 (SA.l (SL.v 0) (SA.i (SI.v 14) SA.nil))))
                (SB.and (SB.eq (SI.v 20) (SI.sel (SL.v 0) (SI.v 14) 0))
                  (SB.and (SB.eq (SI.v 22) (SI.sel (SL.v 0) (SI.v 14) 2))
                    (SB.and (SB.eq (SI.v 24) (SI.sel (SL.v 0) (SI.v 14) 4))
                      (SB.or (SB.and (SB.v 3) (SB.not (SB.eq (SI.sel (SL.v 0) (SI.v 14) 3) (SI.c (Int.ofNat 0)))))
                        (SB.and (SB.not (SB.v 3)) (SB.eq (SI.sel (SL.v 0) (SI.v 14) 3) (SI.c (Int.ofNat 0))))))))))
            (SB.and (SB.not (SB.v 1)) (SB.app 130 (SA.l (SL.v 0) (SA.i (SI.v 14) SA.nil)))),
          SB.and (SB.c true) (SB.or (SB.v 5) (SB.not (SB.v 5)))],
      eqs := [Eqn.T (SB.app 199 SA.nil)] },
    {
      pc :=
        [SB.not (SB.eq (SI.app 114 (SA.l (SL.v 0) (SA.i (SI.v 14) (SA.i (SI.v 11) SA.nil)))) (SI.c (Int.ofNat 0))),
          SB.not (SB.eq (SI.v 20) (SI.v 11)), SB.v 1,
          SB.lt (SI.v 14) (SI.len (SL.app 114 (SA.l (SL.v 0) (SA.i (SI.v 14) (SA.i (SI.v 11) SA.nil))))),
          SB.le (SI.c (Int.ofNat 0)) (SI.v 14),
          SB.not
            (SB.app 130
              (SA.l (SL.app 114 (SA.l (SL.v 0) (SA.i (SI.v 14) (SA.i (SI.v 11) SA.nil)))) (SA.i (SI.v 14) SA.nil))),
          SB.eq (SI.len (SL.app 114 (SA.l (SL.v 0) (SA.i (SI.v 14) (SA.i (SI.v 11) SA.nil))))) (SI.len (SL.v 0)),
          SB.v 2, SB.v 5, SB.le (SI.c (Int.ofNat 1)) (SI.len (SL.v 0)), SB.le (SI.len (SL.v 0)) (SI.c (Int.ofNat 64)),
          SB.eq (SI.len (SL.v 0)) (SI.v 2), SB.c true, SB.app 131 (SA.l (SL.v 0) SA.nil),
          SB.or
            (SB.and (SB.v 1)
              (SB.and (SB.not (SB.app 130 (SA.l (SL.v 0) (SA.i (SI.v 14) SA.nil))))
                (SB.and (SB.eq (SI.v 20) (SI.sel (SL.v 0) (SI.v 14) 0))
                  (SB.and (SB.eq (SI.v 22) (SI.sel (SL.v 0) (SI.v 14) 2))
                    (SB.and (SB.eq (SI.v 24) (SI.sel (SL.v 0) (SI.v 14) 4))
                      (SB.or (SB.and (SB.v 3) (SB.not (SB.eq (SI.sel (SL.v 0) (SI.v 14) 3) (SI.c (Int.ofNat 0)))))
                        (SB.and (SB.not (SB.v 3)) (SB.eq (SI.sel (SL.v 0) (SI.v 14) 3) (SI.c (Int.ofNat 0))))))))))
            (SB.and (SB.not (SB.v 1)) (SB.app 130 (SA.l (SL.v 0) (SA.i (SI.v 14) SA.nil)))),
          SB.and (SB.c true) (SB.or (SB.v 5) (SB.not (SB.v 5)))],
      eqs := [Eqn.T (SB.app 131 (SA.l (SL.app 114 (SA.l (SL.v 0) (SA.i (SI.v 14) (SA.i (SI.v 11) SA.nil)))) SA.nil))] },
    {
      pc :=
        [SB.eq (SI.app 114 (SA.l (SL.v 0) (SA.i (SI.v 14) (SA.i (SI.v 11) SA.nil)))) (SI.c (Int.ofNat 0)),
          SB.not (SB.v 1),
          SB.lt (SI.v 14) (SI.len (SL.app 114 (SA.l (SL.v 0) (SA.i (SI.v 14) (SA.i (SI.v 11) SA.nil))))),
          SB.le (SI.c (Int.ofNat 0)) (SI.v 14),
          SB.not
            (SB.app 130
              (SA.l (SL.app 114 (SA.l (SL.v 0) (SA.i (SI.v 14) (SA.i (SI.v 11) SA.nil)))) (SA.i (SI.v 14) SA.nil))),
          SB.eq (SI.len (SL.app 114 (SA.l (SL.v 0) (SA.i (SI.v 14) (SA.i (SI.v 11) SA.nil))))) (SI.len (SL.v 0)),
          SB.v 2, SB.v 5, SB.le (SI.c (Int.ofNat 1)) (SI.len (SL.v 0)), SB.le (SI.len (SL.v 0)) (SI.c (Int.ofNat 64)),
          SB.eq (SI.len (SL.v 0)) (SI.v 2), SB.c true, SB.app 131 (SA.l (SL.v 0) SA.nil),
          SB.or
            (SB.and (SB.v 1)
              (SB.and (SB.not (SB.app 130 (SA.l (SL.v 0) (SA.i (SI.v 14) SA.nil))))
                (SB.and (SB.eq (SI.v 20) (SI.sel (SL.v 0) (SI.v 14) 0))
                  (SB.and (SB.eq (SI.v 22) (SI.sel (SL.v 0) (SI.v 14) 2))
                    (SB.and (SB.eq (SI.v 24) (SI.sel (SL.v 0) (SI.v 14) 4))
                      (SB.or (SB.and (SB.v 3) (SB.not (SB.eq (SI.sel (SL.v 0) (SI.v 14) 3) (SI.c (Int.ofNat 0)))))
                        (SB.and (SB.not (SB.v 3)) (SB.eq (SI.sel (SL.v 0) (SI.v 14) 3) (SI.c (Int.ofNat 0))))))))))
            (SB.and (SB.not (SB.v 1)) (SB.app 130 (SA.l (SL.v 0) (SA.i (SI.v 14) SA.nil)))),
          SB.and (SB.c true) (SB.or (SB.v 5) (SB.not (SB.v 5)))],
      eqs := [Eqn.T (SB.app 199 SA.nil)] },
    {
      pc :=
        [SB.not (SB.eq (SI.app 114 (SA.l (SL.v 0) (SA.i (SI.v 14) (SA.i (SI.v 11) SA.nil)))) (SI.c (Int.ofNat 0))),
          SB.not (SB.v 1),
          SB.lt (SI.v 14) (SI.len (SL.app 114 (SA.l (SL.v 0) (SA.i (SI.v 14) (SA.i (SI.v 11) SA.nil))))),
          SB.le (SI.c (Int.ofNat 0)) (SI.v 14),
          SB.not
            (SB.app 130
              (SA.l (SL.app 114 (SA.l (SL.v 0) (SA.i (SI.v 14) (SA.i (SI.v 11) SA.nil)))) (SA.i (SI.v 14) SA.nil))),
          SB.eq (SI.len (SL.app 114 (SA.l (SL.v 0) (SA.i (SI.v 14) (SA.i (SI.v 11) SA.nil))))) (SI.len (SL.v 0)),
          SB.v 2, SB.v 5, SB.le (SI.c (Int.ofNat 1)) (SI.len (SL.v 0)), SB.le (SI.len (SL.v 0)) (SI.c (Int.ofNat 64)),
          SB.eq (SI.len (SL.v 0)) (SI.v 2), SB.c true, SB.app 131 (SA.l (SL.v 0) SA.nil),
          SB.or
            (SB.and (SB.v 1)
              (SB.and (SB.not (SB.app 130 (SA.l (SL.v 0) (SA.i (SI.v 14) SA.nil))))
                (SB.and (SB.eq (SI.v 20) (SI.sel (SL.v 0) (SI.v 14) 0))
                  (SB.and (SB.eq (SI.v 22) (SI.sel (SL.v 0) (SI.v 14) 2))
                    (SB.and (SB.eq (SI.v 24) (SI.sel (SL.v 0) (SI.v 14) 4))
                      (SB.or (SB.and (SB.v 3) (SB.not (SB.eq (SI.sel (SL.v 0) (SI.v 14) 3) (SI.c (Int.ofNat 0)))))
                        (SB.and (SB.not (SB.v 3)) (SB.eq (SI.sel (SL.v 0) (SI.v 14) 3) (SI.c (Int.ofNat 0))))))))))
            (SB.and (SB.not (SB.v 1)) (SB.app 130 (SA.l (SL.v 0) (SA.i (SI.v 14) SA.nil)))),
          SB.and (SB.c true) (SB.or (SB.v 5) (SB.not (SB.v 5)))],
      eqs := [Eqn.T (SB.app 199 SA.nil)] },
    {
      pc :=
        [SB.eq (SI.v 24) (SI.c (Int.ofNat 0)),
          SB.eq (SI.app 114 (SA.l (SL.v 0) (SA.i (SI.v 14) (SA.i (SI.v 11) SA.nil)))) (SI.c (Int.ofNat 0)),
          SB.eq (SI.v 20) (SI.v 11), SB.v 1,
          SB.app 130
            (SA.l (SL.app 114 (SA.l (SL.v 0) (SA.i (SI.v 14) (SA.i (SI.v 11) SA.nil)))) (SA.i (SI.v 14) SA.nil)),
          SB.eq (SI.len (SL.app 114 (SA.l (SL.v 0) (SA.i (SI.v 14) (SA.i (SI.v 11) SA.nil))))) (SI.len (SL.v 0)),
          SB.v 2, SB.not (SB.v 5), SB.le (SI.c (Int.ofNat 1)) (SI.len (SL.v 0)),
          SB.le (SI.len (SL.v 0)) (SI.c (Int.ofNat 64)), SB.eq (SI.len (SL.v 0)) (SI.v 2), SB.c true,
          SB.app 131 (SA.l (SL.v 0) SA.nil),
          SB.or
            (SB.and (SB.v 1)
              (SB.and (SB.not (SB.app 130 (SA.l (SL.v 0) (SA.i (SI.v 14) SA.nil))))
                (SB.and (SB.eq (SI.v 20) (SI.sel (SL.v 0) (SI.v 14) 0))
                  (SB.and (SB.eq (SI.v 22) (SI.sel (SL.v 0) (SI.v 14) 2))
                    (SB.and (SB.eq (SI.v 24) (SI.sel (SL.v 0) (SI.v 14) 4))
                      (SB.or (SB.and (SB.v 3) (SB.not (SB.eq (SI.sel (SL.v 0) (SI.v 14) 3) (SI.c (Int.ofNat 0)))))
                        (SB.and (SB.not (SB.v 3)) (SB.eq (SI.sel (SL.v 0) (SI.v 14) 3) (SI.c (Int.ofNat 0))))))))))
            (SB.and (SB.not (SB.v 1)) (SB.app 130 (SA.l (SL.v 0) (SA.i (SI.v 14) SA.nil)))),
          SB.and (SB.c true) (SB.or (SB.v 5) (SB.not (SB.v 5)))],
      eqs := [Eqn.T (SB.app 131 (SA.l (SL.app 114 (SA.l (SL.v 0) (SA.i (SI.v 14) (SA.i (SI.v 11) SA.nil)))) SA.nil))] },
    {
      pc :=
        [SB.not (SB.eq (SI.v 24) (SI.c (Int.ofNat 0))),
          SB.eq (SI.app 114 (SA.l (SL.v 0) (SA.i (SI.v 14) (SA.i (SI.v 11) SA.nil)))) (SI.c (Int.ofNat 0)),
          SB.eq (SI.v 20) (SI.v 11), SB.v 1,
          SB.app 130
            (SA.l (SL.app 114 (SA.l (SL.v 0) (SA.i (SI.v 14) (SA.i (SI.v 11) SA.nil)))) (SA.i (SI.v 14) SA.nil)),
          SB.eq (SI.len (SL.app 114 (SA.l (SL.v 0) (SA.i (SI.v 14) (SA.i (SI.v 11) SA.nil))))) (SI.len (SL.v 0)),
          SB.v 2, SB.not (SB.v 5), SB.le (SI.c (Int.ofNat 1)) (SI.len (SL.v 0)),
          SB.le (SI.len (SL.v 0)) (SI.c (Int.ofNat 64)), SB.eq (SI.len (SL.v 0)) (SI.v 2), SB.c true,
          SB.app 131 (SA.l (SL.v 0) SA.nil),
          SB.or
            (SB.and (SB.v 1)
              (SB.and (SB.not (SB.app 130 (SA.l (SL.v 0) (SA.i (SI.v 14) SA.nil))))
                (SB.and (SB.eq (SI.v 20) (SI.sel (SL.v 0) (SI.v 14) 0))
                  (SB.and (SB.eq (SI.v 22) (SI.sel (SL.v 0) (SI.v 14) 2))
                    (SB.and (SB.eq (SI.v 24) (SI.sel (SL.v 0) (SI.v 14) 4))
                      (SB.or (SB.and (SB.v 3) (SB.not (SB.eq (SI.sel (SL.v 0) (SI.v 14) 3) (SI.c (Int.ofNat 0)))))
                        (SB.and (SB.not (SB.v 3)) (SB.eq (SI.sel (SL.v 0) (SI.v 14) 3) (SI.c (Int.ofNat 0))))))))))
            (SB.and (SB.not (SB.v 1)) (SB.app 130 (SA.l (SL.v 0) (SA.i (SI.v 14) SA.nil)))),
          SB.and (SB.c true) (SB.or (SB.v 5) (SB.not (SB.v 5)))],
      eqs := [Eqn.T (SB.app 199 SA.nil)] },
    {
      pc :=
        [SB.eq (SI.v 24) (SI.c (Int.ofNat 0)),
          SB.not (SB.eq (SI.app 114 (SA.l (SL.v 0) (SA.i (SI.v 14) (SA.i (SI.v 11) SA.nil)))) (SI.c (Int.ofNat 0))),
          SB.eq (SI.v 20) (SI.v 11), SB.v 1,
          SB.app 130
            (SA.l (SL.app 114 (SA.l (SL.v 0) (SA.i (SI.v 14) (SA.i (SI.v 11) SA.nil)))) (SA.i (SI.v 14) SA.nil)),
          SB.eq (SI.len (SL.app 114 (SA.l (SL.v 0) (SA.i (SI.v 14) (SA.i (SI.v 11) SA.nil))))) (SI.len (SL.v 0)),
          SB.v 2, SB.not (SB.v 5), SB.le (SI.c (Int.ofNat 1)) (SI.len (SL.v 0)),
          SB.le (SI.len (SL.v 0)) (SI.c (Int.ofNat 64)), SB.eq (SI.len (SL.v 0)) (SI.v 2), SB.c true,
          SB.app 131 (SA.l (SL.v 0) SA.nil),
          SB.or
            (SB.and (SB.v 1)
              (SB.and (SB.not (SB.app 130 (SA.l (SL.v 0) (SA.i (SI.v 14) SA.nil))))
                (SB.and (SB.eq (SI.v 20) (SI.sel (SL.v 0) (SI.v 14) 0))
                  (SB.and (SB.eq (SI.v 22) (SI.sel (SL.v 0) (SI.v 14) 2))
                    (SB.and (SB.eq (SI.v 24) (SI.sel (SL.v 0) (SI.v 14) 4))
                      (SB.or (SB.and (SB.v 3) (SB.not (SB.eq (SI.sel (SL.v 0) (SI.v 14) 3) (SI.c (Int.ofNat 0)))))
                        (SB.and (SB.not (SB.v 3)) (SB.eq (SI.sel (SL.v 0) (SI.v 14) 3) (SI.c (Int.ofNat 0))))))))))
            (SB.and (SB.not (SB.v 1)) (SB.app 130 (SA.l (SL.v 0) (SA.i (SI.v 14) SA.nil)))),
          SB.and (SB.c true) (SB.or (SB.v 5) (SB.not (SB.v 5)))],
      eqs := [Eqn.T (SB.app 199 SA.nil)] },
    {
      pc :=
        [SB.not (SB.eq (SI.v 24) (SI.c (Int.ofNat 0))),
          SB.not (SB.eq (SI.app 114 (SA.l (SL.v 0) (SA.i (SI.v 14) (SA.i (SI.v 11) SA.nil)))) (SI.c (Int.ofNat 0))),
          SB.eq (SI.v 20) (SI.v 11), SB.v 1,
          SB.app 130
            (SA.l (SL.app 114 (SA.l (SL.v 0) (SA.i (SI.v 14) (SA.i (SI.v 11) SA.nil)))) (SA.i (SI.v 14) SA.nil)),
          SB.eq (SI.len (SL.app 114 (SA.l (SL.v 0) (SA.i (SI.v 14) (SA.i (SI.v 11) SA.nil))))) (SI.len (SL.v 0)),
          SB.v 2, SB.not (SB.v 5), SB.le (SI.c (Int.ofNat 1)) (SI.len (SL.v 0)),
          SB.le (SI.len (SL.v 0)) (SI.c (Int.ofNat 64)), SB.eq (SI.len (SL.v 0)) (SI.v 2), SB.c true,
          SB.app 131 (SA.l (SL.v 0) SA.nil),
          SB.or
            (SB.and (SB.v 1)
              (SB.and (SB.not (SB.app 130 (SA.l (SL.v 0) (SA.i (SI.v 14) SA.nil))))
                (SB.and (SB.eq (SI.v 20) (SI.sel (SL.v 0) (SI.v 14) 0))
                  (SB.and (SB.eq (SI.v 22) (SI.sel (SL.v 0) (SI.v 14) 2))
                    (SB.and (SB.eq (SI.v 24) (SI.sel (SL.v 0) (SI.v 14) 4))
                      (SB.or (SB.and (SB.v 3) (SB.not (SB.eq (SI.sel (SL.v 0) (SI.v 14) 3) (SI.c (Int.ofNat 0)))))
                        (SB.and (SB.not (SB.v 3)) (SB.eq (SI.sel (SL.v 0) (SI.v 14) 3) (SI.c (Int.ofNat 0))))))))))
            (SB.and (SB.not (SB.v 1)) (SB.app 130 (SA.l (SL.v 0) (SA.i (SI.v 14) SA.nil)))),
          SB.and (SB.c true) (SB.or (SB.v 5) (SB.not (SB.v 5)))],
      eqs := [Eqn.T (SB.app 199 SA.nil)] },
    {
      pc :=
        [SB.eq (SI.app 114 (SA.l (SL.v 0) (SA.i (SI.v 14) (SA.i (SI.v 11) SA.nil)))) (SI.c (Int.ofNat 0)),
          SB.not (SB.eq (SI.v 20) (SI.v 11)), SB.v 1,
          SB.app 130
            (SA.l (SL.app 114 (SA.l (SL.v 0) (SA.i (SI.v 14) (SA.i (SI.v 11) SA.nil)))) (SA.i (SI.v 14) SA.nil)),
          SB.eq (SI.len (SL.app 114 (SA.l (SL.v 0) (SA.i (SI.v 14) (SA.i (SI.v 11) SA.nil))))) (SI.len (SL.v 0)),
          SB.v 2, SB.not (SB.v 5), SB.le (SI.c (Int.ofNat 1)) (SI.len (SL.v 0)),
          SB.le (SI.len (SL.v 0)) (SI.c (Int.ofNat 64)), SB.eq (SI.len (SL.v 0)) (SI.v 2), SB.c true,
          SB.app 131 (SA.l (SL.v 0) SA.nil),
          SB.or
            (SB.and (SB.v 1)
              (SB.and (SB.not (SB.app 130 (SA.l (SL.v 0) (SA.i (SI.v 14) SA.nil))))
                (SB.and (SB.eq (SI.v 20) (SI.sel (SL.v 0) (SI.v 14) 0))
                  (SB.and (SB.eq (SI.v 22) (SI.sel (SL.v 0) (SI.v 14) 2))
                    (SB.and (SB.eq (SI.v 24) (SI.sel (SL.v 0) (SI.v 14) 4))
                      (SB.or (SB.and (SB.v 3) (SB.not (SB.eq (SI.sel (SL.v 0) (SI.v 14) 3) (SI.c (Int.ofNat 0)))))
                        (SB.and (SB.not (SB.v 3)) (SB.eq (SI.sel (SL.v 0) (SI.v 14) 3) (SI.c (Int.ofNat 0))))))))))
            (SB.and (SB.not (SB.v 1)) (SB.app 130 (SA.l (SL.v 0) (SA.i (SI.v 14) SA.nil)))),
          SB.and (SB.c true) (SB.or (SB.v 5) (SB.not (SB.v 5)))],
      eqs := [Eqn.T (SB.app 199 SA.nil)] },
    {
      pc :=
        [SB.not (SB.eq (SI.app 114 (SA.l (SL.v 0) (SA.i (SI.v 14) (SA.i (SI.v 11) SA.nil)))) (SI.c (Int.ofNat 0))),
          SB.not (SB.eq (SI.v 20) (SI.v 11)), SB.v 1,
          SB.app 130
            (SA.l (SL.app 114 (SA.l (SL.v 0) (SA.i (SI.v 14) (SA.i (SI.v 11) SA.nil)))) (SA.i (SI.v 14) SA.nil)),
          SB.eq (SI.len (SL.app 114 (SA.l (SL.v 0) (SA.i (SI.v 14) (SA.i (SI.v 11) SA.nil))))) (SI.len (SL.v 0)),
          SB.v 2, SB.not (SB.v 5), SB.le (SI.c (Int.ofNat 1)) (SI.len (SL.v 0)),
          SB.le (SI.len (SL.v 0)) (SI.c (Int.ofNat 64)), SB.eq (SI.len (SL.v 0)) (SI.v 2), SB.c true,
          SB.app 131 (SA.l (SL.v 0) SA.nil),
          SB.or
            (SB.and (SB.v 1)
              (SB.and (SB.not (SB.app 130 (SA.l (SL.v 0) (SA.i (SI.v 14) SA.nil))))
                (SB.and (SB.eq (SI.v 20) (SI.sel (SL.v 0) (SI.v 14) 0))
                  (SB.and (SB.eq (SI.v 22) (SI.sel (SL.v 0) (SI.v 14) 2))
                    (SB.and (SB.eq (SI.v 24) (SI.sel (SL.v 0) (SI.v 14) 4))
                      (SB.or (SB.and (SB.v 3) (SB.not (SB.eq (SI.sel (SL.v 0) (SI.v 14) 3) (SI.c (Int.ofNat 0)))))
                        (SB.and (SB.not (SB.v 3)) (SB.eq (SI.sel (SL.v 0) (SI.v 14) 3) (SI.c (Int.ofNat 0))))))))))
            (SB.and (SB.not (SB.v 1)) (SB.app 130 (SA.l (SL.v 0) (SA.i (SI.v 14) SA.nil)))),
          SB.and (SB.c true) (SB.or (SB.v 5) (SB.not (SB.v 5)))],
      eqs := [Eqn.T (SB.app 199 SA.nil)] },
    {
      pc :=
        [SB.eq (SI.app 114 (SA.l (SL.v 0) (SA.i (SI.v 14) (SA.i (SI.v 11) SA.nil)))) (SI.c (Int.ofNat 0)),
          SB.not (SB.v 1),
          SB.app 130
            (SA.l (SL.app 114 (SA.l (SL.v 0) (SA.i (SI.v 14) (SA.i (SI.v 11) SA.nil)))) (SA.i (SI.v 14) SA.nil)),
          SB.eq (SI.len (SL.app 114 (SA.l (SL.v 0) (SA.i (SI.v 14) (SA.i (SI.v 11) SA.nil))))) (SI.len (SL.v 0)),
          SB.v 2, SB.not (SB.v 5), SB.le (SI.c (Int.ofNat 1)) (SI.len (SL.v 0)),
          SB.le (SI.len (SL.v 0)) (SI.c (Int.ofNat 64)), SB.eq (SI.len (SL.v 0)) (SI.v 2), SB.c true,
          SB.app 131 (SA.l (SL.v 0) SA.nil),
          SB.or
            (SB.and (SB.v 1)
              (SB.and (SB.not (SB.app 130 (SA.l (SL.v 0) (SA.i (SI.v 14) SA.nil))))
                (SB.and (SB.eq (SI.v 20) (SI.sel (SL.v 0) (SI.v 14) 0))
                  (SB.and (SB.eq (SI.v 22) (SI.sel (SL.v 0) (SI.v 14) 2))
                    (SB.and (SB.eq (SI.v 24) (SI.sel (SL.v 0) (SI.v 14) 4))
                      (SB.or (SB.and (SB.v 3) (SB.not (SB.eq (SI.sel (SL.v 0) (SI.v 14) 3) (SI.c (Int.ofNat 0)))))
                        (SB.and (SB.not (SB.v 3)) (SB.eq (SI.sel (SL.v 0) (SI.v 14) 3) (SI.c (Int.ofNat 0))))))))))
            (SB.and (SB.not (SB.v 1)) (SB.app 130 (SA.l (SL.v 0) (SA.i (SI.v 14) SA.nil)))),
          SB.and (SB.c true) (SB.or (SB.v 5) (SB.not (SB.v 5)))],
      eqs := [Eqn.T (SB.app 199 SA.nil)] },
    {
      pc :=
        [SB.not (SB.eq (SI.app 114 (SA.l (SL.v 0) (SA.i (SI.v 14) (SA.i (SI.v 11) SA.nil)))) (SI.c (Int.ofNat 0))),
          SB.not (SB.v 1),
          SB.app 130
            (SA.l (SL.app 114 (SA.l (SL.v 0) (SA.i (SI.v 14) (SA.i (SI.v 11) SA.nil)))) (SA.i (SI.v 14) SA.nil)),
          SB.eq (SI.len (SL.app 114 (SA.l (SL.v 0) (SA.i (SI.v 14) (SA.i (SI.v 11) SA.nil))))) (SI.len (SL.v 0)),
          SB.v 2, SB.not (SB.v 5), SB.le (SI.c (Int.ofNat 1)) (SI.len (SL.v 0)),
          SB.le (SI.len (SL.v 0)) (SI.c (Int.ofNat 64)), SB.eq (SI.len (SL.v 0)) (SI.v 2), SB.c true,
          SB.app 131 (SA.l (SL.v 0) SA.nil),
          SB.or
            (SB.and (SB.v 1)
              (SB.and (SB.not (SB.app 130 (SA.l (SL.v 0) (SA.i (SI.v 14) SA.nil))))
                (SB.and (SB.eq (SI.v 20) (SI.sel (SL.v 0) (SI.v 14) 0))
                  (SB.and (SB.eq (SI.v 22) (SI.sel (SL.v 0) (SI.v 14) 2))
                    (SB.and (SB.eq (SI.v 24) (SI.sel (SL.v 0) (SI.v 14) 4))
                      (SB.or (SB.and (SB.v 3) (SB.not (SB.eq (SI.sel (SL.v 0) (SI.v 14) 3) (SI.c (Int.ofNat 0)))))
                        (SB.and (SB.not (SB.v 3)) (SB.eq (SI.sel (SL.v 0) (SI.v 14) 3) (SI.c (Int.ofNat 0))))))))))
            (SB.and (SB.not (SB.v 1)) (SB.app 130 (SA.l (SL.v 0) (SA.i (SI.v 14) SA.nil)))),
          SB.and (SB.c true) (SB.or (SB.v 5) (SB.not (SB.v 5)))],
      eqs := [Eqn.T (SB.app 131 (SA.l (SL.app 114 (SA.l (SL.v 0) (SA.i (SI.v 14) (SA.i (SI.v 11) SA.nil)))) SA.nil))] },
    {
      pc :=
        [SB.eq (SI.v 24) (SI.c (Int.ofNat 0)),
          SB.eq (SI.app 114 (SA.l (SL.v 0) (SA.i (SI.v 14) (SA.i (SI.v 11) SA.nil)))) (SI.c (Int.ofNat 0)),
          SB.eq (SI.v 20) (SI.v 11), SB.v 1,
          SB.lt (SI.v 14) (SI.len (SL.app 114 (SA.l (SL.v 0) (SA.i (SI.v 14) (SA.i (SI.v 11) SA.nil))))),
          SB.le (SI.c (Int.ofNat 0)) (SI.v 14),
          SB.not
            (SB.app 130
              (SA.l (SL.app 114 (SA.l (SL.v 0) (SA.i (SI.v 14) (SA.i (SI.v 11) SA.nil)))) (SA.i (SI.v 14) SA.nil))),
          SB.eq (SI.len (SL.app 114 (SA.l (SL.v 0) (SA.i (SI.v 14) (SA.i (SI.v 11) SA.nil))))) (SI.len (SL.v 0)),
          SB.v 2, SB.not (SB.v 5), SB.le (SI.c (Int.ofNat 1)) (SI.len (SL.v 0)),
          SB.le (SI.len (SL.v 0)) (SI.c (Int.ofNat 64)), SB.eq (SI.len (SL.v 0)) (SI.v 2), SB.c true,
          SB.app 131 (SA.l (SL.v 0) SA.nil),
          SB.or
            (SB.and (SB.v 1)
              (SB.and (SB.not (SB.app 130 (SA.l (SL.v 0) (SA.i (SI.v 14) SA.nil))))
                (SB.and (SB.eq (SI.v 20) (SI.sel (SL.v 0) (SI.v 14) 0))
                  (SB.and (SB.eq (SI.v 22) (SI.sel (SL.v 0) (SI.v 14) 2))
                    (SB.and (SB.eq (SI.v 24) (SI.sel (SL.v 0) (SI.v 14) 4))
                      (SB.or (SB.and (SB.v 3) (SB.not (SB.eq (SI.sel (SL.v 0) (SI.v 14) 3) (SI.c (Int.ofNat 0)))))
                        (SB.and (SB.not (SB.v 3)) (SB.eq (SI.sel (SL.v 0) (SI.v 14) 3) (SI.c (Int.ofNat 0))))))))))
            (SB.and (SB.not (SB.v 1)) (SB.app 130 (SA.l (SL.v 0) (SA.i (SI.v 14) SA.nil)))),
          SB.and (SB.c true) (SB.or (SB.v 5) (SB.not (SB.v 5)))],
      eqs := [Eqn.T (SB.app 199 SA.nil)] },
    {
      pc :=
        [SB.not (SB.eq (SI.v 24) (SI.c (Int.ofNat 0))),
          SB.eq (SI.app 114 (SA.l (SL.v 0) (SA.i (SI.v 14) (SA.i (SI.v 11) SA.nil)))) (SI.c (Int.ofNat 0)),
          SB.eq (SI.v 20) (SI.v 11), SB.v 1,
          SB.lt (SI.v 14) (SI.len (SL.app 114 (SA.l (SL.v 0) (SA.i (SI.v 14) (SA.i (SI.v 11) SA.nil))))),
          SB.le (SI.c (Int.ofNat 0)) (SI.v 14),
          SB.not
            (SB.app 130
              (SA.l (SL.app 114 (SA.l (SL.v 0) (SA.i (SI.v 14) (SA.i (SI.v 11) SA.nil)))) (SA.i (SI.v 14) SA.nil))),
          SB.eq (SI.len (SL.app 114 (SA.l (SL.v 0) (SA.i (SI.v 14) (SA.i (SI.v 11) SA.nil))))) (SI.len (SL.v 0)),
          SB.v 2, SB.not (SB.v 5), SB.le (SI.c (Int.ofNat 1)) (SI.len (SL.v 0)),
          SB.le (SI.len (SL.v 0)) (SI.c (Int.ofNat 64)), SB.eq (SI.len (SL.v 0)) (SI.v 2), SB.c true,
          SB.app 131 (SA.l (SL.v 0) SA.nil),
          SB.or
            (SB.and (SB.v 1)
              (SB.and (SB.not (SB.app 130 (SA.l (SL.v 0) (SA.i (SI.v 14) SA.nil))))
                (SB.and (SB.eq (SI.v 20) (SI.sel (SL.v 0) (SI.v 14) 0))
                  (SB.and (SB.eq (SI.v 22) (SI.sel (SL.v 0) (SI.v 14) 2))
                    (SB.and (SB.eq (SI.v 24) (SI.sel (SL.v 0) (SI.v 14) 4))
                      (SB.or (SB.and (SB.v 3) (SB.not (SB.eq (SI.sel (SL.v 0) (SI.v 14) 3) (SI.c (Int.ofNat 0)))))
                        (SB.and (SB.not (SB.v 3)) (SB.eq (SI.sel (SL.v 0) (SI.v 14) 3) (SI.c (Int.ofNat 0))))))))))
            (SB.and (SB.not (SB.v 1)) (SB.app 130 (SA.l (SL.v 0) (SA.i (SI.v 14) SA.nil)))),
          SB.and (SB.c true) (SB.or (SB.v 5) (SB.not (SB.v 5)))],
      eqs := [Eqn.T (SB.app 199 SA.nil)] },
    {
      pc :=
        [SB.eq (SI.v 24) (SI.c (Int.ofNat 0)),
          SB.not (SB.eq (SI.app 114 (SA.l (SL.v 0) (SA.i (SI.v 14) (SA.i (SI.v 11) SA.nil)))) (SI.c (Int.ofNat 0))),
          SB.eq (SI.v 20) (SI.v 11), SB.v 1,
          SB.lt (SI.v 14) (SI.len (SL.app 114 (SA.l (SL.v 0) (SA.i (SI.v 14) (SA.i (SI.v 11) SA.nil))))),
          SB.le (SI.c (Int.ofNat 0)) (SI.v 14),
          SB.not
            (SB.app 130
              (SA.l (SL.app 114 (SA.l (SL.v 0) (SA.i (SI.v 14) (SA.i (SI.v 11) SA.nil)))) (SA.i (SI.v 14) SA.nil))),
          SB.eq (SI.len (SL.app 114 (SA.l (SL.v 0) (SA.i (SI.v 14) (SA.i (SI.v 11) SA.nil))))) (SI.len (SL.v 0)),
          SB.v 2, SB.not (SB.v 5), SB.le (SI.c (Int.ofNat 1)) (SI.len (SL.v 0)),
          SB.le (SI.len (SL.v 0)) (SI.c (Int.ofNat 64)), SB.eq (SI.len (SL.v 0)) (SI.v 2), SB.c true,
          SB.app 131 (SA.l (SL.v 0) SA.nil),
          SB.or
            (SB.and (SB.v 1)
              (SB.and (SB.not (SB.app 130 (SA.l (SL.v 0) (SA.i (SI.v 14) SA.nil))))
                (SB.and (SB.eq (SI.v 20) (SI.sel (SL.v 0) (SI.v 14) 0))
                  (SB.and (SB.eq (SI.v 22) (SI.sel (SL.v 0) (SI.v 14) 2))
                    (SB.and (SB.eq (SI.v 24) (SI.sel (SL.v 0) (SI.v 14) 4))
                      (SB.or (SB.and (SB.v 3) (SB.not (SB.eq (SI.sel (SL.v 0) (SI.v 14) 3) (SI.c (Int.ofNat 0)))))
                        (SB.and (SB.not (SB.v 3)) (SB.eq (SI.sel (SL.v 0) (SI.v 14) 3) (SI.c (Int.ofNat 0))))))))))
            (SB.and (SB.not (SB.v 1)) (SB.app 130 (SA.l (SL.v 0) (SA.i (SI.v 14) SA.nil)))),
          SB.and (SB.c true) (SB.or (SB.v 5) (SB.not (SB.v 5)))],
      eqs := [Eqn.T (SB.app 199 SA.nil)] },
    {
      pc :=
        [SB.not (SB.eq (SI.v 24) (SI.c (Int.ofNat 0))),
          SB.not (SB.eq (SI.app 114 (SA.l (SL.v 0) (SA.i (SI.v 14) (SA.i (SI.v 11) SA.nil)))) (SI.c (Int.ofNat 0))),
          SB.eq (SI.v 20) (SI.v 11), SB.v 1,
          SB.lt (SI.v 14) (SI.len (SL.app 114 (SA.l (SL.v 0) (SA.i (SI.v 14) (SA.i (SI.v 11) SA.nil))))),
          SB.le (SI.c (Int.ofNat 0)) (SI.v 14),
          SB.not
            (SB.app 130
              (SA.l (SL.app 114 (SA.l (SL.v 0) (SA.i (SI.v 14) (SA.i (SI.v 11) SA.nil)))) (SA.i (SI.v 14) SA.nil))),
          SB.eq (SI.len (SL.app 114 (SA.l (SL.v 0) (SA.i (SI.v 14) (SA.i (SI.v 11) SA.nil))))) (SI.len (SL.v 0)),
          SB.v 2, SB.not (SB.v 5), SB.le (SI.c (Int.ofNat 1)) (SI.len (SL.v 0)),
          SB.le (SI.len (SL.v 0)) (SI.c (Int.ofNat 64)), SB.eq (SI.len (SL.v 0)) (SI.v 2), SB.c true,
          SB.app 131 (SA.l (SL.v 0) SA.nil),
          SB.or
            (SB.and (SB.v 1)
              (SB.and (SB.not (SB.app 130 (SA.l (SL.v 0) (SA.i (SI.v 14) SA.nil))))
                (SB.and (SB.eq (SI.v 20) (SI.sel (SL.v 0) (SI.v 14) 0))
                  (SB.and (SB.eq (SI.v 22) (SI.sel (SL.v 0) (SI.v 14) 2))
                    (SB.and (SB.eq (SI.v 24) (SI.sel (SL.v 0) (SI.v 14) 4))
                      (SB.or (SB.and (SB.v 3) (SB.not (SB.eq (SI.sel (SL.v 0) (SI.v 14) 3) (SI.c (Int.ofNat 0)))))
                        (SB.and (SB.not (SB.v 3)) (SB.eq (SI.sel (SL.v 0) (SI.v 14) 3) (SI.c (Int.ofNat 0))))))))))
            (SB.and (SB.not (SB.v 1)) (SB.app 130 (SA.l (SL.v 0) (SA.i (SI.v 14) SA.nil)))),
          SB.and (SB.c true) (SB.or (SB.v 5) (SB.not (SB.v 5)))],
      eqs := [Eqn.T (SB.app 131 (SA.l (SL.app 114 (SA.l (SL.v 0) (SA.i (SI.v 14) (SA.i (SI.v 11) SA.nil)))) SA.nil))] },
    {
      pc :=
        [SB.eq (SI.app 114 (SA.l (SL.v 0) (SA.i (SI.v 14) (SA.i (SI.v 11) SA.nil)))) (SI.c (Int.ofNat 0)),
          SB.not (SB.eq (SI.v 20) (SI.v 11)), SB.v 1,
          SB.lt (SI.v 14) (SI.len (SL.app 114 (SA.l (SL.v 0) (SA.i (SI.v 14) (SA.i (SI.v 11) SA.nil))))),
          SB.le (SI.c (Int.ofNat 0)) (SI.v 14),
          SB.not
            (SB.app 130
              (SA.l (SL.app 114 (SA.l (SL.v 0) (SA.i (SI.v 14) (SA.i (SI.v 11) SA.nil)))) (SA.i (SI.v 14) SA.nil))),
          SB.eq (SI.len (SL.app 114 (SA.l (SL.v 0) (SA.i (SI.v 14) (SA.i (SI.v 11) SA.nil))))) (SI.len (SL.v 0)),
          SB.v 2, SB.not (SB.v 5), SB.le (SI.c (Int.ofNat 1)) (SI.len (SL.v 0)),
          SB.le (SI.len (SL.v 0)) (SI.c (Int.ofNat 64)), SB.eq (SI.len (SL.v 0)) (SI.v 2), SB.c true,
          SB.app 131 (SA.l (SL.v 0) SA.nil),
          SB.or
            (SB.and (SB.v 1)
              (SB.and (SB.not (SB.app 130 (SA.l (SL.v 0) (SA.i (SI.v 14) SA.nil))))
                (SB.and (SB.eq (SI.v 20) (SI.sel (SL.v 0) (SI.v 14) 0))
                  (SB.and (SB.eq (SI.v 22) (SI.sel (SL.v 0) (SI.v 14) 2))
                    (SB.and (SB.eq (SI.v 24) (SI.sel (SL.v 0) (SI.v 14) 4))
                      (SB.or (SB.and (SB.v 3) (SB.not (SB.eq (SI.sel (SL.v 0) (SI.v 14) 3) (SI.c (Int.ofNat 0)))))
                        (SB.and (SB.not (SB.v 3)) (SB.eq (SI.sel (SL.v 0) (SI.v 14) 3) (SI.c (Int.ofNat 0))))))))))
            (SB.and (SB.not (SB.v 1)) (SB.app 130 (SA.l (SL.v 0) (SA.i (SI.v 14) SA.nil)))),
          SB.and (SB.c true) (SB.or (SB.v 5) (SB.not (SB.v 5)))],
      eqs := [Eqn.T (SB.app 199 SA.nil)] },
    {
      pc :=
        [SB.not (SB.eq (SI.app 114 (SA.l (SL.v 0) (SA.i (SI.v 14) (SA.i (SI.v 11) SA.nil)))) (SI.c (Int.ofNat 0))),
          SB.not (SB.eq (SI.v 20) (SI.v 11)), SB.v 1,
          SB.lt (SI.v 14) (SI.len (SL.app 114 (SA.l (SL.v 0) (SA.i (SI.v 14) (SA.i (SI.v 11) SA.nil))))),
          SB.le (SI.c (Int.ofNat 0)) (SI.v 14),
          SB.not
            (SB.app 130
              (SA.l (SL.app 114 (SA.l (SL.v 0) (SA.i (SI.v 14) (SA.i (SI.v 11) SA.nil)))) (SA.i (SI.v 14) SA.nil))),
          SB.eq (SI.len (SL.app 114 (SA.l (SL.v 0) (SA.i (SI.v 14) (SA.i (SI.v 11) SA.nil))))) (SI.len (SL.v 0)),
          SB.v 2, SB.not (SB.v 5), SB.le (SI.c (Int.ofNat 1)) (SI.len (SL.v 0)),
          SB.le (SI.len (SL.v 0)) (SI.c (Int.ofNat 64)), SB.eq (SI.len (SL.v 0)) (SI.v 2), SB.c true,
          SB.app 131 (SA.l (SL.v 0) SA.nil),
          SB.or
            (SB.and (SB.v 1)
              (SB.and (SB.not (SB.app 130 (SA.l (SL.v 0) (SA.i (SI.v 14) SA.nil))))
                (SB.and (SB.eq (SI.v 20) (SI.sel (SL.v 0) (SI.v 14) 0))
                  (SB.and (SB.eq (SI.v 22) (SI.sel (SL.v 0) (SI.v 14) 2))
                    (SB.and (SB.eq (SI.v 24) (SI.sel (SL.v 0) (SI.v 14) 4))
                      (SB.or (SB.and (SB.v 3) (SB.not (SB.eq (SI.sel (SL.v 0) (SI.v 14) 3) (SI.c (Int.ofNat 0)))))
                        (SB.and (SB.not (SB.v 3)) (SB.eq (SI.sel (SL.v 0) (SI.v 14) 3) (SI.c (Int.ofNat 0))))))))))
            (SB.and (SB.not (SB.v 1)) (SB.app 130 (SA.l (SL.v 0) (SA.i (SI.v 14) SA.nil)))),
          SB.and (SB.c true) (SB.or (SB.v 5) (SB.not (SB.v 5)))],
      eqs := [Eqn.T (SB.app 131 (SA.l (SL.app 114 (SA.l (SL.v 0) (SA.i (SI.v 14) (SA.i (SI.v 11) SA.nil)))) SA.nil))] },
    {
      pc :=
        [SB.eq (SI.app 114 (SA.l (SL.v 0) (SA.i (SI.v 14) (SA.i (SI.v 11) SA.nil)))) (SI.c (Int.ofNat 0)),
          SB.not (SB.v 1),
          SB.lt (SI.v 14) (SI.len (SL.app 114 (SA.l (SL.v 0) (SA.i (SI.v 14) (SA.i (SI.v 11) SA.nil))))),
          SB.le (SI.c (Int.ofNat 0)) (SI.v 14),
          SB.not
            (SB.app 130
              (SA.l (SL.app 114 (SA.l (SL.v 0) (SA.i (SI.v 14) (SA.i (SI.v 11) SA.nil)))) (SA.i (SI.v 14) SA.nil))),
          SB.eq (SI.len (SL.app 114 (SA.l (SL.v 0) (SA.i (SI.v 14) (SA.i (SI.v 11) SA.nil))))) (SI.len (SL.v 0)),
          SB.v 2, SB.not (SB.v 5), SB.le (SI.c (Int.ofNat 1)) (SI.len (SL.v 0)),
          SB.le (SI.len (SL.v 0)) (SI.c (Int.ofNat 64)), SB.eq (SI.len (SL.v 0)) (SI.v 2), SB.c true,
          SB.app 131 (SA.l (SL.v 0) SA.nil),
          SB.or
            (SB.and (SB.v 1)
              (SB.and (SB.not (SB.app 130 (SA.l (SL.v 0) (SA.i (SI.v 14) SA.nil))))
                (SB.and (SB.eq (SI.v 20) (SI.sel (SL.v 0) (SI.v 14) 0))
                  (SB.and (SB.eq (SI.v 22) (SI.sel (SL.v 0) (SI.v 14) 2))
                    (SB.and (SB.eq (SI.v 24) (SI.sel (SL.v 0) (SI.v 14) 4))
                      (SB.or (SB.and (SB.v 3) (SB.not (SB.eq (SI.sel (SL.v 0) (SI.v 14) 3) (SI.c (Int.ofNat 0)))))
                        (SB.and (SB.not (SB.v 3)) (SB.eq (SI.sel (SL.v 0) (SI.v 14) 3) (SI.c (Int.ofNat 0))))))))))
            (SB.and (SB.not (SB.v 1)) (SB.app 130 (SA.l (SL.v 0) (SA.i (SI.v 14) SA.nil)))),
          SB.and (SB.c true) (SB.or (SB.v 5) (SB.not (SB.v 5)))],
      eqs := [Eqn.T (SB.app 199 SA.nil)] },
    {
      pc :=
        [SB.not (SB.eq (SI.app 114 (SA.l (SL.v 0) (SA.i (SI.v 14) (SA.i (SI.v 11) SA.nil)))) (SI.c (Int.ofNat 0))),
          SB.not (SB.v 1),
          SB.lt (SI.v 14) (SI.len (SL.app 114 (SA.l (SL.v 0) (SA.i (SI.v 14) (SA.i (SI.v 11) SA.nil))))),
          SB.le (SI.c (Int.ofNat 0)) (SI.v 14),
          SB.not
            (SB.app 130
              (SA.l (SL.app 114 (SA.l (SL.v 0) (SA.i (SI.v 14) (SA.i (SI.v 11) SA.nil)))) (SA.i (SI.v 14) SA.nil))),
          SB.eq (SI.len (SL.app 114 (SA.l (SL.v 0) (SA.i (SI.v 14) (SA.i (SI.v 11) SA.nil))))) (SI.len (SL.v 0)),
          SB.v 2, SB.not (SB.v 5), SB.le (SI.c (Int.ofNat 1)) (SI.len (SL.v 0)),
          SB.le (SI.len (SL.v 0)) (SI.c (Int.ofNat 64)), SB.eq (SI.len (SL.v 0)) (SI.v 2), SB.c true,
          SB.app 131 (SA.l (SL.v 0) SA.nil),
          SB.or
            (SB.and (SB.v 1)
              (SB.and (SB.not (SB.app 130 (SA.l (SL.v 0) (SA.i (SI.v 14) SA.nil))))
                (SB.and (SB.eq (SI.v 20) (SI.sel (SL.v 0) (SI.v 14) 0))
                  (SB.and (SB.eq (SI.v 22) (SI.sel (SL.v 0) (SI.v 14) 2))
                    (SB.and (SB.eq (SI.v 24) (SI.sel (SL.v 0) (SI.v 14) 4))
                      (SB.or (SB.and (SB.v 3) (SB.not (SB.eq (SI.sel (SL.v 0) (SI.v 14) 3) (SI.c (Int.ofNat 0)))))
                        (SB.and (SB.not (SB.v 3)) (SB.eq (SI.sel (SL.v 0) (SI.v 14) 3) (SI.c (Int.ofNat 0))))))))))
            (SB.and (SB.not (SB.v 1)) (SB.app 130 (SA.l (SL.v 0) (SA.i (SI.v 14) SA.nil)))),
          SB.and (SB.c true) (SB.or (SB.v 5) (SB.not (SB.v 5)))],
      eqs := [Eqn.T (SB.app 199 SA.nil)] }] := by kernel_rfl
theorem us24_ok : us24.ok Φ Try.prog := by
  refine ⟨by kernel_rfl, part_rule (fun ρ => t6_ok ρ) (loopAt_sub (by kernel_rfl)) us24_obs ?_⟩
  simp only [and_imp, List.forall_mem_cons, List.not_mem_nil, false_implies, implies_true, and_true, Ob.ok, holds, Eqn.ok, evB_eq, evB_lt, evB_le, evB_not, evB_and, evB_or, evB_eqL, evB_app, evB_v, evB_c, ev_sel, ev_len, ev_v, ev_c, ev_add, ev_sub, ev_mul, ev_quo, ev_rem, ev_bits, ev_wrap, evL_v, evL_lit, evL_app, ev_app, evA_l, evA_i, evA_nil, std_min, std_max, std_cat, std_take, std_drop, std_row, std_set, std_rep, std_find, std_put, std_del, std_flag, std_unflag, std_clr, std_left, std_copy, ints_cons, ints_nil, ofNat_lit, negSucc_lit, decide_eq_true_eq, Bool.and_eq_true, Bool.or_eq_true, Bool.not_eq_true', Bool.and_eq_false_iff, Bool.or_eq_false_iff, decide_eq_false_iff_not, aI110, aI111, aI112, aI113, aI114, aL100, aL101, aL102, aL103, aL110, aL112, aL113, aL114, aL115, aL116, aB130, aB131, aB132, aB199]
  repeat' apply And.intro
  all_goals intro ρ hR
  all_goals intros
  all_goals first
    | (omega)
    | (have hT : ∀ r ∈ ρ.l 0, okRow K5 r := hR.row 2 rfl rfl
       have hu : usesB (ρ.l 0) = true := by with_reducible assumption
       have e := rev_now hT (id := ρ.i 14) (o := ρ.i 11) hu
       have u := uses_rev hu (ρ.i 14) (ρ.i 11)
       exact u)
    | (have hT : ∀ r ∈ ρ.l 0, okRow K5 r := hR.row 2 rfl rfl
       have hu : usesB (ρ.l 0) = true := by with_reducible assumption
       have e := rev_now hT (id := ρ.i 14) (o := ρ.i 11) hu
       have u := uses_rev hu (ρ.i 14) (ρ.i 11)
       clear hT hR
       exfalso
       grind)
theorem v1_ok (ρ : Env) : TblOK Φ ρ Try.prog v1 := addLp_ok (t6_ok ρ) us24_ok
set_option maxRecDepth 100000 in
theorem us19_obs : partObs Φ Try.prog v1 1000 us19.f (loopAt Try.prog us19.f us19.id) us19.n us19.T us19.outs = some
  [{
      pc :=
        [SB.eq (SI.wrap IntKind.i64 (SI.sub (SI.v 24) (SI.c (Int.ofNat 1)))) (SI.c (Int.ofNat 0)),
          SB.eq (SI.v 22) (SI.v 11), SB.v 1,
          SB.eq (SI.app 113 (SA.l (SL.v 0) (SA.i (SI.v 14) (SA.i (SI.v 11) SA.nil)))) (SI.c (Int.ofNat 0)),
          SB.app 130
            (SA.l (SL.app 113 (SA.l (SL.v 0) (SA.i (SI.v 14) (SA.i (SI.v 11) SA.nil)))) (SA.i (SI.v 14) SA.nil)),
          SB.eq (SI.len (SL.app 113 (SA.l (SL.v 0) (SA.i (SI.v 14) (SA.i (SI.v 11) SA.nil))))) (SI.len (SL.v 0)),
          SB.v 2, SB.v 5, SB.le (SI.c (Int.ofNat 1)) (SI.len (SL.v 0)), SB.le (SI.len (SL.v 0)) (SI.c (Int.ofNat 64)),
          SB.eq (SI.len (SL.v 0)) (SI.v 2), SB.c true, SB.app 131 (SA.l (SL.v 0) SA.nil),
          SB.or
            (SB.and (SB.v 1)
              (SB.and (SB.not (SB.app 130 (SA.l (SL.v 0) (SA.i (SI.v 14) SA.nil))))
                (SB.and (SB.eq (SI.v 20) (SI.sel (SL.v 0) (SI.v 14) 0))
                  (SB.and (SB.eq (SI.v 22) (SI.sel (SL.v 0) (SI.v 14) 2))
                    (SB.and (SB.eq (SI.v 24) (SI.sel (SL.v 0) (SI.v 14) 4))
                      (SB.or (SB.and (SB.v 3) (SB.not (SB.eq (SI.sel (SL.v 0) (SI.v 14) 3) (SI.c (Int.ofNat 0)))))
                        (SB.and (SB.not (SB.v 3)) (SB.eq (SI.sel (SL.v 0) (SI.v 14) 3) (SI.c (Int.ofNat 0))))))))))
            (SB.and (SB.not (SB.v 1)) (SB.app 130 (SA.l (SL.v 0) (SA.i (SI.v 14) SA.nil)))),
          SB.and (SB.c true) (SB.or (SB.v 5) (SB.not (SB.v 5)))],
      eqs := [Eqn.T (SB.app 131 (SA.l (SL.app 113 (SA.l (SL.v 0) (SA.i (SI.v 14) (SA.i (SI.v 11) SA.nil)))) SA.nil))] },
    {
      pc :=
        [SB.not (SB.eq (SI.wrap IntKind.i64 (SI.sub (SI.v 24) (SI.c (Int.ofNat 1)))) (SI.c (Int.ofNat 0))),
          SB.eq (SI.v 22) (SI.v 11), SB.v 1,
          SB.eq (SI.app 113 (SA.l (SL.v 0) (SA.i (SI.v 14) (SA.i (SI.v 11) SA.nil)))) (SI.c (Int.ofNat 0)),
          SB.app 130
            (SA.l (SL.app 113 (SA.l (SL.v 0) (SA.i (SI.v 14) (SA.i (SI.v 11) SA.nil)))) (SA.i (SI.v 14) SA.nil)),
          SB.eq (SI.len (SL.app 113 (SA.l (SL.v 0) (SA.i (SI.v 14) (SA.i (SI.v 11) SA.nil))))) (SI.len (SL.v 0)),
          SB.v 2, SB.v 5, SB.le (SI.c (Int.ofNat 1)) (SI.len (SL.v 0)), SB.le (SI.len (SL.v 0)) (SI.c (Int.ofNat 64)),
          SB.eq (SI.len (SL.v 0)) (SI.v 2), SB.c true, SB.app 131 (SA.l (SL.v 0) SA.nil),
          SB.or
            (SB.and (SB.v 1)
              (SB.and (SB.not (SB.app 130 (SA.l (SL.v 0) (SA.i (SI.v 14) SA.nil))))
                (SB.and (SB.eq (SI.v 20) (SI.sel (SL.v 0) (SI.v 14) 0))
                  (SB.and (SB.eq (SI.v 22) (SI.sel (SL.v 0) (SI.v 14) 2))
                    (SB.and (SB.eq (SI.v 24) (SI.sel (SL.v 0) (SI.v 14) 4))
                      (SB.or (SB.and (SB.v 3) (SB.not (SB.eq (SI.sel (SL.v 0) (SI.v 14) 3) (SI.c (Int.ofNat 0)))))
                        (SB.and (SB.not (SB.v 3)) (SB.eq (SI.sel (SL.v 0) (SI.v 14) 3) (SI.c (Int.ofNat 0))))))))))
            (SB.and (SB.not (SB.v 1)) (SB.app 130 (SA.l (SL.v 0) (SA.i (SI.v 14) SA.nil)))),
          SB.and (SB.c true) (SB.or (SB.v 5) (SB.not (SB.v 5)))],
      eqs := [Eqn.T (SB.app 199 SA.nil)] },
    {
      pc :=
        [SB.not (SB.eq (SI.v 22) (SI.v 11)), SB.v 1,
          SB.eq (SI.app 113 (SA.l (SL.v 0) (SA.i (SI.v 14) (SA.i (SI.v 11) SA.nil)))) (SI.c (Int.ofNat 0)),
          SB.app 130
            (SA.l (SL.app 113 (SA.l (SL.v 0) (SA.i (SI.v 14) (SA.i (SI.v 11) SA.nil)))) (SA.i (SI.v 14) SA.nil)),
          SB.eq (SI.len (SL.app 113 (SA.l (SL.v 0) (SA.i (SI.v 14) (SA.i (SI.v 11) SA.nil))))) (SI.len (SL.v 0)),
          SB.v 2, SB.v 5, SB.le (SI.c (Int.ofNat 1)) (SI.len (SL.v 0)), SB.le (SI.len (SL.v 0)) (SI.c (Int.ofNat 64)),
          SB.eq (SI.len (SL.v 0)) (SI.v 2), SB.c true, SB.app 131 (SA.l (SL.v 0) SA.nil),
          SB.or
            (SB.and (SB.v 1)
              (SB.and (SB.not (SB.app 130 (SA.l (SL.v 0) (SA.i (SI.v 14) SA.nil))))
                (SB.and (SB.eq (SI.v 20) (SI.sel (SL.v 0) (SI.v 14) 0))
                  (SB.and (SB.eq (SI.v 22) (SI.sel (SL.v 0) (SI.v 14) 2))
                    (SB.and (SB.eq (SI.v 24) (SI.sel (SL.v 0) (SI.v 14) 4))
                      (SB.or (SB.and (SB.v 3) (SB.not (SB.eq (SI.sel (SL.v 0) (SI.v 14) 3) (SI.c (Int.ofNat 0)))))
                        (SB.and (SB.not (SB.v 3)) (SB.eq (SI.sel (SL.v 0) (SI.v 14) 3) (SI.c (Int.ofNat 0))))))))))
            (SB.and (SB.not (SB.v 1)) (SB.app 130 (SA.l (SL.v 0) (SA.i (SI.v 14) SA.nil)))),
          SB.and (SB.c true) (SB.or (SB.v 5) (SB.not (SB.v 5)))],
      eqs := [Eqn.T (SB.app 199 SA.nil)] },
    {
      pc :=
        [SB.not (SB.v 1),
          SB.eq (SI.app 113 (SA.l (SL.v 0) (SA.i (SI.v 14) (SA.i (SI.v 11) SA.nil)))) (SI.c (Int.ofNat 0)),
          SB.app 130
            (SA.l (SL.app 113 (SA.l (SL.v 0) (SA.i (SI.v 14) (SA.i (SI.v 11) SA.nil)))) (SA.i (SI.v 14) SA.nil)),
          SB.eq (SI.len (SL.app 113 (SA.l (SL.v 0) (SA.i (SI.v 14) (SA.i (SI.v 11) SA.nil))))) (SI.len (SL.v 0)),
          SB.v 2, SB.v 5, SB.le (SI.c (Int.ofNat 1)) (SI.len (SL.v 0)), SB.le (SI.len (SL.v 0)) (SI.c (Int.ofNat 64)),
          SB.eq (SI.len (SL.v 0)) (SI.v 2), SB.c true, SB.app 131 (SA.l (SL.v 0) SA.nil),
          SB.or
            (SB.and (SB.v 1)
              (SB.and (SB.not (SB.app 130 (SA.l (SL.v 0) (SA.i (SI.v 14) SA.nil))))
                (SB.and (SB.eq (SI.v 20) (SI.sel (SL.v 0) (SI.v 14) 0))
                  (SB.and (SB.eq (SI.v 22) (SI.sel (SL.v 0) (SI.v 14) 2))
                    (SB.and (SB.eq (SI.v 24) (SI.sel (SL.v 0) (SI.v 14) 4))
                      (SB.or (SB.and (SB.v 3) (SB.not (SB.eq (SI.sel (SL.v 0) (SI.v 14) 3) (SI.c (Int.ofNat 0)))))
                        (SB.and (SB.not (SB.v 3)) (SB.eq (SI.sel (SL.v 0) (SI.v 14) 3) (SI.c (Int.ofNat 0))))))))))
            (SB.and (SB.not (SB.v 1)) (SB.app 130 (SA.l (SL.v 0) (SA.i (SI.v 14) SA.nil)))),
          SB.and (SB.c true) (SB.or (SB.v 5) (SB.not (SB.v 5)))],
      eqs := [Eqn.T (SB.app 199 SA.nil)] },
    {
      pc :=
        [SB.not (SB.eq (SI.app 113 (SA.l (SL.v 0) (SA.i (SI.v 14) (SA.i (SI.v 11) SA.nil)))) (SI.c (Int.ofNat 0))),
          SB.app 130
            (SA.l (SL.app 113 (SA.l (SL.v 0) (SA.i (SI.v 14) (SA.i (SI.v 11) SA.nil)))) (SA.i (SI.v 14) SA.nil)),
          SB.eq (SI.len (SL.app 113 (SA.l (SL.v 0) (SA.i (SI.v 14) (SA.i (SI.v 11) SA.nil))))) (SI.len (SL.v 0)),
          SB.v 2, SB.v 5, SB.le (SI.c (Int.ofNat 1)) (SI.len (SL.v 0)), SB.le (SI.len (SL.v 0)) (SI.c (Int.ofNat 64)),
          SB.eq (SI.len (SL.v 0)) (SI.v 2), SB.c true, SB.app 131 (SA.l (SL.v 0) SA.nil),
          SB.or
            (SB.and (SB.v 1)
              (SB.and (SB.not (SB.app 130 (SA.l (SL.v 0) (SA.i (SI.v 14) SA.nil))))
                (SB.and (SB.eq (SI.v 20) (SI.sel (SL.v 0) (SI.v 14) 0))
                  (SB.and (SB.eq (SI.v 22) (SI.sel (SL.v 0) (SI.v 14) 2))
                    (SB.and (SB.eq (SI.v 24) (SI.sel (SL.v 0) (SI.v 14) 4))
                      (SB.or (SB.and (SB.v 3) (SB.not (SB.eq (SI.sel (SL.v 0) (SI.v 14) 3) (SI.c (Int.ofNat 0)))))
                        (SB.and (SB.not (SB.v 3)) (SB.eq (SI.sel (SL.v 0) (SI.v 14) 3) (SI.c (Int.ofNat 0))))))))))
            (SB.and (SB.not (SB.v 1)) (SB.app 130 (SA.l (SL.v 0) (SA.i (SI.v 14) SA.nil)))),
          SB.and (SB.c true) (SB.or (SB.v 5) (SB.not (SB.v 5)))],
      eqs := [Eqn.T (SB.app 131 (SA.l (SL.app 113 (SA.l (SL.v 0) (SA.i (SI.v 14) (SA.i (SI.v 11) SA.nil)))) SA.nil))] },
    {
      pc :=
        [SB.lt (SI.sel (SL.app 113 (SA.l (SL.v 0) (SA.i (SI.v 14) (SA.i (SI.v 11) SA.nil)))) (SI.v 14) 4)
            (SI.c (Int.ofNat 0)),
          SB.eq (SI.sel (SL.app 113 (SA.l (SL.v 0) (SA.i (SI.v 14) (SA.i (SI.v 11) SA.nil)))) (SI.v 14) 4)
            (SI.wrap IntKind.i64 (SI.sub (SI.v 24) (SI.c (Int.ofNat 1)))),
          SB.eq (SI.v 22) (SI.v 11), SB.v 1,
          SB.eq (SI.app 113 (SA.l (SL.v 0) (SA.i (SI.v 14) (SA.i (SI.v 11) SA.nil)))) (SI.c (Int.ofNat 0)),
          SB.lt (SI.v 14) (SI.len (SL.app 113 (SA.l (SL.v 0) (SA.i (SI.v 14) (SA.i (SI.v 11) SA.nil))))),
          SB.le (SI.c (Int.ofNat 0)) (SI.v 14),
          SB.not
            (SB.app 130
              (SA.l (SL.app 113 (SA.l (SL.v 0) (SA.i (SI.v 14) (SA.i (SI.v 11) SA.nil)))) (SA.i (SI.v 14) SA.nil))),
          SB.eq (SI.len (SL.app 113 (SA.l (SL.v 0) (SA.i (SI.v 14) (SA.i (SI.v 11) SA.nil))))) (SI.len (SL.v 0)),
          SB.v 2, SB.v 5, SB.le (SI.c (Int.ofNat 1)) (SI.len (SL.v 0)), SB.le (SI.len (SL.v 0)) (SI.c (Int.ofNat 64)),
          SB.eq (SI.len (SL.v 0)) (SI.v 2), SB.c true, SB.app 131 (SA.l (SL.v 0) SA.nil),
          SB.or
            (SB.and (SB.v 1)
              (SB.and (SB.not (SB.app 130 (SA.l (SL.v 0) (SA.i (SI.v 14) SA.nil))))
                (SB.and (SB.eq (SI.v 20) (SI.sel (SL.v 0) (SI.v 14) 0))
                  (SB.and (SB.eq (SI.v 22) (SI.sel (SL.v 0) (SI.v 14) 2))
                    (SB.and (SB.eq (SI.v 24) (SI.sel (SL.v 0) (SI.v 14) 4))
                      (SB.or (SB.and (SB.v 3) (SB.not (SB.eq (SI.sel (SL.v 0) (SI.v 14) 3) (SI.c (Int.ofNat 0)))))
                        (SB.and (SB.not (SB.v 3)) (SB.eq (SI.sel (SL.v 0) (SI.v 14) 3) (SI.c (Int.ofNat 0))))))))))
            (SB.and (SB.not (SB.v 1)) (SB.app 130 (SA.l (SL.v 0) (SA.i (SI.v 14) SA.nil)))),
          SB.and (SB.c true) (SB.or (SB.v 5) (SB.not (SB.v 5)))],
      eqs := [Eqn.T (SB.app 199 SA.nil)] },
    {
      pc :=
        [SB.not
            (SB.lt (SI.sel (SL.app 113 (SA.l (SL.v 0) (SA.i (SI.v 14) (SA.i (SI.v 11) SA.nil)))) (SI.v 14) 4)
              (SI.c (Int.ofNat 0))),
          SB.eq (SI.sel (SL.app 113 (SA.l (SL.v 0) (SA.i (SI.v 14) (SA.i (SI.v 11) SA.nil)))) (SI.v 14) 4)
            (SI.wrap IntKind.i64 (SI.sub (SI.v 24) (SI.c (Int.ofNat 1)))),
          SB.eq (SI.v 22) (SI.v 11), SB.v 1,
          SB.eq (SI.app 113 (SA.l (SL.v 0) (SA.i (SI.v 14) (SA.i (SI.v 11) SA.nil)))) (SI.c (Int.ofNat 0)),
          SB.lt (SI.v 14) (SI.len (SL.app 113 (SA.l (SL.v 0) (SA.i (SI.v 14) (SA.i (SI.v 11) SA.nil))))),
          SB.le (SI.c (Int.ofNat 0)) (SI.v 14),
          SB.not
            (SB.app 130
              (SA.l (SL.app 113 (SA.l (SL.v 0) (SA.i (SI.v 14) (SA.i (SI.v 11) SA.nil)))) (SA.i (SI.v 14) SA.nil))),
          SB.eq (SI.len (SL.app 113 (SA.l (SL.v 0) (SA.i (SI.v 14) (SA.i (SI.v 11) SA.nil))))) (SI.len (SL.v 0)),
          SB.v 2, SB.v 5, SB.le (SI.c (Int.ofNat 1)) (SI.len (SL.v 0)), SB.le (SI.len (SL.v 0)) (SI.c (Int.ofNat 64)),
          SB.eq (SI.len (SL.v 0)) (SI.v 2), SB.c true, SB.app 131 (SA.l (SL.v 0) SA.nil),
          SB.or
            (SB.and (SB.v 1)
              (SB.and (SB.not (SB.app 130 (SA.l (SL.v 0) (SA.i (SI.v 14) SA.nil))))
                (SB.and (SB.eq (SI.v 20) (SI.sel (SL.v 0) (SI.v 14) 0))
                  (SB.and (SB.eq (SI.v 22) (SI.sel (SL.v 0) (SI.v 14) 2))
                    (SB.and (SB.eq (SI.v 24) (SI.sel (SL.v 0) (SI.v 14) 4))
                      (SB.or (SB.and (SB.v 3) (SB.not (SB.eq (SI.sel (SL.v 0) (SI.v 14) 3) (SI.c (Int.ofNat 0)))))
                        (SB.and (SB.not (SB.v 3)) (SB.eq (SI.sel (SL.v 0) (SI.v 14) 3) (SI.c (Int.ofNat 0))))))))))
            (SB.and (SB.not (SB.v 1)) (SB.app 130 (SA.l (SL.v 0) (SA.i (SI.v 14) SA.nil)))),
          SB.and (SB.c true) (SB.or (SB.v 5) (SB.not (SB.v 5)))],
      eqs := [Eqn.T (SB.app 131 (SA.l (SL.app 113 (SA.l (SL.v 0) (SA.i (SI.v 14) (SA.i (SI.v 11) SA.nil)))) SA.nil))] },
    {
      pc :=
        [SB.not
            (SB.eq (SI.sel (SL.app 113 (SA.l (SL.v 0) (SA.i (SI.v 14) (SA.i (SI.v 11) SA.nil)))) (SI.v 14) 4)
              (SI.wrap IntKind.i64 (SI.sub (SI.v 24) (SI.c (Int.ofNat 1))))),
          SB.eq (SI.v 22) (SI.v 11), SB.v 1,
          SB.eq (SI.app 113 (SA.l (SL.v 0) (SA.i (SI.v 14) (SA.i (SI.v 11) SA.nil)))) (SI.c (Int.ofNat 0)),
          SB.lt (SI.v 14) (SI.len (SL.app 113 (SA.l (SL.v 0) (SA.i (SI.v 14) (SA.i (SI.v 11) SA.nil))))),
          SB.le (SI.c (Int.ofNat 0)) (SI.v 14),
          SB.not
            (SB.app 130
              (SA.l (SL.app 113 (SA.l (SL.v 0) (SA.i (SI.v 14) (SA.i (SI.v 11) SA.nil)))) (SA.i (SI.v 14) SA.nil))),
          SB.eq (SI.len (SL.app 113 (SA.l (SL.v 0) (SA.i (SI.v 14) (SA.i (SI.v 11) SA.nil))))) (SI.len (SL.v 0)),
          SB.v 2, SB.v 5, SB.le (SI.c (Int.ofNat 1)) (SI.len (SL.v 0)), SB.le (SI.len (SL.v 0)) (SI.c (Int.ofNat 64)),
          SB.eq (SI.len (SL.v 0)) (SI.v 2), SB.c true, SB.app 131 (SA.l (SL.v 0) SA.nil),
          SB.or
            (SB.and (SB.v 1)
              (SB.and (SB.not (SB.app 130 (SA.l (SL.v 0) (SA.i (SI.v 14) SA.nil))))
                (SB.and (SB.eq (SI.v 20) (SI.sel (SL.v 0) (SI.v 14) 0))
                  (SB.and (SB.eq (SI.v 22) (SI.sel (SL.v 0) (SI.v 14) 2))
                    (SB.and (SB.eq (SI.v 24) (SI.sel (SL.v 0) (SI.v 14) 4))
                      (SB.or (SB.and (SB.v 3) (SB.not (SB.eq (SI.sel (SL.v 0) (SI.v 14) 3) (SI.c (Int.ofNat 0)))))
                        (SB.and (SB.not (SB.v 3)) (SB.eq (SI.sel (SL.v 0) (SI.v 14) 3) (SI.c (Int.ofNat 0))))))))))
            (SB.and (SB.not (SB.v 1)) (SB.app 130 (SA.l (SL.v 0) (SA.i (SI.v 14) SA.nil)))),
          SB.and (SB.c true) (SB.or (SB.v 5) (SB.not (SB.v 5)))],
      eqs := [Eqn.T (SB.app 199 SA.nil)] },
    {
      pc :=
        [SB.not (SB.eq (SI.v 22) (SI.v 11)), SB.v 1,
          SB.eq (SI.app 113 (SA.l (SL.v 0) (SA.i (SI.v 14) (SA.i (SI.v 11) SA.nil)))) (SI.c (Int.ofNat 0)),
          SB.lt (SI.v 14) (SI.len (SL.app 113 (SA.l (SL.v 0) (SA.i (SI.v 14) (SA.i (SI.v 11) SA.nil))))),
          SB.le (SI.c (Int.ofNat 0)) (SI.v 14),
          SB.not
            (SB.app 130
              (SA.l (SL.app 113 (SA.l (SL.v 0) (SA.i (SI.v 14) (SA.i (SI.v 11) SA.nil)))) (SA.i (SI.v 14) SA.nil))),
          SB.eq (SI.len (SL.app 113 (SA.l (SL.v 0) (SA.i (SI.v 14) (SA.i (SI.v 11) SA.nil))))) (SI.len (SL.v 0)),
          SB.v 2, SB.v 5, SB.le (SI.c (Int.ofNat 1)) (SI.len (SL.v 0)), SB.le (SI.len (SL.v 0)) (SI.c (Int.ofNat 64)),
          SB.eq (SI.len (SL.v 0)) (SI.v 2), SB.c true, SB.app 131 (SA.l (SL.v 0) SA.nil),
          SB.or
            (SB.and (SB.v 1)
              (SB.and (SB.not (SB.app 130 (SA.l (SL.v 0) (SA.i (SI.v 14) SA.nil))))
                (SB.and (SB.eq (SI.v 20) (SI.sel (SL.v 0) (SI.v 14) 0))
                  (SB.and (SB.eq (SI.v 22) (SI.sel (SL.v 0) (SI.v 14) 2))
                    (SB.and (SB.eq (SI.v 24) (SI.sel (SL.v 0) (SI.v 14) 4))
                      (SB.or (SB.and (SB.v 3) (SB.not (SB.eq (SI.sel (SL.v 0) (SI.v 14) 3) (SI.c (Int.ofNat 0)))))
                        (SB.and (SB.not (SB.v 3)) (SB.eq (SI.sel (SL.v 0) (SI.v 14) 3) (SI.c (Int.ofNat 0))))))))))
            (SB.and (SB.not (SB.v 1)) (SB.app 130 (SA.l (SL.v 0) (SA.i (SI.v 14) SA.nil)))),
          SB.and (SB.c true) (SB.or (SB.v 5) (SB.not (SB.v 5)))],
      eqs := [Eqn.T (SB.app 199 SA.nil)] },
    {
      pc :=
        [SB.not (SB.v 1),
          SB.eq (SI.app 113 (SA.l (SL.v 0) (SA.i (SI.v 14) (SA.i (SI.v 11) SA.nil)))) (SI.c (Int.ofNat 0)),
          SB.lt (SI.v 14) (SI.len (SL.app 113 (SA.l (SL.v 0) (SA.i (SI.v 14) (SA.i (SI.v 11) SA.nil))))),
          SB.le (SI.c (Int.ofNat 0)) (SI.v 14),
          SB.not
            (SB.app 130
              (SA.l (SL.app 113 (SA.l (SL.v 0) (SA.i (SI.v 14) (SA.i (SI.v 11) SA.nil)))) (SA.i (SI.v 14) SA.nil))),
          SB.eq (SI.len (SL.app 113 (SA.l (SL.v 0) (SA.i (SI.v 14) (SA.i (SI.v 11) SA.nil))))) (SI.len (SL.v 0)),
          SB.v 2, SB.v 5, SB.le (SI.c (Int.ofNat 1)) (SI.len (SL.v 0)), SB.le (SI.len (SL.v 0)) (SI.c (Int.ofNat 64)),
          SB.eq (SI.len (SL.v 0)) (SI.v 2), SB.c true, SB.app 131 (SA.l (SL.v 0) SA.nil),
          SB.or
            (SB.and (SB.v 1)
              (SB.and (SB.not (SB.app 130 (SA.l (SL.v 0) (SA.i (SI.v 14) SA.nil))))
                (SB.and (SB.eq (SI.v 20) (SI.sel (SL.v 0) (SI.v 14) 0))
                  (SB.and (SB.eq (SI.v 22) (SI.sel (SL.v 0) (SI.v 14) 2))
                    (SB.and (SB.eq (SI.v 24) (SI.sel (SL.v 0) (SI.v 14) 4))
                      (SB.or (SB.and (SB.v 3) (SB.not (SB.eq (SI.sel (SL.v 0) (SI.v 14) 3) (SI.c (Int.ofNat 0)))))
                        (SB.and (SB.not (SB.v 3)) (SB.eq (SI.sel (SL.v 0) (SI.v 14) 3) (SI.c (Int.ofNat 0))))))))))
            (SB.and (SB.not (SB.v 1)) (SB.app 130 (SA.l (SL.v 0) (SA.i (SI.v 14) SA.nil)))),
          SB.and (SB.c true) (SB.or (SB.v 5) (SB.not (SB.v 5)))],
      eqs := [Eqn.T (SB.app 199 SA.nil)] },
    {
      pc :=
        [SB.not (SB.eq (SI.app 113 (SA.l (SL.v 0) (SA.i (SI.v 14) (SA.i (SI.v 11) SA.nil)))) (SI.c (Int.ofNat 0))),
          SB.lt (SI.v 14) (SI.len (SL.app 113 (SA.l (SL.v 0) (SA.i (SI.v 14) (SA.i (SI.v 11) SA.nil))))),
          SB.le (SI.c (Int.ofNat 0)) (SI.v 14),
          SB.not
            (SB.app 130
              (SA.l (SL.app 113 (SA.l (SL.v 0) (SA.i (SI.v 14) (SA.i (SI.v 11) SA.nil)))) (SA.i (SI.v 14) SA.nil))),
          SB.eq (SI.len (SL.app 113 (SA.l (SL.v 0) (SA.i (SI.v 14) (SA.i (SI.v 11) SA.nil))))) (SI.len (SL.v 0)),
          SB.v 2, SB.v 5, SB.le (SI.c (Int.ofNat 1)) (SI.len (SL.v 0)), SB.le (SI.len (SL.v 0)) (SI.c (Int.ofNat 64)),
          SB.eq (SI.len (SL.v 0)) (SI.v 2), SB.c true, SB.app 131 (SA.l (SL.v 0) SA.nil),
          SB.or
            (SB.and (SB.v 1)
              (SB.and (SB.not (SB.app 130 (SA.l (SL.v 0) (SA.i (SI.v 14) SA.nil))))
                (SB.and (SB.eq (SI.v 20) (SI.sel (SL.v 0) (SI.v 14) 0))
                  (SB.and (SB.eq (SI.v 22) (SI.sel (SL.v 0) (SI.v 14) 2))
                    (SB.and (SB.eq (SI.v 24) (SI.sel (SL.v 0) (SI.v 14) 4))
                      (SB.or (SB.and (SB.v 3) (SB.not (SB.eq (SI.sel (SL.v 0) (SI.v 14) 3) (SI.c (Int.ofNat 0)))))
                        (SB.and (SB.not (SB.v 3)) (SB.eq (SI.sel (SL.v 0) (SI.v 14) 3) (SI.c (Int.ofNat 0))))))))))
            (SB.and (SB.not (SB.v 1)) (SB.app 130 (SA.l (SL.v 0) (SA.i (SI.v 14) SA.nil)))),
          SB.and (SB.c true) (SB.or (SB.v 5) (SB.not (SB.v 5)))],
      eqs := [Eqn.T (SB.app 131 (SA.l (SL.app 113 (SA.l (SL.v 0) (SA.i (SI.v 14) (SA.i (SI.v 11) SA.nil)))) SA.nil))] },
    {
      pc :=
        [SB.eq (SI.wrap IntKind.i64 (SI.sub (SI.v 24) (SI.c (Int.ofNat 1)))) (SI.c (Int.ofNat 0)),
          SB.eq (SI.v 22) (SI.v 11), SB.v 1,
          SB.eq (SI.app 113 (SA.l (SL.v 0) (SA.i (SI.v 14) (SA.i (SI.v 11) SA.nil)))) (SI.c (Int.ofNat 0)),
          SB.app 130
            (SA.l (SL.app 113 (SA.l (SL.v 0) (SA.i (SI.v 14) (SA.i (SI.v 11) SA.nil)))) (SA.i (SI.v 14) SA.nil)),
          SB.eq (SI.len (SL.app 113 (SA.l (SL.v 0) (SA.i (SI.v 14) (SA.i (SI.v 11) SA.nil))))) (SI.len (SL.v 0)),
          SB.v 2, SB.not (SB.v 5), SB.le (SI.c (Int.ofNat 1)) (SI.len (SL.v 0)),
          SB.le (SI.len (SL.v 0)) (SI.c (Int.ofNat 64)), SB.eq (SI.len (SL.v 0)) (SI.v 2), SB.c true,
          SB.app 131 (SA.l (SL.v 0) SA.nil),
          SB.or
            (SB.and (SB.v 1)
              (SB.and (SB.not (SB.app 130 (SA.l (SL.v 0) (SA.i (SI.v 14) SA.nil))))
                (SB.and (SB.eq (SI.v 20) (SI.sel (SL.v 0) (SI.v 14) 0))
                  (SB.and (SB.eq (SI.v 22) (SI.sel (SL.v 0) (SI.v 14) 2))
                    (SB.and (SB.eq (SI.v 24) (SI.sel (SL.v 0) (SI.v 14) 4))
                      (SB.or (SB.and (SB.v 3) (SB.not (SB.eq (SI.sel (SL.v 0) (SI.v 14) 3) (SI.c (Int.ofNat 0)))))
                        (SB.and (SB.not (SB.v 3)) (SB.eq (SI.sel (SL.v 0) (SI.v 14) 3) (SI.c (Int.ofNat 0))))))))))
            (SB.and (SB.not (SB.v 1)) (SB.app 130 (SA.l (SL.v 0) (SA.i (SI.v 14) SA.nil)))),
          SB.and (SB.c true) (SB.or (SB.v 5) (SB.not (SB.v 5)))],
      eqs := [Eqn.T (SB.app 131 (SA.l (SL.app 113 (SA.l (SL.v 0) (SA.i (SI.v 14) (SA.i (SI.v 11) SA.nil)))) SA.nil))] },
    {
      pc :=
        [SB.not (SB.eq (SI.wrap IntKind.i64 (SI.sub (SI.v 24) (SI.c (Int.ofNat 1)))) (SI.c (Int.ofNat 0))),
          SB.eq (SI.v 22) (SI.v 11), SB.v 1,
          SB.eq (SI.app 113 (SA.l (SL.v 0) (SA.i (SI.v 14) (SA.i (SI.v 11) SA.nil)))) (SI.c (Int.ofNat 0)),
          SB.app 130
            (SA.l (SL.app 113 (SA.l (SL.v 0) (SA.i (SI.v 14) (SA.i (SI.v 11) SA.nil)))) (SA.i (SI.v 14) SA.nil)),
          SB.eq (SI.len (SL.app 113 (SA.l (SL.v 0) (SA.i (SI.v 14) (SA.i (SI.v 11) SA.nil))))) (SI.len (SL.v 0)),
          SB.v 2, SB.not (SB.v 5), SB.le (SI.c (Int.ofNat 1)) (SI.len (SL.v 0)),
          SB.le (SI.len (SL.v 0)) (SI.c (Int.ofNat 64)), SB.eq (SI.len (SL.v 0)) (SI.v 2), SB.c true,
          SB.app 131 (SA.l (SL.v 0) SA.nil),
          SB.or
            (SB.and (SB.v 1)
              (SB.and (SB.not (SB.app 130 (SA.l (SL.v 0) (SA.i (SI.v 14) SA.nil))))
                (SB.and (SB.eq (SI.v 20) (SI.sel (SL.v 0) (SI.v 14) 0))
                  (SB.and (SB.eq (SI.v 22) (SI.sel (SL.v 0) (SI.v 14) 2))
                    (SB.and (SB.eq (SI.v 24) (SI.sel (SL.v 0) (SI.v 14) 4))
                      (SB.or (SB.and (SB.v 3) (SB.not (SB.eq (SI.sel (SL.v 0) (SI.v 14) 3) (SI.c (Int.ofNat 0)))))
                        (SB.and (SB.not (SB.v 3)) (SB.eq (SI.sel (SL.v 0) (SI.v 14) 3) (SI.c (Int.ofNat 0))))))))))
            (SB.and (SB.not (SB.v 1)) (SB.app 130 (SA.l (SL.v 0) (SA.i (SI.v 14) SA.nil)))),
          SB.and (SB.c true) (SB.or (SB.v 5) (SB.not (SB.v 5)))],
      eqs := [Eqn.T (SB.app 199 SA.nil)] },
    {
      pc :=
        [SB.not (SB.eq (SI.v 22) (SI.v 11)), SB.v 1,
          SB.eq (SI.app 113 (SA.l (SL.v 0) (SA.i (SI.v 14) (SA.i (SI.v 11) SA.nil)))) (SI.c (Int.ofNat 0)),
          SB.app 130
            (SA.l (SL.app 113 (SA.l (SL.v 0) (SA.i (SI.v 14) (SA.i (SI.v 11) SA.nil)))) (SA.i (SI.v 14) SA.nil)),
          SB.eq (SI.len (SL.app 113 (SA.l (SL.v 0) (SA.i (SI.v 14) (SA.i (SI.v 11) SA.nil))))) (SI.len (SL.v 0)),
          SB.v 2, SB.not (SB.v 5), SB.le (SI.c (Int.ofNat 1)) (SI.len (SL.v 0)),
          SB.le (SI.len (SL.v 0)) (SI.c (Int.ofNat 64)), SB.eq (SI.len (SL.v 0)) (SI.v 2), SB.c true,
          SB.app 131 (SA.l (SL.v 0) SA.nil),
          SB.or
            (SB.and (SB.v 1)
              (SB.and (SB.not (SB.app 130 (SA.l (SL.v 0) (SA.i (SI.v 14) SA.nil))))
                (SB.and (SB.eq (SI.v 20) (SI.sel (SL.v 0) (SI.v 14) 0))
                  (SB.and (SB.eq (SI.v 22) (SI.sel (SL.v 0) (SI.v 14) 2))
                    (SB.and (SB.eq (SI.v 24) (SI.sel (SL.v 0) (SI.v 14) 4))
                      (SB.or (SB.and (SB.v 3) (SB.not (SB.eq (SI.sel (SL.v 0) (SI.v 14) 3) (SI.c (Int.ofNat 0)))))
                        (SB.and (SB.not (SB.v 3)) (SB.eq (SI.sel (SL.v 0) (SI.v 14) 3) (SI.c (Int.ofNat 0))))))))))
            (SB.and (SB.not (SB.v 1)) (SB.app 130 (SA.l (SL.v 0) (SA.i (SI.v 14) SA.nil)))),
          SB.and (SB.c true) (SB.or (SB.v 5) (SB.not (SB.v 5)))],
      eqs := [Eqn.T (SB.app 199 SA.nil)] },
    {
      pc :=
        [SB.not (SB.v 1),
          SB.eq (SI.app 113 (SA.l (SL.v 0) (SA.i (SI.v 14) (SA.i (SI.v 11) SA.nil)))) (SI.c (Int.ofNat 0)),
          SB.app 130
            (SA.l (SL.app 113 (SA.l (SL.v 0) (SA.i (SI.v 14) (SA.i (SI.v 11) SA.nil)))) (SA.i (SI.v 14) SA.nil)),
          SB.eq (SI.len (SL.app 113 (SA.l (SL.v 0) (SA.i (SI.v 14) (SA.i (SI.v 11) SA.nil))))) (SI.len (SL.v 0)),
          SB.v 2, SB.not (SB.v 5), SB.le (SI.c (Int.ofNat 1)) (SI.len (SL.v 0)),
          SB.le (SI.len (SL.v 0)) (SI.c (Int.ofNat 64)), SB.eq (SI.len (SL.v 0)) (SI.v 2), SB.c true,
          SB.app 131 (SA.l (SL.v 0) SA.nil),
          SB.or
            (SB.and (SB.v 1)
              (SB.and (SB.not (SB.app 130 (SA.l (SL.v 0) (SA.i (SI.v 14) SA.nil))))
                (SB.and (SB.eq (SI.v 20) (SI.sel (SL.v 0) (SI.v 14) 0))
                  (SB.and (SB.eq (SI.v 22) (SI.sel (SL.v 0) (SI.v 14) 2))
                    (SB.and (SB.eq (SI.v 24) (SI.sel (SL.v 0) (SI.v 14) 4))
                      (SB.or (SB.and (SB.v 3) (SB.not (SB.eq (SI.sel (SL.v 0) (SI.v 14) 3) (SI.c (Int.ofNat 0)))))
                        (SB.and (SB.not (SB.v 3)) (SB.eq (SI.sel (SL.v 0) (SI.v 14) 3) (SI.c (Int.ofNat 0))))))))))
            (SB.and (SB.not (SB.v 1)) (SB.app 130 (SA.l (SL.v 0) (SA.i (SI.v 14) SA.nil)))),
          SB.and (SB.c true) (SB.or (SB.v 5) (SB.not (SB.v 5)))],
      eqs := [Eqn.T (SB.app 199 SA.nil)] },
    {
      pc :=
        [SB.not (SB.eq (SI.app 113 (SA.l (SL.v 0) (SA.i (SI.v 14) (SA.i (SI.v 11) SA.nil)))) (SI.c (Int.ofNat 0))),
          SB.app 130
            (SA.l (SL.app 113 (SA.l (SL.v 0) (SA.i (SI.v 14) (SA.i (SI.v 11) SA.nil)))) (SA.i (SI.v 14) SA.nil)),
          SB.eq (SI.len (SL.app 113 (SA.l (SL.v 0) (SA.i (SI.v 14) (SA.i (SI.v 11) SA.nil))))) (SI.len (SL.v 0)),
          SB.v 2, SB.not (SB.v 5), SB.le (SI.c (Int.ofNat 1)) (SI.len (SL.v 0)),
          SB.le (SI.len (SL.v 0)) (SI.c (Int.ofNat 64)), SB.eq (SI.len (SL.v 0)) (SI.v 2), SB.c true,
          SB.app 131 (SA.l (SL.v 0) SA.nil),
          SB.or
            (SB.and (SB.v 1)
              (SB.and (SB.not (SB.app 130 (SA.l (SL.v 0) (SA.i (SI.v 14) SA.nil))))
                (SB.and (SB.eq (SI.v 20) (SI.sel (SL.v 0) (SI.v 14) 0))
                  (SB.and (SB.eq (SI.v 22) (SI.sel (SL.v 0) (SI.v 14) 2))
                    (SB.and (SB.eq (SI.v 24) (SI.sel (SL.v 0) (SI.v 14) 4))
                      (SB.or (SB.and (SB.v 3) (SB.not (SB.eq (SI.sel (SL.v 0) (SI.v 14) 3) (SI.c (Int.ofNat 0)))))
                        (SB.and (SB.not (SB.v 3)) (SB.eq (SI.sel (SL.v 0) (SI.v 14) 3) (SI.c (Int.ofNat 0))))))))))
            (SB.and (SB.not (SB.v 1)) (SB.app 130 (SA.l (SL.v 0) (SA.i (SI.v 14) SA.nil)))),
          SB.and (SB.c true) (SB.or (SB.v 5) (SB.not (SB.v 5)))],
      eqs := [Eqn.T (SB.app 131 (SA.l (SL.app 113 (SA.l (SL.v 0) (SA.i (SI.v 14) (SA.i (SI.v 11) SA.nil)))) SA.nil))] },
    {
      pc :=
        [SB.lt (SI.sel (SL.app 113 (SA.l (SL.v 0) (SA.i (SI.v 14) (SA.i (SI.v 11) SA.nil)))) (SI.v 14) 4)
            (SI.c (Int.ofNat 0)),
          SB.eq (SI.sel (SL.app 113 (SA.l (SL.v 0) (SA.i (SI.v 14) (SA.i (SI.v 11) SA.nil)))) (SI.v 14) 4)
            (SI.wrap IntKind.i64 (SI.sub (SI.v 24) (SI.c (Int.ofNat 1)))),
          SB.eq (SI.v 22) (SI.v 11), SB.v 1,
          SB.eq (SI.app 113 (SA.l (SL.v 0) (SA.i (SI.v 14) (SA.i (SI.v 11) SA.nil)))) (SI.c (Int.ofNat 0)),
          SB.lt (SI.v 14) (SI.len (SL.app 113 (SA.l (SL.v 0) (SA.i (SI.v 14) (SA.i (SI.v 11) SA.nil))))),
          SB.le (SI.c (Int.ofNat 0)) (SI.v 14),
          SB.not
            (SB.app 130
              (SA.l (SL.app 113 (SA.l (SL.v 0) (SA.i (SI.v 14) (SA.i (SI.v 11) SA.nil)))) (SA.i (SI.v 14) SA.nil))),
          SB.eq (SI.len (SL.app 113 (SA.l (SL.v 0) (SA.i (SI.v 14) (SA.i (SI.v 11) SA.nil))))) (SI.len (SL.v 0)),
          SB.v 2, SB.not (SB.v 5), SB.le (SI.c (Int.ofNat 1)) (SI.len (SL.v 0)),
          SB.le (SI.len (SL.v 0)) (SI.c (Int.ofNat 64)), SB.eq (SI.len (SL.v 0)) (SI.v 2), SB.c true,
          SB.app 131 (SA.l (SL.v 0) SA.nil),
          SB.or
            (SB.and (SB.v 1)
              (SB.and (SB.not (SB.app 130 (SA.l (SL.v 0) (SA.i (SI.v 14) SA.nil))))
                (SB.and (SB.eq (SI.v 20) (SI.sel (SL.v 0) (SI.v 14) 0))
                  (SB.and (SB.eq (SI.v 22) (SI.sel (SL.v 0) (SI.v 14) 2))
                    (SB.and (SB.eq (SI.v 24) (SI.sel (SL.v 0) (SI.v 14) 4))
                      (SB.or (SB.and (SB.v 3) (SB.not (SB.eq (SI.sel (SL.v 0) (SI.v 14) 3) (SI.c (Int.ofNat 0)))))
                        (SB.and (SB.not (SB.v 3)) (SB.eq (SI.sel (SL.v 0) (SI.v 14) 3) (SI.c (Int.ofNat 0))))))))))
            (SB.and (SB.not (SB.v 1)) (SB.app 130 (SA.l (SL.v 0) (SA.i (SI.v 14) SA.nil)))),
          SB.and (SB.c true) (SB.or (SB.v 5) (SB.not (SB.v 5)))],
      eqs := [Eqn.T (SB.app 199 SA.nil)] },
    {
      pc :=
        [SB.not
            (SB.lt (SI.sel (SL.app 113 (SA.l (SL.v 0) (SA.i (SI.v 14) (SA.i (SI.v 11) SA.nil)))) (SI.v 14) 4)
              (SI.c (Int.ofNat 0))),
          SB.eq (SI.sel (SL.app 113 (SA.l (SL.v 0) (SA.i (SI.v 14) (SA.i (SI.v 11) SA.nil)))) (SI.v 14) 4)
            (SI.wrap IntKind.i64 (SI.sub (SI.v 24) (SI.c (Int.ofNat 1)))),
          SB.eq (SI.v 22) (SI.v 11), SB.v 1,
          SB.eq (SI.app 113 (SA.l (SL.v 0) (SA.i (SI.v 14) (SA.i (SI.v 11) SA.nil)))) (SI.c (Int.ofNat 0)),
          SB.lt (SI.v 14) (SI.len (SL.app 113 (SA.l (SL.v 0) (SA.i (SI.v 14) (SA.i (SI.v 11) SA.nil))))),
          SB.le (SI.c (Int.ofNat 0)) (SI.v 14),
          SB.not
            (SB.app 130
              (SA.l (SL.app 113 (SA.l (SL.v 0) (SA.i (SI.v 14) (SA.i (SI.v 11) SA.nil)))) (SA.i (SI.v 14) SA.nil))),
          SB.eq (SI.len (SL.app 113 (SA.l (SL.v 0) (SA.i (SI.v 14) (SA.i (SI.v 11) SA.nil))))) (SI.len (SL.v 0)),
          SB.v 2, SB.not (SB.v 5), SB.le (SI.c (Int.ofNat 1)) (SI.len (SL.v 0)),
          SB.le (SI.len (SL.v 0)) (SI.c (Int.ofNat 64)), SB.eq (SI.len (SL.v 0)) (SI.v 2), SB.c true,
          SB.app 131 (SA.l (SL.v 0) SA.nil),
          SB.or
            (SB.and (SB.v 1)
              (SB.and (SB.not (SB.app 130 (SA.l (SL.v 0) (SA.i (SI.v 14) SA.nil))))
                (SB.and (SB.eq (SI.v 20) (SI.sel (SL.v 0) (SI.v 14) 0))
                  (SB.and (SB.eq (SI.v 22) (SI.sel (SL.v 0) (SI.v 14) 2))
                    (SB.and (SB.eq (SI.v 24) (SI.sel (SL.v 0) (SI.v 14) 4))
                      (SB.or (SB.and (SB.v 3) (SB.not (SB.eq (SI.sel (SL.v 0) (SI.v 14) 3) (SI.c (Int.ofNat 0)))))
                        (SB.and (SB.not (SB.v 3)) (SB.eq (SI.sel (SL.v 0) (SI.v 14) 3) (SI.c (Int.ofNat 0))))))))))
            (SB.and (SB.not (SB.v 1)) (SB.app 130 (SA.l (SL.v 0) (SA.i (SI.v 14) SA.nil)))),
          SB.and (SB.c true) (SB.or (SB.v 5) (SB.not (SB.v 5)))],
      eqs := [Eqn.T (SB.app 131 (SA.l (SL.app 113 (SA.l (SL.v 0) (SA.i (SI.v 14) (SA.i (SI.v 11) SA.nil)))) SA.nil))] },
    {
      pc :=
        [SB.not
            (SB.eq (SI.sel (SL.app 113 (SA.l (SL.v 0) (SA.i (SI.v 14) (SA.i (SI.v 11) SA.nil)))) (SI.v 14) 4)
              (SI.wrap IntKind.i64 (SI.sub (SI.v 24) (SI.c (Int.ofNat 1))))),
          SB.eq (SI.v 22) (SI.v 11), SB.v 1,
          SB.eq (SI.app 113 (SA.l (SL.v 0) (SA.i (SI.v 14) (SA.i (SI.v 11) SA.nil)))) (SI.c (Int.ofNat 0)),
          SB.lt (SI.v 14) (SI.len (SL.app 113 (SA.l (SL.v 0) (SA.i (SI.v 14) (SA.i (SI.v 11) SA.nil))))),
          SB.le (SI.c (Int.ofNat 0)) (SI.v 14),
          SB.not
            (SB.app 130
              (SA.l (SL.app 113 (SA.l (SL.v 0) (SA.i (SI.v 14) (SA.i (SI.v 11) SA.nil)))) (SA.i (SI.v 14) SA.nil))),
          SB.eq (SI.len (SL.app 113 (SA.l (SL.v 0) (SA.i (SI.v 14) (SA.i (SI.v 11) SA.nil))))) (SI.len (SL.v 0)),
          SB.v 2, SB.not (SB.v 5), SB.le (SI.c (Int.ofNat 1)) (SI.len (SL.v 0)),
          SB.le (SI.len (SL.v 0)) (SI.c (Int.ofNat 64)), SB.eq (SI.len (SL.v 0)) (SI.v 2), SB.c true,
          SB.app 131 (SA.l (SL.v 0) SA.nil),
          SB.or
            (SB.and (SB.v 1)
              (SB.and (SB.not (SB.app 130 (SA.l (SL.v 0) (SA.i (SI.v 14) SA.nil))))
                (SB.and (SB.eq (SI.v 20) (SI.sel (SL.v 0) (SI.v 14) 0))
                  (SB.and (SB.eq (SI.v 22) (SI.sel (SL.v 0) (SI.v 14) 2))
                    (SB.and (SB.eq (SI.v 24) (SI.sel (SL.v 0) (SI.v 14) 4))
                      (SB.or (SB.and (SB.v 3) (SB.not (SB.eq (SI.sel (SL.v 0) (SI.v 14) 3) (SI.c (Int.ofNat 0)))))
                        (SB.and (SB.not (SB.v 3)) (SB.eq (SI.sel (SL.v 0) (SI.v 14) 3) (SI.c (Int.ofNat 0))))))))))
            (SB.and (SB.not (SB.v 1)) (SB.app 130 (SA.l (SL.v 0) (SA.i (SI.v 14) SA.nil)))),
          SB.and (SB.c true) (SB.or (SB.v 5) (SB.not (SB.v 5)))],
      eqs := [Eqn.T (SB.app 199 SA.nil)] },
    {
      pc :=
        [SB.not (SB.eq (SI.v 22) (SI.v 11)), SB.v 1,
          SB.eq (SI.app 113 (SA.l (SL.v 0) (SA.i (SI.v 14) (SA.i (SI.v 11) SA.nil)))) (SI.c (Int.ofNat 0)),
          SB.lt (SI.v 14) (SI.len (SL.app 113 (SA.l (SL.v 0) (SA.i (SI.v 14) (SA.i (SI.v 11) SA.nil))))),
          SB.le (SI.c (Int.ofNat 0)) (SI.v 14),
          SB.not
            (SB.app 130
              (SA.l (SL.app 113 (SA.l (SL.v 0) (SA.i (SI.v 14) (SA.i (SI.v 11) SA.nil)))) (SA.i (SI.v 14) SA.nil))),
          SB.eq (SI.len (SL.app 113 (SA.l (SL.v 0) (SA.i (SI.v 14) (SA.i (SI.v 11) SA.nil))))) (SI.len (SL.v 0)),
          SB.v 2, SB.not (SB.v 5), SB.le (SI.c (Int.ofNat 1)) (SI.len (SL.v 0)),
          SB.le (SI.len (SL.v 0)) (SI.c (Int.ofNat 64)), SB.eq (SI.len (SL.v 0)) (SI.v 2), SB.c true,
          SB.app 131 (SA.l (SL.v 0) SA.nil),
          SB.or
            (SB.and (SB.v 1)
              (SB.and (SB.not (SB.app 130 (SA.l (SL.v 0) (SA.i (SI.v 14) SA.nil))))
                (SB.and (SB.eq (SI.v 20) (SI.sel (SL.v 0) (SI.v 14) 0))
                  (SB.and (SB.eq (SI.v 22) (SI.sel (SL.v 0) (SI.v 14) 2))
                    (SB.and (SB.eq (SI.v 24) (SI.sel (SL.v 0) (SI.v 14) 4))
                      (SB.or (SB.and (SB.v 3) (SB.not (SB.eq (SI.sel (SL.v 0) (SI.v 14) 3) (SI.c (Int.ofNat 0)))))
                        (SB.and (SB.not (SB.v 3)) (SB.eq (SI.sel (SL.v 0) (SI.v 14) 3) (SI.c (Int.ofNat 0))))))))))
            (SB.and (SB.not (SB.v 1)) (SB.app 130 (SA.l (SL.v 0) (SA.i (SI.v 14) SA.nil)))),
          SB.and (SB.c true) (SB.or (SB.v 5) (SB.not (SB.v 5)))],
      eqs := [Eqn.T (SB.app 199 SA.nil)] },
    {
      pc :=
        [SB.not (SB.v 1),
          SB.eq (SI.app 113 (SA.l (SL.v 0) (SA.i (SI.v 14) (SA.i (SI.v 11) SA.nil)))) (SI.c (Int.ofNat 0)),
          SB.lt (SI.v 14) (SI.len (SL.app 113 (SA.l (SL.v 0) (SA.i (SI.v 14) (SA.i (SI.v 11) SA.nil))))),
          SB.le (SI.c (Int.ofNat 0)) (SI.v 14),
          SB.not
            (SB.app 130
              (SA.l (SL.app 113 (SA.l (SL.v 0) (SA.i (SI.v 14) (SA.i (SI.v 11) SA.nil)))) (SA.i (SI.v 14) SA.nil))),
          SB.eq (SI.len (SL.app 113 (SA.l (SL.v 0) (SA.i (SI.v 14) (SA.i (SI.v 11) SA.nil))))) (SI.len (SL.v 0)),
          SB.v 2, SB.not (SB.v 5), SB.le (SI.c (Int.ofNat 1)) (SI.len (SL.v 0)),
          SB.le (SI.len (SL.v 0)) (SI.c (Int.ofNat 64)), SB.eq (SI.len (SL.v 0)) (SI.v 2), SB.c true,
          SB.app 131 (SA.l (SL.v 0) SA.nil),
          SB.or
            (SB.and (SB.v 1)
              (SB.and (SB.not (SB.app 130 (SA.l (SL.v 0) (SA.i (SI.v 14) SA.nil))))
                (SB.and (SB.eq (SI.v 20) (SI.sel (SL.v 0) (SI.v 14) 0))
                  (SB.and (SB.eq (SI.v 22) (SI.sel (SL.v 0) (SI.v 14) 2))
                    (SB.and (SB.eq (SI.v 24) (SI.sel (SL.v 0) (SI.v 14) 4))
                      (SB.or (SB.and (SB.v 3) (SB.not (SB.eq (SI.sel (SL.v 0) (SI.v 14) 3) (SI.c (Int.ofNat 0)))))
                        (SB.and (SB.not (SB.v 3)) (SB.eq (SI.sel (SL.v 0) (SI.v 14) 3) (SI.c (Int.ofNat 0))))))))))
            (SB.and (SB.not (SB.v 1)) (SB.app 130 (SA.l (SL.v 0) (SA.i (SI.v 14) SA.nil)))),
          SB.and (SB.c true) (SB.or (SB.v 5) (SB.not (SB.v 5)))],
      eqs := [Eqn.T (SB.app 199 SA.nil)] },
    {
      pc :=
        [SB.not (SB.eq (SI.app 113 (SA.l (SL.v 0) (SA.i (SI.v 14) (SA.i (SI.v 11) SA.nil)))) (SI.c (Int.ofNat 0))),
          SB.lt (SI.v 14) (SI.len (SL.app 113 (SA.l (SL.v 0) (SA.i (SI.v 14) (SA.i (SI.v 11) SA.nil))))),
          SB.le (SI.c (Int.ofNat 0)) (SI.v 14),
          SB.not
            (SB.app 130
              (SA.l (SL.app 113 (SA.l (SL.v 0) (SA.i (SI.v 14) (SA.i (SI.v 11) SA.nil)))) (SA.i (SI.v 14) SA.nil))),
          SB.eq (SI.len (SL.app 113 (SA.l (SL.v 0) (SA.i (SI.v 14) (SA.i (SI.v 11) SA.nil))))) (SI.len (SL.v 0)),
          SB.v 2, SB.not (SB.v 5), SB.le (SI.c (Int.ofNat 1)) (SI.len (SL.v 0)),
          SB.le (SI.len (SL.v 0)) (SI.c (Int.ofNat 64)), SB.eq (SI.len (SL.v 0)) (SI.v 2), SB.c true,
          SB.app 131 (SA.l (SL.v 0) SA.nil),
          SB.or
            (SB.and (SB.v 1)
              (SB.and (SB.not (SB.app 130 (SA.l (SL.v 0) (SA.i (SI.v 14) SA.nil))))
                (SB.and (SB.eq (SI.v 20) (SI.sel (SL.v 0) (SI.v 14) 0))
                  (SB.and (SB.eq (SI.v 22) (SI.sel (SL.v 0) (SI.v 14) 2))
                    (SB.and (SB.eq (SI.v 24) (SI.sel (SL.v 0) (SI.v 14) 4))
                      (SB.or (SB.and (SB.v 3) (SB.not (SB.eq (SI.sel (SL.v 0) (SI.v 14) 3) (SI.c (Int.ofNat 0)))))
                        (SB.and (SB.not (SB.v 3)) (SB.eq (SI.sel (SL.v 0) (SI.v 14) 3) (SI.c (Int.ofNat 0))))))))))
            (SB.and (SB.not (SB.v 1)) (SB.app 130 (SA.l (SL.v 0) (SA.i (SI.v 14) SA.nil)))),
          SB.and (SB.c true) (SB.or (SB.v 5) (SB.not (SB.v 5)))],
      eqs := [Eqn.T (SB.app 131 (SA.l (SL.app 113 (SA.l (SL.v 0) (SA.i (SI.v 14) (SA.i (SI.v 11) SA.nil)))) SA.nil))] }] := by kernel_rfl
theorem us19_ok : us19.ok Φ Try.prog := by
  refine ⟨by kernel_rfl, part_rule (fun ρ => v1_ok ρ) (loopAt_sub (by kernel_rfl)) us19_obs ?_⟩
  simp only [and_imp, List.forall_mem_cons, List.not_mem_nil, false_implies, implies_true, and_true, Ob.ok, holds, Eqn.ok, evB_eq, evB_lt, evB_le, evB_not, evB_and, evB_or, evB_eqL, evB_app, evB_v, evB_c, ev_sel, ev_len, ev_v, ev_c, ev_add, ev_sub, ev_mul, ev_quo, ev_rem, ev_bits, ev_wrap, evL_v, evL_lit, evL_app, ev_app, evA_l, evA_i, evA_nil, std_min, std_max, std_cat, std_take, std_drop, std_row, std_set, std_rep, std_find, std_put, std_del, std_flag, std_unflag, std_clr, std_left, std_copy, ints_cons, ints_nil, ofNat_lit, negSucc_lit, decide_eq_true_eq, Bool.and_eq_true, Bool.or_eq_true, Bool.not_eq_true', Bool.and_eq_false_iff, Bool.or_eq_false_iff, decide_eq_false_iff_not, aI110, aI111, aI112, aI113, aI114, aL100, aL101, aL102, aL103, aL110, aL112, aL113, aL114, aL115, aL116, aB130, aB131, aB132, aB199]
  repeat' apply And.intro
  all_goals intro ρ hR
  all_goals intros
  all_goals first
    | (omega)
    | (have hT : ∀ r ∈ ρ.l 0, okRow K5 r := hR.row 2 rfl rfl
       have hu : usesB (ρ.l 0) = true := by with_reducible assumption
       have e := fun he => bac_now hT (id := ρ.i 14) (g := ρ.i 11) hu he
       have u := uses_bac hT (id := ρ.i 14) (g := ρ.i 11) hu
       exact u)
    | (have hT : ∀ r ∈ ρ.l 0, okRow K5 r := hR.row 2 rfl rfl
       have hu : usesB (ρ.l 0) = true := by with_reducible assumption
       have e := fun he => bac_now hT (id := ρ.i 14) (g := ρ.i 11) hu he
       have u := uses_bac hT (id := ρ.i 14) (g := ρ.i 11) hu
       clear hT hR
       exfalso
       grind)
theorem v2_ok (ρ : Env) : TblOK Φ ρ Try.prog v2 := addLp_ok (v1_ok ρ) us19_ok
set_option maxRecDepth 100000 in
theorem us14_obs : partObs Φ Try.prog v2 1000 us14.f (loopAt Try.prog us14.f us14.id) us14.n us14.T us14.outs = some
  [{
      pc :=
        [SB.eq (SI.wrap IntKind.i64 (SI.add (SI.v 24) (SI.c (Int.ofNat 1)))) (SI.c (Int.ofNat 0)), SB.v 3,
          SB.eq (SI.v 22) (SI.v 11), SB.v 1,
          SB.eq (SI.app 112 (SA.l (SL.v 0) (SA.i (SI.v 14) (SA.i (SI.v 11) (SA.i (SI.c (Int.ofNat 1)) SA.nil)))))
            (SI.c (Int.ofNat 0)),
          SB.app 130
            (SA.l (SL.app 112 (SA.l (SL.v 0) (SA.i (SI.v 14) (SA.i (SI.v 11) (SA.i (SI.c (Int.ofNat 1)) SA.nil)))))
              (SA.i (SI.v 14) SA.nil)),
          SB.eq
            (SI.len (SL.app 112 (SA.l (SL.v 0) (SA.i (SI.v 14) (SA.i (SI.v 11) (SA.i (SI.c (Int.ofNat 1)) SA.nil))))))
            (SI.len (SL.v 0)),
          SB.v 2, SB.v 5, SB.le (SI.c (Int.ofNat 1)) (SI.len (SL.v 0)), SB.le (SI.len (SL.v 0)) (SI.c (Int.ofNat 64)),
          SB.eq (SI.len (SL.v 0)) (SI.v 2), SB.c true, SB.app 131 (SA.l (SL.v 0) SA.nil),
          SB.or
            (SB.and (SB.v 1)
              (SB.and (SB.not (SB.app 130 (SA.l (SL.v 0) (SA.i (SI.v 14) SA.nil))))
                (SB.and (SB.eq (SI.v 20) (SI.sel (SL.v 0) (SI.v 14) 0))
                  (SB.and (SB.eq (SI.v 22) (SI.sel (SL.v 0) (SI.v 14) 2))
                    (SB.and (SB.eq (SI.v 24) (SI.sel (SL.v 0) (SI.v 14) 4))
                      (SB.or (SB.and (SB.v 3) (SB.not (SB.eq (SI.sel (SL.v 0) (SI.v 14) 3) (SI.c (Int.ofNat 0)))))
                        (SB.and (SB.not (SB.v 3)) (SB.eq (SI.sel (SL.v 0) (SI.v 14) 3) (SI.c (Int.ofNat 0))))))))))
            (SB.and (SB.not (SB.v 1)) (SB.app 130 (SA.l (SL.v 0) (SA.i (SI.v 14) SA.nil)))),
          SB.and (SB.c true) (SB.or (SB.v 5) (SB.not (SB.v 5)))],
      eqs :=
        [Eqn.T
            (SB.app 131
              (SA.l (SL.app 112 (SA.l (SL.v 0) (SA.i (SI.v 14) (SA.i (SI.v 11) (SA.i (SI.c (Int.ofNat 1)) SA.nil)))))
                SA.nil))] },
    {
      pc :=
        [SB.not (SB.eq (SI.wrap IntKind.i64 (SI.add (SI.v 24) (SI.c (Int.ofNat 1)))) (SI.c (Int.ofNat 0))), SB.v 3,
          SB.eq (SI.v 22) (SI.v 11), SB.v 1,
          SB.eq (SI.app 112 (SA.l (SL.v 0) (SA.i (SI.v 14) (SA.i (SI.v 11) (SA.i (SI.c (Int.ofNat 1)) SA.nil)))))
            (SI.c (Int.ofNat 0)),
          SB.app 130
            (SA.l (SL.app 112 (SA.l (SL.v 0) (SA.i (SI.v 14) (SA.i (SI.v 11) (SA.i (SI.c (Int.ofNat 1)) SA.nil)))))
              (SA.i (SI.v 14) SA.nil)),
          SB.eq
            (SI.len (SL.app 112 (SA.l (SL.v 0) (SA.i (SI.v 14) (SA.i (SI.v 11) (SA.i (SI.c (Int.ofNat 1)) SA.nil))))))
            (SI.len (SL.v 0)),
          SB.v 2, SB.v 5, SB.le (SI.c (Int.ofNat 1)) (SI.len (SL.v 0)), SB.le (SI.len (SL.v 0)) (SI.c (Int.ofNat 64)),
          SB.eq (SI.len (SL.v 0)) (SI.v 2), SB.c true, SB.app 131 (SA.l (SL.v 0) SA.nil),
          SB.or
            (SB.and (SB.v 1)
              (SB.and (SB.not (SB.app 130 (SA.l (SL.v 0) (SA.i (SI.v 14) SA.nil))))
                (SB.and (SB.eq (SI.v 20) (SI.sel (SL.v 0) (SI.v 14) 0))
                  (SB.and (SB.eq (SI.v 22) (SI.sel (SL.v 0) (SI.v 14) 2))
                    (SB.and (SB.eq (SI.v 24) (SI.sel (SL.v 0) (SI.v 14) 4))
                      (SB.or (SB.and (SB.v 3) (SB.not (SB.eq (SI.sel (SL.v 0) (SI.v 14) 3) (SI.c (Int.ofNat 0)))))
                        (SB.and (SB.not (SB.v 3)) (SB.eq (SI.sel (SL.v 0) (SI.v 14) 3) (SI.c (Int.ofNat 0))))))))))
            (SB.and (SB.not (SB.v 1)) (SB.app 130 (SA.l (SL.v 0) (SA.i (SI.v 14) SA.nil)))),
          SB.and (SB.c true) (SB.or (SB.v 5) (SB.not (SB.v 5)))],
      eqs := [Eqn.T (SB.app 199 SA.nil)] },
    {
      pc :=
        [SB.not (SB.v 3), SB.eq (SI.v 22) (SI.v 11), SB.v 1,
          SB.eq (SI.app 112 (SA.l (SL.v 0) (SA.i (SI.v 14) (SA.i (SI.v 11) (SA.i (SI.c (Int.ofNat 1)) SA.nil)))))
            (SI.c (Int.ofNat 0)),
          SB.app 130
            (SA.l (SL.app 112 (SA.l (SL.v 0) (SA.i (SI.v 14) (SA.i (SI.v 11) (SA.i (SI.c (Int.ofNat 1)) SA.nil)))))
              (SA.i (SI.v 14) SA.nil)),
          SB.eq
            (SI.len (SL.app 112 (SA.l (SL.v 0) (SA.i (SI.v 14) (SA.i (SI.v 11) (SA.i (SI.c (Int.ofNat 1)) SA.nil))))))
            (SI.len (SL.v 0)),
          SB.v 2, SB.v 5, SB.le (SI.c (Int.ofNat 1)) (SI.len (SL.v 0)), SB.le (SI.len (SL.v 0)) (SI.c (Int.ofNat 64)),
          SB.eq (SI.len (SL.v 0)) (SI.v 2), SB.c true, SB.app 131 (SA.l (SL.v 0) SA.nil),
          SB.or
            (SB.and (SB.v 1)
              (SB.and (SB.not (SB.app 130 (SA.l (SL.v 0) (SA.i (SI.v 14) SA.nil))))
                (SB.and (SB.eq (SI.v 20) (SI.sel (SL.v 0) (SI.v 14) 0))
                  (SB.and (SB.eq (SI.v 22) (SI.sel (SL.v 0) (SI.v 14) 2))
                    (SB.and (SB.eq (SI.v 24) (SI.sel (SL.v 0) (SI.v 14) 4))
                      (SB.or (SB.and (SB.v 3) (SB.not (SB.eq (SI.sel (SL.v 0) (SI.v 14) 3) (SI.c (Int.ofNat 0)))))
                        (SB.and (SB.not (SB.v 3)) (SB.eq (SI.sel (SL.v 0) (SI.v 14) 3) (SI.c (Int.ofNat 0))))))))))
            (SB.and (SB.not (SB.v 1)) (SB.app 130 (SA.l (SL.v 0) (SA.i (SI.v 14) SA.nil)))),
          SB.and (SB.c true) (SB.or (SB.v 5) (SB.not (SB.v 5)))],
      eqs := [Eqn.T (SB.app 199 SA.nil)] },
    {
      pc :=
        [SB.not (SB.eq (SI.v 22) (SI.v 11)), SB.v 1,
          SB.eq (SI.app 112 (SA.l (SL.v 0) (SA.i (SI.v 14) (SA.i (SI.v 11) (SA.i (SI.c (Int.ofNat 1)) SA.nil)))))
            (SI.c (Int.ofNat 0)),
          SB.app 130
            (SA.l (SL.app 112 (SA.l (SL.v 0) (SA.i (SI.v 14) (SA.i (SI.v 11) (SA.i (SI.c (Int.ofNat 1)) SA.nil)))))
              (SA.i (SI.v 14) SA.nil)),
          SB.eq
            (SI.len (SL.app 112 (SA.l (SL.v 0) (SA.i (SI.v 14) (SA.i (SI.v 11) (SA.i (SI.c (Int.ofNat 1)) SA.nil))))))
            (SI.len (SL.v 0)),
          SB.v 2, SB.v 5, SB.le (SI.c (Int.ofNat 1)) (SI.len (SL.v 0)), SB.le (SI.len (SL.v 0)) (SI.c (Int.ofNat 64)),
          SB.eq (SI.len (SL.v 0)) (SI.v 2), SB.c true, SB.app 131 (SA.l (SL.v 0) SA.nil),
          SB.or
            (SB.and (SB.v 1)
              (SB.and (SB.not (SB.app 130 (SA.l (SL.v 0) (SA.i (SI.v 14) SA.nil))))
                (SB.and (SB.eq (SI.v 20) (SI.sel (SL.v 0) (SI.v 14) 0))
                  (SB.and (SB.eq (SI.v 22) (SI.sel (SL.v 0) (SI.v 14) 2))
                    (SB.and (SB.eq (SI.v 24) (SI.sel (SL.v 0) (SI.v 14) 4))
                      (SB.or (SB.and (SB.v 3) (SB.not (SB.eq (SI.sel (SL.v 0) (SI.v 14) 3) (SI.c (Int.ofNat 0)))))
                        (SB.and (SB.not (SB.v 3)) (SB.eq (SI.sel (SL.v 0) (SI.v 14) 3) (SI.c (Int.ofNat 0))))))))))
            (SB.and (SB.not (SB.v 1)) (SB.app 130 (SA.l (SL.v 0) (SA.i (SI.v 14) SA.nil)))),
          SB.and (SB.c true) (SB.or (SB.v 5) (SB.not (SB.v 5)))],
      eqs := [Eqn.T (SB.app 199 SA.nil)] },
    {
      pc :=
        [SB.not (SB.v 1),
          SB.eq (SI.app 112 (SA.l (SL.v 0) (SA.i (SI.v 14) (SA.i (SI.v 11) (SA.i (SI.c (Int.ofNat 1)) SA.nil)))))
            (SI.c (Int.ofNat 0)),
          SB.app 130
            (SA.l (SL.app 112 (SA.l (SL.v 0) (SA.i (SI.v 14) (SA.i (SI.v 11) (SA.i (SI.c (Int.ofNat 1)) SA.nil)))))
              (SA.i (SI.v 14) SA.nil)),
          SB.eq
            (SI.len (SL.app 112 (SA.l (SL.v 0) (SA.i (SI.v 14) (SA.i (SI.v 11) (SA.i (SI.c (Int.ofNat 1)) SA.nil))))))
            (SI.len (SL.v 0)),
          SB.v 2, SB.v 5, SB.le (SI.c (Int.ofNat 1)) (SI.len (SL.v 0)), SB.le (SI.len (SL.v 0)) (SI.c (Int.ofNat 64)),
          SB.eq (SI.len (SL.v 0)) (SI.v 2), SB.c true, SB.app 131 (SA.l (SL.v 0) SA.nil),
          SB.or
            (SB.and (SB.v 1)
              (SB.and (SB.not (SB.app 130 (SA.l (SL.v 0) (SA.i (SI.v 14) SA.nil))))
                (SB.and (SB.eq (SI.v 20) (SI.sel (SL.v 0) (SI.v 14) 0))
                  (SB.and (SB.eq (SI.v 22) (SI.sel (SL.v 0) (SI.v 14) 2))
                    (SB.and (SB.eq (SI.v 24) (SI.sel (SL.v 0) (SI.v 14) 4))
                      (SB.or (SB.and (SB.v 3) (SB.not (SB.eq (SI.sel (SL.v 0) (SI.v 14) 3) (SI.c (Int.ofNat 0)))))
                        (SB.and (SB.not (SB.v 3)) (SB.eq (SI.sel (SL.v 0) (SI.v 14) 3) (SI.c (Int.ofNat 0))))))))))
            (SB.and (SB.not (SB.v 1)) (SB.app 130 (SA.l (SL.v 0) (SA.i (SI.v 14) SA.nil)))),
          SB.and (SB.c true) (SB.or (SB.v 5) (SB.not (SB.v 5)))],
      eqs := [Eqn.T (SB.app 199 SA.nil)] },
    {
      pc :=
        [SB.not
            (SB.eq (SI.app 112 (SA.l (SL.v 0) (SA.i (SI.v 14) (SA.i (SI.v 11) (SA.i (SI.c (Int.ofNat 1)) SA.nil)))))
              (SI.c (Int.ofNat 0))),
          SB.app 130
            (SA.l (SL.app 112 (SA.l (SL.v 0) (SA.i (SI.v 14) (SA.i (SI.v 11) (SA.i (SI.c (Int.ofNat 1)) SA.nil)))))
              (SA.i (SI.v 14) SA.nil)),
          SB.eq
            (SI.len (SL.app 112 (SA.l (SL.v 0) (SA.i (SI.v 14) (SA.i (SI.v 11) (SA.i (SI.c (Int.ofNat 1)) SA.nil))))))
            (SI.len (SL.v 0)),
          SB.v 2, SB.v 5, SB.le (SI.c (Int.ofNat 1)) (SI.len (SL.v 0)), SB.le (SI.len (SL.v 0)) (SI.c (Int.ofNat 64)),
          SB.eq (SI.len (SL.v 0)) (SI.v 2), SB.c true, SB.app 131 (SA.l (SL.v 0) SA.nil),
          SB.or
            (SB.and (SB.v 1)
              (SB.and (SB.not (SB.app 130 (SA.l (SL.v 0) (SA.i (SI.v 14) SA.nil))))
                (SB.and (SB.eq (SI.v 20) (SI.sel (SL.v 0) (SI.v 14) 0))
                  (SB.and (SB.eq (SI.v 22) (SI.sel (SL.v 0) (SI.v 14) 2))
                    (SB.and (SB.eq (SI.v 24) (SI.sel (SL.v 0) (SI.v 14) 4))
                      (SB.or (SB.and (SB.v 3) (SB.not (SB.eq (SI.sel (SL.v 0) (SI.v 14) 3) (SI.c (Int.ofNat 0)))))
                        (SB.and (SB.not (SB.v 3)) (SB.eq (SI.sel (SL.v 0) (SI.v 14) 3) (SI.c (Int.ofNat 0))))))))))
            (SB.and (SB.not (SB.v 1)) (SB.app 130 (SA.l (SL.v 0) (SA.i (SI.v 14) SA.nil)))),
          SB.and (SB.c true) (SB.or (SB.v 5) (SB.not (SB.v 5)))],
      eqs :=
        [Eqn.T
            (SB.app 131
              (SA.l (SL.app 112 (SA.l (SL.v 0) (SA.i (SI.v 14) (SA.i (SI.v 11) (SA.i (SI.c (Int.ofNat 1)) SA.nil)))))
                SA.nil))] },
    {
      pc :=
        [SB.eq
            (SI.sel (SL.app 112 (SA.l (SL.v 0) (SA.i (SI.v 14) (SA.i (SI.v 11) (SA.i (SI.c (Int.ofNat 1)) SA.nil)))))
              (SI.v 14) 4)
            (SI.wrap IntKind.i64 (SI.add (SI.v 24) (SI.c (Int.ofNat 1)))),
          SB.v 3, SB.eq (SI.v 22) (SI.v 11), SB.v 1,
          SB.eq (SI.app 112 (SA.l (SL.v 0) (SA.i (SI.v 14) (SA.i (SI.v 11) (SA.i (SI.c (Int.ofNat 1)) SA.nil)))))
            (SI.c (Int.ofNat 0)),
          SB.lt (SI.v 14)
            (SI.len (SL.app 112 (SA.l (SL.v 0) (SA.i (SI.v 14) (SA.i (SI.v 11) (SA.i (SI.c (Int.ofNat 1)) SA.nil)))))),
          SB.le (SI.c (Int.ofNat 0)) (SI.v 14),
          SB.not
            (SB.app 130
              (SA.l (SL.app 112 (SA.l (SL.v 0) (SA.i (SI.v 14) (SA.i (SI.v 11) (SA.i (SI.c (Int.ofNat 1)) SA.nil)))))
                (SA.i (SI.v 14) SA.nil))),
          SB.eq
            (SI.len (SL.app 112 (SA.l (SL.v 0) (SA.i (SI.v 14) (SA.i (SI.v 11) (SA.i (SI.c (Int.ofNat 1)) SA.nil))))))
            (SI.len (SL.v 0)),
          SB.v 2, SB.v 5, SB.le (SI.c (Int.ofNat 1)) (SI.len (SL.v 0)), SB.le (SI.len (SL.v 0)) (SI.c (Int.ofNat 64)),
          SB.eq (SI.len (SL.v 0)) (SI.v 2), SB.c true, SB.app 131 (SA.l (SL.v 0) SA.nil),
          SB.or
            (SB.and (SB.v 1)
              (SB.and (SB.not (SB.app 130 (SA.l (SL.v 0) (SA.i (SI.v 14) SA.nil))))
                (SB.and (SB.eq (SI.v 20) (SI.sel (SL.v 0) (SI.v 14) 0))
                  (SB.and (SB.eq (SI.v 22) (SI.sel (SL.v 0) (SI.v 14) 2))
                    (SB.and (SB.eq (SI.v 24) (SI.sel (SL.v 0) (SI.v 14) 4))
                      (SB.or (SB.and (SB.v 3) (SB.not (SB.eq (SI.sel (SL.v 0) (SI.v 14) 3) (SI.c (Int.ofNat 0)))))
                        (SB.and (SB.not (SB.v 3)) (SB.eq (SI.sel (SL.v 0) (SI.v 14) 3) (SI.c (Int.ofNat 0))))))))))
            (SB.and (SB.not (SB.v 1)) (SB.app 130 (SA.l (SL.v 0) (SA.i (SI.v 14) SA.nil)))),
          SB.and (SB.c true) (SB.or (SB.v 5) (SB.not (SB.v 5)))],
      eqs :=
        [Eqn.T
            (SB.app 131
              (SA.l (SL.app 112 (SA.l (SL.v 0) (SA.i (SI.v 14) (SA.i (SI.v 11) (SA.i (SI.c (Int.ofNat 1)) SA.nil)))))
                SA.nil))] },
    {
      pc :=
        [SB.not
            (SB.eq
              (SI.sel (SL.app 112 (SA.l (SL.v 0) (SA.i (SI.v 14) (SA.i (SI.v 11) (SA.i (SI.c (Int.ofNat 1)) SA.nil)))))
                (SI.v 14) 4)
              (SI.wrap IntKind.i64 (SI.add (SI.v 24) (SI.c (Int.ofNat 1))))),
          SB.v 3, SB.eq (SI.v 22) (SI.v 11), SB.v 1,
          SB.eq (SI.app 112 (SA.l (SL.v 0) (SA.i (SI.v 14) (SA.i (SI.v 11) (SA.i (SI.c (Int.ofNat 1)) SA.nil)))))
            (SI.c (Int.ofNat 0)),
          SB.lt (SI.v 14)
            (SI.len (SL.app 112 (SA.l (SL.v 0) (SA.i (SI.v 14) (SA.i (SI.v 11) (SA.i (SI.c (Int.ofNat 1)) SA.nil)))))),
          SB.le (SI.c (Int.ofNat 0)) (SI.v 14),
          SB.not
            (SB.app 130
              (SA.l (SL.app 112 (SA.l (SL.v 0) (SA.i (SI.v 14) (SA.i (SI.v 11) (SA.i (SI.c (Int.ofNat 1)) SA.nil)))))
                (SA.i (SI.v 14) SA.nil))),
          SB.eq
            (SI.len (SL.app 112 (SA.l (SL.v 0) (SA.i (SI.v 14) (SA.i (SI.v 11) (SA.i (SI.c (Int.ofNat 1)) SA.nil))))))
            (SI.len (SL.v 0)),
          SB.v 2, SB.v 5, SB.le (SI.c (Int.ofNat 1)) (SI.len (SL.v 0)), SB.le (SI.len (SL.v 0)) (SI.c (Int.ofNat 64)),
          SB.eq (SI.len (SL.v 0)) (SI.v 2), SB.c true, SB.app 131 (SA.l (SL.v 0) SA.nil),
          SB.or
            (SB.and (SB.v 1)
              (SB.and (SB.not (SB.app 130 (SA.l (SL.v 0) (SA.i (SI.v 14) SA.nil))))
                (SB.and (SB.eq (SI.v 20) (SI.sel (SL.v 0) (SI.v 14) 0))
                  (SB.and (SB.eq (SI.v 22) (SI.sel (SL.v 0) (SI.v 14) 2))
                    (SB.and (SB.eq (SI.v 24) (SI.sel (SL.v 0) (SI.v 14) 4))
                      (SB.or (SB.and (SB.v 3) (SB.not (SB.eq (SI.sel (SL.v 0) (SI.v 14) 3) (SI.c (Int.ofNat 0)))))
                        (SB.and (SB.not (SB.v 3)) (SB.eq (SI.sel (SL.v 0) (SI.v 14) 3) (SI.c (Int.ofNat 0))))))))))
            (SB.and (SB.not (SB.v 1)) (SB.app 130 (SA.l (SL.v 0) (SA.i (SI.v 14) SA.nil)))),
          SB.and (SB.c true) (SB.or (SB.v 5) (SB.not (SB.v 5)))],
      eqs := [Eqn.T (SB.app 199 SA.nil)] },
    {
      pc :=
        [SB.not (SB.v 3), SB.eq (SI.v 22) (SI.v 11), SB.v 1,
          SB.eq (SI.app 112 (SA.l (SL.v 0) (SA.i (SI.v 14) (SA.i (SI.v 11) (SA.i (SI.c (Int.ofNat 1)) SA.nil)))))
            (SI.c (Int.ofNat 0)),
          SB.lt (SI.v 14)
            (SI.len (SL.app 112 (SA.l (SL.v 0) (SA.i (SI.v 14) (SA.i (SI.v 11) (SA.i (SI.c (Int.ofNat 1)) SA.nil)))))),
          SB.le (SI.c (Int.ofNat 0)) (SI.v 14),
          SB.not
            (SB.app 130
              (SA.l (SL.app 112 (SA.l (SL.v 0) (SA.i (SI.v 14) (SA.i (SI.v 11) (SA.i (SI.c (Int.ofNat 1)) SA.nil)))))
                (SA.i (SI.v 14) SA.nil))),
          SB.eq
            (SI.len (SL.app 112 (SA.l (SL.v 0) (SA.i (SI.v 14) (SA.i (SI.v 11) (SA.i (SI.c (Int.ofNat 1)) SA.nil))))))
            (SI.len (SL.v 0)),
          SB.v 2, SB.v 5, SB.le (SI.c (Int.ofNat 1)) (SI.len (SL.v 0)), SB.le (SI.len (SL.v 0)) (SI.c (Int.ofNat 64)),
          SB.eq (SI.len (SL.v 0)) (SI.v 2), SB.c true, SB.app 131 (SA.l (SL.v 0) SA.nil),
          SB.or
            (SB.and (SB.v 1)
              (SB.and (SB.not (SB.app 130 (SA.l (SL.v 0) (SA.i (SI.v 14) SA.nil))))
                (SB.and (SB.eq (SI.v 20) (SI.sel (SL.v 0) (SI.v 14) 0))
                  (SB.and (SB.eq (SI.v 22) (SI.sel (SL.v 0) (SI.v 14) 2))
                    (SB.and (SB.eq (SI.v 24) (SI.sel (SL.v 0) (SI.v 14) 4))
                      (SB.or (SB.and (SB.v 3) (SB.not (SB.eq (SI.sel (SL.v 0) (SI.v 14) 3) (SI.c (Int.ofNat 0)))))
                        (SB.and (SB.not (SB.v 3)) (SB.eq (SI.sel (SL.v 0) (SI.v 14) 3) (SI.c (Int.ofNat 0))))))))))
            (SB.and (SB.not (SB.v 1)) (SB.app 130 (SA.l (SL.v 0) (SA.i (SI.v 14) SA.nil)))),
          SB.and (SB.c true) (SB.or (SB.v 5) (SB.not (SB.v 5)))],
      eqs := [Eqn.T (SB.app 199 SA.nil)] },
    {
      pc :=
        [SB.not (SB.eq (SI.v 22) (SI.v 11)), SB.v 1,
          SB.eq (SI.app 112 (SA.l (SL.v 0) (SA.i (SI.v 14) (SA.i (SI.v 11) (SA.i (SI.c (Int.ofNat 1)) SA.nil)))))
            (SI.c (Int.ofNat 0)),
          SB.lt (SI.v 14)
            (SI.len (SL.app 112 (SA.l (SL.v 0) (SA.i (SI.v 14) (SA.i (SI.v 11) (SA.i (SI.c (Int.ofNat 1)) SA.nil)))))),
          SB.le (SI.c (Int.ofNat 0)) (SI.v 14),
          SB.not
            (SB.app 130
              (SA.l (SL.app 112 (SA.l (SL.v 0) (SA.i (SI.v 14) (SA.i (SI.v 11) (SA.i (SI.c (Int.ofNat 1)) SA.nil)))))
                (SA.i (SI.v 14) SA.nil))),
          SB.eq
            (SI.len (SL.app 112 (SA.l (SL.v 0) (SA.i (SI.v 14) (SA.i (SI.v 11) (SA.i (SI.c (Int.ofNat 1)) SA.nil))))))
            (SI.len (SL.v 0)),
          SB.v 2, SB.v 5, SB.le (SI.c (Int.ofNat 1)) (SI.len (SL.v 0)), SB.le (SI.len (SL.v 0)) (SI.c (Int.ofNat 64)),
          SB.eq (SI.len (SL.v 0)) (SI.v 2), SB.c true, SB.app 131 (SA.l (SL.v 0) SA.nil),
          SB.or
            (SB.and (SB.v 1)
              (SB.and (SB.not (SB.app 130 (SA.l (SL.v 0) (SA.i (SI.v 14) SA.nil))))
                (SB.and (SB.eq (SI.v 20) (SI.sel (SL.v 0) (SI.v 14) 0))
                  (SB.and (SB.eq (SI.v 22) (SI.sel (SL.v 0) (SI.v 14) 2))
                    (SB.and (SB.eq (SI.v 24) (SI.sel (SL.v 0) (SI.v 14) 4))
                      (SB.or (SB.and (SB.v 3) (SB.not (SB.eq (SI.sel (SL.v 0) (SI.v 14) 3) (SI.c (Int.ofNat 0)))))
                        (SB.and (SB.not (SB.v 3)) (SB.eq (SI.sel (SL.v 0) (SI.v 14) 3) (SI.c (Int.ofNat 0))))))))))
            (SB.and (SB.not (SB.v 1)) (SB.app 130 (SA.l (SL.v 0) (SA.i (SI.v 14) SA.nil)))),
          SB.and (SB.c true) (SB.or (SB.v 5) (SB.not (SB.v 5)))],
      eqs := [Eqn.T (SB.app 199 SA.nil)] },
    {
      pc :=
        [SB.not (SB.v 1),
          SB.eq (SI.app 112 (SA.l (SL.v 0) (SA.i (SI.v 14) (SA.i (SI.v 11) (SA.i (SI.c (Int.ofNat 1)) SA.nil)))))
            (SI.c (Int.ofNat 0)),
          SB.lt (SI.v 14)
            (SI.len (SL.app 112 (SA.l (SL.v 0) (SA.i (SI.v 14) (SA.i (SI.v 11) (SA.i (SI.c (Int.ofNat 1)) SA.nil)))))),
          SB.le (SI.c (Int.ofNat 0)) (SI.v 14),
          SB.not
            (SB.app 130
              (SA.l (SL.app 112 (SA.l (SL.v 0) (SA.i (SI.v 14) (SA.i (SI.v 11) (SA.i (SI.c (Int.ofNat 1)) SA.nil)))))
                (SA.i (SI.v 14) SA.nil))),
          SB.eq
            (SI.len (SL.app 112 (SA.l (SL.v 0) (SA.i (SI.v 14) (SA.i (SI.v 11) (SA.i (SI.c (Int.ofNat 1)) SA.nil))))))
            (SI.len (SL.v 0)),
          SB.v 2, SB.v 5, SB.le (SI.c (Int.ofNat 1)) (SI.len (SL.v 0)), SB.le (SI.len (SL.v 0)) (SI.c (Int.ofNat 64)),
          SB.eq (SI.len (SL.v 0)) (SI.v 2), SB.c true, SB.app 131 (SA.l (SL.v 0) SA.nil),
          SB.or
            (SB.and (SB.v 1)
              (SB.and (SB.not (SB.app 130 (SA.l (SL.v 0) (SA.i (SI.v 14) SA.nil))))
                (SB.and (SB.eq (SI.v 20) (SI.sel (SL.v 0) (SI.v 14) 0))
                  (SB.and (SB.eq (SI.v 22) (SI.sel (SL.v 0) (SI.v 14) 2))
                    (SB.and (SB.eq (SI.v 24) (SI.sel (SL.v 0) (SI.v 14) 4))
                      (SB.or (SB.and (SB.v 3) (SB.not (SB.eq (SI.sel (SL.v 0) (SI.v 14) 3) (SI.c (Int.ofNat 0)))))
                        (SB.and (SB.not (SB.v 3)) (SB.eq (SI.sel (SL.v 0) (SI.v 14) 3) (SI.c (Int.ofNat 0))))))))))
            (SB.and (SB.not (SB.v 1)) (SB.app 130 (SA.l (SL.v 0) (SA.i (SI.v 14) SA.nil)))),
          SB.and (SB.c true) (SB.or (SB.v 5) (SB.not (SB.v 5)))],
      eqs := [Eqn.T (SB.app 199 SA.nil)] },
    {
      pc :=
        [SB.not
            (SB.eq (SI.app 112 (SA.l (SL.v 0) (SA.i (SI.v 14) (SA.i (SI.v 11) (SA.i (SI.c (Int.ofNat 1)) SA.nil)))))
              (SI.c (Int.ofNat 0))),
          SB.lt (SI.v 14)
            (SI.len (SL.app 112 (SA.l (SL.v 0) (SA.i (SI.v 14) (SA.i (SI.v 11) (SA.i (SI.c (Int.ofNat 1)) SA.nil)))))),
          SB.le (SI.c (Int.ofNat 0)) (SI.v 14),
          SB.not
            (SB.app 130
              (SA.l (SL.app 112 (SA.l (SL.v 0) (SA.i (SI.v 14) (SA.i (SI.v 11) (SA.i (SI.c (Int.ofNat 1)) SA.nil)))))
                (SA.i (SI.v 14) SA.nil))),
          SB.eq
            (SI.len (SL.app 112 (SA.l (SL.v 0) (SA.i (SI.v 14) (SA.i (SI.v 11) (SA.i (SI.c (Int.ofNat 1)) SA.nil))))))
            (SI.len (SL.v 0)),
          SB.v 2, SB.v 5, SB.le (SI.c (Int.ofNat 1)) (SI.len (SL.v 0)), SB.le (SI.len (SL.v 0)) (SI.c (Int.ofNat 64)),
          SB.eq (SI.len (SL.v 0)) (SI.v 2), SB.c true, SB.app 131 (SA.l (SL.v 0) SA.nil),
          SB.or
            (SB.and (SB.v 1)
              (SB.and (SB.not (SB.app 130 (SA.l (SL.v 0) (SA.i (SI.v 14) SA.nil))))
                (SB.and (SB.eq (SI.v 20) (SI.sel (SL.v 0) (SI.v 14) 0))
                  (SB.and (SB.eq (SI.v 22) (SI.sel (SL.v 0) (SI.v 14) 2))
                    (SB.and (SB.eq (SI.v 24) (SI.sel (SL.v 0) (SI.v 14) 4))
                      (SB.or (SB.and (SB.v 3) (SB.not (SB.eq (SI.sel (SL.v 0) (SI.v 14) 3) (SI.c (Int.ofNat 0)))))
                        (SB.and (SB.not (SB.v 3)) (SB.eq (SI.sel (SL.v 0) (SI.v 14) 3) (SI.c (Int.ofNat 0))))))))))
            (SB.and (SB.not (SB.v 1)) (SB.app 130 (SA.l (SL.v 0) (SA.i (SI.v 14) SA.nil)))),
          SB.and (SB.c true) (SB.or (SB.v 5) (SB.not (SB.v 5)))],
      eqs :=
        [Eqn.T
            (SB.app 131
              (SA.l (SL.app 112 (SA.l (SL.v 0) (SA.i (SI.v 14) (SA.i (SI.v 11) (SA.i (SI.c (Int.ofNat 1)) SA.nil)))))
                SA.nil))] },
    {
      pc :=
        [SB.eq (SI.wrap IntKind.i64 (SI.add (SI.v 24) (SI.c (Int.ofNat 1)))) (SI.c (Int.ofNat 0)),
          SB.eq (SI.v 22) (SI.v 11), SB.v 1,
          SB.eq (SI.app 112 (SA.l (SL.v 0) (SA.i (SI.v 14) (SA.i (SI.v 11) (SA.i (SI.c (Int.ofNat 0)) SA.nil)))))
            (SI.c (Int.ofNat 0)),
          SB.app 130
            (SA.l (SL.app 112 (SA.l (SL.v 0) (SA.i (SI.v 14) (SA.i (SI.v 11) (SA.i (SI.c (Int.ofNat 0)) SA.nil)))))
              (SA.i (SI.v 14) SA.nil)),
          SB.eq
            (SI.len (SL.app 112 (SA.l (SL.v 0) (SA.i (SI.v 14) (SA.i (SI.v 11) (SA.i (SI.c (Int.ofNat 0)) SA.nil))))))
            (SI.len (SL.v 0)),
          SB.v 2, SB.not (SB.v 5), SB.le (SI.c (Int.ofNat 1)) (SI.len (SL.v 0)),
          SB.le (SI.len (SL.v 0)) (SI.c (Int.ofNat 64)), SB.eq (SI.len (SL.v 0)) (SI.v 2), SB.c true,
          SB.app 131 (SA.l (SL.v 0) SA.nil),
          SB.or
            (SB.and (SB.v 1)
              (SB.and (SB.not (SB.app 130 (SA.l (SL.v 0) (SA.i (SI.v 14) SA.nil))))
                (SB.and (SB.eq (SI.v 20) (SI.sel (SL.v 0) (SI.v 14) 0))
                  (SB.and (SB.eq (SI.v 22) (SI.sel (SL.v 0) (SI.v 14) 2))
                    (SB.and (SB.eq (SI.v 24) (SI.sel (SL.v 0) (SI.v 14) 4))
                      (SB.or (SB.and (SB.v 3) (SB.not (SB.eq (SI.sel (SL.v 0) (SI.v 14) 3) (SI.c (Int.ofNat 0)))))
                        (SB.and (SB.not (SB.v 3)) (SB.eq (SI.sel (SL.v 0) (SI.v 14) 3) (SI.c (Int.ofNat 0))))))))))
            (SB.and (SB.not (SB.v 1)) (SB.app 130 (SA.l (SL.v 0) (SA.i (SI.v 14) SA.nil)))),
          SB.and (SB.c true) (SB.or (SB.v 5) (SB.not (SB.v 5)))],
      eqs :=
        [Eqn.T
            (SB.app 131
              (SA.l (SL.app 112 (SA.l (SL.v 0) (SA.i (SI.v 14) (SA.i (SI.v 11) (SA.i (SI.c (Int.ofNat 0)) SA.nil)))))
                SA.nil))] },
    {
      pc :=
        [SB.not (SB.eq (SI.wrap IntKind.i64 (SI.add (SI.v 24) (SI.c (Int.ofNat 1)))) (SI.c (Int.ofNat 0))),
          SB.eq (SI.v 22) (SI.v 11), SB.v 1,
          SB.eq (SI.app 112 (SA.l (SL.v 0) (SA.i (SI.v 14) (SA.i (SI.v 11) (SA.i (SI.c (Int.ofNat 0)) SA.nil)))))
            (SI.c (Int.ofNat 0)),
          SB.app 130
            (SA.l (SL.app 112 (SA.l (SL.v 0) (SA.i (SI.v 14) (SA.i (SI.v 11) (SA.i (SI.c (Int.ofNat 0)) SA.nil)))))
              (SA.i (SI.v 14) SA.nil)),
          SB.eq
            (SI.len (SL.app 112 (SA.l (SL.v 0) (SA.i (SI.v 14) (SA.i (SI.v 11) (SA.i (SI.c (Int.ofNat 0)) SA.nil))))))
            (SI.len (SL.v 0)),
          SB.v 2, SB.not (SB.v 5), SB.le (SI.c (Int.ofNat 1)) (SI.len (SL.v 0)),
          SB.le (SI.len (SL.v 0)) (SI.c (Int.ofNat 64)), SB.eq (SI.len (SL.v 0)) (SI.v 2), SB.c true,
          SB.app 131 (SA.l (SL.v 0) SA.nil),
          SB.or
            (SB.and (SB.v 1)
              (SB.and (SB.not (SB.app 130 (SA.l (SL.v 0) (SA.i (SI.v 14) SA.nil))))
                (SB.and (SB.eq (SI.v 20) (SI.sel (SL.v 0) (SI.v 14) 0))
                  (SB.and (SB.eq (SI.v 22) (SI.sel (SL.v 0) (SI.v 14) 2))
                    (SB.and (SB.eq (SI.v 24) (SI.sel (SL.v 0) (SI.v 14) 4))
                      (SB.or (SB.and (SB.v 3) (SB.not (SB.eq (SI.sel (SL.v 0) (SI.v 14) 3) (SI.c (Int.ofNat 0)))))
                        (SB.and (SB.not (SB.v 3)) (SB.eq (SI.sel (SL.v 0) (SI.v 14) 3) (SI.c (Int.ofNat 0))))))))))
            (SB.and (SB.not (SB.v 1)) (SB.app 130 (SA.l (SL.v 0) (SA.i (SI.v 14) SA.nil)))),
          SB.and (SB.c true) (SB.or (SB.v 5) (SB.not (SB.v 5)))],
      eqs := [Eqn.T (SB.app 199 SA.nil)] },
    {
      pc :=
        [SB.not (SB.eq (SI.v 22) (SI.v 11)), SB.v 1,
          SB.eq (SI.app 112 (SA.l (SL.v 0) (SA.i (SI.v 14) (SA.i (SI.v 11) (SA.i (SI.c (Int.ofNat 0)) SA.nil)))))
            (SI.c (Int.ofNat 0)),
          SB.app 130
            (SA.l (SL.app 112 (SA.l (SL.v 0) (SA.i (SI.v 14) (SA.i (SI.v 11) (SA.i (SI.c (Int.ofNat 0)) SA.nil)))))
              (SA.i (SI.v 14) SA.nil)),
          SB.eq
            (SI.len (SL.app 112 (SA.l (SL.v 0) (SA.i (SI.v 14) (SA.i (SI.v 11) (SA.i (SI.c (Int.ofNat 0)) SA.nil))))))
            (SI.len (SL.v 0)),
          SB.v 2, SB.not (SB.v 5), SB.le (SI.c (Int.ofNat 1)) (SI.len (SL.v 0)),
          SB.le (SI.len (SL.v 0)) (SI.c (Int.ofNat 64)), SB.eq (SI.len (SL.v 0)) (SI.v 2), SB.c true,
          SB.app 131 (SA.l (SL.v 0) SA.nil),
          SB.or
            (SB.and (SB.v 1)
              (SB.and (SB.not (SB.app 130 (SA.l (SL.v 0) (SA.i (SI.v 14) SA.nil))))
                (SB.and (SB.eq (SI.v 20) (SI.sel (SL.v 0) (SI.v 14) 0))
                  (SB.and (SB.eq (SI.v 22) (SI.sel (SL.v 0) (SI.v 14) 2))
                    (SB.and (SB.eq (SI.v 24) (SI.sel (SL.v 0) (SI.v 14) 4))
                      (SB.or (SB.and (SB.v 3) (SB.not (SB.eq (SI.sel (SL.v 0) (SI.v 14) 3) (SI.c (Int.ofNat 0)))))
                        (SB.and (SB.not (SB.v 3)) (SB.eq (SI.sel (SL.v 0) (SI.v 14) 3) (SI.c (Int.ofNat 0))))))))))
            (SB.and (SB.not (SB.v 1)) (SB.app 130 (SA.l (SL.v 0) (SA.i (SI.v 14) SA.nil)))),
          SB.and (SB.c true) (SB.or (SB.v 5) (SB.not (SB.v 5)))],
      eqs := [Eqn.T (SB.app 199 SA.nil)] },
    {
      pc :=
        [SB.not (SB.v 1),
          SB.eq (SI.app 112 (SA.l (SL.v 0) (SA.i (SI.v 14) (SA.i (SI.v 11) (SA.i (SI.c (Int.ofNat 0)) SA.nil)))))
            (SI.c (Int.ofNat 0)),
          SB.app 130
            (SA.l (SL.app 112 (SA.l (SL.v 0) (SA.i (SI.v 14) (SA.i (SI.v 11) (SA.i (SI.c (Int.ofNat 0)) SA.nil)))))
              (SA.i (SI.v 14) SA.nil)),
          SB.eq
            (SI.len (SL.app 112 (SA.l (SL.v 0) (SA.i (SI.v 14) (SA.i (SI.v 11) (SA.i (SI.c (Int.ofNat 0)) SA.nil))))))
            (SI.len (SL.v 0)),
          SB.v 2, SB.not (SB.v 5), SB.le (SI.c (Int.ofNat 1)) (SI.len (SL.v 0)),
          SB.le (SI.len (SL.v 0)) (SI.c (Int.ofNat 64)), SB.eq (SI.len (SL.v 0)) (SI.v 2), SB.c true,
          SB.app 131 (SA.l (SL.v 0) SA.nil),
          SB.or
            (SB.and (SB.v 1)
              (SB.and (SB.not (SB.app 130 (SA.l (SL.v 0) (SA.i (SI.v 14) SA.nil))))
                (SB.and (SB.eq (SI.v 20) (SI.sel (SL.v 0) (SI.v 14) 0))
                  (SB.and (SB.eq (SI.v 22) (SI.sel (SL.v 0) (SI.v 14) 2))
                    (SB.and (SB.eq (SI.v 24) (SI.sel (SL.v 0) (SI.v 14) 4))
                      (SB.or (SB.and (SB.v 3) (SB.not (SB.eq (SI.sel (SL.v 0) (SI.v 14) 3) (SI.c (Int.ofNat 0)))))
                        (SB.and (SB.not (SB.v 3)) (SB.eq (SI.sel (SL.v 0) (SI.v 14) 3) (SI.c (Int.ofNat 0))))))))))
            (SB.and (SB.not (SB.v 1)) (SB.app 130 (SA.l (SL.v 0) (SA.i (SI.v 14) SA.nil)))),
          SB.and (SB.c true) (SB.or (SB.v 5) (SB.not (SB.v 5)))],
      eqs := [Eqn.T (SB.app 199 SA.nil)] },
    {
      pc :=
        [SB.not
            (SB.eq (SI.app 112 (SA.l (SL.v 0) (SA.i (SI.v 14) (SA.i (SI.v 11) (SA.i (SI.c (Int.ofNat 0)) SA.nil)))))
              (SI.c (Int.ofNat 0))),
          SB.app 130
            (SA.l (SL.app 112 (SA.l (SL.v 0) (SA.i (SI.v 14) (SA.i (SI.v 11) (SA.i (SI.c (Int.ofNat 0)) SA.nil)))))
              (SA.i (SI.v 14) SA.nil)),
          SB.eq
            (SI.len (SL.app 112 (SA.l (SL.v 0) (SA.i (SI.v 14) (SA.i (SI.v 11) (SA.i (SI.c (Int.ofNat 0)) SA.nil))))))
            (SI.len (SL.v 0)),
          SB.v 2, SB.not (SB.v 5), SB.le (SI.c (Int.ofNat 1)) (SI.len (SL.v 0)),
          SB.le (SI.len (SL.v 0)) (SI.c (Int.ofNat 64)), SB.eq (SI.len (SL.v 0)) (SI.v 2), SB.c true,
          SB.app 131 (SA.l (SL.v 0) SA.nil),
          SB.or
            (SB.and (SB.v 1)
              (SB.and (SB.not (SB.app 130 (SA.l (SL.v 0) (SA.i (SI.v 14) SA.nil))))
                (SB.and (SB.eq (SI.v 20) (SI.sel (SL.v 0) (SI.v 14) 0))
                  (SB.and (SB.eq (SI.v 22) (SI.sel (SL.v 0) (SI.v 14) 2))
                    (SB.and (SB.eq (SI.v 24) (SI.sel (SL.v 0) (SI.v 14) 4))
                      (SB.or (SB.and (SB.v 3) (SB.not (SB.eq (SI.sel (SL.v 0) (SI.v 14) 3) (SI.c (Int.ofNat 0)))))
                        (SB.and (SB.not (SB.v 3)) (SB.eq (SI.sel (SL.v 0) (SI.v 14) 3) (SI.c (Int.ofNat 0))))))))))
            (SB.and (SB.not (SB.v 1)) (SB.app 130 (SA.l (SL.v 0) (SA.i (SI.v 14) SA.nil)))),
          SB.and (SB.c true) (SB.or (SB.v 5) (SB.not (SB.v 5)))],
      eqs :=
        [Eqn.T
            (SB.app 131
              (SA.l (SL.app 112 (SA.l (SL.v 0) (SA.i (SI.v 14) (SA.i (SI.v 11) (SA.i (SI.c (Int.ofNat 0)) SA.nil)))))
                SA.nil))] },
    {
      pc :=
        [SB.eq
            (SI.sel (SL.app 112 (SA.l (SL.v 0) (SA.i (SI.v 14) (SA.i (SI.v 11) (SA.i (SI.c (Int.ofNat 0)) SA.nil)))))
              (SI.v 14) 4)
            (SI.wrap IntKind.i64 (SI.add (SI.v 24) (SI.c (Int.ofNat 1)))),
          SB.eq (SI.v 22) (SI.v 11), SB.v 1,
          SB.eq (SI.app 112 (SA.l (SL.v 0) (SA.i (SI.v 14) (SA.i (SI.v 11) (SA.i (SI.c (Int.ofNat 0)) SA.nil)))))
            (SI.c (Int.ofNat 0)),
          SB.lt (SI.v 14)
            (SI.len (SL.app 112 (SA.l (SL.v 0) (SA.i (SI.v 14) (SA.i (SI.v 11) (SA.i (SI.c (Int.ofNat 0)) SA.nil)))))),
          SB.le (SI.c (Int.ofNat 0)) (SI.v 14),
          SB.not
            (SB.app 130
              (SA.l (SL.app 112 (SA.l (SL.v 0) (SA.i (SI.v 14) (SA.i (SI.v 11) (SA.i (SI.c (Int.ofNat 0)) SA.nil)))))
                (SA.i (SI.v 14) SA.nil))),
          SB.eq
            (SI.len (SL.app 112 (SA.l (SL.v 0) (SA.i (SI.v 14) (SA.i (SI.v 11) (SA.i (SI.c (Int.ofNat 0)) SA.nil))))))
            (SI.len (SL.v 0)),
          SB.v 2, SB.not (SB.v 5), SB.le (SI.c (Int.ofNat 1)) (SI.len (SL.v 0)),
          SB.le (SI.len (SL.v 0)) (SI.c (Int.ofNat 64)), SB.eq (SI.len (SL.v 0)) (SI.v 2), SB.c true,
          SB.app 131 (SA.l (SL.v 0) SA.nil),
          SB.or
            (SB.and (SB.v 1)
              (SB.and (SB.not (SB.app 130 (SA.l (SL.v 0) (SA.i (SI.v 14) SA.nil))))
                (SB.and (SB.eq (SI.v 20) (SI.sel (SL.v 0) (SI.v 14) 0))
                  (SB.and (SB.eq (SI.v 22) (SI.sel (SL.v 0) (SI.v 14) 2))
                    (SB.and (SB.eq (SI.v 24) (SI.sel (SL.v 0) (SI.v 14) 4))
                      (SB.or (SB.and (SB.v 3) (SB.not (SB.eq (SI.sel (SL.v 0) (SI.v 14) 3) (SI.c (Int.ofNat 0)))))
                        (SB.and (SB.not (SB.v 3)) (SB.eq (SI.sel (SL.v 0) (SI.v 14) 3) (SI.c (Int.ofNat 0))))))))))
            (SB.and (SB.not (SB.v 1)) (SB.app 130 (SA.l (SL.v 0) (SA.i (SI.v 14) SA.nil)))),
          SB.and (SB.c true) (SB.or (SB.v 5) (SB.not (SB.v 5)))],
      eqs :=
        [Eqn.T
            (SB.app 131
              (SA.l (SL.app 112 (SA.l (SL.v 0) (SA.i (SI.v 14) (SA.i (SI.v 11) (SA.i (SI.c (Int.ofNat 0)) SA.nil)))))
                SA.nil))] },
    {
      pc :=
        [SB.not
            (SB.eq
              (SI.sel (SL.app 112 (SA.l (SL.v 0) (SA.i (SI.v 14) (SA.i (SI.v 11) (SA.i (SI.c (Int.ofNat 0)) SA.nil)))))
                (SI.v 14) 4)
              (SI.wrap IntKind.i64 (SI.add (SI.v 24) (SI.c (Int.ofNat 1))))),
          SB.eq (SI.v 22) (SI.v 11), SB.v 1,
          SB.eq (SI.app 112 (SA.l (SL.v 0) (SA.i (SI.v 14) (SA.i (SI.v 11) (SA.i (SI.c (Int.ofNat 0)) SA.nil)))))
            (SI.c (Int.ofNat 0)),
          SB.lt (SI.v 14)
            (SI.len (SL.app 112 (SA.l (SL.v 0) (SA.i (SI.v 14) (SA.i (SI.v 11) (SA.i (SI.c (Int.ofNat 0)) SA.nil)))))),
          SB.le (SI.c (Int.ofNat 0)) (SI.v 14),
          SB.not
            (SB.app 130
              (SA.l (SL.app 112 (SA.l (SL.v 0) (SA.i (SI.v 14) (SA.i (SI.v 11) (SA.i (SI.c (Int.ofNat 0)) SA.nil)))))
                (SA.i (SI.v 14) SA.nil))),
          SB.eq
            (SI.len (SL.app 112 (SA.l (SL.v 0) (SA.i (SI.v 14) (SA.i (SI.v 11) (SA.i (SI.c (Int.ofNat 0)) SA.nil))))))
            (SI.len (SL.v 0)),
          SB.v 2, SB.not (SB.v 5), SB.le (SI.c (Int.ofNat 1)) (SI.len (SL.v 0)),
          SB.le (SI.len (SL.v 0)) (SI.c (Int.ofNat 64)), SB.eq (SI.len (SL.v 0)) (SI.v 2), SB.c true,
          SB.app 131 (SA.l (SL.v 0) SA.nil),
          SB.or
            (SB.and (SB.v 1)
              (SB.and (SB.not (SB.app 130 (SA.l (SL.v 0) (SA.i (SI.v 14) SA.nil))))
                (SB.and (SB.eq (SI.v 20) (SI.sel (SL.v 0) (SI.v 14) 0))
                  (SB.and (SB.eq (SI.v 22) (SI.sel (SL.v 0) (SI.v 14) 2))
                    (SB.and (SB.eq (SI.v 24) (SI.sel (SL.v 0) (SI.v 14) 4))
                      (SB.or (SB.and (SB.v 3) (SB.not (SB.eq (SI.sel (SL.v 0) (SI.v 14) 3) (SI.c (Int.ofNat 0)))))
                        (SB.and (SB.not (SB.v 3)) (SB.eq (SI.sel (SL.v 0) (SI.v 14) 3) (SI.c (Int.ofNat 0))))))))))
            (SB.and (SB.not (SB.v 1)) (SB.app 130 (SA.l (SL.v 0) (SA.i (SI.v 14) SA.nil)))),
          SB.and (SB.c true) (SB.or (SB.v 5) (SB.not (SB.v 5)))],
      eqs := [Eqn.T (SB.app 199 SA.nil)] },
    {
      pc :=
        [SB.not (SB.eq (SI.v 22) (SI.v 11)), SB.v 1,
          SB.eq (SI.app 112 (SA.l (SL.v 0) (SA.i (SI.v 14) (SA.i (SI.v 11) (SA.i (SI.c (Int.ofNat 0)) SA.nil)))))
            (SI.c (Int.ofNat 0)),
          SB.lt (SI.v 14)
            (SI.len (SL.app 112 (SA.l (SL.v 0) (SA.i (SI.v 14) (SA.i (SI.v 11) (SA.i (SI.c (Int.ofNat 0)) SA.nil)))))),
          SB.le (SI.c (Int.ofNat 0)) (SI.v 14),
          SB.not
            (SB.app 130
              (SA.l (SL.app 112 (SA.l (SL.v 0) (SA.i (SI.v 14) (SA.i (SI.v 11) (SA.i (SI.c (Int.ofNat 0)) SA.nil)))))
                (SA.i (SI.v 14) SA.nil))),
          SB.eq
            (SI.len (SL.app 112 (SA.l (SL.v 0) (SA.i (SI.v 14) (SA.i (SI.v 11) (SA.i (SI.c (Int.ofNat 0)) SA.nil))))))
            (SI.len (SL.v 0)),
          SB.v 2, SB.not (SB.v 5), SB.le (SI.c (Int.ofNat 1)) (SI.len (SL.v 0)),
          SB.le (SI.len (SL.v 0)) (SI.c (Int.ofNat 64)), SB.eq (SI.len (SL.v 0)) (SI.v 2), SB.c true,
          SB.app 131 (SA.l (SL.v 0) SA.nil),
          SB.or
            (SB.and (SB.v 1)
              (SB.and (SB.not (SB.app 130 (SA.l (SL.v 0) (SA.i (SI.v 14) SA.nil))))
                (SB.and (SB.eq (SI.v 20) (SI.sel (SL.v 0) (SI.v 14) 0))
                  (SB.and (SB.eq (SI.v 22) (SI.sel (SL.v 0) (SI.v 14) 2))
                    (SB.and (SB.eq (SI.v 24) (SI.sel (SL.v 0) (SI.v 14) 4))
                      (SB.or (SB.and (SB.v 3) (SB.not (SB.eq (SI.sel (SL.v 0) (SI.v 14) 3) (SI.c (Int.ofNat 0)))))
                        (SB.and (SB.not (SB.v 3)) (SB.eq (SI.sel (SL.v 0) (SI.v 14) 3) (SI.c (Int.ofNat 0))))))))))
            (SB.and (SB.not (SB.v 1)) (SB.app 130 (SA.l (SL.v 0) (SA.i (SI.v 14) SA.nil)))),
          SB.and (SB.c true) (SB.or (SB.v 5) (SB.not (SB.v 5)))],
      eqs := [Eqn.T (SB.app 199 SA.nil)] },
    {
      pc :=
        [SB.not (SB.v 1),
          SB.eq (SI.app 112 (SA.l (SL.v 0) (SA.i (SI.v 14) (SA.i (SI.v 11) (SA.i (SI.c (Int.ofNat 0)) SA.nil)))))
            (SI.c (Int.ofNat 0)),
          SB.lt (SI.v 14)
            (SI.len (SL.app 112 (SA.l (SL.v 0) (SA.i (SI.v 14) (SA.i (SI.v 11) (SA.i (SI.c (Int.ofNat 0)) SA.nil)))))),
          SB.le (SI.c (Int.ofNat 0)) (SI.v 14),
          SB.not
            (SB.app 130
              (SA.l (SL.app 112 (SA.l (SL.v 0) (SA.i (SI.v 14) (SA.i (SI.v 11) (SA.i (SI.c (Int.ofNat 0)) SA.nil)))))
                (SA.i (SI.v 14) SA.nil))),
          SB.eq
            (SI.len (SL.app 112 (SA.l (SL.v 0) (SA.i (SI.v 14) (SA.i (SI.v 11) (SA.i (SI.c (Int.ofNat 0)) SA.nil))))))
            (SI.len (SL.v 0)),
          SB.v 2, SB.not (SB.v 5), SB.le (SI.c (Int.ofNat 1)) (SI.len (SL.v 0)),
          SB.le (SI.len (SL.v 0)) (SI.c (Int.ofNat 64)), SB.eq (SI.len (SL.v 0)) (SI.v 2), SB.c true,
          SB.app 131 (SA.l (SL.v 0) SA.nil),
          SB.or
            (SB.and (SB.v 1)
              (SB.and (SB.not (SB.app 130 (SA.l (SL.v 0) (SA.i (SI.v 14) SA.nil))))
                (SB.and (SB.eq (SI.v 20) (SI.sel (SL.v 0) (SI.v 14) 0))
                  (SB.and (SB.eq (SI.v 22) (SI.sel (SL.v 0) (SI.v 14) 2))
                    (SB.and (SB.eq (SI.v 24) (SI.sel (SL.v 0) (SI.v 14) 4))
                      (SB.or (SB.and (SB.v 3) (SB.not (SB.eq (SI.sel (SL.v 0) (SI.v 14) 3) (SI.c (Int.ofNat 0)))))
                        (SB.and (SB.not (SB.v 3)) (SB.eq (SI.sel (SL.v 0) (SI.v 14) 3) (SI.c (Int.ofNat 0))))))))))
            (SB.and (SB.not (SB.v 1)) (SB.app 130 (SA.l (SL.v 0) (SA.i (SI.v 14) SA.nil)))),
          SB.and (SB.c true) (SB.or (SB.v 5) (SB.not (SB.v 5)))],
      eqs := [Eqn.T (SB.app 199 SA.nil)] },
    {
      pc :=
        [SB.not
            (SB.eq (SI.app 112 (SA.l (SL.v 0) (SA.i (SI.v 14) (SA.i (SI.v 11) (SA.i (SI.c (Int.ofNat 0)) SA.nil)))))
              (SI.c (Int.ofNat 0))),
          SB.lt (SI.v 14)
            (SI.len (SL.app 112 (SA.l (SL.v 0) (SA.i (SI.v 14) (SA.i (SI.v 11) (SA.i (SI.c (Int.ofNat 0)) SA.nil)))))),
          SB.le (SI.c (Int.ofNat 0)) (SI.v 14),
          SB.not
            (SB.app 130
              (SA.l (SL.app 112 (SA.l (SL.v 0) (SA.i (SI.v 14) (SA.i (SI.v 11) (SA.i (SI.c (Int.ofNat 0)) SA.nil)))))
                (SA.i (SI.v 14) SA.nil))),
          SB.eq
            (SI.len (SL.app 112 (SA.l (SL.v 0) (SA.i (SI.v 14) (SA.i (SI.v 11) (SA.i (SI.c (Int.ofNat 0)) SA.nil))))))
            (SI.len (SL.v 0)),
          SB.v 2, SB.not (SB.v 5), SB.le (SI.c (Int.ofNat 1)) (SI.len (SL.v 0)),
          SB.le (SI.len (SL.v 0)) (SI.c (Int.ofNat 64)), SB.eq (SI.len (SL.v 0)) (SI.v 2), SB.c true,
          SB.app 131 (SA.l (SL.v 0) SA.nil),
          SB.or
            (SB.and (SB.v 1)
              (SB.and (SB.not (SB.app 130 (SA.l (SL.v 0) (SA.i (SI.v 14) SA.nil))))
                (SB.and (SB.eq (SI.v 20) (SI.sel (SL.v 0) (SI.v 14) 0))
                  (SB.and (SB.eq (SI.v 22) (SI.sel (SL.v 0) (SI.v 14) 2))
                    (SB.and (SB.eq (SI.v 24) (SI.sel (SL.v 0) (SI.v 14) 4))
                      (SB.or (SB.and (SB.v 3) (SB.not (SB.eq (SI.sel (SL.v 0) (SI.v 14) 3) (SI.c (Int.ofNat 0)))))
                        (SB.and (SB.not (SB.v 3)) (SB.eq (SI.sel (SL.v 0) (SI.v 14) 3) (SI.c (Int.ofNat 0))))))))))
            (SB.and (SB.not (SB.v 1)) (SB.app 130 (SA.l (SL.v 0) (SA.i (SI.v 14) SA.nil)))),
          SB.and (SB.c true) (SB.or (SB.v 5) (SB.not (SB.v 5)))],
      eqs :=
        [Eqn.T
            (SB.app 131
              (SA.l (SL.app 112 (SA.l (SL.v 0) (SA.i (SI.v 14) (SA.i (SI.v 11) (SA.i (SI.c (Int.ofNat 0)) SA.nil)))))
                SA.nil))] }] := by kernel_rfl
theorem us14_ok : us14.ok Φ Try.prog := by
  refine ⟨by kernel_rfl, part_rule (fun ρ => v2_ok ρ) (loopAt_sub (by kernel_rfl)) us14_obs ?_⟩
  simp only [and_imp, List.forall_mem_cons, List.not_mem_nil, false_implies, implies_true, and_true, Ob.ok, holds, Eqn.ok, evB_eq, evB_lt, evB_le, evB_not, evB_and, evB_or, evB_eqL, evB_app, evB_v, evB_c, ev_sel, ev_len, ev_v, ev_c, ev_add, ev_sub, ev_mul, ev_quo, ev_rem, ev_bits, ev_wrap, evL_v, evL_lit, evL_app, ev_app, evA_l, evA_i, evA_nil, std_min, std_max, std_cat, std_take, std_drop, std_row, std_set, std_rep, std_find, std_put, std_del, std_flag, std_unflag, std_clr, std_left, std_copy, ints_cons, ints_nil, ofNat_lit, negSucc_lit, decide_eq_true_eq, Bool.and_eq_true, Bool.or_eq_true, Bool.not_eq_true', Bool.and_eq_false_iff, Bool.or_eq_false_iff, decide_eq_false_iff_not, aI110, aI111, aI112, aI113, aI114, aL100, aL101, aL102, aL103, aL110, aL112, aL113, aL114, aL115, aL116, aB130, aB131, aB132, aB199]
  repeat' apply And.intro
  all_goals intro ρ hR
  all_goals intros
  all_goals first
    | (omega)
    | (have hT : ∀ r ∈ ρ.l 0, okRow K5 r := hR.row 2 rfl rfl
       have hu : usesB (ρ.l 0) = true := by with_reducible assumption
       have e := fun he => tak_now hT (id := ρ.i 14) (g := ρ.i 11) (w := 0) hu he
       have u := uses_tak hT (id := ρ.i 14) (g := ρ.i 11) (w := 0) hu
       exact u)
    | (have hT : ∀ r ∈ ρ.l 0, okRow K5 r := hR.row 2 rfl rfl
       have hu : usesB (ρ.l 0) = true := by with_reducible assumption
       have e := fun he => tak_now hT (id := ρ.i 14) (g := ρ.i 11) (w := 0) hu he
       have u := uses_tak hT (id := ρ.i 14) (g := ρ.i 11) (w := 0) hu
       clear hT hR
       exfalso
       grind)
    | (have hT : ∀ r ∈ ρ.l 0, okRow K5 r := hR.row 2 rfl rfl
       have hu : usesB (ρ.l 0) = true := by with_reducible assumption
       have e := fun he => tak_now hT (id := ρ.i 14) (g := ρ.i 11) (w := 1) hu he
       have u := uses_tak hT (id := ρ.i 14) (g := ρ.i 11) (w := 1) hu
       exact u)
    | (have hT : ∀ r ∈ ρ.l 0, okRow K5 r := hR.row 2 rfl rfl
       have hu : usesB (ρ.l 0) = true := by with_reducible assumption
       have e := fun he => tak_now hT (id := ρ.i 14) (g := ρ.i 11) (w := 1) hu he
       have u := uses_tak hT (id := ρ.i 14) (g := ρ.i 11) (w := 1) hu
       clear hT hR
       exfalso
       grind)
theorem v3_ok (ρ : Env) : TblOK Φ ρ Try.prog v3 := addLp_ok (v2_ok ρ) us14_ok
set_option maxRecDepth 100000 in
theorem us1_obs : loopObs Φ Try.prog v3 1000 us1.f (loopAt Try.prog us1.f us1.id) us1.n us1.T k2 us1.outs = some
  [{
      pc :=
        [SB.le
            (SI.len
              (SL.app 101
                (SA.l
                  (SL.app 110
                    (SA.l (SL.v 0)
                      (SA.i (SI.sel (SL.v 9) (SI.v 0) 1)
                        (SA.i (SI.sel (SL.v 9) (SI.v 0) 3)
                          (SA.i (SI.sel (SL.v 9) (SI.v 0) 2) (SA.i (SI.c (Int.ofNat 1)) SA.nil))))))
                  (SA.i (SI.c (Int.ofNat 0)) SA.nil))))
            (SI.len
              (SL.app 110
                (SA.l (SL.v 0)
                  (SA.i (SI.sel (SL.v 9) (SI.v 0) 1)
                    (SA.i (SI.sel (SL.v 9) (SI.v 0) 3)
                      (SA.i (SI.sel (SL.v 9) (SI.v 0) 2) (SA.i (SI.c (Int.ofNat 1)) SA.nil))))))),
          SB.eq
            (SI.len
              (SL.app 110
                (SA.l (SL.v 0)
                  (SA.i (SI.sel (SL.v 9) (SI.v 0) 1)
                    (SA.i (SI.sel (SL.v 9) (SI.v 0) 3)
                      (SA.i (SI.sel (SL.v 9) (SI.v 0) 2) (SA.i (SI.c (Int.ofNat 1)) SA.nil)))))))
            (SI.len (SL.v 0)),
          SB.not (SB.eq (SI.sel (SL.v 9) (SI.v 0) 5) (SI.c (Int.ofNat 0))),
          SB.or (SB.not (SB.eq (SI.sel (SL.v 9) (SI.v 0) 5) (SI.c (Int.ofNat 0))))
            (SB.eq (SI.sel (SL.v 9) (SI.v 0) 5) (SI.c (Int.ofNat 0))),
          SB.eq (SI.sel (SL.v 9) (SI.v 0) 0) (SI.c (Int.ofNat 0)),
          SB.app 130 (SA.l (SL.v 0) (SA.i (SI.sel (SL.v 9) (SI.v 0) 4) SA.nil)), SB.lt (SI.v 0) (SI.c (Int.ofNat 100)),
          SB.lt (SI.v 0) (SI.len (SL.v 9)), SB.le (SI.c (Int.ofNat 0)) (SI.v 0), SB.le (SI.v 0) (SI.c (Int.ofNat 100)),
          SB.eq (SI.len (SL.v 0)) (SI.v 2), SB.c true, SB.le (SI.c (Int.ofNat 1)) (SI.len (SL.v 0)),
          SB.le (SI.len (SL.v 0)) (SI.c (Int.ofNat 64)), SB.app 131 (SA.l (SL.v 0) SA.nil)],
      eqs :=
        [Eqn.T
            (SB.lt (SI.sub (SI.c (Int.ofNat 100)) (SI.add (SI.v 0) (SI.c (Int.ofNat 1))))
              (SI.sub (SI.c (Int.ofNat 100)) (SI.v 0))),
          Eqn.T
            (SB.app 131
              (SA.l
                (SL.app 110
                  (SA.l (SL.v 0)
                    (SA.i (SI.sel (SL.v 9) (SI.v 0) 1)
                      (SA.i (SI.sel (SL.v 9) (SI.v 0) 3)
                        (SA.i (SI.sel (SL.v 9) (SI.v 0) 2) (SA.i (SI.c (Int.ofNat 1)) SA.nil))))))
                SA.nil))] },
    {
      pc :=
        [SB.le
            (SI.len
              (SL.app 101
                (SA.l
                  (SL.app 110
                    (SA.l (SL.v 0)
                      (SA.i (SI.sel (SL.v 9) (SI.v 0) 1)
                        (SA.i (SI.sel (SL.v 9) (SI.v 0) 3)
                          (SA.i (SI.sel (SL.v 9) (SI.v 0) 2) (SA.i (SI.c (Int.ofNat 0)) SA.nil))))))
                  (SA.i (SI.c (Int.ofNat 0)) SA.nil))))
            (SI.len
              (SL.app 110
                (SA.l (SL.v 0)
                  (SA.i (SI.sel (SL.v 9) (SI.v 0) 1)
                    (SA.i (SI.sel (SL.v 9) (SI.v 0) 3)
                      (SA.i (SI.sel (SL.v 9) (SI.v 0) 2) (SA.i (SI.c (Int.ofNat 0)) SA.nil))))))),
          SB.eq
            (SI.len
              (SL.app 110
                (SA.l (SL.v 0)
                  (SA.i (SI.sel (SL.v 9) (SI.v 0) 1)
                    (SA.i (SI.sel (SL.v 9) (SI.v 0) 3)
                      (SA.i (SI.sel (SL.v 9) (SI.v 0) 2) (SA.i (SI.c (Int.ofNat 0)) SA.nil)))))))
            (SI.len (SL.v 0)),
          SB.eq (SI.sel (SL.v 9) (SI.v 0) 5) (SI.c (Int.ofNat 0)),
          SB.or (SB.not (SB.eq (SI.sel (SL.v 9) (SI.v 0) 5) (SI.c (Int.ofNat 0))))
            (SB.eq (SI.sel (SL.v 9) (SI.v 0) 5) (SI.c (Int.ofNat 0))),
          SB.eq (SI.sel (SL.v 9) (SI.v 0) 0) (SI.c (Int.ofNat 0)),
          SB.app 130 (SA.l (SL.v 0) (SA.i (SI.sel (SL.v 9) (SI.v 0) 4) SA.nil)), SB.lt (SI.v 0) (SI.c (Int.ofNat 100)),
          SB.lt (SI.v 0) (SI.len (SL.v 9)), SB.le (SI.c (Int.ofNat 0)) (SI.v 0), SB.le (SI.v 0) (SI.c (Int.ofNat 100)),
          SB.eq (SI.len (SL.v 0)) (SI.v 2), SB.c true, SB.le (SI.c (Int.ofNat 1)) (SI.len (SL.v 0)),
          SB.le (SI.len (SL.v 0)) (SI.c (Int.ofNat 64)), SB.app 131 (SA.l (SL.v 0) SA.nil)],
      eqs :=
        [Eqn.T
            (SB.lt (SI.sub (SI.c (Int.ofNat 100)) (SI.add (SI.v 0) (SI.c (Int.ofNat 1))))
              (SI.sub (SI.c (Int.ofNat 100)) (SI.v 0))),
          Eqn.T
            (SB.app 131
              (SA.l
                (SL.app 110
                  (SA.l (SL.v 0)
                    (SA.i (SI.sel (SL.v 9) (SI.v 0) 1)
                      (SA.i (SI.sel (SL.v 9) (SI.v 0) 3)
                        (SA.i (SI.sel (SL.v 9) (SI.v 0) 2) (SA.i (SI.c (Int.ofNat 0)) SA.nil))))))
                SA.nil))] },
    {
      pc :=
        [SB.not
            (SB.or (SB.not (SB.eq (SI.sel (SL.v 9) (SI.v 0) 5) (SI.c (Int.ofNat 0))))
              (SB.eq (SI.sel (SL.v 9) (SI.v 0) 5) (SI.c (Int.ofNat 0)))),
          SB.eq (SI.sel (SL.v 9) (SI.v 0) 0) (SI.c (Int.ofNat 0)),
          SB.app 130 (SA.l (SL.v 0) (SA.i (SI.sel (SL.v 9) (SI.v 0) 4) SA.nil)), SB.lt (SI.v 0) (SI.c (Int.ofNat 100)),
          SB.lt (SI.v 0) (SI.len (SL.v 9)), SB.le (SI.c (Int.ofNat 0)) (SI.v 0), SB.le (SI.v 0) (SI.c (Int.ofNat 100)),
          SB.eq (SI.len (SL.v 0)) (SI.v 2), SB.c true, SB.le (SI.c (Int.ofNat 1)) (SI.len (SL.v 0)),
          SB.le (SI.len (SL.v 0)) (SI.c (Int.ofNat 64)), SB.app 131 (SA.l (SL.v 0) SA.nil)],
      eqs := [Eqn.T (SB.c false)] },
    {
      pc :=
        [SB.le (SI.len (SL.app 101 (SA.l (SL.v 1000) (SA.i (SI.c (Int.ofNat 0)) SA.nil)))) (SI.len (SL.v 1000)),
          SB.eq (SI.len (SL.v 1000)) (SI.v 2), SB.app 131 (SA.l (SL.v 1000) SA.nil),
          SB.or (SB.not (SB.eq (SI.sel (SL.v 9) (SI.v 0) 5) (SI.c (Int.ofNat 0))))
            (SB.eq (SI.sel (SL.v 9) (SI.v 0) 5) (SI.c (Int.ofNat 0))),
          SB.not (SB.eq (SI.sel (SL.v 9) (SI.v 0) 0) (SI.c (Int.ofNat 0))),
          SB.app 130 (SA.l (SL.v 0) (SA.i (SI.sel (SL.v 9) (SI.v 0) 4) SA.nil)), SB.lt (SI.v 0) (SI.c (Int.ofNat 100)),
          SB.lt (SI.v 0) (SI.len (SL.v 9)), SB.le (SI.c (Int.ofNat 0)) (SI.v 0), SB.le (SI.v 0) (SI.c (Int.ofNat 100)),
          SB.eq (SI.len (SL.v 0)) (SI.v 2), SB.c true, SB.le (SI.c (Int.ofNat 1)) (SI.len (SL.v 0)),
          SB.le (SI.len (SL.v 0)) (SI.c (Int.ofNat 64)), SB.app 131 (SA.l (SL.v 0) SA.nil)],
      eqs :=
        [Eqn.T
            (SB.lt (SI.sub (SI.c (Int.ofNat 100)) (SI.add (SI.v 0) (SI.c (Int.ofNat 1))))
              (SI.sub (SI.c (Int.ofNat 100)) (SI.v 0)))] },
    {
      pc :=
        [SB.not
            (SB.or (SB.not (SB.eq (SI.sel (SL.v 9) (SI.v 0) 5) (SI.c (Int.ofNat 0))))
              (SB.eq (SI.sel (SL.v 9) (SI.v 0) 5) (SI.c (Int.ofNat 0)))),
          SB.not (SB.eq (SI.sel (SL.v 9) (SI.v 0) 0) (SI.c (Int.ofNat 0))),
          SB.app 130 (SA.l (SL.v 0) (SA.i (SI.sel (SL.v 9) (SI.v 0) 4) SA.nil)), SB.lt (SI.v 0) (SI.c (Int.ofNat 100)),
          SB.lt (SI.v 0) (SI.len (SL.v 9)), SB.le (SI.c (Int.ofNat 0)) (SI.v 0), SB.le (SI.v 0) (SI.c (Int.ofNat 100)),
          SB.eq (SI.len (SL.v 0)) (SI.v 2), SB.c true, SB.le (SI.c (Int.ofNat 1)) (SI.len (SL.v 0)),
          SB.le (SI.len (SL.v 0)) (SI.c (Int.ofNat 64)), SB.app 131 (SA.l (SL.v 0) SA.nil)],
      eqs := [Eqn.T (SB.c false)] },
    {
      pc :=
        [SB.le
            (SI.len
              (SL.app 101
                (SA.l
                  (SL.app 110
                    (SA.l (SL.v 0)
                      (SA.i (SI.sel (SL.v 9) (SI.v 0) 1)
                        (SA.i (SI.sel (SL.v 9) (SI.v 0) 3)
                          (SA.i (SI.sel (SL.v 9) (SI.v 0) 2) (SA.i (SI.c (Int.ofNat 1)) SA.nil))))))
                  (SA.i (SI.c (Int.ofNat 0)) SA.nil))))
            (SI.len
              (SL.app 110
                (SA.l (SL.v 0)
                  (SA.i (SI.sel (SL.v 9) (SI.v 0) 1)
                    (SA.i (SI.sel (SL.v 9) (SI.v 0) 3)
                      (SA.i (SI.sel (SL.v 9) (SI.v 0) 2) (SA.i (SI.c (Int.ofNat 1)) SA.nil))))))),
          SB.eq
            (SI.len
              (SL.app 110
                (SA.l (SL.v 0)
                  (SA.i (SI.sel (SL.v 9) (SI.v 0) 1)
                    (SA.i (SI.sel (SL.v 9) (SI.v 0) 3)
                      (SA.i (SI.sel (SL.v 9) (SI.v 0) 2) (SA.i (SI.c (Int.ofNat 1)) SA.nil)))))))
            (SI.len (SL.v 0)),
          SB.not (SB.eq (SI.sel (SL.v 9) (SI.v 0) 5) (SI.c (Int.ofNat 0))),
          SB.or (SB.not (SB.eq (SI.sel (SL.v 9) (SI.v 0) 5) (SI.c (Int.ofNat 0))))
            (SB.eq (SI.sel (SL.v 9) (SI.v 0) 5) (SI.c (Int.ofNat 0))),
          SB.eq (SI.sel (SL.v 9) (SI.v 0) 0) (SI.c (Int.ofNat 0)), SB.lt (SI.sel (SL.v 9) (SI.v 0) 4) (SI.len (SL.v 0)),
          SB.le (SI.c (Int.ofNat 0)) (SI.sel (SL.v 9) (SI.v 0) 4),
          SB.not (SB.app 130 (SA.l (SL.v 0) (SA.i (SI.sel (SL.v 9) (SI.v 0) 4) SA.nil))),
          SB.lt (SI.v 0) (SI.c (Int.ofNat 100)), SB.lt (SI.v 0) (SI.len (SL.v 9)), SB.le (SI.c (Int.ofNat 0)) (SI.v 0),
          SB.le (SI.v 0) (SI.c (Int.ofNat 100)), SB.eq (SI.len (SL.v 0)) (SI.v 2), SB.c true,
          SB.le (SI.c (Int.ofNat 1)) (SI.len (SL.v 0)), SB.le (SI.len (SL.v 0)) (SI.c (Int.ofNat 64)),
          SB.app 131 (SA.l (SL.v 0) SA.nil)],
      eqs :=
        [Eqn.T
            (SB.lt (SI.sub (SI.c (Int.ofNat 100)) (SI.add (SI.v 0) (SI.c (Int.ofNat 1))))
              (SI.sub (SI.c (Int.ofNat 100)) (SI.v 0))),
          Eqn.T
            (SB.app 131
              (SA.l
                (SL.app 110
                  (SA.l (SL.v 0)
                    (SA.i (SI.sel (SL.v 9) (SI.v 0) 1)
                      (SA.i (SI.sel (SL.v 9) (SI.v 0) 3)
                        (SA.i (SI.sel (SL.v 9) (SI.v 0) 2) (SA.i (SI.c (Int.ofNat 1)) SA.nil))))))
                SA.nil))] },
    {
      pc :=
        [SB.le
            (SI.len
              (SL.app 101
                (SA.l
                  (SL.app 110
                    (SA.l (SL.v 0)
                      (SA.i (SI.sel (SL.v 9) (SI.v 0) 1)
                        (SA.i (SI.sel (SL.v 9) (SI.v 0) 3)
                          (SA.i (SI.sel (SL.v 9) (SI.v 0) 2) (SA.i (SI.c (Int.ofNat 0)) SA.nil))))))
                  (SA.i (SI.c (Int.ofNat 0)) SA.nil))))
            (SI.len
              (SL.app 110
                (SA.l (SL.v 0)
                  (SA.i (SI.sel (SL.v 9) (SI.v 0) 1)
                    (SA.i (SI.sel (SL.v 9) (SI.v 0) 3)
                      (SA.i (SI.sel (SL.v 9) (SI.v 0) 2) (SA.i (SI.c (Int.ofNat 0)) SA.nil))))))),
          SB.eq
            (SI.len
              (SL.app 110
                (SA.l (SL.v 0)
                  (SA.i (SI.sel (SL.v 9) (SI.v 0) 1)
                    (SA.i (SI.sel (SL.v 9) (SI.v 0) 3)
                      (SA.i (SI.sel (SL.v 9) (SI.v 0) 2) (SA.i (SI.c (Int.ofNat 0)) SA.nil)))))))
            (SI.len (SL.v 0)),
          SB.eq (SI.sel (SL.v 9) (SI.v 0) 5) (SI.c (Int.ofNat 0)),
          SB.or (SB.not (SB.eq (SI.sel (SL.v 9) (SI.v 0) 5) (SI.c (Int.ofNat 0))))
            (SB.eq (SI.sel (SL.v 9) (SI.v 0) 5) (SI.c (Int.ofNat 0))),
          SB.eq (SI.sel (SL.v 9) (SI.v 0) 0) (SI.c (Int.ofNat 0)), SB.lt (SI.sel (SL.v 9) (SI.v 0) 4) (SI.len (SL.v 0)),
          SB.le (SI.c (Int.ofNat 0)) (SI.sel (SL.v 9) (SI.v 0) 4),
          SB.not (SB.app 130 (SA.l (SL.v 0) (SA.i (SI.sel (SL.v 9) (SI.v 0) 4) SA.nil))),
          SB.lt (SI.v 0) (SI.c (Int.ofNat 100)), SB.lt (SI.v 0) (SI.len (SL.v 9)), SB.le (SI.c (Int.ofNat 0)) (SI.v 0),
          SB.le (SI.v 0) (SI.c (Int.ofNat 100)), SB.eq (SI.len (SL.v 0)) (SI.v 2), SB.c true,
          SB.le (SI.c (Int.ofNat 1)) (SI.len (SL.v 0)), SB.le (SI.len (SL.v 0)) (SI.c (Int.ofNat 64)),
          SB.app 131 (SA.l (SL.v 0) SA.nil)],
      eqs :=
        [Eqn.T
            (SB.lt (SI.sub (SI.c (Int.ofNat 100)) (SI.add (SI.v 0) (SI.c (Int.ofNat 1))))
              (SI.sub (SI.c (Int.ofNat 100)) (SI.v 0))),
          Eqn.T
            (SB.app 131
              (SA.l
                (SL.app 110
                  (SA.l (SL.v 0)
                    (SA.i (SI.sel (SL.v 9) (SI.v 0) 1)
                      (SA.i (SI.sel (SL.v 9) (SI.v 0) 3)
                        (SA.i (SI.sel (SL.v 9) (SI.v 0) 2) (SA.i (SI.c (Int.ofNat 0)) SA.nil))))))
                SA.nil))] },
    {
      pc :=
        [SB.not
            (SB.or (SB.not (SB.eq (SI.sel (SL.v 9) (SI.v 0) 5) (SI.c (Int.ofNat 0))))
              (SB.eq (SI.sel (SL.v 9) (SI.v 0) 5) (SI.c (Int.ofNat 0)))),
          SB.eq (SI.sel (SL.v 9) (SI.v 0) 0) (SI.c (Int.ofNat 0)), SB.lt (SI.sel (SL.v 9) (SI.v 0) 4) (SI.len (SL.v 0)),
          SB.le (SI.c (Int.ofNat 0)) (SI.sel (SL.v 9) (SI.v 0) 4),
          SB.not (SB.app 130 (SA.l (SL.v 0) (SA.i (SI.sel (SL.v 9) (SI.v 0) 4) SA.nil))),
          SB.lt (SI.v 0) (SI.c (Int.ofNat 100)), SB.lt (SI.v 0) (SI.len (SL.v 9)), SB.le (SI.c (Int.ofNat 0)) (SI.v 0),
          SB.le (SI.v 0) (SI.c (Int.ofNat 100)), SB.eq (SI.len (SL.v 0)) (SI.v 2), SB.c true,
          SB.le (SI.c (Int.ofNat 1)) (SI.len (SL.v 0)), SB.le (SI.len (SL.v 0)) (SI.c (Int.ofNat 64)),
          SB.app 131 (SA.l (SL.v 0) SA.nil)],
      eqs := [Eqn.T (SB.c false)] },
    {
      pc :=
        [SB.le (SI.len (SL.app 101 (SA.l (SL.v 1000) (SA.i (SI.c (Int.ofNat 0)) SA.nil)))) (SI.len (SL.v 1000)),
          SB.eq (SI.len (SL.v 1000)) (SI.v 2), SB.app 131 (SA.l (SL.v 1000) SA.nil),
          SB.and (SB.not (SB.app 130 (SA.l (SL.v 0) (SA.i (SI.sel (SL.v 9) (SI.v 0) 4) SA.nil))))
            (SB.or
              (SB.and (SB.not (SB.eq (SI.sel (SL.v 0) (SI.sel (SL.v 9) (SI.v 0) 4) 3) (SI.c (Int.ofNat 0))))
                (SB.not (SB.eq (SI.sel (SL.v 0) (SI.sel (SL.v 9) (SI.v 0) 4) 3) (SI.c (Int.ofNat 0)))))
              (SB.and (SB.eq (SI.sel (SL.v 0) (SI.sel (SL.v 9) (SI.v 0) 4) 3) (SI.c (Int.ofNat 0)))
                (SB.eq (SI.sel (SL.v 0) (SI.sel (SL.v 9) (SI.v 0) 4) 3) (SI.c (Int.ofNat 0))))),
          SB.or (SB.not (SB.eq (SI.sel (SL.v 9) (SI.v 0) 5) (SI.c (Int.ofNat 0))))
            (SB.eq (SI.sel (SL.v 9) (SI.v 0) 5) (SI.c (Int.ofNat 0))),
          SB.not (SB.eq (SI.sel (SL.v 9) (SI.v 0) 0) (SI.c (Int.ofNat 0))),
          SB.lt (SI.sel (SL.v 9) (SI.v 0) 4) (SI.len (SL.v 0)), SB.le (SI.c (Int.ofNat 0)) (SI.sel (SL.v 9) (SI.v 0) 4),
          SB.not (SB.app 130 (SA.l (SL.v 0) (SA.i (SI.sel (SL.v 9) (SI.v 0) 4) SA.nil))),
          SB.lt (SI.v 0) (SI.c (Int.ofNat 100)), SB.lt (SI.v 0) (SI.len (SL.v 9)), SB.le (SI.c (Int.ofNat 0)) (SI.v 0),
          SB.le (SI.v 0) (SI.c (Int.ofNat 100)), SB.eq (SI.len (SL.v 0)) (SI.v 2), SB.c true,
          SB.le (SI.c (Int.ofNat 1)) (SI.len (SL.v 0)), SB.le (SI.len (SL.v 0)) (SI.c (Int.ofNat 64)),
          SB.app 131 (SA.l (SL.v 0) SA.nil)],
      eqs :=
        [Eqn.T
            (SB.lt (SI.sub (SI.c (Int.ofNat 100)) (SI.add (SI.v 0) (SI.c (Int.ofNat 1))))
              (SI.sub (SI.c (Int.ofNat 100)) (SI.v 0)))] },
    {
      pc :=
        [SB.not
            (SB.and (SB.not (SB.app 130 (SA.l (SL.v 0) (SA.i (SI.sel (SL.v 9) (SI.v 0) 4) SA.nil))))
              (SB.or
                (SB.and (SB.not (SB.eq (SI.sel (SL.v 0) (SI.sel (SL.v 9) (SI.v 0) 4) 3) (SI.c (Int.ofNat 0))))
                  (SB.not (SB.eq (SI.sel (SL.v 0) (SI.sel (SL.v 9) (SI.v 0) 4) 3) (SI.c (Int.ofNat 0)))))
                (SB.and (SB.eq (SI.sel (SL.v 0) (SI.sel (SL.v 9) (SI.v 0) 4) 3) (SI.c (Int.ofNat 0)))
                  (SB.eq (SI.sel (SL.v 0) (SI.sel (SL.v 9) (SI.v 0) 4) 3) (SI.c (Int.ofNat 0)))))),
          SB.not (SB.eq (SI.sel (SL.v 9) (SI.v 0) 0) (SI.c (Int.ofNat 0))),
          SB.lt (SI.sel (SL.v 9) (SI.v 0) 4) (SI.len (SL.v 0)), SB.le (SI.c (Int.ofNat 0)) (SI.sel (SL.v 9) (SI.v 0) 4),
          SB.not (SB.app 130 (SA.l (SL.v 0) (SA.i (SI.sel (SL.v 9) (SI.v 0) 4) SA.nil))),
          SB.lt (SI.v 0) (SI.c (Int.ofNat 100)), SB.lt (SI.v 0) (SI.len (SL.v 9)), SB.le (SI.c (Int.ofNat 0)) (SI.v 0),
          SB.le (SI.v 0) (SI.c (Int.ofNat 100)), SB.eq (SI.len (SL.v 0)) (SI.v 2), SB.c true,
          SB.le (SI.c (Int.ofNat 1)) (SI.len (SL.v 0)), SB.le (SI.len (SL.v 0)) (SI.c (Int.ofNat 64)),
          SB.app 131 (SA.l (SL.v 0) SA.nil)],
      eqs := [Eqn.T (SB.c false)] },
    {
      pc :=
        [SB.not
            (SB.or (SB.not (SB.eq (SI.sel (SL.v 9) (SI.v 0) 5) (SI.c (Int.ofNat 0))))
              (SB.eq (SI.sel (SL.v 9) (SI.v 0) 5) (SI.c (Int.ofNat 0)))),
          SB.not (SB.eq (SI.sel (SL.v 9) (SI.v 0) 0) (SI.c (Int.ofNat 0))),
          SB.lt (SI.sel (SL.v 9) (SI.v 0) 4) (SI.len (SL.v 0)), SB.le (SI.c (Int.ofNat 0)) (SI.sel (SL.v 9) (SI.v 0) 4),
          SB.not (SB.app 130 (SA.l (SL.v 0) (SA.i (SI.sel (SL.v 9) (SI.v 0) 4) SA.nil))),
          SB.lt (SI.v 0) (SI.c (Int.ofNat 100)), SB.lt (SI.v 0) (SI.len (SL.v 9)), SB.le (SI.c (Int.ofNat 0)) (SI.v 0),
          SB.le (SI.v 0) (SI.c (Int.ofNat 100)), SB.eq (SI.len (SL.v 0)) (SI.v 2), SB.c true,
          SB.le (SI.c (Int.ofNat 1)) (SI.len (SL.v 0)), SB.le (SI.len (SL.v 0)) (SI.c (Int.ofNat 64)),
          SB.app 131 (SA.l (SL.v 0) SA.nil)],
      eqs := [Eqn.T (SB.c false)] }] := by kernel_rfl
theorem us1_ok : us1.ok Φ Try.prog := by
  refine ⟨by kernel_rfl, loop_rule (fun ρ => v3_ok ρ) (loopAt_sub (by kernel_rfl)) us1_obs ?_⟩
  simp only [and_imp, List.forall_mem_cons, List.not_mem_nil, false_implies, implies_true, and_true, Ob.ok, holds, Eqn.ok, evB_eq, evB_lt, evB_le, evB_not, evB_and, evB_or, evB_eqL, evB_app, evB_v, evB_c, ev_sel, ev_len, ev_v, ev_c, ev_add, ev_sub, ev_mul, ev_quo, ev_rem, ev_bits, ev_wrap, evL_v, evL_lit, evL_app, ev_app, evA_l, evA_i, evA_nil, std_min, std_max, std_cat, std_take, std_drop, std_row, std_set, std_rep, std_find, std_put, std_del, std_flag, std_unflag, std_clr, std_left, std_copy, ints_cons, ints_nil, ofNat_lit, negSucc_lit, decide_eq_true_eq, Bool.and_eq_true, Bool.or_eq_true, Bool.not_eq_true', Bool.and_eq_false_iff, Bool.or_eq_false_iff, decide_eq_false_iff_not, aI110, aI111, aI112, aI113, aI114, aL100, aL101, aL102, aL103, aL110, aL112, aL113, aL114, aL115, aL116, aB130, aB131, aB132, aB199]
  repeat' apply And.intro
  all_goals intro ρ hR
  all_goals intros
  all_goals first
    | (omega)
    | (have hT : ∀ r ∈ ρ.l 0, okRow K5 r := hR.row 2 rfl rfl
       have hu : usesB (ρ.l 0) = true := by with_reducible assumption
       exact ⟨by omega, uses_off hu _ _ _ _⟩)
    | (exfalso
       grind)
theorem v4_ok (ρ : Env) : TblOK Φ ρ Try.prog v4 := addLp_ok (t6_ok ρ) us1_ok
set_option maxRecDepth 100000 in
theorem lUses0_obs : callObs Φ Try.prog v4 1000 lUses0.f lUses0.vs lUses0.o lUses0.pc lUses0.outs = some
  [{
      pc :=
        [SB.not
            (SB.le (SI.c (Int.ofNat 1))
              (SI.len
                (SL.app 5
                  (SA.i (SI.add (SI.rem (SI.v 0) (SI.c (Int.ofNat 64))) (SI.c (Int.ofNat 1)))
                    (SA.i (SI.c (Int.ofNat 0))
                      (SA.i (SI.c (Int.ofNat 0))
                        (SA.i (SI.c (Int.ofNat 0))
                          (SA.i (SI.c (Int.ofNat 0)) (SA.i (SI.c (Int.ofNat 0)) SA.nil))))))))),
          SB.eq
            (SI.len
              (SL.app 5
                (SA.i (SI.add (SI.rem (SI.v 0) (SI.c (Int.ofNat 64))) (SI.c (Int.ofNat 1)))
                  (SA.i (SI.c (Int.ofNat 0))
                    (SA.i (SI.c (Int.ofNat 0))
                      (SA.i (SI.c (Int.ofNat 0)) (SA.i (SI.c (Int.ofNat 0)) (SA.i (SI.c (Int.ofNat 0)) SA.nil))))))))
            (SI.add (SI.rem (SI.v 0) (SI.c (Int.ofNat 64))) (SI.c (Int.ofNat 1))),
          SB.le (SI.c (Int.ofNat 0)) (SI.v 0), SB.le (SI.v 0) (SI.c (Int.ofNat 255))],
      eqs := [Eqn.T (SB.c false)] },
    {
      pc :=
        [SB.not
            (SB.app 131
              (SA.l
                (SL.app 5
                  (SA.i (SI.add (SI.rem (SI.v 0) (SI.c (Int.ofNat 64))) (SI.c (Int.ofNat 1)))
                    (SA.i (SI.c (Int.ofNat 0))
                      (SA.i (SI.c (Int.ofNat 0))
                        (SA.i (SI.c (Int.ofNat 0)) (SA.i (SI.c (Int.ofNat 0)) (SA.i (SI.c (Int.ofNat 0)) SA.nil)))))))
                SA.nil)),
          SB.eq
            (SI.len
              (SL.app 5
                (SA.i (SI.add (SI.rem (SI.v 0) (SI.c (Int.ofNat 64))) (SI.c (Int.ofNat 1)))
                  (SA.i (SI.c (Int.ofNat 0))
                    (SA.i (SI.c (Int.ofNat 0))
                      (SA.i (SI.c (Int.ofNat 0)) (SA.i (SI.c (Int.ofNat 0)) (SA.i (SI.c (Int.ofNat 0)) SA.nil))))))))
            (SI.add (SI.rem (SI.v 0) (SI.c (Int.ofNat 64))) (SI.c (Int.ofNat 1))),
          SB.le (SI.c (Int.ofNat 0)) (SI.v 0), SB.le (SI.v 0) (SI.c (Int.ofNat 255))],
      eqs := [Eqn.T (SB.c false)] }] := by kernel_rfl
theorem lUses0_ok : lUses0.ok Φ Try.prog := by
  refine call_rule (fun ρ => v4_ok ρ) lUses0_obs ?_
  simp only [and_imp, List.forall_mem_cons, List.not_mem_nil, false_implies, implies_true, and_true, Ob.ok, holds, Eqn.ok, evB_eq, evB_lt, evB_le, evB_not, evB_and, evB_or, evB_eqL, evB_app, evB_v, evB_c, ev_sel, ev_len, ev_v, ev_c, ev_add, ev_sub, ev_mul, ev_quo, ev_rem, ev_bits, ev_wrap, evL_v, evL_lit, evL_app, ev_app, evA_l, evA_i, evA_nil, std_min, std_max, std_cat, std_take, std_drop, std_row, std_set, std_rep, std_find, std_put, std_del, std_flag, std_unflag, std_clr, std_left, std_copy, ints_cons, ints_nil, ofNat_lit, negSucc_lit, decide_eq_true_eq, Bool.and_eq_true, Bool.or_eq_true, Bool.not_eq_true', Bool.and_eq_false_iff, Bool.or_eq_false_iff, decide_eq_false_iff_not, aI110, aI111, aI112, aI113, aI114, aL100, aL101, aL102, aL103, aL110, aL112, aL113, aL114, aL115, aL116, aB130, aB131, aB132, aB199]
  repeat' apply And.intro
  all_goals intro ρ hR
  all_goals intros
  all_goals first
    | (have h0 := Int.emod_nonneg (ρ.i 0) (b := 64) (by decide)
       have h1 := Int.emod_lt_of_pos (ρ.i 0) (b := 64) (by decide)
       rw [Int.tmod_eq_emod_of_nonneg (by omega)] at *
       omega)
    | (exfalso
       exact Bool.false_ne_true (‹usesB _ = false›.symm.trans (uses_rep _)))
theorem lUses_ok : lUses.ok Φ Try.prog := drop_never rfl lUses0_ok
end Go.SF.C19
