/- The search in depth, shown: by how many are not seen. -/
import Derived.Test.YtjeafkeofbmgcaaQ1
import Derived.Test.YtjeafkeofbmgcaaC4
import Derived.Test.YtjeafkeofbmgcaaP6
import Derived.KernelRfl
namespace Go.SF.C19
open Go Go.SF Go.Proofs
set_option linter.unusedVariables false
set_option linter.unusedSimpArgs false

def rlObs (k : Int) : List Ob :=
  [{
      pc :=
        [SB.eq (SI.sel (SL.v 0) (SI.v 2) 4) (SI.c (Int.ofNat 0)),
          SB.eq (SI.sel (SL.v 0) (SI.v 2) 3) (SI.c (Int.ofNat 0)),
          SB.eq (SI.sel (SL.v 0) (SI.v 2) 2) (SI.c (Int.ofNat 0)),
          SB.eq (SI.sel (SL.v 0) (SI.v 2) 1) (SI.c (Int.ofNat 0)),
          SB.eq (SI.sel (SL.v 0) (SI.v 2) 0) (SI.c (Int.ofNat 0)), SB.lt (SI.v 2) (SI.len (SL.v 0)),
          SB.le (SI.c (Int.ofNat 0)) (SI.v 2), SB.le (SI.v 2) (SI.len (SL.v 0)),
          SB.le (SI.c (Int.ofNat 1)) (SI.len (SL.v 0)), SB.le (SI.len (SL.v 0)) (SI.c (Int.ofNat 64)),
          SB.eq (SI.len (SL.v 1)) (SI.c (Int.ofNat 17)), SB.c true, SB.le (SI.c (Int.ofNat 0)) (SI.v 0),
          SB.le (SI.v 0) (SI.c (Int.ofNat 16)), SB.app 140 (SA.l (SL.v 0) SA.nil),
          SB.lt (SI.app 142 (SA.l (SL.v 1) SA.nil)) (SI.c k)],
      eqs :=
        [Eqn.T
            (SB.lt (SI.sub (SI.len (SL.v 0)) (SI.add (SI.v 2) (SI.c (Int.ofNat 1))))
              (SI.sub (SI.len (SL.v 0)) (SI.v 2))),
          Eqn.T (SB.lt (SI.c (Int.ofNat 0)) (SI.sub (SI.len (SL.v 0)) (SI.v 2)))] },
    {
      pc :=
        [SB.lt
            (SI.app 142
              (SA.l
                (SL.app 141
                  (SA.l (SL.v 0)
                    (SA.l (SL.v 1)
                      (SA.i (SI.c k)
                        (SA.i (SI.v 0) (SA.i (SI.add (SI.v 2) (SI.c (Int.ofNat 1))) SA.nil))))))
                SA.nil))
            (SI.c k),
          SB.eq
            (SI.len
              (SL.app 141
                (SA.l (SL.v 0)
                  (SA.l (SL.v 1)
                    (SA.i (SI.c k) (SA.i (SI.v 0) (SA.i (SI.add (SI.v 2) (SI.c (Int.ofNat 1))) SA.nil)))))))
            (SI.c (Int.ofNat 17)),
          SB.eq (SI.sel (SL.v 0) (SI.v 2) 4) (SI.c (Int.ofNat 0)),
          SB.eq (SI.sel (SL.v 0) (SI.v 2) 3) (SI.c (Int.ofNat 0)),
          SB.eq (SI.sel (SL.v 0) (SI.v 2) 2) (SI.c (Int.ofNat 0)),
          SB.eq (SI.sel (SL.v 0) (SI.v 2) 1) (SI.c (Int.ofNat 0)),
          SB.eq (SI.sel (SL.v 0) (SI.v 2) 0) (SI.c (Int.ofNat 0)), SB.lt (SI.v 2) (SI.len (SL.v 0)),
          SB.le (SI.c (Int.ofNat 0)) (SI.v 2), SB.le (SI.v 2) (SI.len (SL.v 0)),
          SB.le (SI.c (Int.ofNat 1)) (SI.len (SL.v 0)), SB.le (SI.len (SL.v 0)) (SI.c (Int.ofNat 64)),
          SB.eq (SI.len (SL.v 1)) (SI.c (Int.ofNat 17)), SB.c true, SB.le (SI.c (Int.ofNat 0)) (SI.v 0),
          SB.le (SI.v 0) (SI.c (Int.ofNat 16)), SB.app 140 (SA.l (SL.v 0) SA.nil),
          SB.lt (SI.app 142 (SA.l (SL.v 1) SA.nil)) (SI.c k)],
      eqs :=
        [Eqn.T
            (SB.eq
              (SI.len
                (SL.app 141
                  (SA.l (SL.v 0) (SA.l (SL.v 1) (SA.i (SI.c k) (SA.i (SI.v 0) (SA.i (SI.v 2) SA.nil)))))))
              (SI.c (Int.ofNat 17))),
          Eqn.T
            (SB.lt
              (SI.app 142
                (SA.l
                  (SL.app 141
                    (SA.l (SL.v 0) (SA.l (SL.v 1) (SA.i (SI.c k) (SA.i (SI.v 0) (SA.i (SI.v 2) SA.nil))))))
                  SA.nil))
              (SI.c k)),
          Eqn.L
            (SL.app 141
              (SA.l (SL.v 0) (SA.l (SL.v 1) (SA.i (SI.c k) (SA.i (SI.v 0) (SA.i (SI.v 2) SA.nil))))))
            (SL.app 141
              (SA.l (SL.v 0)
                (SA.l (SL.v 1)
                  (SA.i (SI.c k)
                    (SA.i (SI.v 0) (SA.i (SI.add (SI.v 2) (SI.c (Int.ofNat 1))) SA.nil))))))] },
    {
      pc :=
        [SB.lt
            (SI.app 142
              (SA.l
                (SL.app 140
                  (SA.l (SL.v 0)
                    (SA.l (SL.v 1) (SA.i (SI.c k) (SA.i (SI.sel (SL.v 0) (SI.v 2) 2) SA.nil)))))
                SA.nil))
            (SI.c k),
          SB.eq
            (SI.len
              (SL.app 140
                (SA.l (SL.v 0) (SA.l (SL.v 1) (SA.i (SI.c k) (SA.i (SI.sel (SL.v 0) (SI.v 2) 2) SA.nil))))))
            (SI.c (Int.ofNat 17)),
          SB.le (SI.c (Int.ofNat 0)) (SI.sel (SL.v 0) (SI.v 2) 2),
          SB.le (SI.sel (SL.v 0) (SI.v 2) 2) (SI.c (Int.ofNat 16)), SB.eq (SI.sel (SL.v 0) (SI.v 2) 0) (SI.v 0),
          SB.or (SB.not (SB.eq (SI.sel (SL.v 0) (SI.v 2) 0) (SI.c (Int.ofNat 0))))
            (SB.or (SB.not (SB.eq (SI.sel (SL.v 0) (SI.v 2) 1) (SI.c (Int.ofNat 0))))
              (SB.or (SB.not (SB.eq (SI.sel (SL.v 0) (SI.v 2) 2) (SI.c (Int.ofNat 0))))
                (SB.or (SB.not (SB.eq (SI.sel (SL.v 0) (SI.v 2) 3) (SI.c (Int.ofNat 0))))
                  (SB.not (SB.eq (SI.sel (SL.v 0) (SI.v 2) 4) (SI.c (Int.ofNat 0))))))),
          SB.lt (SI.v 2) (SI.len (SL.v 0)), SB.le (SI.c (Int.ofNat 0)) (SI.v 2), SB.le (SI.v 2) (SI.len (SL.v 0)),
          SB.le (SI.c (Int.ofNat 1)) (SI.len (SL.v 0)), SB.le (SI.len (SL.v 0)) (SI.c (Int.ofNat 64)),
          SB.eq (SI.len (SL.v 1)) (SI.c (Int.ofNat 17)), SB.c true, SB.le (SI.c (Int.ofNat 0)) (SI.v 0),
          SB.le (SI.v 0) (SI.c (Int.ofNat 16)), SB.app 140 (SA.l (SL.v 0) SA.nil),
          SB.lt (SI.app 142 (SA.l (SL.v 1) SA.nil)) (SI.c k)],
      eqs :=
        [Eqn.T
            (SB.lt (SI.sub (SI.len (SL.v 0)) (SI.add (SI.v 2) (SI.c (Int.ofNat 1))))
              (SI.sub (SI.len (SL.v 0)) (SI.v 2))),
          Eqn.T (SB.lt (SI.c (Int.ofNat 0)) (SI.sub (SI.len (SL.v 0)) (SI.v 2)))] },
    {
      pc :=
        [SB.lt
            (SI.app 142
              (SA.l
                (SL.app 141
                  (SA.l (SL.v 0)
                    (SA.l
                      (SL.app 140
                        (SA.l (SL.v 0)
                          (SA.l (SL.v 1) (SA.i (SI.c k) (SA.i (SI.sel (SL.v 0) (SI.v 2) 2) SA.nil)))))
                      (SA.i (SI.c k)
                        (SA.i (SI.v 0) (SA.i (SI.add (SI.v 2) (SI.c (Int.ofNat 1))) SA.nil))))))
                SA.nil))
            (SI.c k),
          SB.eq
            (SI.len
              (SL.app 141
                (SA.l (SL.v 0)
                  (SA.l
                    (SL.app 140
                      (SA.l (SL.v 0)
                        (SA.l (SL.v 1) (SA.i (SI.c k) (SA.i (SI.sel (SL.v 0) (SI.v 2) 2) SA.nil)))))
                    (SA.i (SI.c k) (SA.i (SI.v 0) (SA.i (SI.add (SI.v 2) (SI.c (Int.ofNat 1))) SA.nil)))))))
            (SI.c (Int.ofNat 17)),
          SB.lt
            (SI.app 142
              (SA.l
                (SL.app 140
                  (SA.l (SL.v 0)
                    (SA.l (SL.v 1) (SA.i (SI.c k) (SA.i (SI.sel (SL.v 0) (SI.v 2) 2) SA.nil)))))
                SA.nil))
            (SI.c k),
          SB.eq
            (SI.len
              (SL.app 140
                (SA.l (SL.v 0) (SA.l (SL.v 1) (SA.i (SI.c k) (SA.i (SI.sel (SL.v 0) (SI.v 2) 2) SA.nil))))))
            (SI.c (Int.ofNat 17)),
          SB.le (SI.c (Int.ofNat 0)) (SI.sel (SL.v 0) (SI.v 2) 2),
          SB.le (SI.sel (SL.v 0) (SI.v 2) 2) (SI.c (Int.ofNat 16)), SB.eq (SI.sel (SL.v 0) (SI.v 2) 0) (SI.v 0),
          SB.or (SB.not (SB.eq (SI.sel (SL.v 0) (SI.v 2) 0) (SI.c (Int.ofNat 0))))
            (SB.or (SB.not (SB.eq (SI.sel (SL.v 0) (SI.v 2) 1) (SI.c (Int.ofNat 0))))
              (SB.or (SB.not (SB.eq (SI.sel (SL.v 0) (SI.v 2) 2) (SI.c (Int.ofNat 0))))
                (SB.or (SB.not (SB.eq (SI.sel (SL.v 0) (SI.v 2) 3) (SI.c (Int.ofNat 0))))
                  (SB.not (SB.eq (SI.sel (SL.v 0) (SI.v 2) 4) (SI.c (Int.ofNat 0))))))),
          SB.lt (SI.v 2) (SI.len (SL.v 0)), SB.le (SI.c (Int.ofNat 0)) (SI.v 2), SB.le (SI.v 2) (SI.len (SL.v 0)),
          SB.le (SI.c (Int.ofNat 1)) (SI.len (SL.v 0)), SB.le (SI.len (SL.v 0)) (SI.c (Int.ofNat 64)),
          SB.eq (SI.len (SL.v 1)) (SI.c (Int.ofNat 17)), SB.c true, SB.le (SI.c (Int.ofNat 0)) (SI.v 0),
          SB.le (SI.v 0) (SI.c (Int.ofNat 16)), SB.app 140 (SA.l (SL.v 0) SA.nil),
          SB.lt (SI.app 142 (SA.l (SL.v 1) SA.nil)) (SI.c k)],
      eqs :=
        [Eqn.T
            (SB.eq
              (SI.len
                (SL.app 141
                  (SA.l (SL.v 0) (SA.l (SL.v 1) (SA.i (SI.c k) (SA.i (SI.v 0) (SA.i (SI.v 2) SA.nil)))))))
              (SI.c (Int.ofNat 17))),
          Eqn.T
            (SB.lt
              (SI.app 142
                (SA.l
                  (SL.app 141
                    (SA.l (SL.v 0) (SA.l (SL.v 1) (SA.i (SI.c k) (SA.i (SI.v 0) (SA.i (SI.v 2) SA.nil))))))
                  SA.nil))
              (SI.c k)),
          Eqn.L
            (SL.app 141
              (SA.l (SL.v 0) (SA.l (SL.v 1) (SA.i (SI.c k) (SA.i (SI.v 0) (SA.i (SI.v 2) SA.nil))))))
            (SL.app 141
              (SA.l (SL.v 0)
                (SA.l
                  (SL.app 140
                    (SA.l (SL.v 0)
                      (SA.l (SL.v 1) (SA.i (SI.c k) (SA.i (SI.sel (SL.v 0) (SI.v 2) 2) SA.nil)))))
                  (SA.i (SI.c k)
                    (SA.i (SI.v 0) (SA.i (SI.add (SI.v 2) (SI.c (Int.ofNat 1))) SA.nil))))))] },
    {
      pc :=
        [SB.not (SB.le (SI.c (Int.ofNat 0)) (SI.sel (SL.v 0) (SI.v 2) 2)), SB.eq (SI.sel (SL.v 0) (SI.v 2) 0) (SI.v 0),
          SB.or (SB.not (SB.eq (SI.sel (SL.v 0) (SI.v 2) 0) (SI.c (Int.ofNat 0))))
            (SB.or (SB.not (SB.eq (SI.sel (SL.v 0) (SI.v 2) 1) (SI.c (Int.ofNat 0))))
              (SB.or (SB.not (SB.eq (SI.sel (SL.v 0) (SI.v 2) 2) (SI.c (Int.ofNat 0))))
                (SB.or (SB.not (SB.eq (SI.sel (SL.v 0) (SI.v 2) 3) (SI.c (Int.ofNat 0))))
                  (SB.not (SB.eq (SI.sel (SL.v 0) (SI.v 2) 4) (SI.c (Int.ofNat 0))))))),
          SB.lt (SI.v 2) (SI.len (SL.v 0)), SB.le (SI.c (Int.ofNat 0)) (SI.v 2), SB.le (SI.v 2) (SI.len (SL.v 0)),
          SB.le (SI.c (Int.ofNat 1)) (SI.len (SL.v 0)), SB.le (SI.len (SL.v 0)) (SI.c (Int.ofNat 64)),
          SB.eq (SI.len (SL.v 1)) (SI.c (Int.ofNat 17)), SB.c true, SB.le (SI.c (Int.ofNat 0)) (SI.v 0),
          SB.le (SI.v 0) (SI.c (Int.ofNat 16)), SB.app 140 (SA.l (SL.v 0) SA.nil),
          SB.lt (SI.app 142 (SA.l (SL.v 1) SA.nil)) (SI.c k)],
      eqs := [Eqn.T (SB.c false)] },
    {
      pc :=
        [SB.not (SB.le (SI.sel (SL.v 0) (SI.v 2) 2) (SI.c (Int.ofNat 16))), SB.eq (SI.sel (SL.v 0) (SI.v 2) 0) (SI.v 0),
          SB.or (SB.not (SB.eq (SI.sel (SL.v 0) (SI.v 2) 0) (SI.c (Int.ofNat 0))))
            (SB.or (SB.not (SB.eq (SI.sel (SL.v 0) (SI.v 2) 1) (SI.c (Int.ofNat 0))))
              (SB.or (SB.not (SB.eq (SI.sel (SL.v 0) (SI.v 2) 2) (SI.c (Int.ofNat 0))))
                (SB.or (SB.not (SB.eq (SI.sel (SL.v 0) (SI.v 2) 3) (SI.c (Int.ofNat 0))))
                  (SB.not (SB.eq (SI.sel (SL.v 0) (SI.v 2) 4) (SI.c (Int.ofNat 0))))))),
          SB.lt (SI.v 2) (SI.len (SL.v 0)), SB.le (SI.c (Int.ofNat 0)) (SI.v 2), SB.le (SI.v 2) (SI.len (SL.v 0)),
          SB.le (SI.c (Int.ofNat 1)) (SI.len (SL.v 0)), SB.le (SI.len (SL.v 0)) (SI.c (Int.ofNat 64)),
          SB.eq (SI.len (SL.v 1)) (SI.c (Int.ofNat 17)), SB.c true, SB.le (SI.c (Int.ofNat 0)) (SI.v 0),
          SB.le (SI.v 0) (SI.c (Int.ofNat 16)), SB.app 140 (SA.l (SL.v 0) SA.nil),
          SB.lt (SI.app 142 (SA.l (SL.v 1) SA.nil)) (SI.c k)],
      eqs := [Eqn.T (SB.c false)] },
    {
      pc :=
        [SB.lt
            (SI.app 142
              (SA.l
                (SL.app 140
                  (SA.l (SL.v 0)
                    (SA.l (SL.v 1) (SA.i (SI.c k) (SA.i (SI.sel (SL.v 0) (SI.v 2) 0) SA.nil)))))
                SA.nil))
            (SI.c k),
          SB.eq
            (SI.len
              (SL.app 140
                (SA.l (SL.v 0) (SA.l (SL.v 1) (SA.i (SI.c k) (SA.i (SI.sel (SL.v 0) (SI.v 2) 0) SA.nil))))))
            (SI.c (Int.ofNat 17)),
          SB.le (SI.c (Int.ofNat 0)) (SI.sel (SL.v 0) (SI.v 2) 0),
          SB.le (SI.sel (SL.v 0) (SI.v 2) 0) (SI.c (Int.ofNat 16)), SB.eq (SI.sel (SL.v 0) (SI.v 2) 2) (SI.v 0),
          SB.not (SB.eq (SI.sel (SL.v 0) (SI.v 2) 0) (SI.v 0)),
          SB.or (SB.not (SB.eq (SI.sel (SL.v 0) (SI.v 2) 0) (SI.c (Int.ofNat 0))))
            (SB.or (SB.not (SB.eq (SI.sel (SL.v 0) (SI.v 2) 1) (SI.c (Int.ofNat 0))))
              (SB.or (SB.not (SB.eq (SI.sel (SL.v 0) (SI.v 2) 2) (SI.c (Int.ofNat 0))))
                (SB.or (SB.not (SB.eq (SI.sel (SL.v 0) (SI.v 2) 3) (SI.c (Int.ofNat 0))))
                  (SB.not (SB.eq (SI.sel (SL.v 0) (SI.v 2) 4) (SI.c (Int.ofNat 0))))))),
          SB.lt (SI.v 2) (SI.len (SL.v 0)), SB.le (SI.c (Int.ofNat 0)) (SI.v 2), SB.le (SI.v 2) (SI.len (SL.v 0)),
          SB.le (SI.c (Int.ofNat 1)) (SI.len (SL.v 0)), SB.le (SI.len (SL.v 0)) (SI.c (Int.ofNat 64)),
          SB.eq (SI.len (SL.v 1)) (SI.c (Int.ofNat 17)), SB.c true, SB.le (SI.c (Int.ofNat 0)) (SI.v 0),
          SB.le (SI.v 0) (SI.c (Int.ofNat 16)), SB.app 140 (SA.l (SL.v 0) SA.nil),
          SB.lt (SI.app 142 (SA.l (SL.v 1) SA.nil)) (SI.c k)],
      eqs :=
        [Eqn.T
            (SB.lt (SI.sub (SI.len (SL.v 0)) (SI.add (SI.v 2) (SI.c (Int.ofNat 1))))
              (SI.sub (SI.len (SL.v 0)) (SI.v 2))),
          Eqn.T (SB.lt (SI.c (Int.ofNat 0)) (SI.sub (SI.len (SL.v 0)) (SI.v 2)))] },
    {
      pc :=
        [SB.lt
            (SI.app 142
              (SA.l
                (SL.app 141
                  (SA.l (SL.v 0)
                    (SA.l
                      (SL.app 140
                        (SA.l (SL.v 0)
                          (SA.l (SL.v 1) (SA.i (SI.c k) (SA.i (SI.sel (SL.v 0) (SI.v 2) 0) SA.nil)))))
                      (SA.i (SI.c k)
                        (SA.i (SI.v 0) (SA.i (SI.add (SI.v 2) (SI.c (Int.ofNat 1))) SA.nil))))))
                SA.nil))
            (SI.c k),
          SB.eq
            (SI.len
              (SL.app 141
                (SA.l (SL.v 0)
                  (SA.l
                    (SL.app 140
                      (SA.l (SL.v 0)
                        (SA.l (SL.v 1) (SA.i (SI.c k) (SA.i (SI.sel (SL.v 0) (SI.v 2) 0) SA.nil)))))
                    (SA.i (SI.c k) (SA.i (SI.v 0) (SA.i (SI.add (SI.v 2) (SI.c (Int.ofNat 1))) SA.nil)))))))
            (SI.c (Int.ofNat 17)),
          SB.lt
            (SI.app 142
              (SA.l
                (SL.app 140
                  (SA.l (SL.v 0)
                    (SA.l (SL.v 1) (SA.i (SI.c k) (SA.i (SI.sel (SL.v 0) (SI.v 2) 0) SA.nil)))))
                SA.nil))
            (SI.c k),
          SB.eq
            (SI.len
              (SL.app 140
                (SA.l (SL.v 0) (SA.l (SL.v 1) (SA.i (SI.c k) (SA.i (SI.sel (SL.v 0) (SI.v 2) 0) SA.nil))))))
            (SI.c (Int.ofNat 17)),
          SB.le (SI.c (Int.ofNat 0)) (SI.sel (SL.v 0) (SI.v 2) 0),
          SB.le (SI.sel (SL.v 0) (SI.v 2) 0) (SI.c (Int.ofNat 16)), SB.eq (SI.sel (SL.v 0) (SI.v 2) 2) (SI.v 0),
          SB.not (SB.eq (SI.sel (SL.v 0) (SI.v 2) 0) (SI.v 0)),
          SB.or (SB.not (SB.eq (SI.sel (SL.v 0) (SI.v 2) 0) (SI.c (Int.ofNat 0))))
            (SB.or (SB.not (SB.eq (SI.sel (SL.v 0) (SI.v 2) 1) (SI.c (Int.ofNat 0))))
              (SB.or (SB.not (SB.eq (SI.sel (SL.v 0) (SI.v 2) 2) (SI.c (Int.ofNat 0))))
                (SB.or (SB.not (SB.eq (SI.sel (SL.v 0) (SI.v 2) 3) (SI.c (Int.ofNat 0))))
                  (SB.not (SB.eq (SI.sel (SL.v 0) (SI.v 2) 4) (SI.c (Int.ofNat 0))))))),
          SB.lt (SI.v 2) (SI.len (SL.v 0)), SB.le (SI.c (Int.ofNat 0)) (SI.v 2), SB.le (SI.v 2) (SI.len (SL.v 0)),
          SB.le (SI.c (Int.ofNat 1)) (SI.len (SL.v 0)), SB.le (SI.len (SL.v 0)) (SI.c (Int.ofNat 64)),
          SB.eq (SI.len (SL.v 1)) (SI.c (Int.ofNat 17)), SB.c true, SB.le (SI.c (Int.ofNat 0)) (SI.v 0),
          SB.le (SI.v 0) (SI.c (Int.ofNat 16)), SB.app 140 (SA.l (SL.v 0) SA.nil),
          SB.lt (SI.app 142 (SA.l (SL.v 1) SA.nil)) (SI.c k)],
      eqs :=
        [Eqn.T
            (SB.eq
              (SI.len
                (SL.app 141
                  (SA.l (SL.v 0) (SA.l (SL.v 1) (SA.i (SI.c k) (SA.i (SI.v 0) (SA.i (SI.v 2) SA.nil)))))))
              (SI.c (Int.ofNat 17))),
          Eqn.T
            (SB.lt
              (SI.app 142
                (SA.l
                  (SL.app 141
                    (SA.l (SL.v 0) (SA.l (SL.v 1) (SA.i (SI.c k) (SA.i (SI.v 0) (SA.i (SI.v 2) SA.nil))))))
                  SA.nil))
              (SI.c k)),
          Eqn.L
            (SL.app 141
              (SA.l (SL.v 0) (SA.l (SL.v 1) (SA.i (SI.c k) (SA.i (SI.v 0) (SA.i (SI.v 2) SA.nil))))))
            (SL.app 141
              (SA.l (SL.v 0)
                (SA.l
                  (SL.app 140
                    (SA.l (SL.v 0)
                      (SA.l (SL.v 1) (SA.i (SI.c k) (SA.i (SI.sel (SL.v 0) (SI.v 2) 0) SA.nil)))))
                  (SA.i (SI.c k)
                    (SA.i (SI.v 0) (SA.i (SI.add (SI.v 2) (SI.c (Int.ofNat 1))) SA.nil))))))] },
    {
      pc :=
        [SB.not (SB.le (SI.c (Int.ofNat 0)) (SI.sel (SL.v 0) (SI.v 2) 0)), SB.eq (SI.sel (SL.v 0) (SI.v 2) 2) (SI.v 0),
          SB.not (SB.eq (SI.sel (SL.v 0) (SI.v 2) 0) (SI.v 0)),
          SB.or (SB.not (SB.eq (SI.sel (SL.v 0) (SI.v 2) 0) (SI.c (Int.ofNat 0))))
            (SB.or (SB.not (SB.eq (SI.sel (SL.v 0) (SI.v 2) 1) (SI.c (Int.ofNat 0))))
              (SB.or (SB.not (SB.eq (SI.sel (SL.v 0) (SI.v 2) 2) (SI.c (Int.ofNat 0))))
                (SB.or (SB.not (SB.eq (SI.sel (SL.v 0) (SI.v 2) 3) (SI.c (Int.ofNat 0))))
                  (SB.not (SB.eq (SI.sel (SL.v 0) (SI.v 2) 4) (SI.c (Int.ofNat 0))))))),
          SB.lt (SI.v 2) (SI.len (SL.v 0)), SB.le (SI.c (Int.ofNat 0)) (SI.v 2), SB.le (SI.v 2) (SI.len (SL.v 0)),
          SB.le (SI.c (Int.ofNat 1)) (SI.len (SL.v 0)), SB.le (SI.len (SL.v 0)) (SI.c (Int.ofNat 64)),
          SB.eq (SI.len (SL.v 1)) (SI.c (Int.ofNat 17)), SB.c true, SB.le (SI.c (Int.ofNat 0)) (SI.v 0),
          SB.le (SI.v 0) (SI.c (Int.ofNat 16)), SB.app 140 (SA.l (SL.v 0) SA.nil),
          SB.lt (SI.app 142 (SA.l (SL.v 1) SA.nil)) (SI.c k)],
      eqs := [Eqn.T (SB.c false)] },
    {
      pc :=
        [SB.not (SB.le (SI.sel (SL.v 0) (SI.v 2) 0) (SI.c (Int.ofNat 16))), SB.eq (SI.sel (SL.v 0) (SI.v 2) 2) (SI.v 0),
          SB.not (SB.eq (SI.sel (SL.v 0) (SI.v 2) 0) (SI.v 0)),
          SB.or (SB.not (SB.eq (SI.sel (SL.v 0) (SI.v 2) 0) (SI.c (Int.ofNat 0))))
            (SB.or (SB.not (SB.eq (SI.sel (SL.v 0) (SI.v 2) 1) (SI.c (Int.ofNat 0))))
              (SB.or (SB.not (SB.eq (SI.sel (SL.v 0) (SI.v 2) 2) (SI.c (Int.ofNat 0))))
                (SB.or (SB.not (SB.eq (SI.sel (SL.v 0) (SI.v 2) 3) (SI.c (Int.ofNat 0))))
                  (SB.not (SB.eq (SI.sel (SL.v 0) (SI.v 2) 4) (SI.c (Int.ofNat 0))))))),
          SB.lt (SI.v 2) (SI.len (SL.v 0)), SB.le (SI.c (Int.ofNat 0)) (SI.v 2), SB.le (SI.v 2) (SI.len (SL.v 0)),
          SB.le (SI.c (Int.ofNat 1)) (SI.len (SL.v 0)), SB.le (SI.len (SL.v 0)) (SI.c (Int.ofNat 64)),
          SB.eq (SI.len (SL.v 1)) (SI.c (Int.ofNat 17)), SB.c true, SB.le (SI.c (Int.ofNat 0)) (SI.v 0),
          SB.le (SI.v 0) (SI.c (Int.ofNat 16)), SB.app 140 (SA.l (SL.v 0) SA.nil),
          SB.lt (SI.app 142 (SA.l (SL.v 1) SA.nil)) (SI.c k)],
      eqs := [Eqn.T (SB.c false)] },
    {
      pc :=
        [SB.not (SB.eq (SI.sel (SL.v 0) (SI.v 2) 2) (SI.v 0)), SB.not (SB.eq (SI.sel (SL.v 0) (SI.v 2) 0) (SI.v 0)),
          SB.or (SB.not (SB.eq (SI.sel (SL.v 0) (SI.v 2) 0) (SI.c (Int.ofNat 0))))
            (SB.or (SB.not (SB.eq (SI.sel (SL.v 0) (SI.v 2) 1) (SI.c (Int.ofNat 0))))
              (SB.or (SB.not (SB.eq (SI.sel (SL.v 0) (SI.v 2) 2) (SI.c (Int.ofNat 0))))
                (SB.or (SB.not (SB.eq (SI.sel (SL.v 0) (SI.v 2) 3) (SI.c (Int.ofNat 0))))
                  (SB.not (SB.eq (SI.sel (SL.v 0) (SI.v 2) 4) (SI.c (Int.ofNat 0))))))),
          SB.lt (SI.v 2) (SI.len (SL.v 0)), SB.le (SI.c (Int.ofNat 0)) (SI.v 2), SB.le (SI.v 2) (SI.len (SL.v 0)),
          SB.le (SI.c (Int.ofNat 1)) (SI.len (SL.v 0)), SB.le (SI.len (SL.v 0)) (SI.c (Int.ofNat 64)),
          SB.eq (SI.len (SL.v 1)) (SI.c (Int.ofNat 17)), SB.c true, SB.le (SI.c (Int.ofNat 0)) (SI.v 0),
          SB.le (SI.v 0) (SI.c (Int.ofNat 16)), SB.app 140 (SA.l (SL.v 0) SA.nil),
          SB.lt (SI.app 142 (SA.l (SL.v 1) SA.nil)) (SI.c k)],
      eqs :=
        [Eqn.T
            (SB.lt (SI.sub (SI.len (SL.v 0)) (SI.add (SI.v 2) (SI.c (Int.ofNat 1))))
              (SI.sub (SI.len (SL.v 0)) (SI.v 2))),
          Eqn.T (SB.lt (SI.c (Int.ofNat 0)) (SI.sub (SI.len (SL.v 0)) (SI.v 2)))] },
    {
      pc :=
        [SB.lt
            (SI.app 142
              (SA.l
                (SL.app 141
                  (SA.l (SL.v 0)
                    (SA.l (SL.v 1)
                      (SA.i (SI.c k)
                        (SA.i (SI.v 0) (SA.i (SI.add (SI.v 2) (SI.c (Int.ofNat 1))) SA.nil))))))
                SA.nil))
            (SI.c k),
          SB.eq
            (SI.len
              (SL.app 141
                (SA.l (SL.v 0)
                  (SA.l (SL.v 1)
                    (SA.i (SI.c k) (SA.i (SI.v 0) (SA.i (SI.add (SI.v 2) (SI.c (Int.ofNat 1))) SA.nil)))))))
            (SI.c (Int.ofNat 17)),
          SB.not (SB.eq (SI.sel (SL.v 0) (SI.v 2) 2) (SI.v 0)), SB.not (SB.eq (SI.sel (SL.v 0) (SI.v 2) 0) (SI.v 0)),
          SB.or (SB.not (SB.eq (SI.sel (SL.v 0) (SI.v 2) 0) (SI.c (Int.ofNat 0))))
            (SB.or (SB.not (SB.eq (SI.sel (SL.v 0) (SI.v 2) 1) (SI.c (Int.ofNat 0))))
              (SB.or (SB.not (SB.eq (SI.sel (SL.v 0) (SI.v 2) 2) (SI.c (Int.ofNat 0))))
                (SB.or (SB.not (SB.eq (SI.sel (SL.v 0) (SI.v 2) 3) (SI.c (Int.ofNat 0))))
                  (SB.not (SB.eq (SI.sel (SL.v 0) (SI.v 2) 4) (SI.c (Int.ofNat 0))))))),
          SB.lt (SI.v 2) (SI.len (SL.v 0)), SB.le (SI.c (Int.ofNat 0)) (SI.v 2), SB.le (SI.v 2) (SI.len (SL.v 0)),
          SB.le (SI.c (Int.ofNat 1)) (SI.len (SL.v 0)), SB.le (SI.len (SL.v 0)) (SI.c (Int.ofNat 64)),
          SB.eq (SI.len (SL.v 1)) (SI.c (Int.ofNat 17)), SB.c true, SB.le (SI.c (Int.ofNat 0)) (SI.v 0),
          SB.le (SI.v 0) (SI.c (Int.ofNat 16)), SB.app 140 (SA.l (SL.v 0) SA.nil),
          SB.lt (SI.app 142 (SA.l (SL.v 1) SA.nil)) (SI.c k)],
      eqs :=
        [Eqn.T
            (SB.eq
              (SI.len
                (SL.app 141
                  (SA.l (SL.v 0) (SA.l (SL.v 1) (SA.i (SI.c k) (SA.i (SI.v 0) (SA.i (SI.v 2) SA.nil)))))))
              (SI.c (Int.ofNat 17))),
          Eqn.T
            (SB.lt
              (SI.app 142
                (SA.l
                  (SL.app 141
                    (SA.l (SL.v 0) (SA.l (SL.v 1) (SA.i (SI.c k) (SA.i (SI.v 0) (SA.i (SI.v 2) SA.nil))))))
                  SA.nil))
              (SI.c k)),
          Eqn.L
            (SL.app 141
              (SA.l (SL.v 0) (SA.l (SL.v 1) (SA.i (SI.c k) (SA.i (SI.v 0) (SA.i (SI.v 2) SA.nil))))))
            (SL.app 141
              (SA.l (SL.v 0)
                (SA.l (SL.v 1)
                  (SA.i (SI.c k)
                    (SA.i (SI.v 0) (SA.i (SI.add (SI.v 2) (SI.c (Int.ofNat 1))) SA.nil))))))] },
    {
      pc :=
        [SB.not (SB.lt (SI.v 2) (SI.len (SL.v 0))), SB.le (SI.c (Int.ofNat 0)) (SI.v 2),
          SB.le (SI.v 2) (SI.len (SL.v 0)), SB.le (SI.c (Int.ofNat 1)) (SI.len (SL.v 0)),
          SB.le (SI.len (SL.v 0)) (SI.c (Int.ofNat 64)), SB.eq (SI.len (SL.v 1)) (SI.c (Int.ofNat 17)), SB.c true,
          SB.le (SI.c (Int.ofNat 0)) (SI.v 0), SB.le (SI.v 0) (SI.c (Int.ofNat 16)), SB.app 140 (SA.l (SL.v 0) SA.nil),
          SB.lt (SI.app 142 (SA.l (SL.v 1) SA.nil)) (SI.c k)],
      eqs :=
        [Eqn.T
            (SB.eq
              (SI.len
                (SL.app 141
                  (SA.l (SL.v 0) (SA.l (SL.v 1) (SA.i (SI.c k) (SA.i (SI.v 0) (SA.i (SI.v 2) SA.nil)))))))
              (SI.c (Int.ofNat 17))),
          Eqn.T
            (SB.lt
              (SI.app 142
                (SA.l
                  (SL.app 141
                    (SA.l (SL.v 0) (SA.l (SL.v 1) (SA.i (SI.c k) (SA.i (SI.v 0) (SA.i (SI.v 2) SA.nil))))))
                  SA.nil))
              (SI.c k)),
          Eqn.L
            (SL.app 141
              (SA.l (SL.v 0) (SA.l (SL.v 1) (SA.i (SI.c k) (SA.i (SI.v 0) (SA.i (SI.v 2) SA.nil))))))
            (SL.v 1)] }]
def reObs (k k1 : Int) : List Ob :=
  [{
      pc :=
        [SB.lt
            (SI.app 142
              (SA.l
                (SL.app 141
                  (SA.l (SL.v 0)
                    (SA.l
                      (SL.app 4
                        (SA.l (SL.v 1) (SA.i (SI.v 0) (SA.i (SI.c (Int.ofNat 0)) (SA.i (SI.c (Int.ofNat 1)) SA.nil)))))
                      (SA.i (SI.c k) (SA.i (SI.v 0) (SA.i (SI.c (Int.ofNat 0)) SA.nil))))))
                SA.nil))
            (SI.c k),
          SB.eq
            (SI.len
              (SL.app 141
                (SA.l (SL.v 0)
                  (SA.l
                    (SL.app 4
                      (SA.l (SL.v 1) (SA.i (SI.v 0) (SA.i (SI.c (Int.ofNat 0)) (SA.i (SI.c (Int.ofNat 1)) SA.nil)))))
                    (SA.i (SI.c k) (SA.i (SI.v 0) (SA.i (SI.c (Int.ofNat 0)) SA.nil)))))))
            (SI.c (Int.ofNat 17)),
          SB.lt
            (SI.app 142
              (SA.l
                (SL.app 4
                  (SA.l (SL.v 1) (SA.i (SI.v 0) (SA.i (SI.c (Int.ofNat 0)) (SA.i (SI.c (Int.ofNat 1)) SA.nil)))))
                SA.nil))
            (SI.c k),
          SB.eq (SI.sel (SL.v 1) (SI.v 0) 0) (SI.c (Int.ofNat 0)), SB.le (SI.c (Int.ofNat 1)) (SI.len (SL.v 0)),
          SB.le (SI.len (SL.v 0)) (SI.c (Int.ofNat 64)), SB.eq (SI.len (SL.v 1)) (SI.c (Int.ofNat 17)), SB.c true,
          SB.le (SI.c (Int.ofNat 0)) (SI.v 0), SB.le (SI.v 0) (SI.c (Int.ofNat 16)), SB.app 140 (SA.l (SL.v 0) SA.nil),
          SB.lt (SI.app 142 (SA.l (SL.v 1) SA.nil)) (SI.c k1)],
      eqs :=
        [Eqn.T
            (SB.eq
              (SI.len (SL.app 140 (SA.l (SL.v 0) (SA.l (SL.v 1) (SA.i (SI.c k1) (SA.i (SI.v 0) SA.nil))))))
              (SI.c (Int.ofNat 17))),
          Eqn.T
            (SB.lt
              (SI.app 142
                (SA.l (SL.app 140 (SA.l (SL.v 0) (SA.l (SL.v 1) (SA.i (SI.c k1) (SA.i (SI.v 0) SA.nil)))))
                  SA.nil))
              (SI.c k1)),
          Eqn.L (SL.app 140 (SA.l (SL.v 0) (SA.l (SL.v 1) (SA.i (SI.c k1) (SA.i (SI.v 0) SA.nil)))))
            (SL.app 141
              (SA.l (SL.v 0)
                (SA.l
                  (SL.app 4
                    (SA.l (SL.v 1) (SA.i (SI.v 0) (SA.i (SI.c (Int.ofNat 0)) (SA.i (SI.c (Int.ofNat 1)) SA.nil)))))
                  (SA.i (SI.c k) (SA.i (SI.v 0) (SA.i (SI.c (Int.ofNat 0)) SA.nil))))))] },
    {
      pc :=
        [SB.not
            (SB.lt
              (SI.app 142
                (SA.l
                  (SL.app 4
                    (SA.l (SL.v 1) (SA.i (SI.v 0) (SA.i (SI.c (Int.ofNat 0)) (SA.i (SI.c (Int.ofNat 1)) SA.nil)))))
                  SA.nil))
              (SI.c k)),
          SB.eq (SI.sel (SL.v 1) (SI.v 0) 0) (SI.c (Int.ofNat 0)), SB.le (SI.c (Int.ofNat 1)) (SI.len (SL.v 0)),
          SB.le (SI.len (SL.v 0)) (SI.c (Int.ofNat 64)), SB.eq (SI.len (SL.v 1)) (SI.c (Int.ofNat 17)), SB.c true,
          SB.le (SI.c (Int.ofNat 0)) (SI.v 0), SB.le (SI.v 0) (SI.c (Int.ofNat 16)), SB.app 140 (SA.l (SL.v 0) SA.nil),
          SB.lt (SI.app 142 (SA.l (SL.v 1) SA.nil)) (SI.c k1)],
      eqs := [Eqn.T (SB.c false)] },
    {
      pc :=
        [SB.not (SB.eq (SI.sel (SL.v 1) (SI.v 0) 0) (SI.c (Int.ofNat 0))), SB.le (SI.c (Int.ofNat 1)) (SI.len (SL.v 0)),
          SB.le (SI.len (SL.v 0)) (SI.c (Int.ofNat 64)), SB.eq (SI.len (SL.v 1)) (SI.c (Int.ofNat 17)), SB.c true,
          SB.le (SI.c (Int.ofNat 0)) (SI.v 0), SB.le (SI.v 0) (SI.c (Int.ofNat 16)), SB.app 140 (SA.l (SL.v 0) SA.nil),
          SB.lt (SI.app 142 (SA.l (SL.v 1) SA.nil)) (SI.c k1)],
      eqs :=
        [Eqn.T
            (SB.eq
              (SI.len (SL.app 140 (SA.l (SL.v 0) (SA.l (SL.v 1) (SA.i (SI.c k1) (SA.i (SI.v 0) SA.nil))))))
              (SI.c (Int.ofNat 17))),
          Eqn.T
            (SB.lt
              (SI.app 142
                (SA.l (SL.app 140 (SA.l (SL.v 0) (SA.l (SL.v 1) (SA.i (SI.c k1) (SA.i (SI.v 0) SA.nil)))))
                  SA.nil))
              (SI.c k1)),
          Eqn.L (SL.app 140 (SA.l (SL.v 0) (SA.l (SL.v 1) (SA.i (SI.c k1) (SA.i (SI.v 0) SA.nil)))))
            (SL.v 1)] }]
theorem rlObs_ok (k : Int) : ∀ ob ∈ rlObs k, ob.ok Φ (reO S1) := by
  unfold rlObs
  simp only [and_imp, List.forall_mem_cons, List.not_mem_nil, false_implies, implies_true, and_true, Ob.ok, holds, Eqn.ok, evB_eq, evB_lt, evB_le, evB_not, evB_and, evB_or, evB_eqL, evB_app, evB_v, evB_c, ev_sel, ev_len, ev_v, ev_c, ev_add, ev_sub, ev_mul, ev_quo, ev_rem, ev_bits, ev_wrap, evL_v, evL_lit, evL_app, ev_app, evA_l, evA_i, evA_nil, std_min, std_max, std_cat, std_take, std_drop, std_row, std_set, std_rep, std_find, std_put, std_del, std_flag, std_unflag, std_clr, std_left, std_copy, ints_cons, ints_nil, ofNat_lit, negSucc_lit, decide_eq_true_eq, Bool.and_eq_true, Bool.or_eq_true, Bool.not_eq_true', Bool.and_eq_false_iff, Bool.or_eq_false_iff, decide_eq_false_iff_not, aI110, aI111, aI112, aI113, aI114, aL100, aL101, aL102, aL103, aL110, aL112, aL113, aL114, aL115, aL116, aB130, aB131, aB132, aB199, aI142, aL140, aL141, aL143, aL144, aB140]
  repeat' apply And.intro
  all_goals intro ρ hR
  all_goals intros
  all_goals first
    | (omega)
    | (have hT : ∀ r ∈ ρ.l 0, okRow K5 r := hR.row 4 rfl rfl
       have hm := getD_mem (A := ρ.l 0) (i := ρ.i 2) (by omega) (by omega)
       have h5 := hT _ hm
       have e := fold_at (G := ρ.l 0) (S := ρ.l 1) (f := stepR (dfs (ρ.l 0) k.toNat) (ρ.i 0)) (i := ρ.i 2) (by omega) (by omega)
       rw [step_dead h5 (by unfold allZ; omega)] at e
       rw [e]
       exact ⟨by assumption, by assumption, rfl⟩)
    | (have hT : ∀ r ∈ ρ.l 0, okRow K5 r := hR.row 4 rfl rfl
       have hm := getD_mem (A := ρ.l 0) (i := ρ.i 2) (by omega) (by omega)
       have h5 := hT _ hm
       have e := fold_at (G := ρ.l 0) (S := ρ.l 1) (f := stepR (dfs (ρ.l 0) k.toNat) (ρ.i 0)) (i := ρ.i 2) (by omega) (by omega)
       rw [step_own h5 (by unfold allZ; omega) (by omega)] at e
       rw [e]
       exact ⟨by assumption, by assumption, rfl⟩)
    | (have hT : ∀ r ∈ ρ.l 0, okRow K5 r := hR.row 4 rfl rfl
       have hm := getD_mem (A := ρ.l 0) (i := ρ.i 2) (by omega) (by omega)
       have h5 := hT _ hm
       have e := fold_at (G := ρ.l 0) (S := ρ.l 1) (f := stepR (dfs (ρ.l 0) k.toNat) (ρ.i 0)) (i := ρ.i 2) (by omega) (by omega)
       rw [step_to h5 (by unfold allZ; omega) (by omega) (by omega)] at e
       rw [e]
       exact ⟨by assumption, by assumption, rfl⟩)
    | (have hT : ∀ r ∈ ρ.l 0, okRow K5 r := hR.row 4 rfl rfl
       have hm := getD_mem (A := ρ.l 0) (i := ρ.i 2) (by omega) (by omega)
       have h5 := hT _ hm
       have e := fold_at (G := ρ.l 0) (S := ρ.l 1) (f := stepR (dfs (ρ.l 0) k.toNat) (ρ.i 0)) (i := ρ.i 2) (by omega) (by omega)
       rw [step_no h5 (by omega) (by omega)] at e
       rw [e]
       exact ⟨by assumption, by assumption, rfl⟩)
    | (have hT : ∀ r ∈ ρ.l 0, okRow K5 r := hR.row 4 rfl rfl
       have hm := getD_mem (A := ρ.l 0) (i := ρ.i 2) (by omega) (by omega)
       have h5 := hT _ hm
       have h := okGB_at (G := ρ.l 0) (by with_reducible assumption) hm h5 (by unfold allZ; omega)
       exfalso
       omega)
    | (have e := fold_end (G := ρ.l 0) (S := ρ.l 1) (f := stepR (dfs (ρ.l 0) k.toNat) (ρ.i 0)) (i := ρ.i 2) (by omega)
       rw [e]
       exact ⟨by assumption, by assumption, rfl⟩)
theorem reObs_ok (k k1 : Int) (hk : 0 ≤ k) (hk1 : k1 = k + 1) : ∀ ob ∈ reObs k k1, ob.ok Φ (reO S1) := by
  unfold reObs
  simp only [and_imp, List.forall_mem_cons, List.not_mem_nil, false_implies, implies_true, and_true, Ob.ok, holds, Eqn.ok, evB_eq, evB_lt, evB_le, evB_not, evB_and, evB_or, evB_eqL, evB_app, evB_v, evB_c, ev_sel, ev_len, ev_v, ev_c, ev_add, ev_sub, ev_mul, ev_quo, ev_rem, ev_bits, ev_wrap, evL_v, evL_lit, evL_app, ev_app, evA_l, evA_i, evA_nil, std_min, std_max, std_cat, std_take, std_drop, std_row, std_set, std_rep, std_find, std_put, std_del, std_flag, std_unflag, std_clr, std_left, std_copy, ints_cons, ints_nil, ofNat_lit, negSucc_lit, decide_eq_true_eq, Bool.and_eq_true, Bool.or_eq_true, Bool.not_eq_true', Bool.and_eq_false_iff, Bool.or_eq_false_iff, decide_eq_false_iff_not, aI110, aI111, aI112, aI113, aI114, aL100, aL101, aL102, aL103, aL110, aL112, aL113, aL114, aL115, aL116, aB130, aB131, aB132, aB199, aI142, aL140, aL141, aL143, aL144, aB140]
  subst hk1
  repeat' apply And.intro
  all_goals intro ρ hR
  all_goals intros
  all_goals first
    | (have hS : ∀ r ∈ ρ.l 1, okRow [.b] r := hR.row 0 rfl rfl
       have hl : ((ρ.l 1).length : Int) = 17 := by with_reducible assumption
       have e := dfs_not (G := ρ.l 0) (S := ρ.l 1) (n := ρ.i 0) (k := k) hk (seen_0 (by omega))
       simp only [show ∀ T : Tab, List.drop (Int.toNat 0) T = T from fun _ => rfl] at *
       rw [e]
       exact ⟨by assumption, Int.lt_trans (by assumption) (by omega), rfl⟩)
    | (have hS : ∀ r ∈ ρ.l 1, okRow [.b] r := hR.row 0 rfl rfl
       have hl : ((ρ.l 1).length : Int) = 17 := by with_reducible assumption
       have e : unseen (List.modify (ρ.l 1) (ρ.i 0).toNat fun row => row.set (Int.toNat 0) 1) + 1 = unseen (ρ.l 1) := unseen_see (okS_of hl hS) (n := ρ.i 0) ⟨by omega, by omega⟩ (seen_0 (by omega))
       exfalso
       omega)
    | (have hS : ∀ r ∈ ρ.l 1, okRow [.b] r := hR.row 0 rfl rfl
       have hl : ((ρ.l 1).length : Int) = 17 := by with_reducible assumption
       have e := dfs_seen (G := ρ.l 0) (k + 1).toNat (seen_1 (n := ρ.i 0) hl hS (by omega) (by omega) (by omega))
       rw [e]
       exact ⟨by assumption, by omega, rfl⟩)
theorem cFree0_obs : callObs Φ Try.prog noTbl 1000 cFree0.f cFree0.vs cFree0.o cFree0.pc cFree0.outs = some
  [{
      pc :=
        [SB.v 0, SB.eq (SI.v 2) (SI.c (Int.ofNat 0)), SB.eq (SI.v 1) (SI.c (Int.ofNat 0)),
          SB.eq (SI.v 0) (SI.c (Int.ofNat 0)),
          SB.and (SB.c true)
            (SB.or
              (SB.and (SB.eq (SI.v 0) (SI.c (Int.ofNat 0)))
                (SB.and (SB.eq (SI.v 1) (SI.c (Int.ofNat 0)))
                  (SB.and (SB.eq (SI.v 2) (SI.c (Int.ofNat 0)))
                    (SB.and (SB.not (SB.v 0)) (SB.eq (SI.v 5) (SI.c (Int.ofNat 0)))))))
              (SB.or (SB.not (SB.eq (SI.v 0) (SI.c (Int.ofNat 0))))
                (SB.or (SB.not (SB.eq (SI.v 1) (SI.c (Int.ofNat 0))))
                  (SB.or (SB.not (SB.eq (SI.v 2) (SI.c (Int.ofNat 0))))
                    (SB.or (SB.v 0) (SB.not (SB.eq (SI.v 5) (SI.c (Int.ofNat 0)))))))))],
      eqs :=
        [Eqn.B (SB.c false)
            (SB.and (SB.eq (SI.v 0) (SI.c (Int.ofNat 0)))
              (SB.and (SB.eq (SI.v 1) (SI.c (Int.ofNat 0)))
                (SB.and (SB.eq (SI.v 2) (SI.c (Int.ofNat 0)))
                  (SB.and (SB.not (SB.v 0)) (SB.eq (SI.v 5) (SI.c (Int.ofNat 0)))))))] },
    {
      pc :=
        [SB.eq (SI.v 5) (SI.c (Int.ofNat 0)), SB.not (SB.v 0), SB.eq (SI.v 2) (SI.c (Int.ofNat 0)),
          SB.eq (SI.v 1) (SI.c (Int.ofNat 0)), SB.eq (SI.v 0) (SI.c (Int.ofNat 0)),
          SB.and (SB.c true)
            (SB.or
              (SB.and (SB.eq (SI.v 0) (SI.c (Int.ofNat 0)))
                (SB.and (SB.eq (SI.v 1) (SI.c (Int.ofNat 0)))
                  (SB.and (SB.eq (SI.v 2) (SI.c (Int.ofNat 0)))
                    (SB.and (SB.not (SB.v 0)) (SB.eq (SI.v 5) (SI.c (Int.ofNat 0)))))))
              (SB.or (SB.not (SB.eq (SI.v 0) (SI.c (Int.ofNat 0))))
                (SB.or (SB.not (SB.eq (SI.v 1) (SI.c (Int.ofNat 0))))
                  (SB.or (SB.not (SB.eq (SI.v 2) (SI.c (Int.ofNat 0))))
                    (SB.or (SB.v 0) (SB.not (SB.eq (SI.v 5) (SI.c (Int.ofNat 0)))))))))],
      eqs :=
        [Eqn.B (SB.c true)
            (SB.and (SB.eq (SI.v 0) (SI.c (Int.ofNat 0)))
              (SB.and (SB.eq (SI.v 1) (SI.c (Int.ofNat 0)))
                (SB.and (SB.eq (SI.v 2) (SI.c (Int.ofNat 0)))
                  (SB.and (SB.not (SB.v 0)) (SB.eq (SI.v 5) (SI.c (Int.ofNat 0)))))))] },
    {
      pc :=
        [SB.not (SB.eq (SI.v 5) (SI.c (Int.ofNat 0))), SB.not (SB.v 0), SB.eq (SI.v 2) (SI.c (Int.ofNat 0)),
          SB.eq (SI.v 1) (SI.c (Int.ofNat 0)), SB.eq (SI.v 0) (SI.c (Int.ofNat 0)),
          SB.and (SB.c true)
            (SB.or
              (SB.and (SB.eq (SI.v 0) (SI.c (Int.ofNat 0)))
                (SB.and (SB.eq (SI.v 1) (SI.c (Int.ofNat 0)))
                  (SB.and (SB.eq (SI.v 2) (SI.c (Int.ofNat 0)))
                    (SB.and (SB.not (SB.v 0)) (SB.eq (SI.v 5) (SI.c (Int.ofNat 0)))))))
              (SB.or (SB.not (SB.eq (SI.v 0) (SI.c (Int.ofNat 0))))
                (SB.or (SB.not (SB.eq (SI.v 1) (SI.c (Int.ofNat 0))))
                  (SB.or (SB.not (SB.eq (SI.v 2) (SI.c (Int.ofNat 0))))
                    (SB.or (SB.v 0) (SB.not (SB.eq (SI.v 5) (SI.c (Int.ofNat 0)))))))))],
      eqs :=
        [Eqn.B (SB.c false)
            (SB.and (SB.eq (SI.v 0) (SI.c (Int.ofNat 0)))
              (SB.and (SB.eq (SI.v 1) (SI.c (Int.ofNat 0)))
                (SB.and (SB.eq (SI.v 2) (SI.c (Int.ofNat 0)))
                  (SB.and (SB.not (SB.v 0)) (SB.eq (SI.v 5) (SI.c (Int.ofNat 0)))))))] },
    {
      pc :=
        [SB.not (SB.eq (SI.v 2) (SI.c (Int.ofNat 0))), SB.eq (SI.v 1) (SI.c (Int.ofNat 0)),
          SB.eq (SI.v 0) (SI.c (Int.ofNat 0)),
          SB.and (SB.c true)
            (SB.or
              (SB.and (SB.eq (SI.v 0) (SI.c (Int.ofNat 0)))
                (SB.and (SB.eq (SI.v 1) (SI.c (Int.ofNat 0)))
                  (SB.and (SB.eq (SI.v 2) (SI.c (Int.ofNat 0)))
                    (SB.and (SB.not (SB.v 0)) (SB.eq (SI.v 5) (SI.c (Int.ofNat 0)))))))
              (SB.or (SB.not (SB.eq (SI.v 0) (SI.c (Int.ofNat 0))))
                (SB.or (SB.not (SB.eq (SI.v 1) (SI.c (Int.ofNat 0))))
                  (SB.or (SB.not (SB.eq (SI.v 2) (SI.c (Int.ofNat 0))))
                    (SB.or (SB.v 0) (SB.not (SB.eq (SI.v 5) (SI.c (Int.ofNat 0)))))))))],
      eqs :=
        [Eqn.B (SB.c false)
            (SB.and (SB.eq (SI.v 0) (SI.c (Int.ofNat 0)))
              (SB.and (SB.eq (SI.v 1) (SI.c (Int.ofNat 0)))
                (SB.and (SB.eq (SI.v 2) (SI.c (Int.ofNat 0)))
                  (SB.and (SB.not (SB.v 0)) (SB.eq (SI.v 5) (SI.c (Int.ofNat 0)))))))] },
    {
      pc :=
        [SB.not (SB.eq (SI.v 1) (SI.c (Int.ofNat 0))), SB.eq (SI.v 0) (SI.c (Int.ofNat 0)),
          SB.and (SB.c true)
            (SB.or
              (SB.and (SB.eq (SI.v 0) (SI.c (Int.ofNat 0)))
                (SB.and (SB.eq (SI.v 1) (SI.c (Int.ofNat 0)))
                  (SB.and (SB.eq (SI.v 2) (SI.c (Int.ofNat 0)))
                    (SB.and (SB.not (SB.v 0)) (SB.eq (SI.v 5) (SI.c (Int.ofNat 0)))))))
              (SB.or (SB.not (SB.eq (SI.v 0) (SI.c (Int.ofNat 0))))
                (SB.or (SB.not (SB.eq (SI.v 1) (SI.c (Int.ofNat 0))))
                  (SB.or (SB.not (SB.eq (SI.v 2) (SI.c (Int.ofNat 0))))
                    (SB.or (SB.v 0) (SB.not (SB.eq (SI.v 5) (SI.c (Int.ofNat 0)))))))))],
      eqs :=
        [Eqn.B (SB.c false)
            (SB.and (SB.eq (SI.v 0) (SI.c (Int.ofNat 0)))
              (SB.and (SB.eq (SI.v 1) (SI.c (Int.ofNat 0)))
                (SB.and (SB.eq (SI.v 2) (SI.c (Int.ofNat 0)))
                  (SB.and (SB.not (SB.v 0)) (SB.eq (SI.v 5) (SI.c (Int.ofNat 0)))))))] },
    {
      pc :=
        [SB.not (SB.eq (SI.v 0) (SI.c (Int.ofNat 0))),
          SB.and (SB.c true)
            (SB.or
              (SB.and (SB.eq (SI.v 0) (SI.c (Int.ofNat 0)))
                (SB.and (SB.eq (SI.v 1) (SI.c (Int.ofNat 0)))
                  (SB.and (SB.eq (SI.v 2) (SI.c (Int.ofNat 0)))
                    (SB.and (SB.not (SB.v 0)) (SB.eq (SI.v 5) (SI.c (Int.ofNat 0)))))))
              (SB.or (SB.not (SB.eq (SI.v 0) (SI.c (Int.ofNat 0))))
                (SB.or (SB.not (SB.eq (SI.v 1) (SI.c (Int.ofNat 0))))
                  (SB.or (SB.not (SB.eq (SI.v 2) (SI.c (Int.ofNat 0))))
                    (SB.or (SB.v 0) (SB.not (SB.eq (SI.v 5) (SI.c (Int.ofNat 0)))))))))],
      eqs :=
        [Eqn.B (SB.c false)
            (SB.and (SB.eq (SI.v 0) (SI.c (Int.ofNat 0)))
              (SB.and (SB.eq (SI.v 1) (SI.c (Int.ofNat 0)))
                (SB.and (SB.eq (SI.v 2) (SI.c (Int.ofNat 0)))
                  (SB.and (SB.not (SB.v 0)) (SB.eq (SI.v 5) (SI.c (Int.ofNat 0)))))))] }] := by kernel_rfl
theorem cFree0_ok : cFree0.ok Φ Try.prog := by
  refine call_rule (fun ρ => noTbl_ok) cFree0_obs ?_
  simp only [and_imp, List.forall_mem_cons, List.not_mem_nil, false_implies, implies_true, and_true, Ob.ok, holds, Eqn.ok, evB_eq, evB_lt, evB_le, evB_not, evB_and, evB_or, evB_eqL, evB_app, evB_v, evB_c, ev_sel, ev_len, ev_v, ev_c, ev_add, ev_sub, ev_mul, ev_quo, ev_rem, ev_bits, ev_wrap, evL_v, evL_lit, evL_app, ev_app, evA_l, evA_i, evA_nil, std_min, std_max, std_cat, std_take, std_drop, std_row, std_set, std_rep, std_find, std_put, std_del, std_flag, std_unflag, std_clr, std_left, std_copy, ints_cons, ints_nil, ofNat_lit, negSucc_lit, decide_eq_true_eq, Bool.and_eq_true, Bool.or_eq_true, Bool.not_eq_true', Bool.and_eq_false_iff, Bool.or_eq_false_iff, decide_eq_false_iff_not, aI110, aI111, aI112, aI113, aI114, aL100, aL101, aL102, aL103, aL110, aL112, aL113, aL114, aL115, aL116, aB130, aB131, aB132, aB199, aI142, aL140, aL141, aL143, aL144, aB140]
  repeat' apply And.intro
  all_goals intro ρ hR
  all_goals intros
  all_goals first
    | (simp_all)
    | (exfalso
       grind)
    | (grind)
theorem cFree_ok : cFree.ok Φ Try.prog := by
  intro ρ μ B w xs hx hM hp
  refine cFree0_ok ρ μ B w xs hx hM ?_
  intro x hx
  rw [List.mem_singleton.1 hx]
  simp only [zy, zn, x0, x1, x2, g5, evB_and, evB_or, evB_not, evB_eq, evB_c, evB_v, ev_v, ev_c]
  grind
theorem q_ok (ρ : Env) : TblOK Φ ρ Try.prog q := addFn_ok (t6_ok ρ) cFree_ok
theorem re0_ok : re0.ok Φ Try.prog := by
  intro ρ μ B w xs hx hM hp
  exfalso
  have h := hp (.lt (un S1) (.c 0)) (by simp [re0, reC, reP])
  simp only [un, S1, evB_lt, ev_app, evA_l, evL_v, evA_nil, ev_c, aI142, decide_eq_true_eq] at h
  have := unseen_pos (ρ.l 1)
  omega
theorem q0_ok (ρ : Env) : TblOK Φ ρ Try.prog q0 := addFn_ok (q_ok ρ) re0_ok
set_option maxRecDepth 100000 in
theorem rl1_ok : rl1.ok Φ Try.prog :=
  ⟨by kernel_rfl, loop_rule (obs := rlObs 0) (meas := kR) (fuel := 1000) (fun ρ => q0_ok ρ) (loopAt_sub (by kernel_rfl)) (by kernel_rfl) (rlObs_ok 0)⟩
theorem y1_ok (ρ : Env) : TblOK Φ ρ Try.prog y1 := addLp_ok (q0_ok ρ) rl1_ok
set_option maxRecDepth 100000 in
theorem re1_ok : re1.ok Φ Try.prog := call_rule (obs := reObs 0 1) (fuel := 1000) (fun ρ => y1_ok ρ) (by kernel_rfl) (reObs_ok 0 1 (by decide) rfl)
theorem q1_ok (ρ : Env) : TblOK Φ ρ Try.prog q1 := addFn_ok (q_ok ρ) re1_ok
set_option maxRecDepth 100000 in
theorem rl2_ok : rl2.ok Φ Try.prog :=
  ⟨by kernel_rfl, loop_rule (obs := rlObs 1) (meas := kR) (fuel := 1000) (fun ρ => q1_ok ρ) (loopAt_sub (by kernel_rfl)) (by kernel_rfl) (rlObs_ok 1)⟩
theorem y2_ok (ρ : Env) : TblOK Φ ρ Try.prog y2 := addLp_ok (q1_ok ρ) rl2_ok
set_option maxRecDepth 100000 in
theorem re2_ok : re2.ok Φ Try.prog := call_rule (obs := reObs 1 2) (fuel := 1000) (fun ρ => y2_ok ρ) (by kernel_rfl) (reObs_ok 1 2 (by decide) rfl)
theorem q2_ok (ρ : Env) : TblOK Φ ρ Try.prog q2 := addFn_ok (q_ok ρ) re2_ok
set_option maxRecDepth 100000 in
theorem rl3_ok : rl3.ok Φ Try.prog :=
  ⟨by kernel_rfl, loop_rule (obs := rlObs 2) (meas := kR) (fuel := 1000) (fun ρ => q2_ok ρ) (loopAt_sub (by kernel_rfl)) (by kernel_rfl) (rlObs_ok 2)⟩
theorem y3_ok (ρ : Env) : TblOK Φ ρ Try.prog y3 := addLp_ok (q2_ok ρ) rl3_ok
set_option maxRecDepth 100000 in
theorem re3_ok : re3.ok Φ Try.prog := call_rule (obs := reObs 2 3) (fuel := 1000) (fun ρ => y3_ok ρ) (by kernel_rfl) (reObs_ok 2 3 (by decide) rfl)
theorem q3_ok (ρ : Env) : TblOK Φ ρ Try.prog q3 := addFn_ok (q_ok ρ) re3_ok
set_option maxRecDepth 100000 in
theorem rl4_ok : rl4.ok Φ Try.prog :=
  ⟨by kernel_rfl, loop_rule (obs := rlObs 3) (meas := kR) (fuel := 1000) (fun ρ => q3_ok ρ) (loopAt_sub (by kernel_rfl)) (by kernel_rfl) (rlObs_ok 3)⟩
theorem y4_ok (ρ : Env) : TblOK Φ ρ Try.prog y4 := addLp_ok (q3_ok ρ) rl4_ok
set_option maxRecDepth 100000 in
theorem re4_ok : re4.ok Φ Try.prog := call_rule (obs := reObs 3 4) (fuel := 1000) (fun ρ => y4_ok ρ) (by kernel_rfl) (reObs_ok 3 4 (by decide) rfl)
theorem q4_ok (ρ : Env) : TblOK Φ ρ Try.prog q4 := addFn_ok (q_ok ρ) re4_ok
set_option maxRecDepth 100000 in
theorem rl5_ok : rl5.ok Φ Try.prog :=
  ⟨by kernel_rfl, loop_rule (obs := rlObs 4) (meas := kR) (fuel := 1000) (fun ρ => q4_ok ρ) (loopAt_sub (by kernel_rfl)) (by kernel_rfl) (rlObs_ok 4)⟩
theorem y5_ok (ρ : Env) : TblOK Φ ρ Try.prog y5 := addLp_ok (q4_ok ρ) rl5_ok
set_option maxRecDepth 100000 in
theorem re5_ok : re5.ok Φ Try.prog := call_rule (obs := reObs 4 5) (fuel := 1000) (fun ρ => y5_ok ρ) (by kernel_rfl) (reObs_ok 4 5 (by decide) rfl)
theorem q5_ok (ρ : Env) : TblOK Φ ρ Try.prog q5 := addFn_ok (q_ok ρ) re5_ok
set_option maxRecDepth 100000 in
theorem rl6_ok : rl6.ok Φ Try.prog :=
  ⟨by kernel_rfl, loop_rule (obs := rlObs 5) (meas := kR) (fuel := 1000) (fun ρ => q5_ok ρ) (loopAt_sub (by kernel_rfl)) (by kernel_rfl) (rlObs_ok 5)⟩
theorem y6_ok (ρ : Env) : TblOK Φ ρ Try.prog y6 := addLp_ok (q5_ok ρ) rl6_ok
set_option maxRecDepth 100000 in
theorem re6_ok : re6.ok Φ Try.prog := call_rule (obs := reObs 5 6) (fuel := 1000) (fun ρ => y6_ok ρ) (by kernel_rfl) (reObs_ok 5 6 (by decide) rfl)
theorem q6_ok (ρ : Env) : TblOK Φ ρ Try.prog q6 := addFn_ok (q_ok ρ) re6_ok
set_option maxRecDepth 100000 in
theorem rl7_ok : rl7.ok Φ Try.prog :=
  ⟨by kernel_rfl, loop_rule (obs := rlObs 6) (meas := kR) (fuel := 1000) (fun ρ => q6_ok ρ) (loopAt_sub (by kernel_rfl)) (by kernel_rfl) (rlObs_ok 6)⟩
theorem y7_ok (ρ : Env) : TblOK Φ ρ Try.prog y7 := addLp_ok (q6_ok ρ) rl7_ok
set_option maxRecDepth 100000 in
theorem re7_ok : re7.ok Φ Try.prog := call_rule (obs := reObs 6 7) (fuel := 1000) (fun ρ => y7_ok ρ) (by kernel_rfl) (reObs_ok 6 7 (by decide) rfl)
theorem q7_ok (ρ : Env) : TblOK Φ ρ Try.prog q7 := addFn_ok (q_ok ρ) re7_ok
set_option maxRecDepth 100000 in
theorem rl8_ok : rl8.ok Φ Try.prog :=
  ⟨by kernel_rfl, loop_rule (obs := rlObs 7) (meas := kR) (fuel := 1000) (fun ρ => q7_ok ρ) (loopAt_sub (by kernel_rfl)) (by kernel_rfl) (rlObs_ok 7)⟩
theorem y8_ok (ρ : Env) : TblOK Φ ρ Try.prog y8 := addLp_ok (q7_ok ρ) rl8_ok
set_option maxRecDepth 100000 in
theorem re8_ok : re8.ok Φ Try.prog := call_rule (obs := reObs 7 8) (fuel := 1000) (fun ρ => y8_ok ρ) (by kernel_rfl) (reObs_ok 7 8 (by decide) rfl)
theorem q8_ok (ρ : Env) : TblOK Φ ρ Try.prog q8 := addFn_ok (q_ok ρ) re8_ok
set_option maxRecDepth 100000 in
theorem rl9_ok : rl9.ok Φ Try.prog :=
  ⟨by kernel_rfl, loop_rule (obs := rlObs 8) (meas := kR) (fuel := 1000) (fun ρ => q8_ok ρ) (loopAt_sub (by kernel_rfl)) (by kernel_rfl) (rlObs_ok 8)⟩
theorem y9_ok (ρ : Env) : TblOK Φ ρ Try.prog y9 := addLp_ok (q8_ok ρ) rl9_ok
set_option maxRecDepth 100000 in
theorem re9_ok : re9.ok Φ Try.prog := call_rule (obs := reObs 8 9) (fuel := 1000) (fun ρ => y9_ok ρ) (by kernel_rfl) (reObs_ok 8 9 (by decide) rfl)
theorem q9_ok (ρ : Env) : TblOK Φ ρ Try.prog q9 := addFn_ok (q_ok ρ) re9_ok
set_option maxRecDepth 100000 in
theorem rl10_ok : rl10.ok Φ Try.prog :=
  ⟨by kernel_rfl, loop_rule (obs := rlObs 9) (meas := kR) (fuel := 1000) (fun ρ => q9_ok ρ) (loopAt_sub (by kernel_rfl)) (by kernel_rfl) (rlObs_ok 9)⟩
theorem y10_ok (ρ : Env) : TblOK Φ ρ Try.prog y10 := addLp_ok (q9_ok ρ) rl10_ok
set_option maxRecDepth 100000 in
theorem re10_ok : re10.ok Φ Try.prog := call_rule (obs := reObs 9 10) (fuel := 1000) (fun ρ => y10_ok ρ) (by kernel_rfl) (reObs_ok 9 10 (by decide) rfl)
theorem q10_ok (ρ : Env) : TblOK Φ ρ Try.prog q10 := addFn_ok (q_ok ρ) re10_ok
set_option maxRecDepth 100000 in
theorem rl11_ok : rl11.ok Φ Try.prog :=
  ⟨by kernel_rfl, loop_rule (obs := rlObs 10) (meas := kR) (fuel := 1000) (fun ρ => q10_ok ρ) (loopAt_sub (by kernel_rfl)) (by kernel_rfl) (rlObs_ok 10)⟩
theorem y11_ok (ρ : Env) : TblOK Φ ρ Try.prog y11 := addLp_ok (q10_ok ρ) rl11_ok
set_option maxRecDepth 100000 in
theorem re11_ok : re11.ok Φ Try.prog := call_rule (obs := reObs 10 11) (fuel := 1000) (fun ρ => y11_ok ρ) (by kernel_rfl) (reObs_ok 10 11 (by decide) rfl)
theorem q11_ok (ρ : Env) : TblOK Φ ρ Try.prog q11 := addFn_ok (q_ok ρ) re11_ok
set_option maxRecDepth 100000 in
theorem rl12_ok : rl12.ok Φ Try.prog :=
  ⟨by kernel_rfl, loop_rule (obs := rlObs 11) (meas := kR) (fuel := 1000) (fun ρ => q11_ok ρ) (loopAt_sub (by kernel_rfl)) (by kernel_rfl) (rlObs_ok 11)⟩
theorem y12_ok (ρ : Env) : TblOK Φ ρ Try.prog y12 := addLp_ok (q11_ok ρ) rl12_ok
set_option maxRecDepth 100000 in
theorem re12_ok : re12.ok Φ Try.prog := call_rule (obs := reObs 11 12) (fuel := 1000) (fun ρ => y12_ok ρ) (by kernel_rfl) (reObs_ok 11 12 (by decide) rfl)
theorem q12_ok (ρ : Env) : TblOK Φ ρ Try.prog q12 := addFn_ok (q_ok ρ) re12_ok
set_option maxRecDepth 100000 in
theorem rl13_ok : rl13.ok Φ Try.prog :=
  ⟨by kernel_rfl, loop_rule (obs := rlObs 12) (meas := kR) (fuel := 1000) (fun ρ => q12_ok ρ) (loopAt_sub (by kernel_rfl)) (by kernel_rfl) (rlObs_ok 12)⟩
theorem y13_ok (ρ : Env) : TblOK Φ ρ Try.prog y13 := addLp_ok (q12_ok ρ) rl13_ok
set_option maxRecDepth 100000 in
theorem re13_ok : re13.ok Φ Try.prog := call_rule (obs := reObs 12 13) (fuel := 1000) (fun ρ => y13_ok ρ) (by kernel_rfl) (reObs_ok 12 13 (by decide) rfl)
theorem q13_ok (ρ : Env) : TblOK Φ ρ Try.prog q13 := addFn_ok (q_ok ρ) re13_ok
set_option maxRecDepth 100000 in
theorem rl14_ok : rl14.ok Φ Try.prog :=
  ⟨by kernel_rfl, loop_rule (obs := rlObs 13) (meas := kR) (fuel := 1000) (fun ρ => q13_ok ρ) (loopAt_sub (by kernel_rfl)) (by kernel_rfl) (rlObs_ok 13)⟩
theorem y14_ok (ρ : Env) : TblOK Φ ρ Try.prog y14 := addLp_ok (q13_ok ρ) rl14_ok
set_option maxRecDepth 100000 in
theorem re14_ok : re14.ok Φ Try.prog := call_rule (obs := reObs 13 14) (fuel := 1000) (fun ρ => y14_ok ρ) (by kernel_rfl) (reObs_ok 13 14 (by decide) rfl)
theorem q14_ok (ρ : Env) : TblOK Φ ρ Try.prog q14 := addFn_ok (q_ok ρ) re14_ok
set_option maxRecDepth 100000 in
theorem rl15_ok : rl15.ok Φ Try.prog :=
  ⟨by kernel_rfl, loop_rule (obs := rlObs 14) (meas := kR) (fuel := 1000) (fun ρ => q14_ok ρ) (loopAt_sub (by kernel_rfl)) (by kernel_rfl) (rlObs_ok 14)⟩
theorem y15_ok (ρ : Env) : TblOK Φ ρ Try.prog y15 := addLp_ok (q14_ok ρ) rl15_ok
set_option maxRecDepth 100000 in
theorem re15_ok : re15.ok Φ Try.prog := call_rule (obs := reObs 14 15) (fuel := 1000) (fun ρ => y15_ok ρ) (by kernel_rfl) (reObs_ok 14 15 (by decide) rfl)
theorem q15_ok (ρ : Env) : TblOK Φ ρ Try.prog q15 := addFn_ok (q_ok ρ) re15_ok
set_option maxRecDepth 100000 in
theorem rl16_ok : rl16.ok Φ Try.prog :=
  ⟨by kernel_rfl, loop_rule (obs := rlObs 15) (meas := kR) (fuel := 1000) (fun ρ => q15_ok ρ) (loopAt_sub (by kernel_rfl)) (by kernel_rfl) (rlObs_ok 15)⟩
theorem y16_ok (ρ : Env) : TblOK Φ ρ Try.prog y16 := addLp_ok (q15_ok ρ) rl16_ok
set_option maxRecDepth 100000 in
theorem re16_ok : re16.ok Φ Try.prog := call_rule (obs := reObs 15 16) (fuel := 1000) (fun ρ => y16_ok ρ) (by kernel_rfl) (reObs_ok 15 16 (by decide) rfl)
theorem q16_ok (ρ : Env) : TblOK Φ ρ Try.prog q16 := addFn_ok (q_ok ρ) re16_ok
set_option maxRecDepth 100000 in
theorem rl17_ok : rl17.ok Φ Try.prog :=
  ⟨by kernel_rfl, loop_rule (obs := rlObs 16) (meas := kR) (fuel := 1000) (fun ρ => q16_ok ρ) (loopAt_sub (by kernel_rfl)) (by kernel_rfl) (rlObs_ok 16)⟩
theorem y17_ok (ρ : Env) : TblOK Φ ρ Try.prog y17 := addLp_ok (q16_ok ρ) rl17_ok
set_option maxRecDepth 100000 in
theorem re17_ok : re17.ok Φ Try.prog := call_rule (obs := reObs 16 17) (fuel := 1000) (fun ρ => y17_ok ρ) (by kernel_rfl) (reObs_ok 16 17 (by decide) rfl)
theorem q17_ok (ρ : Env) : TblOK Φ ρ Try.prog q17 := addFn_ok (q_ok ρ) re17_ok
set_option maxRecDepth 100000 in
theorem rl18_ok : rl18.ok Φ Try.prog :=
  ⟨by kernel_rfl, loop_rule (obs := rlObs 17) (meas := kR) (fuel := 1000) (fun ρ => q17_ok ρ) (loopAt_sub (by kernel_rfl)) (by kernel_rfl) (rlObs_ok 17)⟩
theorem y18_ok (ρ : Env) : TblOK Φ ρ Try.prog y18 := addLp_ok (q17_ok ρ) rl18_ok
set_option maxRecDepth 100000 in
theorem re18_ok : re18.ok Φ Try.prog := call_rule (obs := reObs 17 18) (fuel := 1000) (fun ρ => y18_ok ρ) (by kernel_rfl) (reObs_ok 17 18 (by decide) rfl)
theorem q18_ok (ρ : Env) : TblOK Φ ρ Try.prog q18 := addFn_ok (q_ok ρ) re18_ok
end Go.SF.C19
