/- Proofs of the loops over the map. -/
import Derived.Test.YtfcakaakdeakpaaQ1
import Derived.Test.YtfcakaakdeakpaaI
import Derived.KernelRfl
namespace Go.SF.C10
open Go Go.SF Go.Proofs
set_option linter.unusedVariables false
set_option linter.unusedSimpArgs false

set_option maxRecDepth 100000 in
theorem out0_obs : loopObs Φ Try.prog t1 1000 out0.f (loopAt Try.prog out0.f out0.id) out0.n out0.T left out0.outs = some
  [{
      pc :=
        [SB.not (SB.lt (SI.c (Int.ofNat 0)) (SI.len (SL.app 12 (SA.l (SL.v 0) SA.nil)))), SB.c true,
          SB.lt (SI.len (SL.v 0)) (SI.c (Int.ofNat 90000)), SB.eqL (SL.v 1) (SL.app 112 (SA.l (SL.v 0) SA.nil)),
          SB.le (SI.len (SL.v 1)) (SI.len (SL.v 0))],
      eqs :=
        [Eqn.T (SB.le (SI.len (SL.app 110 (SA.l (SL.v 0) SA.nil))) (SI.len (SL.v 0))),
          Eqn.I (SI.len (SL.app 110 (SA.l (SL.v 0) SA.nil))) (SI.len (SL.v 1)),
          Eqn.L (SL.app 114 (SA.l (SL.v 0) SA.nil)) (SL.v 0), Eqn.L (SL.app 110 (SA.l (SL.v 0) SA.nil)) (SL.v 1)] },
    {
      pc :=
        [SB.eq
            (SI.len
              (SL.app 100
                (SA.l (SL.app 0 (SA.l (SL.v 1) (SA.l (SL.app 3 (SA.i (SI.v 1000) SA.nil)) SA.nil)))
                  (SA.i (SI.len (SL.v 1)) (SA.i (SI.v 1000) SA.nil)))))
            (SI.add (SI.len (SL.v 1)) (SI.c (Int.ofNat 1))),
          SB.le
            (SI.app 100
              (SA.l (SL.app 0 (SA.l (SL.v 1) (SA.l (SL.app 3 (SA.i (SI.v 1000) SA.nil)) SA.nil)))
                (SA.i (SI.len (SL.v 1)) (SA.i (SI.v 1000) SA.nil))))
            (SI.len (SL.v 1)),
          SB.le (SI.c (Int.ofNat 0))
            (SI.app 100
              (SA.l (SL.app 0 (SA.l (SL.v 1) (SA.l (SL.app 3 (SA.i (SI.v 1000) SA.nil)) SA.nil)))
                (SA.i (SI.len (SL.v 1)) (SA.i (SI.v 1000) SA.nil)))),
          SB.eq (SI.sel (SL.app 6 (SA.l (SL.v 0) (SA.i (SI.v 1000) SA.nil))) (SI.c (Int.ofNat 0)) 2)
            (SI.c (Int.ofNat 1)),
          SB.eq (SI.len (SL.app 6 (SA.l (SL.v 0) (SA.i (SI.v 1000) SA.nil)))) (SI.c (Int.ofNat 1)),
          SB.eq
            (SI.len (SL.app 6 (SA.l (SL.app 11 (SA.l (SL.v 0) (SA.i (SI.v 1000) SA.nil))) (SA.i (SI.v 1000) SA.nil))))
            (SI.c (Int.ofNat 1)),
          SB.lt (SI.c (Int.ofNat 0)) (SI.len (SL.app 12 (SA.l (SL.v 0) SA.nil))), SB.c true,
          SB.lt (SI.len (SL.v 0)) (SI.c (Int.ofNat 90000)), SB.eqL (SL.v 1) (SL.app 112 (SA.l (SL.v 0) SA.nil)),
          SB.le (SI.len (SL.v 1)) (SI.len (SL.v 0))],
      eqs :=
        [Eqn.T
            (SB.lt
              (SI.add (SI.len (SL.app 12 (SA.l (SL.app 11 (SA.l (SL.v 0) (SA.i (SI.v 1000) SA.nil))) SA.nil)))
                (SI.c (Int.ofNat 1)))
              (SI.add (SI.len (SL.app 12 (SA.l (SL.v 0) SA.nil))) (SI.c (Int.ofNat 1)))),
          Eqn.T (SB.lt (SI.len (SL.app 11 (SA.l (SL.v 0) (SA.i (SI.v 1000) SA.nil)))) (SI.c (Int.ofNat 90000))),
          Eqn.T
            (SB.eqL
              (SL.app 4
                (SA.l
                  (SL.app 100
                    (SA.l (SL.app 0 (SA.l (SL.v 1) (SA.l (SL.app 3 (SA.i (SI.v 1000) SA.nil)) SA.nil)))
                      (SA.i (SI.len (SL.v 1)) (SA.i (SI.v 1000) SA.nil))))
                  (SA.i
                    (SI.app 100
                      (SA.l (SL.app 0 (SA.l (SL.v 1) (SA.l (SL.app 3 (SA.i (SI.v 1000) SA.nil)) SA.nil)))
                        (SA.i (SI.len (SL.v 1)) (SA.i (SI.v 1000) SA.nil))))
                    (SA.i (SI.c (Int.ofNat 0)) (SA.i (SI.v 1000) SA.nil)))))
              (SL.app 112 (SA.l (SL.app 11 (SA.l (SL.v 0) (SA.i (SI.v 1000) SA.nil))) SA.nil))),
          Eqn.T
            (SB.le
              (SI.len
                (SL.app 100
                  (SA.l (SL.app 0 (SA.l (SL.v 1) (SA.l (SL.app 3 (SA.i (SI.v 1000) SA.nil)) SA.nil)))
                    (SA.i (SI.len (SL.v 1)) (SA.i (SI.v 1000) SA.nil)))))
              (SI.len (SL.app 11 (SA.l (SL.v 0) (SA.i (SI.v 1000) SA.nil)))))] },
    {
      pc :=
        [SB.le (SI.len (SL.app 110 (SA.l (SL.app 11 (SA.l (SL.v 0) (SA.i (SI.v 1000) SA.nil))) SA.nil)))
            (SI.len (SL.app 11 (SA.l (SL.v 0) (SA.i (SI.v 1000) SA.nil)))),
          SB.eq
            (SI.len
              (SL.app 100
                (SA.l (SL.app 0 (SA.l (SL.v 1) (SA.l (SL.app 3 (SA.i (SI.v 1000) SA.nil)) SA.nil)))
                  (SA.i (SI.len (SL.v 1)) (SA.i (SI.v 1000) SA.nil)))))
            (SI.add (SI.len (SL.v 1)) (SI.c (Int.ofNat 1))),
          SB.le
            (SI.app 100
              (SA.l (SL.app 0 (SA.l (SL.v 1) (SA.l (SL.app 3 (SA.i (SI.v 1000) SA.nil)) SA.nil)))
                (SA.i (SI.len (SL.v 1)) (SA.i (SI.v 1000) SA.nil))))
            (SI.len (SL.v 1)),
          SB.le (SI.c (Int.ofNat 0))
            (SI.app 100
              (SA.l (SL.app 0 (SA.l (SL.v 1) (SA.l (SL.app 3 (SA.i (SI.v 1000) SA.nil)) SA.nil)))
                (SA.i (SI.len (SL.v 1)) (SA.i (SI.v 1000) SA.nil)))),
          SB.eq (SI.sel (SL.app 6 (SA.l (SL.v 0) (SA.i (SI.v 1000) SA.nil))) (SI.c (Int.ofNat 0)) 2)
            (SI.c (Int.ofNat 1)),
          SB.eq (SI.len (SL.app 6 (SA.l (SL.v 0) (SA.i (SI.v 1000) SA.nil)))) (SI.c (Int.ofNat 1)),
          SB.eq
            (SI.len (SL.app 6 (SA.l (SL.app 11 (SA.l (SL.v 0) (SA.i (SI.v 1000) SA.nil))) (SA.i (SI.v 1000) SA.nil))))
            (SI.c (Int.ofNat 1)),
          SB.lt (SI.c (Int.ofNat 0)) (SI.len (SL.app 12 (SA.l (SL.v 0) SA.nil))), SB.c true,
          SB.lt (SI.len (SL.v 0)) (SI.c (Int.ofNat 90000)), SB.eqL (SL.v 1) (SL.app 112 (SA.l (SL.v 0) SA.nil)),
          SB.le (SI.len (SL.v 1)) (SI.len (SL.v 0))],
      eqs :=
        [Eqn.T (SB.le (SI.len (SL.app 110 (SA.l (SL.v 0) SA.nil))) (SI.len (SL.v 0))),
          Eqn.I (SI.len (SL.app 110 (SA.l (SL.v 0) SA.nil)))
            (SI.len (SL.app 110 (SA.l (SL.app 11 (SA.l (SL.v 0) (SA.i (SI.v 1000) SA.nil))) SA.nil))),
          Eqn.L (SL.app 114 (SA.l (SL.v 0) SA.nil))
            (SL.app 114 (SA.l (SL.app 11 (SA.l (SL.v 0) (SA.i (SI.v 1000) SA.nil))) SA.nil)),
          Eqn.L (SL.app 110 (SA.l (SL.v 0) SA.nil))
            (SL.app 110 (SA.l (SL.app 11 (SA.l (SL.v 0) (SA.i (SI.v 1000) SA.nil))) SA.nil))] }] := by kernel_rfl
theorem out0_ok : out0.ok Φ Try.prog := by
  refine ⟨by kernel_rfl, loop_rule (fun ρ => t1_ok ρ) (loopAt_sub (by kernel_rfl)) out0_obs ?_⟩
  simp only [and_imp, List.forall_mem_cons, List.not_mem_nil, false_implies, implies_true, and_true, Ob.ok, holds, Eqn.ok, evB_eq, evB_lt, evB_le, evB_not, evB_and, evB_or, evB_eqL, evB_app, evB_v, evB_c, ev_sel, ev_len, ev_v, ev_c, ev_add, ev_sub, ev_mul, ev_quo, ev_rem, ev_bits, ev_wrap, evL_v, evL_lit, evL_app, ev_app, evA_l, evA_i, evA_nil, std_min, std_max, std_cat, std_take, std_drop, std_row, std_set, std_rep, std_find, std_put, std_del, std_flag, std_unflag, std_clr, std_left, std_copy, ints_cons, ints_nil, ofNat_lit, negSucc_lit, decide_eq_true_eq, Bool.and_eq_true, Bool.or_eq_true, Bool.not_eq_true', Bool.and_eq_false_iff, Bool.or_eq_false_iff, decide_eq_false_iff_not, aI100, aL100, aL110, aL111, aL112, aL113, aL114, aL120, aL121, aL131, aB130, aB199, aI140, aI141, aI142, aI143, aL115, aL140, aL141, aL142, aB150, aB151, aB152, aB153, aB154, aB155]
  repeat' apply And.intro
  all_goals intro ρ hR
  all_goals intros
  all_goals first
    | (have hk : (ρ.l 0).Pairwise (fun a b => hdK a < hdK b) := hR.keys 1 rfl rfl
       have hr : ∀ r ∈ ρ.l 0, okRow K3 r := hR.row 1 rfl rfl
       have e := out_end (p := allP) hr (by with_reducible assumption) (by with_reducible assumption)
       have hn := keyT_len allP (ρ.l 0)
       exact ⟨by omega, by rw [e.2], e.1, e.2⟩)
    | (have hk : (ρ.l 0).Pairwise (fun a b => hdK a < hdK b) := hR.keys 1 rfl rfl
       have hr : ∀ r ∈ ρ.l 0, okRow K3 r := hR.row 1 rfl rfl
       have e := out_rem hk hr (x := ρ.i 1000) (by with_reducible assumption) (by with_reducible assumption)
       have m := out_more (p := allP) hk hr (x := ρ.i 1000) (by with_reducible assumption) (by with_reducible assumption) (fun _ _ => rfl) (by with_reducible assumption)
       have hl := clrT_len (ρ.l 0) (ρ.i 1000)
       have l1 := len_of m
       have l2 := seenT_len allP (clrT (ρ.l 0) (ρ.i 1000))
       exact ⟨by omega, by omega, m, Int.ofNat_le.2 (l1 ▸ l2)⟩)
    | (have hk : (ρ.l 0).Pairwise (fun a b => hdK a < hdK b) := hR.keys 1 rfl rfl
       have hr : ∀ r ∈ ρ.l 0, okRow K3 r := hR.row 1 rfl rfl
       have e := out_key (p := allP) (x := ρ.i 1000) hr (fun _ _ _ _ => rfl)
       have hn := keyT_len allP (ρ.l 0)
       exact ⟨by omega, by rw [e], (clrAll_clr _).symm, e.symm⟩)
set_option maxRecDepth 100000 in
theorem out1_obs : loopObs Φ Try.prog t1 1000 out1.f (loopAt Try.prog out1.f out1.id) out1.n out1.T left out1.outs = some
  [{
      pc :=
        [SB.not (SB.lt (SI.c (Int.ofNat 0)) (SI.len (SL.app 12 (SA.l (SL.v 0) SA.nil)))), SB.c true,
          SB.lt (SI.len (SL.v 0)) (SI.c (Int.ofNat 90000)),
          SB.eqL (SL.v 1) (SL.app 113 (SA.l (SL.v 0) (SA.i (SI.v 9) SA.nil))),
          SB.le (SI.len (SL.v 1)) (SI.len (SL.v 0))],
      eqs :=
        [Eqn.T (SB.le (SI.len (SL.app 111 (SA.l (SL.v 0) (SA.i (SI.v 9) SA.nil)))) (SI.len (SL.v 0))),
          Eqn.I (SI.len (SL.app 111 (SA.l (SL.v 0) (SA.i (SI.v 9) SA.nil)))) (SI.len (SL.v 1)),
          Eqn.L (SL.app 114 (SA.l (SL.v 0) SA.nil)) (SL.v 0),
          Eqn.L (SL.app 111 (SA.l (SL.v 0) (SA.i (SI.v 9) SA.nil))) (SL.v 1)] },
    {
      pc :=
        [SB.eq
            (SI.len
              (SL.app 100
                (SA.l (SL.app 0 (SA.l (SL.v 1) (SA.l (SL.app 3 (SA.i (SI.v 1000) SA.nil)) SA.nil)))
                  (SA.i (SI.len (SL.v 1)) (SA.i (SI.v 1000) SA.nil)))))
            (SI.add (SI.len (SL.v 1)) (SI.c (Int.ofNat 1))),
          SB.le
            (SI.app 100
              (SA.l (SL.app 0 (SA.l (SL.v 1) (SA.l (SL.app 3 (SA.i (SI.v 1000) SA.nil)) SA.nil)))
                (SA.i (SI.len (SL.v 1)) (SA.i (SI.v 1000) SA.nil))))
            (SI.len (SL.v 1)),
          SB.le (SI.c (Int.ofNat 0))
            (SI.app 100
              (SA.l (SL.app 0 (SA.l (SL.v 1) (SA.l (SL.app 3 (SA.i (SI.v 1000) SA.nil)) SA.nil)))
                (SA.i (SI.len (SL.v 1)) (SA.i (SI.v 1000) SA.nil)))),
          SB.le
            (SI.wrap IntKind.i64
              (SI.add
                (SI.sel
                  (SL.app 6 (SA.l (SL.app 11 (SA.l (SL.v 0) (SA.i (SI.v 1000) SA.nil))) (SA.i (SI.v 1000) SA.nil)))
                  (SI.c (Int.ofNat 0)) 1)
                (SI.c (Int.ofNat 2))))
            (SI.v 9),
          SB.eq (SI.sel (SL.app 6 (SA.l (SL.v 0) (SA.i (SI.v 1000) SA.nil))) (SI.c (Int.ofNat 0)) 2)
            (SI.c (Int.ofNat 1)),
          SB.eq (SI.len (SL.app 6 (SA.l (SL.v 0) (SA.i (SI.v 1000) SA.nil)))) (SI.c (Int.ofNat 1)),
          SB.eq
            (SI.len (SL.app 6 (SA.l (SL.app 11 (SA.l (SL.v 0) (SA.i (SI.v 1000) SA.nil))) (SA.i (SI.v 1000) SA.nil))))
            (SI.c (Int.ofNat 1)),
          SB.lt (SI.c (Int.ofNat 0)) (SI.len (SL.app 12 (SA.l (SL.v 0) SA.nil))), SB.c true,
          SB.lt (SI.len (SL.v 0)) (SI.c (Int.ofNat 90000)),
          SB.eqL (SL.v 1) (SL.app 113 (SA.l (SL.v 0) (SA.i (SI.v 9) SA.nil))),
          SB.le (SI.len (SL.v 1)) (SI.len (SL.v 0))],
      eqs :=
        [Eqn.T
            (SB.lt
              (SI.add (SI.len (SL.app 12 (SA.l (SL.app 11 (SA.l (SL.v 0) (SA.i (SI.v 1000) SA.nil))) SA.nil)))
                (SI.c (Int.ofNat 1)))
              (SI.add (SI.len (SL.app 12 (SA.l (SL.v 0) SA.nil))) (SI.c (Int.ofNat 1)))),
          Eqn.T (SB.lt (SI.len (SL.app 11 (SA.l (SL.v 0) (SA.i (SI.v 1000) SA.nil)))) (SI.c (Int.ofNat 90000))),
          Eqn.T
            (SB.eqL
              (SL.app 4
                (SA.l
                  (SL.app 100
                    (SA.l (SL.app 0 (SA.l (SL.v 1) (SA.l (SL.app 3 (SA.i (SI.v 1000) SA.nil)) SA.nil)))
                      (SA.i (SI.len (SL.v 1)) (SA.i (SI.v 1000) SA.nil))))
                  (SA.i
                    (SI.app 100
                      (SA.l (SL.app 0 (SA.l (SL.v 1) (SA.l (SL.app 3 (SA.i (SI.v 1000) SA.nil)) SA.nil)))
                        (SA.i (SI.len (SL.v 1)) (SA.i (SI.v 1000) SA.nil))))
                    (SA.i (SI.c (Int.ofNat 0)) (SA.i (SI.v 1000) SA.nil)))))
              (SL.app 113 (SA.l (SL.app 11 (SA.l (SL.v 0) (SA.i (SI.v 1000) SA.nil))) (SA.i (SI.v 9) SA.nil)))),
          Eqn.T
            (SB.le
              (SI.len
                (SL.app 100
                  (SA.l (SL.app 0 (SA.l (SL.v 1) (SA.l (SL.app 3 (SA.i (SI.v 1000) SA.nil)) SA.nil)))
                    (SA.i (SI.len (SL.v 1)) (SA.i (SI.v 1000) SA.nil)))))
              (SI.len (SL.app 11 (SA.l (SL.v 0) (SA.i (SI.v 1000) SA.nil)))))] },
    {
      pc :=
        [SB.le (SI.len (SL.app 111 (SA.l (SL.app 11 (SA.l (SL.v 0) (SA.i (SI.v 1000) SA.nil))) (SA.i (SI.v 9) SA.nil))))
            (SI.len (SL.app 11 (SA.l (SL.v 0) (SA.i (SI.v 1000) SA.nil)))),
          SB.eq
            (SI.len
              (SL.app 100
                (SA.l (SL.app 0 (SA.l (SL.v 1) (SA.l (SL.app 3 (SA.i (SI.v 1000) SA.nil)) SA.nil)))
                  (SA.i (SI.len (SL.v 1)) (SA.i (SI.v 1000) SA.nil)))))
            (SI.add (SI.len (SL.v 1)) (SI.c (Int.ofNat 1))),
          SB.le
            (SI.app 100
              (SA.l (SL.app 0 (SA.l (SL.v 1) (SA.l (SL.app 3 (SA.i (SI.v 1000) SA.nil)) SA.nil)))
                (SA.i (SI.len (SL.v 1)) (SA.i (SI.v 1000) SA.nil))))
            (SI.len (SL.v 1)),
          SB.le (SI.c (Int.ofNat 0))
            (SI.app 100
              (SA.l (SL.app 0 (SA.l (SL.v 1) (SA.l (SL.app 3 (SA.i (SI.v 1000) SA.nil)) SA.nil)))
                (SA.i (SI.len (SL.v 1)) (SA.i (SI.v 1000) SA.nil)))),
          SB.le
            (SI.wrap IntKind.i64
              (SI.add
                (SI.sel
                  (SL.app 6 (SA.l (SL.app 11 (SA.l (SL.v 0) (SA.i (SI.v 1000) SA.nil))) (SA.i (SI.v 1000) SA.nil)))
                  (SI.c (Int.ofNat 0)) 1)
                (SI.c (Int.ofNat 2))))
            (SI.v 9),
          SB.eq (SI.sel (SL.app 6 (SA.l (SL.v 0) (SA.i (SI.v 1000) SA.nil))) (SI.c (Int.ofNat 0)) 2)
            (SI.c (Int.ofNat 1)),
          SB.eq (SI.len (SL.app 6 (SA.l (SL.v 0) (SA.i (SI.v 1000) SA.nil)))) (SI.c (Int.ofNat 1)),
          SB.eq
            (SI.len (SL.app 6 (SA.l (SL.app 11 (SA.l (SL.v 0) (SA.i (SI.v 1000) SA.nil))) (SA.i (SI.v 1000) SA.nil))))
            (SI.c (Int.ofNat 1)),
          SB.lt (SI.c (Int.ofNat 0)) (SI.len (SL.app 12 (SA.l (SL.v 0) SA.nil))), SB.c true,
          SB.lt (SI.len (SL.v 0)) (SI.c (Int.ofNat 90000)),
          SB.eqL (SL.v 1) (SL.app 113 (SA.l (SL.v 0) (SA.i (SI.v 9) SA.nil))),
          SB.le (SI.len (SL.v 1)) (SI.len (SL.v 0))],
      eqs :=
        [Eqn.T (SB.le (SI.len (SL.app 111 (SA.l (SL.v 0) (SA.i (SI.v 9) SA.nil)))) (SI.len (SL.v 0))),
          Eqn.I (SI.len (SL.app 111 (SA.l (SL.v 0) (SA.i (SI.v 9) SA.nil))))
            (SI.len (SL.app 111 (SA.l (SL.app 11 (SA.l (SL.v 0) (SA.i (SI.v 1000) SA.nil))) (SA.i (SI.v 9) SA.nil)))),
          Eqn.L (SL.app 114 (SA.l (SL.v 0) SA.nil))
            (SL.app 114 (SA.l (SL.app 11 (SA.l (SL.v 0) (SA.i (SI.v 1000) SA.nil))) SA.nil)),
          Eqn.L (SL.app 111 (SA.l (SL.v 0) (SA.i (SI.v 9) SA.nil)))
            (SL.app 111 (SA.l (SL.app 11 (SA.l (SL.v 0) (SA.i (SI.v 1000) SA.nil))) (SA.i (SI.v 9) SA.nil)))] },
    {
      pc :=
        [SB.not
            (SB.le
              (SI.wrap IntKind.i64
                (SI.add
                  (SI.sel
                    (SL.app 6 (SA.l (SL.app 11 (SA.l (SL.v 0) (SA.i (SI.v 1000) SA.nil))) (SA.i (SI.v 1000) SA.nil)))
                    (SI.c (Int.ofNat 0)) 1)
                  (SI.c (Int.ofNat 2))))
              (SI.v 9)),
          SB.eq (SI.sel (SL.app 6 (SA.l (SL.v 0) (SA.i (SI.v 1000) SA.nil))) (SI.c (Int.ofNat 0)) 2)
            (SI.c (Int.ofNat 1)),
          SB.eq (SI.len (SL.app 6 (SA.l (SL.v 0) (SA.i (SI.v 1000) SA.nil)))) (SI.c (Int.ofNat 1)),
          SB.eq
            (SI.len (SL.app 6 (SA.l (SL.app 11 (SA.l (SL.v 0) (SA.i (SI.v 1000) SA.nil))) (SA.i (SI.v 1000) SA.nil))))
            (SI.c (Int.ofNat 1)),
          SB.lt (SI.c (Int.ofNat 0)) (SI.len (SL.app 12 (SA.l (SL.v 0) SA.nil))), SB.c true,
          SB.lt (SI.len (SL.v 0)) (SI.c (Int.ofNat 90000)),
          SB.eqL (SL.v 1) (SL.app 113 (SA.l (SL.v 0) (SA.i (SI.v 9) SA.nil))),
          SB.le (SI.len (SL.v 1)) (SI.len (SL.v 0))],
      eqs :=
        [Eqn.T
            (SB.lt
              (SI.add (SI.len (SL.app 12 (SA.l (SL.app 11 (SA.l (SL.v 0) (SA.i (SI.v 1000) SA.nil))) SA.nil)))
                (SI.c (Int.ofNat 1)))
              (SI.add (SI.len (SL.app 12 (SA.l (SL.v 0) SA.nil))) (SI.c (Int.ofNat 1)))),
          Eqn.T (SB.lt (SI.len (SL.app 11 (SA.l (SL.v 0) (SA.i (SI.v 1000) SA.nil)))) (SI.c (Int.ofNat 90000))),
          Eqn.T
            (SB.eqL (SL.v 1)
              (SL.app 113 (SA.l (SL.app 11 (SA.l (SL.v 0) (SA.i (SI.v 1000) SA.nil))) (SA.i (SI.v 9) SA.nil)))),
          Eqn.T (SB.le (SI.len (SL.v 1)) (SI.len (SL.app 11 (SA.l (SL.v 0) (SA.i (SI.v 1000) SA.nil)))))] },
    {
      pc :=
        [SB.le (SI.len (SL.app 111 (SA.l (SL.app 11 (SA.l (SL.v 0) (SA.i (SI.v 1000) SA.nil))) (SA.i (SI.v 9) SA.nil))))
            (SI.len (SL.app 11 (SA.l (SL.v 0) (SA.i (SI.v 1000) SA.nil)))),
          SB.not
            (SB.le
              (SI.wrap IntKind.i64
                (SI.add
                  (SI.sel
                    (SL.app 6 (SA.l (SL.app 11 (SA.l (SL.v 0) (SA.i (SI.v 1000) SA.nil))) (SA.i (SI.v 1000) SA.nil)))
                    (SI.c (Int.ofNat 0)) 1)
                  (SI.c (Int.ofNat 2))))
              (SI.v 9)),
          SB.eq (SI.sel (SL.app 6 (SA.l (SL.v 0) (SA.i (SI.v 1000) SA.nil))) (SI.c (Int.ofNat 0)) 2)
            (SI.c (Int.ofNat 1)),
          SB.eq (SI.len (SL.app 6 (SA.l (SL.v 0) (SA.i (SI.v 1000) SA.nil)))) (SI.c (Int.ofNat 1)),
          SB.eq
            (SI.len (SL.app 6 (SA.l (SL.app 11 (SA.l (SL.v 0) (SA.i (SI.v 1000) SA.nil))) (SA.i (SI.v 1000) SA.nil))))
            (SI.c (Int.ofNat 1)),
          SB.lt (SI.c (Int.ofNat 0)) (SI.len (SL.app 12 (SA.l (SL.v 0) SA.nil))), SB.c true,
          SB.lt (SI.len (SL.v 0)) (SI.c (Int.ofNat 90000)),
          SB.eqL (SL.v 1) (SL.app 113 (SA.l (SL.v 0) (SA.i (SI.v 9) SA.nil))),
          SB.le (SI.len (SL.v 1)) (SI.len (SL.v 0))],
      eqs :=
        [Eqn.T (SB.le (SI.len (SL.app 111 (SA.l (SL.v 0) (SA.i (SI.v 9) SA.nil)))) (SI.len (SL.v 0))),
          Eqn.I (SI.len (SL.app 111 (SA.l (SL.v 0) (SA.i (SI.v 9) SA.nil))))
            (SI.len (SL.app 111 (SA.l (SL.app 11 (SA.l (SL.v 0) (SA.i (SI.v 1000) SA.nil))) (SA.i (SI.v 9) SA.nil)))),
          Eqn.L (SL.app 114 (SA.l (SL.v 0) SA.nil))
            (SL.app 114 (SA.l (SL.app 11 (SA.l (SL.v 0) (SA.i (SI.v 1000) SA.nil))) SA.nil)),
          Eqn.L (SL.app 111 (SA.l (SL.v 0) (SA.i (SI.v 9) SA.nil)))
            (SL.app 111 (SA.l (SL.app 11 (SA.l (SL.v 0) (SA.i (SI.v 1000) SA.nil))) (SA.i (SI.v 9) SA.nil)))] }] := by kernel_rfl
theorem out1_ok : out1.ok Φ Try.prog := by
  refine ⟨by kernel_rfl, loop_rule (fun ρ => t1_ok ρ) (loopAt_sub (by kernel_rfl)) out1_obs ?_⟩
  simp only [and_imp, List.forall_mem_cons, List.not_mem_nil, false_implies, implies_true, and_true, Ob.ok, holds, Eqn.ok, evB_eq, evB_lt, evB_le, evB_not, evB_and, evB_or, evB_eqL, evB_app, evB_v, evB_c, ev_sel, ev_len, ev_v, ev_c, ev_add, ev_sub, ev_mul, ev_quo, ev_rem, ev_bits, ev_wrap, evL_v, evL_lit, evL_app, ev_app, evA_l, evA_i, evA_nil, std_min, std_max, std_cat, std_take, std_drop, std_row, std_set, std_rep, std_find, std_put, std_del, std_flag, std_unflag, std_clr, std_left, std_copy, ints_cons, ints_nil, ofNat_lit, negSucc_lit, decide_eq_true_eq, Bool.and_eq_true, Bool.or_eq_true, Bool.not_eq_true', Bool.and_eq_false_iff, Bool.or_eq_false_iff, decide_eq_false_iff_not, aI100, aL100, aL110, aL111, aL112, aL113, aL114, aL120, aL121, aL131, aB130, aB199, aI140, aI141, aI142, aI143, aL115, aL140, aL141, aL142, aB150, aB151, aB152, aB153, aB154, aB155]
  repeat' apply And.intro
  all_goals intro ρ hR
  all_goals intros
  all_goals first
    | (have hk : (ρ.l 0).Pairwise (fun a b => hdK a < hdK b) := hR.keys 1 rfl rfl
       have hr : ∀ r ∈ ρ.l 0, okRow K3 r := hR.row 1 rfl rfl
       have e := out_end (p := oldP (ρ.i 9)) hr (by with_reducible assumption) (by with_reducible assumption)
       have hn := keyT_len (oldP (ρ.i 9)) (ρ.l 0)
       exact ⟨by omega, by rw [e.2], e.1, e.2⟩)
    | (have hk : (ρ.l 0).Pairwise (fun a b => hdK a < hdK b) := hR.keys 1 rfl rfl
       have hr : ∀ r ∈ ρ.l 0, okRow K3 r := hR.row 1 rfl rfl
       obtain ⟨b0, _, hf⟩ := out_row hk hr (x := ρ.i 1000) (by with_reducible assumption) (by with_reducible assumption)
       have fc := find_clr hr hf
       have hb : ∀ b, [ρ.i 1000, b, 1] ∈ ρ.l 0 → oldP (ρ.i 9) [ρ.i 1000, b, 0] = true := fun b hm => by
         have := row_one hf hm
         subst this
         have hw : IntKind.i64.wrap (((findK (clrT (ρ.l 0) (ρ.i 1000)) (ρ.i 1000)).getD (0 : Int).toNat []).getD 1 0 + 2) ≤ ρ.i 9 := by with_reducible assumption
         rw [fc] at hw
         exact decide_eq_true hw
       have e := out_rem hk hr (x := ρ.i 1000) (by with_reducible assumption) (by with_reducible assumption)
       have m := out_more (p := oldP (ρ.i 9)) hk hr (x := ρ.i 1000) (by with_reducible assumption) (by with_reducible assumption) hb (by with_reducible assumption)
       have hl := clrT_len (ρ.l 0) (ρ.i 1000)
       have l1 := len_of m
       have l2 := seenT_len (oldP (ρ.i 9)) (clrT (ρ.l 0) (ρ.i 1000))
       exact ⟨by omega, by omega, m, Int.ofNat_le.2 (l1 ▸ l2)⟩)
    | (have hk : (ρ.l 0).Pairwise (fun a b => hdK a < hdK b) := hR.keys 1 rfl rfl
       have hr : ∀ r ∈ ρ.l 0, okRow K3 r := hR.row 1 rfl rfl
       obtain ⟨b0, _, hf⟩ := out_row hk hr (x := ρ.i 1000) (by with_reducible assumption) (by with_reducible assumption)
       have fc := find_clr hr hf
       have hb : ∀ b, [ρ.i 1000, b, 1] ∈ ρ.l 0 → oldP (ρ.i 9) [ρ.i 1000, b, 0] = false := fun b hm => by
         have := row_one hf hm
         subst this
         have hw : ¬ IntKind.i64.wrap (((findK (clrT (ρ.l 0) (ρ.i 1000)) (ρ.i 1000)).getD (0 : Int).toNat []).getD 1 0 + 2) ≤ ρ.i 9 := by with_reducible assumption
         rw [fc] at hw
         exact decide_eq_false hw
       have e := out_rem hk hr (x := ρ.i 1000) (by with_reducible assumption) (by with_reducible assumption)
       have m := out_less (p := oldP (ρ.i 9)) hk hr (x := ρ.i 1000) (by with_reducible assumption) (by with_reducible assumption) hb
       have hl := clrT_len (ρ.l 0) (ρ.i 1000)
       refine ⟨by omega, by omega, ?_, by omega⟩
       rw [m]; with_reducible assumption)
    | (have hk : (ρ.l 0).Pairwise (fun a b => hdK a < hdK b) := hR.keys 1 rfl rfl
       have hr : ∀ r ∈ ρ.l 0, okRow K3 r := hR.row 1 rfl rfl
       have e := out_key (p := oldP (ρ.i 9)) (x := ρ.i 1000) hr (fun _ _ _ _ => rfl)
       have hn := keyT_len (oldP (ρ.i 9)) (ρ.l 0)
       exact ⟨by omega, by rw [e], (clrAll_clr _).symm, e.symm⟩)
end Go.SF.C10
