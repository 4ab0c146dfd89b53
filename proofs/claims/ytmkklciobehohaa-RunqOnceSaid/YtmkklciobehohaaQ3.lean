/- The law of one place, shown. -/
import Derived.Test.YtmkklciobehohaaQ2
import Derived.Test.YtmkklciobehohaaC3
import Derived.KernelRfl
namespace Go.SF.C17
open Go Go.SF Go.Proofs
set_option linter.unusedVariables false
set_option linter.unusedSimpArgs false

set_option maxRecDepth 100000 in
theorem on2_obs : loopObs Φ Try.prog t7 1000 on2.f (loopAt Try.prog on2.f on2.id) on2.n on2.T k6 on2.outs = some
  [{
      pc :=
        [SB.le (SI.len (SL.app 14 (SA.l (SL.v 0) (SA.i (SI.v 5) SA.nil)))) (SI.c (Int.ofNat 4)),
          SB.le (SI.len (SL.app 14 (SA.l (SL.v 0) (SA.i (SI.v 5) SA.nil)))) (SI.c (Int.ofNat 64)),
          SB.lt (SI.v 5) (SI.v 0), SB.le (SI.c (Int.ofNat 1)) (SI.v 0), SB.le (SI.v 0) (SI.c (Int.ofNat 8)),
          SB.eq (SI.len (SL.v 0)) (SI.v 0), SB.eq (SI.len (SL.v 2)) (SI.c (Int.ofNat 64)),
          SB.le (SI.c (Int.ofNat 0)) (SI.v 2), SB.le (SI.v 2) (SI.c (Int.ofNat 100)),
          SB.le (SI.c (Int.ofNat 0)) (SI.v 1), SB.le (SI.v 1) (SI.c (Int.ofNat 10000)), SB.c true,
          SB.app 130 (SA.l (SL.v 0) (SA.l (SL.v 1) (SA.i (SI.c (Int.ofNat 4)) SA.nil))),
          SB.app 134 (SA.l (SL.v 0) (SA.l (SL.v 2) SA.nil)), SB.eq (SI.v 1) (SI.app 104 (SA.l (SL.v 0) SA.nil)),
          SB.eq (SI.v 4) (SI.sub (SI.v 1) (SI.app 105 (SA.l (SL.v 0) (SA.i (SI.v 5) SA.nil)))),
          SB.le (SI.c (Int.ofNat 0)) (SI.v 4), SB.le (SI.v 4) (SI.c (Int.ofNat 10000)),
          SB.le (SI.c (Int.ofNat 0)) (SI.v 5), SB.le (SI.v 5) (SI.v 0)],
      eqs :=
        [Eqn.T (SB.lt (SI.sub (SI.v 0) (SI.add (SI.v 5) (SI.c (Int.ofNat 1)))) (SI.sub (SI.v 0) (SI.v 5))),
          Eqn.T (SB.lt (SI.c (Int.ofNat 0)) (SI.sub (SI.v 0) (SI.v 5))),
          Eqn.T
            (SB.eq (SI.add (SI.v 4) (SI.len (SL.app 14 (SA.l (SL.v 0) (SA.i (SI.v 5) SA.nil)))))
              (SI.sub (SI.v 1) (SI.app 105 (SA.l (SL.v 0) (SA.i (SI.add (SI.v 5) (SI.c (Int.ofNat 1))) SA.nil))))),
          Eqn.T
            (SB.le (SI.add (SI.v 4) (SI.len (SL.app 14 (SA.l (SL.v 0) (SA.i (SI.v 5) SA.nil)))))
              (SI.c (Int.ofNat 10000)))] },
    {
      pc :=
        [SB.not (SB.le (SI.len (SL.app 14 (SA.l (SL.v 0) (SA.i (SI.v 5) SA.nil)))) (SI.c (Int.ofNat 64))),
          SB.lt (SI.v 5) (SI.v 0), SB.le (SI.c (Int.ofNat 1)) (SI.v 0), SB.le (SI.v 0) (SI.c (Int.ofNat 8)),
          SB.eq (SI.len (SL.v 0)) (SI.v 0), SB.eq (SI.len (SL.v 2)) (SI.c (Int.ofNat 64)),
          SB.le (SI.c (Int.ofNat 0)) (SI.v 2), SB.le (SI.v 2) (SI.c (Int.ofNat 100)),
          SB.le (SI.c (Int.ofNat 0)) (SI.v 1), SB.le (SI.v 1) (SI.c (Int.ofNat 10000)), SB.c true,
          SB.app 130 (SA.l (SL.v 0) (SA.l (SL.v 1) (SA.i (SI.c (Int.ofNat 4)) SA.nil))),
          SB.app 134 (SA.l (SL.v 0) (SA.l (SL.v 2) SA.nil)), SB.eq (SI.v 1) (SI.app 104 (SA.l (SL.v 0) SA.nil)),
          SB.eq (SI.v 4) (SI.sub (SI.v 1) (SI.app 105 (SA.l (SL.v 0) (SA.i (SI.v 5) SA.nil)))),
          SB.le (SI.c (Int.ofNat 0)) (SI.v 4), SB.le (SI.v 4) (SI.c (Int.ofNat 10000)),
          SB.le (SI.c (Int.ofNat 0)) (SI.v 5), SB.le (SI.v 5) (SI.v 0)],
      eqs := [Eqn.T (SB.c false)] },
    {
      pc :=
        [SB.not (SB.lt (SI.v 5) (SI.v 0)), SB.le (SI.c (Int.ofNat 1)) (SI.v 0), SB.le (SI.v 0) (SI.c (Int.ofNat 8)),
          SB.eq (SI.len (SL.v 0)) (SI.v 0), SB.eq (SI.len (SL.v 2)) (SI.c (Int.ofNat 64)),
          SB.le (SI.c (Int.ofNat 0)) (SI.v 2), SB.le (SI.v 2) (SI.c (Int.ofNat 100)),
          SB.le (SI.c (Int.ofNat 0)) (SI.v 1), SB.le (SI.v 1) (SI.c (Int.ofNat 10000)), SB.c true,
          SB.app 130 (SA.l (SL.v 0) (SA.l (SL.v 1) (SA.i (SI.c (Int.ofNat 4)) SA.nil))),
          SB.app 134 (SA.l (SL.v 0) (SA.l (SL.v 2) SA.nil)), SB.eq (SI.v 1) (SI.app 104 (SA.l (SL.v 0) SA.nil)),
          SB.eq (SI.v 4) (SI.sub (SI.v 1) (SI.app 105 (SA.l (SL.v 0) (SA.i (SI.v 5) SA.nil)))),
          SB.le (SI.c (Int.ofNat 0)) (SI.v 4), SB.le (SI.v 4) (SI.c (Int.ofNat 10000)),
          SB.le (SI.c (Int.ofNat 0)) (SI.v 5), SB.le (SI.v 5) (SI.v 0)],
      eqs := [Eqn.I (SI.v 1) (SI.v 4)] }] := by kernel_rfl
theorem on2_ok : on2.ok Φ Try.prog := by
  refine ⟨by kernel_rfl, loop_rule (fun ρ => t7_ok ρ) (loopAt_sub (by kernel_rfl)) on2_obs ?_⟩
  simp only [and_imp, List.forall_mem_cons, List.not_mem_nil, false_implies, implies_true, and_true, Ob.ok, holds, Eqn.ok, evB_eq, evB_lt, evB_le, evB_not, evB_and, evB_or, evB_eqL, evB_app, evB_v, evB_c, ev_sel, ev_len, ev_v, ev_c, ev_add, ev_sub, ev_mul, ev_quo, ev_rem, ev_bits, ev_wrap, evL_v, evL_lit, evL_app, ev_app, evA_l, evA_i, evA_nil, std_min, std_max, std_cat, std_take, std_drop, std_row, std_set, std_rep, std_find, std_put, std_del, std_flag, std_unflag, std_clr, std_left, std_copy, ints_cons, ints_nil, ofNat_lit, negSucc_lit, decide_eq_true_eq, Bool.and_eq_true, Bool.or_eq_true, Bool.not_eq_true', Bool.and_eq_false_iff, Bool.or_eq_false_iff, decide_eq_false_iff_not, std_rowT, std_setT, lenR_rowT, rowT_get, aI100, aI101, aI102, aI103, aI104, aI105, aI106, aI107, aI110, aI111, aI112, aI113, aI114, aL110, aL111, aL112, aL113, aL115, aL116, aL120, aL121, aB130, aB131, aB132, aB133, aB134, aB135, aB136, aB199, Bool.not_eq_false']
  repeat' apply And.intro
  all_goals intro ρ hR
  all_goals intros
  all_goals first
    | (omega)
    | (have e := sum_step (T := ρ.l 0) (c := ρ.i 5) (by omega) (by omega)
       have p := sum_pos (ρ.l 0) (ρ.i 5 + 1)
       exact ⟨by omega, by omega, by omega, by omega⟩)
    | (have hv : invB (ρ.l 0) (ρ.l 1) 4 = true := by with_reducible assumption
       have h := inv_row hv (c := ρ.i 5) (by omega) (by omega)
       exfalso
       omega)
    | (have e := sum_end (T := ρ.l 0) (c := ρ.i 5) (by omega)
       omega)
set_option maxRecDepth 100000 in
theorem on3_obs : loopObs Φ Try.prog t7 1000 on3.f (loopAt Try.prog on3.f on3.id) on3.n on3.T k7 on3.outs = some
  [{
      pc :=
        [SB.eq (SI.sel (SL.v 2) (SI.v 4) 0) (SI.c (Int.ofNat 0)),
          SB.not (SB.app 131 (SA.l (SL.v 0) (SA.i (SI.v 4) SA.nil))), SB.lt (SI.v 4) (SI.c (Int.ofNat 64)),
          SB.le (SI.c (Int.ofNat 1)) (SI.v 0), SB.le (SI.v 0) (SI.c (Int.ofNat 8)), SB.eq (SI.len (SL.v 0)) (SI.v 0),
          SB.eq (SI.len (SL.v 2)) (SI.c (Int.ofNat 64)), SB.le (SI.c (Int.ofNat 0)) (SI.v 2),
          SB.le (SI.v 2) (SI.c (Int.ofNat 100)), SB.le (SI.c (Int.ofNat 0)) (SI.v 1),
          SB.le (SI.v 1) (SI.c (Int.ofNat 10000)), SB.c true,
          SB.app 130 (SA.l (SL.v 0) (SA.l (SL.v 1) (SA.i (SI.c (Int.ofNat 4)) SA.nil))),
          SB.app 134 (SA.l (SL.v 0) (SA.l (SL.v 2) SA.nil)), SB.eq (SI.v 1) (SI.app 104 (SA.l (SL.v 0) SA.nil)),
          SB.le (SI.c (Int.ofNat 0)) (SI.v 4), SB.le (SI.v 4) (SI.c (Int.ofNat 64))],
      eqs :=
        [Eqn.T
            (SB.lt (SI.sub (SI.c (Int.ofNat 64)) (SI.add (SI.v 4) (SI.c (Int.ofNat 1))))
              (SI.sub (SI.c (Int.ofNat 64)) (SI.v 4)))] },
    {
      pc :=
        [SB.not (SB.eq (SI.sel (SL.v 2) (SI.v 4) 0) (SI.c (Int.ofNat 0))),
          SB.not (SB.app 131 (SA.l (SL.v 0) (SA.i (SI.v 4) SA.nil))), SB.lt (SI.v 4) (SI.c (Int.ofNat 64)),
          SB.le (SI.c (Int.ofNat 1)) (SI.v 0), SB.le (SI.v 0) (SI.c (Int.ofNat 8)), SB.eq (SI.len (SL.v 0)) (SI.v 0),
          SB.eq (SI.len (SL.v 2)) (SI.c (Int.ofNat 64)), SB.le (SI.c (Int.ofNat 0)) (SI.v 2),
          SB.le (SI.v 2) (SI.c (Int.ofNat 100)), SB.le (SI.c (Int.ofNat 0)) (SI.v 1),
          SB.le (SI.v 1) (SI.c (Int.ofNat 10000)), SB.c true,
          SB.app 130 (SA.l (SL.v 0) (SA.l (SL.v 1) (SA.i (SI.c (Int.ofNat 4)) SA.nil))),
          SB.app 134 (SA.l (SL.v 0) (SA.l (SL.v 2) SA.nil)), SB.eq (SI.v 1) (SI.app 104 (SA.l (SL.v 0) SA.nil)),
          SB.le (SI.c (Int.ofNat 0)) (SI.v 4), SB.le (SI.v 4) (SI.c (Int.ofNat 64))],
      eqs := [Eqn.T (SB.app 199 SA.nil)] },
    {
      pc :=
        [SB.eq (SI.sel (SL.v 2) (SI.v 4) 0) (SI.c (Int.ofNat 0)),
          SB.eq
            (SI.sel (SL.app 14 (SA.l (SL.v 0) (SA.i (SI.app 101 (SA.l (SL.v 0) (SA.i (SI.v 4) SA.nil))) SA.nil)))
              (SI.app 102 (SA.l (SL.v 0) (SA.i (SI.v 4) SA.nil))) 0)
            (SI.v 4),
          SB.le (SI.len (SL.app 14 (SA.l (SL.v 0) (SA.i (SI.app 101 (SA.l (SL.v 0) (SA.i (SI.v 4) SA.nil))) SA.nil))))
            (SI.c (Int.ofNat 4)),
          SB.lt (SI.app 102 (SA.l (SL.v 0) (SA.i (SI.v 4) SA.nil)))
            (SI.len (SL.app 14 (SA.l (SL.v 0) (SA.i (SI.app 101 (SA.l (SL.v 0) (SA.i (SI.v 4) SA.nil))) SA.nil)))),
          SB.le (SI.c (Int.ofNat 0)) (SI.app 102 (SA.l (SL.v 0) (SA.i (SI.v 4) SA.nil))),
          SB.lt (SI.app 101 (SA.l (SL.v 0) (SA.i (SI.v 4) SA.nil))) (SI.len (SL.v 0)),
          SB.le (SI.c (Int.ofNat 0)) (SI.app 101 (SA.l (SL.v 0) (SA.i (SI.v 4) SA.nil))),
          SB.app 131 (SA.l (SL.v 0) (SA.i (SI.v 4) SA.nil)), SB.lt (SI.v 4) (SI.c (Int.ofNat 64)),
          SB.le (SI.c (Int.ofNat 1)) (SI.v 0), SB.le (SI.v 0) (SI.c (Int.ofNat 8)), SB.eq (SI.len (SL.v 0)) (SI.v 0),
          SB.eq (SI.len (SL.v 2)) (SI.c (Int.ofNat 64)), SB.le (SI.c (Int.ofNat 0)) (SI.v 2),
          SB.le (SI.v 2) (SI.c (Int.ofNat 100)), SB.le (SI.c (Int.ofNat 0)) (SI.v 1),
          SB.le (SI.v 1) (SI.c (Int.ofNat 10000)), SB.c true,
          SB.app 130 (SA.l (SL.v 0) (SA.l (SL.v 1) (SA.i (SI.c (Int.ofNat 4)) SA.nil))),
          SB.app 134 (SA.l (SL.v 0) (SA.l (SL.v 2) SA.nil)), SB.eq (SI.v 1) (SI.app 104 (SA.l (SL.v 0) SA.nil)),
          SB.le (SI.c (Int.ofNat 0)) (SI.v 4), SB.le (SI.v 4) (SI.c (Int.ofNat 64))],
      eqs := [Eqn.T (SB.app 199 SA.nil)] },
    {
      pc :=
        [SB.not (SB.eq (SI.sel (SL.v 2) (SI.v 4) 0) (SI.c (Int.ofNat 0))),
          SB.eq
            (SI.sel (SL.app 14 (SA.l (SL.v 0) (SA.i (SI.app 101 (SA.l (SL.v 0) (SA.i (SI.v 4) SA.nil))) SA.nil)))
              (SI.app 102 (SA.l (SL.v 0) (SA.i (SI.v 4) SA.nil))) 0)
            (SI.v 4),
          SB.le (SI.len (SL.app 14 (SA.l (SL.v 0) (SA.i (SI.app 101 (SA.l (SL.v 0) (SA.i (SI.v 4) SA.nil))) SA.nil))))
            (SI.c (Int.ofNat 4)),
          SB.lt (SI.app 102 (SA.l (SL.v 0) (SA.i (SI.v 4) SA.nil)))
            (SI.len (SL.app 14 (SA.l (SL.v 0) (SA.i (SI.app 101 (SA.l (SL.v 0) (SA.i (SI.v 4) SA.nil))) SA.nil)))),
          SB.le (SI.c (Int.ofNat 0)) (SI.app 102 (SA.l (SL.v 0) (SA.i (SI.v 4) SA.nil))),
          SB.lt (SI.app 101 (SA.l (SL.v 0) (SA.i (SI.v 4) SA.nil))) (SI.len (SL.v 0)),
          SB.le (SI.c (Int.ofNat 0)) (SI.app 101 (SA.l (SL.v 0) (SA.i (SI.v 4) SA.nil))),
          SB.app 131 (SA.l (SL.v 0) (SA.i (SI.v 4) SA.nil)), SB.lt (SI.v 4) (SI.c (Int.ofNat 64)),
          SB.le (SI.c (Int.ofNat 1)) (SI.v 0), SB.le (SI.v 0) (SI.c (Int.ofNat 8)), SB.eq (SI.len (SL.v 0)) (SI.v 0),
          SB.eq (SI.len (SL.v 2)) (SI.c (Int.ofNat 64)), SB.le (SI.c (Int.ofNat 0)) (SI.v 2),
          SB.le (SI.v 2) (SI.c (Int.ofNat 100)), SB.le (SI.c (Int.ofNat 0)) (SI.v 1),
          SB.le (SI.v 1) (SI.c (Int.ofNat 10000)), SB.c true,
          SB.app 130 (SA.l (SL.v 0) (SA.l (SL.v 1) (SA.i (SI.c (Int.ofNat 4)) SA.nil))),
          SB.app 134 (SA.l (SL.v 0) (SA.l (SL.v 2) SA.nil)), SB.eq (SI.v 1) (SI.app 104 (SA.l (SL.v 0) SA.nil)),
          SB.le (SI.c (Int.ofNat 0)) (SI.v 4), SB.le (SI.v 4) (SI.c (Int.ofNat 64))],
      eqs :=
        [Eqn.T
            (SB.lt (SI.sub (SI.c (Int.ofNat 64)) (SI.add (SI.v 4) (SI.c (Int.ofNat 1))))
              (SI.sub (SI.c (Int.ofNat 64)) (SI.v 4)))] }] := by kernel_rfl
theorem on3_ok : on3.ok Φ Try.prog := by
  refine ⟨by kernel_rfl, loop_rule (fun ρ => t7_ok ρ) (loopAt_sub (by kernel_rfl)) on3_obs ?_⟩
  simp only [and_imp, List.forall_mem_cons, List.not_mem_nil, false_implies, implies_true, and_true, Ob.ok, holds, Eqn.ok, evB_eq, evB_lt, evB_le, evB_not, evB_and, evB_or, evB_eqL, evB_app, evB_v, evB_c, ev_sel, ev_len, ev_v, ev_c, ev_add, ev_sub, ev_mul, ev_quo, ev_rem, ev_bits, ev_wrap, evL_v, evL_lit, evL_app, ev_app, evA_l, evA_i, evA_nil, std_min, std_max, std_cat, std_take, std_drop, std_row, std_set, std_rep, std_find, std_put, std_del, std_flag, std_unflag, std_clr, std_left, std_copy, ints_cons, ints_nil, ofNat_lit, negSucc_lit, decide_eq_true_eq, Bool.and_eq_true, Bool.or_eq_true, Bool.not_eq_true', Bool.and_eq_false_iff, Bool.or_eq_false_iff, decide_eq_false_iff_not, std_rowT, std_setT, lenR_rowT, rowT_get, aI100, aI101, aI102, aI103, aI104, aI105, aI106, aI107, aI110, aI111, aI112, aI113, aI114, aL110, aL111, aL112, aL113, aL115, aL116, aL120, aL121, aB130, aB131, aB132, aB133, aB134, aB135, aB136, aB199, Bool.not_eq_false']
  repeat' apply And.intro
  all_goals intro ρ hR
  all_goals intros
  all_goals first
    | (omega)
    | (have hi : inB (ρ.l 0) (ρ.l 2) = true := by with_reducible assumption
       have h64 : ((ρ.l 2).length : Int) = 64 := by omega
       have hr : ∀ r ∈ ρ.l 2, okRow [.b] r := hR.row 5 rfl rfl
       have hv : invB (ρ.l 0) (ρ.l 1) 4 = true := by with_reducible assumption
       have hn := (inv_iff.1 hv).2.1
       have hT : 1 ≤ ((ρ.l 0).length : Int) := by omega
       have e := in_at hi (x := ρ.i 4) (by omega) (by omega)
       have z := in_01 hr h64 (x := ρ.i 4) (by omega) (by omega)
       exfalso
       have h := ‹hasB _ (ρ.i 4) = false›
       rw [h] at e
       rcases z with z | z
       · omega
       · have := e.1 z
         cases this)
    | (have hi : inB (ρ.l 0) (ρ.l 2) = true := by with_reducible assumption
       have h64 : ((ρ.l 2).length : Int) = 64 := by omega
       have hr : ∀ r ∈ ρ.l 2, okRow [.b] r := hR.row 5 rfl rfl
       have hv : invB (ρ.l 0) (ρ.l 1) 4 = true := by with_reducible assumption
       have hn := (inv_iff.1 hv).2.1
       have hT : 1 ≤ ((ρ.l 0).length : Int) := by omega
       have e := (in_at hi (x := ρ.i 4) (by omega) (by omega)).2 (by with_reducible assumption)
       exfalso
       omega)
theorem t10_ok (ρ : Env) : TblOK Φ ρ Try.prog t10 := addLp_ok (addLp_ok (t7_ok ρ) on2_ok) on3_ok
set_option maxRecDepth 100000 in
theorem on13_obs : partObs Φ Try.prog t10 1000 on13.f (loopAt Try.prog on13.f on13.id) on13.n on13.T on13.outs = some
  [{
      pc :=
        [SB.eq (SI.sel (SL.v 2) (SI.v 14) 0) (SI.c (Int.ofNat 0)),
          SB.app 136 (SA.l (SL.v 0) (SA.l (SL.v 2) (SA.i (SI.v 14) (SA.i (SI.v 1) SA.nil)))), SB.v 1,
          SB.le (SI.c (Int.ofNat 1)) (SI.v 0), SB.le (SI.v 0) (SI.c (Int.ofNat 8)), SB.eq (SI.len (SL.v 0)) (SI.v 0),
          SB.eq (SI.len (SL.v 2)) (SI.c (Int.ofNat 64)), SB.le (SI.c (Int.ofNat 0)) (SI.v 2),
          SB.le (SI.v 2) (SI.c (Int.ofNat 100)), SB.le (SI.c (Int.ofNat 0)) (SI.v 1),
          SB.le (SI.v 1) (SI.c (Int.ofNat 10000)), SB.c true, SB.le (SI.c (Int.ofNat 0)) (SI.v 14),
          SB.le (SI.v 14) (SI.c (Int.ofNat 63)),
          SB.app 130 (SA.l (SL.v 0) (SA.l (SL.v 1) (SA.i (SI.c (Int.ofNat 4)) SA.nil))),
          SB.and (SB.c true)
            (SB.or
              (SB.and (SB.v 1) (SB.app 136 (SA.l (SL.v 0) (SA.l (SL.v 2) (SA.i (SI.v 14) (SA.i (SI.v 1) SA.nil))))))
              (SB.and (SB.not (SB.v 1))
                (SB.and (SB.app 134 (SA.l (SL.v 0) (SA.l (SL.v 2) SA.nil)))
                  (SB.eq (SI.v 1) (SI.app 104 (SA.l (SL.v 0) SA.nil))))))],
      eqs :=
        [Eqn.T (SB.le (SI.add (SI.v 1) (SI.c (Int.ofNat 1))) (SI.c (Int.ofNat 10000))),
          Eqn.T
            (SB.app 134
              (SA.l (SL.v 0)
                (SA.l
                  (SL.app 4
                    (SA.l (SL.v 2) (SA.i (SI.v 14) (SA.i (SI.c (Int.ofNat 0)) (SA.i (SI.c (Int.ofNat 1)) SA.nil)))))
                  SA.nil))),
          Eqn.T (SB.eq (SI.add (SI.v 1) (SI.c (Int.ofNat 1))) (SI.app 104 (SA.l (SL.v 0) SA.nil)))] },
    {
      pc :=
        [SB.not (SB.eq (SI.sel (SL.v 2) (SI.v 14) 0) (SI.c (Int.ofNat 0))),
          SB.app 136 (SA.l (SL.v 0) (SA.l (SL.v 2) (SA.i (SI.v 14) (SA.i (SI.v 1) SA.nil)))), SB.v 1,
          SB.le (SI.c (Int.ofNat 1)) (SI.v 0), SB.le (SI.v 0) (SI.c (Int.ofNat 8)), SB.eq (SI.len (SL.v 0)) (SI.v 0),
          SB.eq (SI.len (SL.v 2)) (SI.c (Int.ofNat 64)), SB.le (SI.c (Int.ofNat 0)) (SI.v 2),
          SB.le (SI.v 2) (SI.c (Int.ofNat 100)), SB.le (SI.c (Int.ofNat 0)) (SI.v 1),
          SB.le (SI.v 1) (SI.c (Int.ofNat 10000)), SB.c true, SB.le (SI.c (Int.ofNat 0)) (SI.v 14),
          SB.le (SI.v 14) (SI.c (Int.ofNat 63)),
          SB.app 130 (SA.l (SL.v 0) (SA.l (SL.v 1) (SA.i (SI.c (Int.ofNat 4)) SA.nil))),
          SB.and (SB.c true)
            (SB.or
              (SB.and (SB.v 1) (SB.app 136 (SA.l (SL.v 0) (SA.l (SL.v 2) (SA.i (SI.v 14) (SA.i (SI.v 1) SA.nil))))))
              (SB.and (SB.not (SB.v 1))
                (SB.and (SB.app 134 (SA.l (SL.v 0) (SA.l (SL.v 2) SA.nil)))
                  (SB.eq (SI.v 1) (SI.app 104 (SA.l (SL.v 0) SA.nil))))))],
      eqs := [Eqn.T (SB.app 199 SA.nil)] }] := by kernel_rfl
theorem on13_ok : on13.ok Φ Try.prog := by
  refine ⟨by kernel_rfl, part_rule (fun ρ => t10_ok ρ) (loopAt_sub (by kernel_rfl)) on13_obs ?_⟩
  simp only [and_imp, List.forall_mem_cons, List.not_mem_nil, false_implies, implies_true, and_true, Ob.ok, holds, Eqn.ok, evB_eq, evB_lt, evB_le, evB_not, evB_and, evB_or, evB_eqL, evB_app, evB_v, evB_c, ev_sel, ev_len, ev_v, ev_c, ev_add, ev_sub, ev_mul, ev_quo, ev_rem, ev_bits, ev_wrap, evL_v, evL_lit, evL_app, ev_app, evA_l, evA_i, evA_nil, std_min, std_max, std_cat, std_take, std_drop, std_row, std_set, std_rep, std_find, std_put, std_del, std_flag, std_unflag, std_clr, std_left, std_copy, ints_cons, ints_nil, ofNat_lit, negSucc_lit, decide_eq_true_eq, Bool.and_eq_true, Bool.or_eq_true, Bool.not_eq_true', Bool.and_eq_false_iff, Bool.or_eq_false_iff, decide_eq_false_iff_not, std_rowT, std_setT, lenR_rowT, rowT_get, aI100, aI101, aI102, aI103, aI104, aI105, aI106, aI107, aI110, aI111, aI112, aI113, aI114, aL110, aL111, aL112, aL113, aL115, aL116, aL120, aL121, aB130, aB131, aB132, aB133, aB134, aB135, aB136, aB199, Bool.not_eq_false']
  repeat' apply And.intro
  all_goals intro ρ hR
  all_goals intros
  all_goals first
    | (have hp : preB (ρ.l 0) (ρ.l 2) (ρ.i 14) (ρ.i 1) = true := by with_reducible assumption
       obtain ⟨p1, p2, p3, p4, p5⟩ := pre_iff.1 hp
       have hv : invB (ρ.l 0) (ρ.l 1) 4 = true := by with_reducible assumption
       have ht := total_le (inv_iff.1 hv).1
       exact ⟨by omega, p4, by omega⟩)
    | (have hp : preB (ρ.l 0) (ρ.l 2) (ρ.i 14) (ρ.i 1) = true := by with_reducible assumption
       obtain ⟨p1, p2, p3, p4, p5⟩ := pre_iff.1 hp
       exfalso
       omega)
set_option maxRecDepth 100000 in
theorem on18_obs : partObs Φ Try.prog t10 1000 on18.f (loopAt Try.prog on18.f on18.id) on18.n on18.T on18.outs = some
  [{
      pc :=
        [SB.lt (SI.c (Int.ofNat 0)) (SI.v 1), SB.not (SB.app 132 (SA.l (SL.v 0) SA.nil)), SB.lt (SI.v 11) (SI.v 0),
          SB.le (SI.c (Int.ofNat 0)) (SI.v 11), SB.v 1, SB.le (SI.c (Int.ofNat 1)) (SI.v 0),
          SB.le (SI.v 0) (SI.c (Int.ofNat 8)), SB.eq (SI.len (SL.v 0)) (SI.v 0),
          SB.eq (SI.len (SL.v 2)) (SI.c (Int.ofNat 64)), SB.le (SI.c (Int.ofNat 0)) (SI.v 2),
          SB.le (SI.v 2) (SI.c (Int.ofNat 100)), SB.le (SI.c (Int.ofNat 0)) (SI.v 1),
          SB.le (SI.v 1) (SI.c (Int.ofNat 10000)), SB.c true, SB.le (SI.c (Int.ofNat 0)) (SI.v 14),
          SB.le (SI.v 14) (SI.c (Int.ofNat 63)),
          SB.app 130 (SA.l (SL.v 0) (SA.l (SL.v 1) (SA.i (SI.c (Int.ofNat 4)) SA.nil))),
          SB.app 134 (SA.l (SL.v 0) (SA.l (SL.v 2) SA.nil)), SB.eq (SI.v 1) (SI.app 104 (SA.l (SL.v 0) SA.nil)),
          SB.and (SB.c true)
            (SB.or (SB.and (SB.v 1) (SB.and (SB.le (SI.c (Int.ofNat 0)) (SI.v 11)) (SB.lt (SI.v 11) (SI.v 0))))
              (SB.not (SB.v 1)))],
      eqs := [Eqn.T (SB.app 199 SA.nil)] },
    {
      pc :=
        [SB.lt (SI.app 112 (SA.l (SL.v 0) (SA.i (SI.v 11) SA.nil))) (SI.c (Int.ofNat 0)),
          SB.lt (SI.c (Int.ofNat 0)) (SI.v 1),
          SB.app 130
            (SA.l (SL.app 111 (SA.l (SL.v 0) (SA.i (SI.v 11) SA.nil)))
              (SA.l (SL.v 1000) (SA.i (SI.c (Int.ofNat 4)) SA.nil))),
          SB.eq (SI.len (SL.app 111 (SA.l (SL.v 0) (SA.i (SI.v 11) SA.nil)))) (SI.len (SL.v 0)),
          SB.lt (SI.app 111 (SA.l (SL.v 0) (SA.i (SI.v 11) SA.nil))) (SI.len (SL.v 0)),
          SB.le (SI.c (Int.ofNat 0)) (SI.app 111 (SA.l (SL.v 0) (SA.i (SI.v 11) SA.nil))),
          SB.app 132 (SA.l (SL.v 0) SA.nil), SB.lt (SI.v 11) (SI.v 0), SB.le (SI.c (Int.ofNat 0)) (SI.v 11), SB.v 1,
          SB.le (SI.c (Int.ofNat 1)) (SI.v 0), SB.le (SI.v 0) (SI.c (Int.ofNat 8)), SB.eq (SI.len (SL.v 0)) (SI.v 0),
          SB.eq (SI.len (SL.v 2)) (SI.c (Int.ofNat 64)), SB.le (SI.c (Int.ofNat 0)) (SI.v 2),
          SB.le (SI.v 2) (SI.c (Int.ofNat 100)), SB.le (SI.c (Int.ofNat 0)) (SI.v 1),
          SB.le (SI.v 1) (SI.c (Int.ofNat 10000)), SB.c true, SB.le (SI.c (Int.ofNat 0)) (SI.v 14),
          SB.le (SI.v 14) (SI.c (Int.ofNat 63)),
          SB.app 130 (SA.l (SL.v 0) (SA.l (SL.v 1) (SA.i (SI.c (Int.ofNat 4)) SA.nil))),
          SB.app 134 (SA.l (SL.v 0) (SA.l (SL.v 2) SA.nil)), SB.eq (SI.v 1) (SI.app 104 (SA.l (SL.v 0) SA.nil)),
          SB.and (SB.c true)
            (SB.or (SB.and (SB.v 1) (SB.and (SB.le (SI.c (Int.ofNat 0)) (SI.v 11)) (SB.lt (SI.v 11) (SI.v 0))))
              (SB.not (SB.v 1)))],
      eqs := [Eqn.T (SB.app 199 SA.nil)] },
    {
      pc :=
        [SB.lt (SI.c (Int.ofNat 63)) (SI.app 112 (SA.l (SL.v 0) (SA.i (SI.v 11) SA.nil))),
          SB.not (SB.lt (SI.app 112 (SA.l (SL.v 0) (SA.i (SI.v 11) SA.nil))) (SI.c (Int.ofNat 0))),
          SB.lt (SI.c (Int.ofNat 0)) (SI.v 1),
          SB.app 130
            (SA.l (SL.app 111 (SA.l (SL.v 0) (SA.i (SI.v 11) SA.nil)))
              (SA.l (SL.v 1000) (SA.i (SI.c (Int.ofNat 4)) SA.nil))),
          SB.eq (SI.len (SL.app 111 (SA.l (SL.v 0) (SA.i (SI.v 11) SA.nil)))) (SI.len (SL.v 0)),
          SB.lt (SI.app 111 (SA.l (SL.v 0) (SA.i (SI.v 11) SA.nil))) (SI.len (SL.v 0)),
          SB.le (SI.c (Int.ofNat 0)) (SI.app 111 (SA.l (SL.v 0) (SA.i (SI.v 11) SA.nil))),
          SB.app 132 (SA.l (SL.v 0) SA.nil), SB.lt (SI.v 11) (SI.v 0), SB.le (SI.c (Int.ofNat 0)) (SI.v 11), SB.v 1,
          SB.le (SI.c (Int.ofNat 1)) (SI.v 0), SB.le (SI.v 0) (SI.c (Int.ofNat 8)), SB.eq (SI.len (SL.v 0)) (SI.v 0),
          SB.eq (SI.len (SL.v 2)) (SI.c (Int.ofNat 64)), SB.le (SI.c (Int.ofNat 0)) (SI.v 2),
          SB.le (SI.v 2) (SI.c (Int.ofNat 100)), SB.le (SI.c (Int.ofNat 0)) (SI.v 1),
          SB.le (SI.v 1) (SI.c (Int.ofNat 10000)), SB.c true, SB.le (SI.c (Int.ofNat 0)) (SI.v 14),
          SB.le (SI.v 14) (SI.c (Int.ofNat 63)),
          SB.app 130 (SA.l (SL.v 0) (SA.l (SL.v 1) (SA.i (SI.c (Int.ofNat 4)) SA.nil))),
          SB.app 134 (SA.l (SL.v 0) (SA.l (SL.v 2) SA.nil)), SB.eq (SI.v 1) (SI.app 104 (SA.l (SL.v 0) SA.nil)),
          SB.and (SB.c true)
            (SB.or (SB.and (SB.v 1) (SB.and (SB.le (SI.c (Int.ofNat 0)) (SI.v 11)) (SB.lt (SI.v 11) (SI.v 0))))
              (SB.not (SB.v 1)))],
      eqs := [Eqn.T (SB.app 199 SA.nil)] },
    {
      pc :=
        [SB.eq (SI.sel (SL.v 2) (SI.app 112 (SA.l (SL.v 0) (SA.i (SI.v 11) SA.nil))) 0) (SI.c (Int.ofNat 0)),
          SB.not (SB.lt (SI.c (Int.ofNat 63)) (SI.app 112 (SA.l (SL.v 0) (SA.i (SI.v 11) SA.nil)))),
          SB.not (SB.lt (SI.app 112 (SA.l (SL.v 0) (SA.i (SI.v 11) SA.nil))) (SI.c (Int.ofNat 0))),
          SB.lt (SI.c (Int.ofNat 0)) (SI.v 1),
          SB.app 130
            (SA.l (SL.app 111 (SA.l (SL.v 0) (SA.i (SI.v 11) SA.nil)))
              (SA.l (SL.v 1000) (SA.i (SI.c (Int.ofNat 4)) SA.nil))),
          SB.eq (SI.len (SL.app 111 (SA.l (SL.v 0) (SA.i (SI.v 11) SA.nil)))) (SI.len (SL.v 0)),
          SB.lt (SI.app 111 (SA.l (SL.v 0) (SA.i (SI.v 11) SA.nil))) (SI.len (SL.v 0)),
          SB.le (SI.c (Int.ofNat 0)) (SI.app 111 (SA.l (SL.v 0) (SA.i (SI.v 11) SA.nil))),
          SB.app 132 (SA.l (SL.v 0) SA.nil), SB.lt (SI.v 11) (SI.v 0), SB.le (SI.c (Int.ofNat 0)) (SI.v 11), SB.v 1,
          SB.le (SI.c (Int.ofNat 1)) (SI.v 0), SB.le (SI.v 0) (SI.c (Int.ofNat 8)), SB.eq (SI.len (SL.v 0)) (SI.v 0),
          SB.eq (SI.len (SL.v 2)) (SI.c (Int.ofNat 64)), SB.le (SI.c (Int.ofNat 0)) (SI.v 2),
          SB.le (SI.v 2) (SI.c (Int.ofNat 100)), SB.le (SI.c (Int.ofNat 0)) (SI.v 1),
          SB.le (SI.v 1) (SI.c (Int.ofNat 10000)), SB.c true, SB.le (SI.c (Int.ofNat 0)) (SI.v 14),
          SB.le (SI.v 14) (SI.c (Int.ofNat 63)),
          SB.app 130 (SA.l (SL.v 0) (SA.l (SL.v 1) (SA.i (SI.c (Int.ofNat 4)) SA.nil))),
          SB.app 134 (SA.l (SL.v 0) (SA.l (SL.v 2) SA.nil)), SB.eq (SI.v 1) (SI.app 104 (SA.l (SL.v 0) SA.nil)),
          SB.and (SB.c true)
            (SB.or (SB.and (SB.v 1) (SB.and (SB.le (SI.c (Int.ofNat 0)) (SI.v 11)) (SB.lt (SI.v 11) (SI.v 0))))
              (SB.not (SB.v 1)))],
      eqs := [Eqn.T (SB.app 199 SA.nil)] },
    {
      pc :=
        [SB.not (SB.eq (SI.sel (SL.v 2) (SI.app 112 (SA.l (SL.v 0) (SA.i (SI.v 11) SA.nil))) 0) (SI.c (Int.ofNat 0))),
          SB.not (SB.lt (SI.c (Int.ofNat 63)) (SI.app 112 (SA.l (SL.v 0) (SA.i (SI.v 11) SA.nil)))),
          SB.not (SB.lt (SI.app 112 (SA.l (SL.v 0) (SA.i (SI.v 11) SA.nil))) (SI.c (Int.ofNat 0))),
          SB.lt (SI.c (Int.ofNat 0)) (SI.v 1),
          SB.app 130
            (SA.l (SL.app 111 (SA.l (SL.v 0) (SA.i (SI.v 11) SA.nil)))
              (SA.l (SL.v 1000) (SA.i (SI.c (Int.ofNat 4)) SA.nil))),
          SB.eq (SI.len (SL.app 111 (SA.l (SL.v 0) (SA.i (SI.v 11) SA.nil)))) (SI.len (SL.v 0)),
          SB.lt (SI.app 111 (SA.l (SL.v 0) (SA.i (SI.v 11) SA.nil))) (SI.len (SL.v 0)),
          SB.le (SI.c (Int.ofNat 0)) (SI.app 111 (SA.l (SL.v 0) (SA.i (SI.v 11) SA.nil))),
          SB.app 132 (SA.l (SL.v 0) SA.nil), SB.lt (SI.v 11) (SI.v 0), SB.le (SI.c (Int.ofNat 0)) (SI.v 11), SB.v 1,
          SB.le (SI.c (Int.ofNat 1)) (SI.v 0), SB.le (SI.v 0) (SI.c (Int.ofNat 8)), SB.eq (SI.len (SL.v 0)) (SI.v 0),
          SB.eq (SI.len (SL.v 2)) (SI.c (Int.ofNat 64)), SB.le (SI.c (Int.ofNat 0)) (SI.v 2),
          SB.le (SI.v 2) (SI.c (Int.ofNat 100)), SB.le (SI.c (Int.ofNat 0)) (SI.v 1),
          SB.le (SI.v 1) (SI.c (Int.ofNat 10000)), SB.c true, SB.le (SI.c (Int.ofNat 0)) (SI.v 14),
          SB.le (SI.v 14) (SI.c (Int.ofNat 63)),
          SB.app 130 (SA.l (SL.v 0) (SA.l (SL.v 1) (SA.i (SI.c (Int.ofNat 4)) SA.nil))),
          SB.app 134 (SA.l (SL.v 0) (SA.l (SL.v 2) SA.nil)), SB.eq (SI.v 1) (SI.app 104 (SA.l (SL.v 0) SA.nil)),
          SB.and (SB.c true)
            (SB.or (SB.and (SB.v 1) (SB.and (SB.le (SI.c (Int.ofNat 0)) (SI.v 11)) (SB.lt (SI.v 11) (SI.v 0))))
              (SB.not (SB.v 1)))],
      eqs :=
        [Eqn.T
            (SB.app 134
              (SA.l (SL.app 111 (SA.l (SL.v 0) (SA.i (SI.v 11) SA.nil)))
                (SA.l
                  (SL.app 4
                    (SA.l (SL.v 2)
                      (SA.i (SI.app 112 (SA.l (SL.v 0) (SA.i (SI.v 11) SA.nil)))
                        (SA.i (SI.c (Int.ofNat 0)) (SA.i (SI.c (Int.ofNat 0)) SA.nil)))))
                  SA.nil))),
          Eqn.T
            (SB.eq (SI.sub (SI.v 1) (SI.c (Int.ofNat 1)))
              (SI.app 104 (SA.l (SL.app 111 (SA.l (SL.v 0) (SA.i (SI.v 11) SA.nil))) SA.nil)))] },
    {
      pc :=
        [SB.not (SB.lt (SI.c (Int.ofNat 0)) (SI.v 1)),
          SB.app 130
            (SA.l (SL.app 111 (SA.l (SL.v 0) (SA.i (SI.v 11) SA.nil)))
              (SA.l (SL.v 1000) (SA.i (SI.c (Int.ofNat 4)) SA.nil))),
          SB.eq (SI.len (SL.app 111 (SA.l (SL.v 0) (SA.i (SI.v 11) SA.nil)))) (SI.len (SL.v 0)),
          SB.lt (SI.app 111 (SA.l (SL.v 0) (SA.i (SI.v 11) SA.nil))) (SI.len (SL.v 0)),
          SB.le (SI.c (Int.ofNat 0)) (SI.app 111 (SA.l (SL.v 0) (SA.i (SI.v 11) SA.nil))),
          SB.app 132 (SA.l (SL.v 0) SA.nil), SB.lt (SI.v 11) (SI.v 0), SB.le (SI.c (Int.ofNat 0)) (SI.v 11), SB.v 1,
          SB.le (SI.c (Int.ofNat 1)) (SI.v 0), SB.le (SI.v 0) (SI.c (Int.ofNat 8)), SB.eq (SI.len (SL.v 0)) (SI.v 0),
          SB.eq (SI.len (SL.v 2)) (SI.c (Int.ofNat 64)), SB.le (SI.c (Int.ofNat 0)) (SI.v 2),
          SB.le (SI.v 2) (SI.c (Int.ofNat 100)), SB.le (SI.c (Int.ofNat 0)) (SI.v 1),
          SB.le (SI.v 1) (SI.c (Int.ofNat 10000)), SB.c true, SB.le (SI.c (Int.ofNat 0)) (SI.v 14),
          SB.le (SI.v 14) (SI.c (Int.ofNat 63)),
          SB.app 130 (SA.l (SL.v 0) (SA.l (SL.v 1) (SA.i (SI.c (Int.ofNat 4)) SA.nil))),
          SB.app 134 (SA.l (SL.v 0) (SA.l (SL.v 2) SA.nil)), SB.eq (SI.v 1) (SI.app 104 (SA.l (SL.v 0) SA.nil)),
          SB.and (SB.c true)
            (SB.or (SB.and (SB.v 1) (SB.and (SB.le (SI.c (Int.ofNat 0)) (SI.v 11)) (SB.lt (SI.v 11) (SI.v 0))))
              (SB.not (SB.v 1)))],
      eqs := [Eqn.T (SB.app 199 SA.nil)] }] := by kernel_rfl
theorem on18_ok : on18.ok Φ Try.prog := by
  refine ⟨by kernel_rfl, part_rule (fun ρ => t10_ok ρ) (loopAt_sub (by kernel_rfl)) on18_obs ?_⟩
  simp only [and_imp, List.forall_mem_cons, List.not_mem_nil, false_implies, implies_true, and_true, Ob.ok, holds, Eqn.ok, evB_eq, evB_lt, evB_le, evB_not, evB_and, evB_or, evB_eqL, evB_app, evB_v, evB_c, ev_sel, ev_len, ev_v, ev_c, ev_add, ev_sub, ev_mul, ev_quo, ev_rem, ev_bits, ev_wrap, evL_v, evL_lit, evL_app, ev_app, evA_l, evA_i, evA_nil, std_min, std_max, std_cat, std_take, std_drop, std_row, std_set, std_rep, std_find, std_put, std_del, std_flag, std_unflag, std_clr, std_left, std_copy, ints_cons, ints_nil, ofNat_lit, negSucc_lit, decide_eq_true_eq, Bool.and_eq_true, Bool.or_eq_true, Bool.not_eq_true', Bool.and_eq_false_iff, Bool.or_eq_false_iff, decide_eq_false_iff_not, std_rowT, std_setT, lenR_rowT, rowT_get, aI100, aI101, aI102, aI103, aI104, aI105, aI106, aI107, aI110, aI111, aI112, aI113, aI114, aL110, aL111, aL112, aL113, aL115, aL116, aL120, aL121, aB130, aB131, aB132, aB133, aB134, aB135, aB136, aB199, Bool.not_eq_false']
  repeat' apply And.intro
  all_goals intro ρ hR
  all_goals intros
  all_goals first
    | (have h := any_total (T := ρ.l 0) (by with_reducible assumption)
       exfalso
       omega)
    | (have hi : inB (ρ.l 0) (ρ.l 2) = true := by with_reducible assumption
       have h64 : ((ρ.l 2).length : Int) = 64 := by omega
       have hr : ∀ r ∈ ρ.l 2, okRow [.b] r := hR.row 5 rfl rfl
       have hv : invB (ρ.l 0) (ρ.l 1) 4 = true := by with_reducible assumption
       have hn := (inv_iff.1 hv).2.1
       have hT : 1 ≤ ((ρ.l 0).length : Int) := by omega
       have ha : anyB (ρ.l 0) = true := by with_reducible assumption
       obtain ⟨p1, p2, p3, p4, p5, p6⟩ := in_cut hi h64 hr (pop_flat hT (c := ρ.i 11) (by omega) (by omega) ha) hn
       exact ⟨p1, by omega⟩)
    | (have hi : inB (ρ.l 0) (ρ.l 2) = true := by with_reducible assumption
       have h64 : ((ρ.l 2).length : Int) = 64 := by omega
       have hr : ∀ r ∈ ρ.l 2, okRow [.b] r := hR.row 5 rfl rfl
       have hv : invB (ρ.l 0) (ρ.l 1) 4 = true := by with_reducible assumption
       have hn := (inv_iff.1 hv).2.1
       have hT : 1 ≤ ((ρ.l 0).length : Int) := by omega
       have ha : anyB (ρ.l 0) = true := by with_reducible assumption
       obtain ⟨p1, p2, p3, p4, p5, p6⟩ := in_cut hi h64 hr (pop_flat hT (c := ρ.i 11) (by omega) (by omega) ha) hn
       exfalso
       omega)
    | (have h := any_pos (T := ρ.l 0) (by with_reducible assumption)
       exfalso
       omega)
set_option maxRecDepth 100000 in
theorem on25_obs : partObs Φ Try.prog t10 1000 on25.f (loopAt Try.prog on25.f on25.id) on25.n on25.T on25.outs = some
  [{
      pc :=
        [SB.eq (SI.sel (SL.v 2) (SI.v 14) 0) (SI.c (Int.ofNat 0)), SB.app 131 (SA.l (SL.v 0) (SA.i (SI.v 14) SA.nil)),
          SB.app 130
            (SA.l (SL.app 112 (SA.l (SL.v 0) (SA.i (SI.v 14) SA.nil)))
              (SA.l (SL.v 1000) (SA.i (SI.c (Int.ofNat 4)) SA.nil))),
          SB.eq (SI.len (SL.app 112 (SA.l (SL.v 0) (SA.i (SI.v 14) SA.nil)))) (SI.len (SL.v 0)), SB.v 1,
          SB.le (SI.c (Int.ofNat 1)) (SI.v 0), SB.le (SI.v 0) (SI.c (Int.ofNat 8)), SB.eq (SI.len (SL.v 0)) (SI.v 0),
          SB.eq (SI.len (SL.v 2)) (SI.c (Int.ofNat 64)), SB.le (SI.c (Int.ofNat 0)) (SI.v 2),
          SB.le (SI.v 2) (SI.c (Int.ofNat 100)), SB.le (SI.c (Int.ofNat 0)) (SI.v 1),
          SB.le (SI.v 1) (SI.c (Int.ofNat 10000)), SB.c true, SB.le (SI.c (Int.ofNat 0)) (SI.v 14),
          SB.le (SI.v 14) (SI.c (Int.ofNat 63)),
          SB.app 130 (SA.l (SL.v 0) (SA.l (SL.v 1) (SA.i (SI.c (Int.ofNat 4)) SA.nil))),
          SB.app 134 (SA.l (SL.v 0) (SA.l (SL.v 2) SA.nil)), SB.eq (SI.v 1) (SI.app 104 (SA.l (SL.v 0) SA.nil)),
          SB.and (SB.c true) (SB.or (SB.v 1) (SB.not (SB.v 1)))],
      eqs := [Eqn.T (SB.app 199 SA.nil)] },
    {
      pc :=
        [SB.not (SB.eq (SI.sel (SL.v 2) (SI.v 14) 0) (SI.c (Int.ofNat 0))),
          SB.app 131 (SA.l (SL.v 0) (SA.i (SI.v 14) SA.nil)),
          SB.app 130
            (SA.l (SL.app 112 (SA.l (SL.v 0) (SA.i (SI.v 14) SA.nil)))
              (SA.l (SL.v 1000) (SA.i (SI.c (Int.ofNat 4)) SA.nil))),
          SB.eq (SI.len (SL.app 112 (SA.l (SL.v 0) (SA.i (SI.v 14) SA.nil)))) (SI.len (SL.v 0)), SB.v 1,
          SB.le (SI.c (Int.ofNat 1)) (SI.v 0), SB.le (SI.v 0) (SI.c (Int.ofNat 8)), SB.eq (SI.len (SL.v 0)) (SI.v 0),
          SB.eq (SI.len (SL.v 2)) (SI.c (Int.ofNat 64)), SB.le (SI.c (Int.ofNat 0)) (SI.v 2),
          SB.le (SI.v 2) (SI.c (Int.ofNat 100)), SB.le (SI.c (Int.ofNat 0)) (SI.v 1),
          SB.le (SI.v 1) (SI.c (Int.ofNat 10000)), SB.c true, SB.le (SI.c (Int.ofNat 0)) (SI.v 14),
          SB.le (SI.v 14) (SI.c (Int.ofNat 63)),
          SB.app 130 (SA.l (SL.v 0) (SA.l (SL.v 1) (SA.i (SI.c (Int.ofNat 4)) SA.nil))),
          SB.app 134 (SA.l (SL.v 0) (SA.l (SL.v 2) SA.nil)), SB.eq (SI.v 1) (SI.app 104 (SA.l (SL.v 0) SA.nil)),
          SB.and (SB.c true) (SB.or (SB.v 1) (SB.not (SB.v 1)))],
      eqs :=
        [Eqn.T (SB.le (SI.c (Int.ofNat 0)) (SI.sub (SI.v 1) (SI.c (Int.ofNat 1)))),
          Eqn.T
            (SB.app 134
              (SA.l (SL.app 112 (SA.l (SL.v 0) (SA.i (SI.v 14) SA.nil)))
                (SA.l
                  (SL.app 4
                    (SA.l (SL.v 2) (SA.i (SI.v 14) (SA.i (SI.c (Int.ofNat 0)) (SA.i (SI.c (Int.ofNat 0)) SA.nil)))))
                  SA.nil))),
          Eqn.T
            (SB.eq (SI.sub (SI.v 1) (SI.c (Int.ofNat 1)))
              (SI.app 104 (SA.l (SL.app 112 (SA.l (SL.v 0) (SA.i (SI.v 14) SA.nil))) SA.nil)))] },
    {
      pc :=
        [SB.eq (SI.sel (SL.v 2) (SI.v 14) 0) (SI.c (Int.ofNat 0)),
          SB.not (SB.app 131 (SA.l (SL.v 0) (SA.i (SI.v 14) SA.nil))),
          SB.app 130
            (SA.l (SL.app 112 (SA.l (SL.v 0) (SA.i (SI.v 14) SA.nil)))
              (SA.l (SL.v 1000) (SA.i (SI.c (Int.ofNat 4)) SA.nil))),
          SB.eq (SI.len (SL.app 112 (SA.l (SL.v 0) (SA.i (SI.v 14) SA.nil)))) (SI.len (SL.v 0)), SB.v 1,
          SB.le (SI.c (Int.ofNat 1)) (SI.v 0), SB.le (SI.v 0) (SI.c (Int.ofNat 8)), SB.eq (SI.len (SL.v 0)) (SI.v 0),
          SB.eq (SI.len (SL.v 2)) (SI.c (Int.ofNat 64)), SB.le (SI.c (Int.ofNat 0)) (SI.v 2),
          SB.le (SI.v 2) (SI.c (Int.ofNat 100)), SB.le (SI.c (Int.ofNat 0)) (SI.v 1),
          SB.le (SI.v 1) (SI.c (Int.ofNat 10000)), SB.c true, SB.le (SI.c (Int.ofNat 0)) (SI.v 14),
          SB.le (SI.v 14) (SI.c (Int.ofNat 63)),
          SB.app 130 (SA.l (SL.v 0) (SA.l (SL.v 1) (SA.i (SI.c (Int.ofNat 4)) SA.nil))),
          SB.app 134 (SA.l (SL.v 0) (SA.l (SL.v 2) SA.nil)), SB.eq (SI.v 1) (SI.app 104 (SA.l (SL.v 0) SA.nil)),
          SB.and (SB.c true) (SB.or (SB.v 1) (SB.not (SB.v 1)))],
      eqs :=
        [Eqn.T
            (SB.app 134
              (SA.l (SL.app 112 (SA.l (SL.v 0) (SA.i (SI.v 14) SA.nil)))
                (SA.l
                  (SL.app 4
                    (SA.l (SL.v 2) (SA.i (SI.v 14) (SA.i (SI.c (Int.ofNat 0)) (SA.i (SI.c (Int.ofNat 0)) SA.nil)))))
                  SA.nil))),
          Eqn.T (SB.eq (SI.v 1) (SI.app 104 (SA.l (SL.app 112 (SA.l (SL.v 0) (SA.i (SI.v 14) SA.nil))) SA.nil)))] },
    {
      pc :=
        [SB.not (SB.eq (SI.sel (SL.v 2) (SI.v 14) 0) (SI.c (Int.ofNat 0))),
          SB.not (SB.app 131 (SA.l (SL.v 0) (SA.i (SI.v 14) SA.nil))),
          SB.app 130
            (SA.l (SL.app 112 (SA.l (SL.v 0) (SA.i (SI.v 14) SA.nil)))
              (SA.l (SL.v 1000) (SA.i (SI.c (Int.ofNat 4)) SA.nil))),
          SB.eq (SI.len (SL.app 112 (SA.l (SL.v 0) (SA.i (SI.v 14) SA.nil)))) (SI.len (SL.v 0)), SB.v 1,
          SB.le (SI.c (Int.ofNat 1)) (SI.v 0), SB.le (SI.v 0) (SI.c (Int.ofNat 8)), SB.eq (SI.len (SL.v 0)) (SI.v 0),
          SB.eq (SI.len (SL.v 2)) (SI.c (Int.ofNat 64)), SB.le (SI.c (Int.ofNat 0)) (SI.v 2),
          SB.le (SI.v 2) (SI.c (Int.ofNat 100)), SB.le (SI.c (Int.ofNat 0)) (SI.v 1),
          SB.le (SI.v 1) (SI.c (Int.ofNat 10000)), SB.c true, SB.le (SI.c (Int.ofNat 0)) (SI.v 14),
          SB.le (SI.v 14) (SI.c (Int.ofNat 63)),
          SB.app 130 (SA.l (SL.v 0) (SA.l (SL.v 1) (SA.i (SI.c (Int.ofNat 4)) SA.nil))),
          SB.app 134 (SA.l (SL.v 0) (SA.l (SL.v 2) SA.nil)), SB.eq (SI.v 1) (SI.app 104 (SA.l (SL.v 0) SA.nil)),
          SB.and (SB.c true) (SB.or (SB.v 1) (SB.not (SB.v 1)))],
      eqs := [Eqn.T (SB.app 199 SA.nil)] }] := by kernel_rfl
theorem on25_ok : on25.ok Φ Try.prog := by
  refine ⟨by kernel_rfl, part_rule (fun ρ => t10_ok ρ) (loopAt_sub (by kernel_rfl)) on25_obs ?_⟩
  simp only [and_imp, List.forall_mem_cons, List.not_mem_nil, false_implies, implies_true, and_true, Ob.ok, holds, Eqn.ok, evB_eq, evB_lt, evB_le, evB_not, evB_and, evB_or, evB_eqL, evB_app, evB_v, evB_c, ev_sel, ev_len, ev_v, ev_c, ev_add, ev_sub, ev_mul, ev_quo, ev_rem, ev_bits, ev_wrap, evL_v, evL_lit, evL_app, ev_app, evA_l, evA_i, evA_nil, std_min, std_max, std_cat, std_take, std_drop, std_row, std_set, std_rep, std_find, std_put, std_del, std_flag, std_unflag, std_clr, std_left, std_copy, ints_cons, ints_nil, ofNat_lit, negSucc_lit, decide_eq_true_eq, Bool.and_eq_true, Bool.or_eq_true, Bool.not_eq_true', Bool.and_eq_false_iff, Bool.or_eq_false_iff, decide_eq_false_iff_not, std_rowT, std_setT, lenR_rowT, rowT_get, aI100, aI101, aI102, aI103, aI104, aI105, aI106, aI107, aI110, aI111, aI112, aI113, aI114, aL110, aL111, aL112, aL113, aL115, aL116, aL120, aL121, aB130, aB131, aB132, aB133, aB134, aB135, aB136, aB199, Bool.not_eq_false']
  repeat' apply And.intro
  all_goals intro ρ hR
  all_goals intros
  all_goals first
    | (have hi : inB (ρ.l 0) (ρ.l 2) = true := by with_reducible assumption
       have h64 : ((ρ.l 2).length : Int) = 64 := by omega
       have hr : ∀ r ∈ ρ.l 2, okRow [.b] r := hR.row 5 rfl rfl
       have hv : invB (ρ.l 0) (ρ.l 1) 4 = true := by with_reducible assumption
       have hn := (inv_iff.1 hv).2.1
       have hT : 1 ≤ ((ρ.l 0).length : Int) := by omega
       have hk : hasB (ρ.l 0) (ρ.i 14) = true := by with_reducible assumption
       obtain ⟨p1, p2, p3, p4, p5, p6⟩ := in_cut hi h64 hr (drop_flat hk) hn
       exact ⟨by have := total_eq (ρ.l 0); have := total_eq (dropT (ρ.l 0) (ρ.i 14)); omega, p1, by omega⟩)
    | (have hi : inB (ρ.l 0) (ρ.l 2) = true := by with_reducible assumption
       have h64 : ((ρ.l 2).length : Int) = 64 := by omega
       have hr : ∀ r ∈ ρ.l 2, okRow [.b] r := hR.row 5 rfl rfl
       have hv : invB (ρ.l 0) (ρ.l 1) 4 = true := by with_reducible assumption
       have hn := (inv_iff.1 hv).2.1
       have hT : 1 ≤ ((ρ.l 0).length : Int) := by omega
       have hk : hasB (ρ.l 0) (ρ.i 14) = true := by with_reducible assumption
       obtain ⟨p1, p2, p3, p4, p5, p6⟩ := in_cut hi h64 hr (drop_flat hk) hn
       exfalso
       omega)
    | (have hi : inB (ρ.l 0) (ρ.l 2) = true := by with_reducible assumption
       have h64 : ((ρ.l 2).length : Int) = 64 := by omega
       have hr : ∀ r ∈ ρ.l 2, okRow [.b] r := hR.row 5 rfl rfl
       have hv : invB (ρ.l 0) (ρ.l 1) 4 = true := by with_reducible assumption
       have hn := (inv_iff.1 hv).2.1
       have hT : 1 ≤ ((ρ.l 0).length : Int) := by omega
       rw [drop_not (by with_reducible assumption)]
       exact ⟨in_same hi h64 hr (by omega) (by omega) (by with_reducible assumption), by omega⟩)
    | (have hi : inB (ρ.l 0) (ρ.l 2) = true := by with_reducible assumption
       have h64 : ((ρ.l 2).length : Int) = 64 := by omega
       have hr : ∀ r ∈ ρ.l 2, okRow [.b] r := hR.row 5 rfl rfl
       have hv : invB (ρ.l 0) (ρ.l 1) 4 = true := by with_reducible assumption
       have hn := (inv_iff.1 hv).2.1
       have hT : 1 ≤ ((ρ.l 0).length : Int) := by omega
       have e := in_at hi (x := ρ.i 14) (by omega) (by omega)
       have z := in_01 hr h64 (x := ρ.i 14) (by omega) (by omega)
       exfalso
       have h := ‹hasB _ (ρ.i 14) = false›
       rw [h] at e
       rcases z with z | z
       · omega
       · have := e.1 z
         cases this)
set_option maxRecDepth 100000 in
theorem on31_obs : partObs Φ Try.prog t10 1000 on31.f (loopAt Try.prog on31.f on31.id) on31.n on31.T on31.outs = some
  [{
      pc :=
        [SB.app 130 (SA.l (SL.app 113 (SA.l (SL.v 0) SA.nil)) (SA.l (SL.v 1000) (SA.i (SI.c (Int.ofNat 4)) SA.nil))),
          SB.eq (SI.len (SL.app 113 (SA.l (SL.v 0) SA.nil))) (SI.len (SL.v 0)), SB.v 1,
          SB.le (SI.c (Int.ofNat 1)) (SI.v 0), SB.le (SI.v 0) (SI.c (Int.ofNat 8)), SB.eq (SI.len (SL.v 0)) (SI.v 0),
          SB.eq (SI.len (SL.v 2)) (SI.c (Int.ofNat 64)), SB.le (SI.c (Int.ofNat 0)) (SI.v 2),
          SB.le (SI.v 2) (SI.c (Int.ofNat 100)), SB.le (SI.c (Int.ofNat 0)) (SI.v 1),
          SB.le (SI.v 1) (SI.c (Int.ofNat 10000)), SB.c true, SB.le (SI.c (Int.ofNat 0)) (SI.v 14),
          SB.le (SI.v 14) (SI.c (Int.ofNat 63)),
          SB.app 130 (SA.l (SL.v 0) (SA.l (SL.v 1) (SA.i (SI.c (Int.ofNat 4)) SA.nil))),
          SB.app 134 (SA.l (SL.v 0) (SA.l (SL.v 2) SA.nil)), SB.eq (SI.v 1) (SI.app 104 (SA.l (SL.v 0) SA.nil)),
          SB.and (SB.c true) (SB.or (SB.v 1) (SB.not (SB.v 1)))],
      eqs :=
        [Eqn.T (SB.app 134 (SA.l (SL.app 113 (SA.l (SL.v 0) SA.nil)) (SA.l (SL.v 2) SA.nil))),
          Eqn.T (SB.eq (SI.v 1) (SI.app 104 (SA.l (SL.app 113 (SA.l (SL.v 0) SA.nil)) SA.nil)))] }] := by kernel_rfl
theorem on31_ok : on31.ok Φ Try.prog := by
  refine ⟨by kernel_rfl, part_rule (fun ρ => t10_ok ρ) (loopAt_sub (by kernel_rfl)) on31_obs ?_⟩
  simp only [and_imp, List.forall_mem_cons, List.not_mem_nil, false_implies, implies_true, and_true, Ob.ok, holds, Eqn.ok, evB_eq, evB_lt, evB_le, evB_not, evB_and, evB_or, evB_eqL, evB_app, evB_v, evB_c, ev_sel, ev_len, ev_v, ev_c, ev_add, ev_sub, ev_mul, ev_quo, ev_rem, ev_bits, ev_wrap, evL_v, evL_lit, evL_app, ev_app, evA_l, evA_i, evA_nil, std_min, std_max, std_cat, std_take, std_drop, std_row, std_set, std_rep, std_find, std_put, std_del, std_flag, std_unflag, std_clr, std_left, std_copy, ints_cons, ints_nil, ofNat_lit, negSucc_lit, decide_eq_true_eq, Bool.and_eq_true, Bool.or_eq_true, Bool.not_eq_true', Bool.and_eq_false_iff, Bool.or_eq_false_iff, decide_eq_false_iff_not, std_rowT, std_setT, lenR_rowT, rowT_get, aI100, aI101, aI102, aI103, aI104, aI105, aI106, aI107, aI110, aI111, aI112, aI113, aI114, aL110, aL111, aL112, aL113, aL115, aL116, aL120, aL121, aB130, aB131, aB132, aB133, aB134, aB135, aB136, aB199, Bool.not_eq_false']
  repeat' apply And.intro
  all_goals intro ρ hR
  all_goals intros
  all_goals first
    | (have hi : inB (ρ.l 0) (ρ.l 2) = true := by with_reducible assumption
       have h64 : ((ρ.l 2).length : Int) = 64 := by omega
       have hr : ∀ r ∈ ρ.l 2, okRow [.b] r := hR.row 5 rfl rfl
       have hv : invB (ρ.l 0) (ρ.l 1) 4 = true := by with_reducible assumption
       have hn := (inv_iff.1 hv).2.1
       have hT : 1 ≤ ((ρ.l 0).length : Int) := by omega
       have hp := total_perm (even_flat hT)
       exact ⟨in_even hi hT, by omega⟩)
theorem u1_ok (ρ : Env) : TblOK Φ ρ Try.prog u1 := addLp_ok (addLp_ok (addLp_ok (addLp_ok (t10_ok ρ) on13_ok) on18_ok) on25_ok) on31_ok
set_option maxRecDepth 100000 in
theorem on1_obs : loopObs Φ Try.prog u1 1000 on1.f (loopAt Try.prog on1.f on1.id) on1.n on1.T k5 on1.outs = some
  [{
      pc :=
        [SB.eq (SI.sub (SI.v 5000) (SI.app 105 (SA.l (SL.v 5001) (SA.i (SI.c (Int.ofNat 0)) SA.nil))))
            (SI.c (Int.ofNat 0)),
          SB.eq (SI.v 5000) (SI.app 104 (SA.l (SL.v 5001) SA.nil)),
          SB.app 134 (SA.l (SL.v 5001) (SA.l (SL.v 5002) SA.nil)),
          SB.app 130 (SA.l (SL.v 5001) (SA.l (SL.v 5000) (SA.i (SI.c (Int.ofNat 4)) SA.nil))),
          SB.le (SI.v 5000) (SI.c (Int.ofNat 10000)), SB.le (SI.c (Int.ofNat 0)) (SI.v 5000),
          SB.eq (SI.len (SL.v 5002)) (SI.c (Int.ofNat 64)), SB.eq (SI.len (SL.v 5001)) (SI.v 0),
          SB.eq (SI.v 4000) (SI.app 104 (SA.l (SL.v 4001) SA.nil)),
          SB.app 134 (SA.l (SL.v 4001) (SA.l (SL.v 4002) SA.nil)),
          SB.app 130 (SA.l (SL.v 4001) (SA.l (SL.v 4000) (SA.i (SI.c (Int.ofNat 4)) SA.nil))),
          SB.le (SI.v 4000) (SI.c (Int.ofNat 10000)), SB.le (SI.c (Int.ofNat 0)) (SI.v 4000),
          SB.eq (SI.len (SL.v 4002)) (SI.c (Int.ofNat 64)), SB.eq (SI.len (SL.v 4001)) (SI.v 0),
          SB.eq (SI.v 3000) (SI.app 104 (SA.l (SL.v 3001) SA.nil)),
          SB.app 134 (SA.l (SL.v 3001) (SA.l (SL.v 3002) SA.nil)),
          SB.app 130 (SA.l (SL.v 3001) (SA.l (SL.v 3000) (SA.i (SI.c (Int.ofNat 4)) SA.nil))),
          SB.le (SI.v 3000) (SI.c (Int.ofNat 10000)), SB.le (SI.c (Int.ofNat 0)) (SI.v 3000),
          SB.eq (SI.len (SL.v 3002)) (SI.c (Int.ofNat 64)), SB.eq (SI.len (SL.v 3001)) (SI.v 0),
          SB.eq (SI.v 2000) (SI.app 104 (SA.l (SL.v 2001) SA.nil)),
          SB.app 134 (SA.l (SL.v 2001) (SA.l (SL.v 2002) SA.nil)),
          SB.app 130 (SA.l (SL.v 2001) (SA.l (SL.v 2000) (SA.i (SI.c (Int.ofNat 4)) SA.nil))),
          SB.le (SI.v 2000) (SI.c (Int.ofNat 10000)), SB.le (SI.c (Int.ofNat 0)) (SI.v 2000),
          SB.eq (SI.len (SL.v 2002)) (SI.c (Int.ofNat 64)), SB.eq (SI.len (SL.v 2001)) (SI.v 0),
          SB.le (SI.c (Int.ofNat 0)) (SI.bits BinOp.and IntKind.i64 (SI.sel (SL.v 9) (SI.v 2) 2) (SI.c (Int.ofNat 63))),
          SB.le (SI.bits BinOp.and IntKind.i64 (SI.sel (SL.v 9) (SI.v 2) 2) (SI.c (Int.ofNat 63)))
            (SI.c (Int.ofNat 63)),
          SB.or
            (SB.and
              (SB.eq
                (SI.app 110
                  (SA.l (SL.v 0)
                    (SA.i (SI.sel (SL.v 9) (SI.v 2) 1)
                      (SA.i (SI.bits BinOp.and IntKind.i64 (SI.sel (SL.v 9) (SI.v 2) 2) (SI.c (Int.ofNat 63)))
                        (SA.i (SI.c (Int.ofNat 4)) SA.nil)))))
                (SI.c (Int.ofNat 0)))
              (SB.app 136
                (SA.l
                  (SL.app 110
                    (SA.l (SL.v 0)
                      (SA.i (SI.sel (SL.v 9) (SI.v 2) 1)
                        (SA.i (SI.bits BinOp.and IntKind.i64 (SI.sel (SL.v 9) (SI.v 2) 2) (SI.c (Int.ofNat 63)))
                          (SA.i (SI.c (Int.ofNat 4)) SA.nil)))))
                  (SA.l (SL.v 2)
                    (SA.i (SI.bits BinOp.and IntKind.i64 (SI.sel (SL.v 9) (SI.v 2) 2) (SI.c (Int.ofNat 63)))
                      (SA.i (SI.v 1) SA.nil))))))
            (SB.and
              (SB.not
                (SB.eq
                  (SI.app 110
                    (SA.l (SL.v 0)
                      (SA.i (SI.sel (SL.v 9) (SI.v 2) 1)
                        (SA.i (SI.bits BinOp.and IntKind.i64 (SI.sel (SL.v 9) (SI.v 2) 2) (SI.c (Int.ofNat 63)))
                          (SA.i (SI.c (Int.ofNat 4)) SA.nil)))))
                  (SI.c (Int.ofNat 0))))
              (SB.and
                (SB.app 134
                  (SA.l
                    (SL.app 110
                      (SA.l (SL.v 0)
                        (SA.i (SI.sel (SL.v 9) (SI.v 2) 1)
                          (SA.i (SI.bits BinOp.and IntKind.i64 (SI.sel (SL.v 9) (SI.v 2) 2) (SI.c (Int.ofNat 63)))
                            (SA.i (SI.c (Int.ofNat 4)) SA.nil)))))
                    (SA.l (SL.v 2) SA.nil)))
                (SB.eq (SI.v 1)
                  (SI.app 104
                    (SA.l
                      (SL.app 110
                        (SA.l (SL.v 0)
                          (SA.i (SI.sel (SL.v 9) (SI.v 2) 1)
                            (SA.i (SI.bits BinOp.and IntKind.i64 (SI.sel (SL.v 9) (SI.v 2) 2) (SI.c (Int.ofNat 63)))
                              (SA.i (SI.c (Int.ofNat 4)) SA.nil)))))
                      SA.nil))))),
          SB.app 130
            (SA.l
              (SL.app 110
                (SA.l (SL.v 0)
                  (SA.i (SI.sel (SL.v 9) (SI.v 2) 1)
                    (SA.i (SI.bits BinOp.and IntKind.i64 (SI.sel (SL.v 9) (SI.v 2) 2) (SI.c (Int.ofNat 63)))
                      (SA.i (SI.c (Int.ofNat 4)) SA.nil)))))
              (SA.l (SL.v 1000) (SA.i (SI.c (Int.ofNat 4)) SA.nil))),
          SB.eq
            (SI.len
              (SL.app 110
                (SA.l (SL.v 0)
                  (SA.i (SI.sel (SL.v 9) (SI.v 2) 1)
                    (SA.i (SI.bits BinOp.and IntKind.i64 (SI.sel (SL.v 9) (SI.v 2) 2) (SI.c (Int.ofNat 63)))
                      (SA.i (SI.c (Int.ofNat 4)) SA.nil))))))
            (SI.len (SL.v 0)),
          SB.eq (SI.sel (SL.v 9) (SI.v 2) 0) (SI.c (Int.ofNat 0)), SB.lt (SI.v 2) (SI.c (Int.ofNat 100)),
          SB.lt (SI.v 2) (SI.len (SL.v 9)), SB.le (SI.c (Int.ofNat 1)) (SI.v 0), SB.le (SI.v 0) (SI.c (Int.ofNat 8)),
          SB.eq (SI.len (SL.v 0)) (SI.v 0), SB.eq (SI.len (SL.v 2)) (SI.c (Int.ofNat 64)),
          SB.le (SI.c (Int.ofNat 0)) (SI.v 2), SB.le (SI.v 2) (SI.c (Int.ofNat 100)),
          SB.le (SI.c (Int.ofNat 0)) (SI.v 1), SB.le (SI.v 1) (SI.c (Int.ofNat 10000)), SB.c true,
          SB.app 130 (SA.l (SL.v 0) (SA.l (SL.v 1) (SA.i (SI.c (Int.ofNat 4)) SA.nil))),
          SB.app 134 (SA.l (SL.v 0) (SA.l (SL.v 2) SA.nil)), SB.eq (SI.v 1) (SI.app 104 (SA.l (SL.v 0) SA.nil))],
      eqs :=
        [Eqn.T
            (SB.lt (SI.sub (SI.c (Int.ofNat 100)) (SI.add (SI.v 2) (SI.c (Int.ofNat 1))))
              (SI.sub (SI.c (Int.ofNat 100)) (SI.v 2)))] },
    {
      pc :=
        [SB.not
            (SB.eq (SI.sub (SI.v 5000) (SI.app 105 (SA.l (SL.v 5001) (SA.i (SI.c (Int.ofNat 0)) SA.nil))))
              (SI.c (Int.ofNat 0))),
          SB.eq (SI.v 5000) (SI.app 104 (SA.l (SL.v 5001) SA.nil)),
          SB.app 134 (SA.l (SL.v 5001) (SA.l (SL.v 5002) SA.nil)),
          SB.app 130 (SA.l (SL.v 5001) (SA.l (SL.v 5000) (SA.i (SI.c (Int.ofNat 4)) SA.nil))),
          SB.le (SI.v 5000) (SI.c (Int.ofNat 10000)), SB.le (SI.c (Int.ofNat 0)) (SI.v 5000),
          SB.eq (SI.len (SL.v 5002)) (SI.c (Int.ofNat 64)), SB.eq (SI.len (SL.v 5001)) (SI.v 0),
          SB.eq (SI.v 4000) (SI.app 104 (SA.l (SL.v 4001) SA.nil)),
          SB.app 134 (SA.l (SL.v 4001) (SA.l (SL.v 4002) SA.nil)),
          SB.app 130 (SA.l (SL.v 4001) (SA.l (SL.v 4000) (SA.i (SI.c (Int.ofNat 4)) SA.nil))),
          SB.le (SI.v 4000) (SI.c (Int.ofNat 10000)), SB.le (SI.c (Int.ofNat 0)) (SI.v 4000),
          SB.eq (SI.len (SL.v 4002)) (SI.c (Int.ofNat 64)), SB.eq (SI.len (SL.v 4001)) (SI.v 0),
          SB.eq (SI.v 3000) (SI.app 104 (SA.l (SL.v 3001) SA.nil)),
          SB.app 134 (SA.l (SL.v 3001) (SA.l (SL.v 3002) SA.nil)),
          SB.app 130 (SA.l (SL.v 3001) (SA.l (SL.v 3000) (SA.i (SI.c (Int.ofNat 4)) SA.nil))),
          SB.le (SI.v 3000) (SI.c (Int.ofNat 10000)), SB.le (SI.c (Int.ofNat 0)) (SI.v 3000),
          SB.eq (SI.len (SL.v 3002)) (SI.c (Int.ofNat 64)), SB.eq (SI.len (SL.v 3001)) (SI.v 0),
          SB.eq (SI.v 2000) (SI.app 104 (SA.l (SL.v 2001) SA.nil)),
          SB.app 134 (SA.l (SL.v 2001) (SA.l (SL.v 2002) SA.nil)),
          SB.app 130 (SA.l (SL.v 2001) (SA.l (SL.v 2000) (SA.i (SI.c (Int.ofNat 4)) SA.nil))),
          SB.le (SI.v 2000) (SI.c (Int.ofNat 10000)), SB.le (SI.c (Int.ofNat 0)) (SI.v 2000),
          SB.eq (SI.len (SL.v 2002)) (SI.c (Int.ofNat 64)), SB.eq (SI.len (SL.v 2001)) (SI.v 0),
          SB.le (SI.c (Int.ofNat 0)) (SI.bits BinOp.and IntKind.i64 (SI.sel (SL.v 9) (SI.v 2) 2) (SI.c (Int.ofNat 63))),
          SB.le (SI.bits BinOp.and IntKind.i64 (SI.sel (SL.v 9) (SI.v 2) 2) (SI.c (Int.ofNat 63)))
            (SI.c (Int.ofNat 63)),
          SB.or
            (SB.and
              (SB.eq
                (SI.app 110
                  (SA.l (SL.v 0)
                    (SA.i (SI.sel (SL.v 9) (SI.v 2) 1)
                      (SA.i (SI.bits BinOp.and IntKind.i64 (SI.sel (SL.v 9) (SI.v 2) 2) (SI.c (Int.ofNat 63)))
                        (SA.i (SI.c (Int.ofNat 4)) SA.nil)))))
                (SI.c (Int.ofNat 0)))
              (SB.app 136
                (SA.l
                  (SL.app 110
                    (SA.l (SL.v 0)
                      (SA.i (SI.sel (SL.v 9) (SI.v 2) 1)
                        (SA.i (SI.bits BinOp.and IntKind.i64 (SI.sel (SL.v 9) (SI.v 2) 2) (SI.c (Int.ofNat 63)))
                          (SA.i (SI.c (Int.ofNat 4)) SA.nil)))))
                  (SA.l (SL.v 2)
                    (SA.i (SI.bits BinOp.and IntKind.i64 (SI.sel (SL.v 9) (SI.v 2) 2) (SI.c (Int.ofNat 63)))
                      (SA.i (SI.v 1) SA.nil))))))
            (SB.and
              (SB.not
                (SB.eq
                  (SI.app 110
                    (SA.l (SL.v 0)
                      (SA.i (SI.sel (SL.v 9) (SI.v 2) 1)
                        (SA.i (SI.bits BinOp.and IntKind.i64 (SI.sel (SL.v 9) (SI.v 2) 2) (SI.c (Int.ofNat 63)))
                          (SA.i (SI.c (Int.ofNat 4)) SA.nil)))))
                  (SI.c (Int.ofNat 0))))
              (SB.and
                (SB.app 134
                  (SA.l
                    (SL.app 110
                      (SA.l (SL.v 0)
                        (SA.i (SI.sel (SL.v 9) (SI.v 2) 1)
                          (SA.i (SI.bits BinOp.and IntKind.i64 (SI.sel (SL.v 9) (SI.v 2) 2) (SI.c (Int.ofNat 63)))
                            (SA.i (SI.c (Int.ofNat 4)) SA.nil)))))
                    (SA.l (SL.v 2) SA.nil)))
                (SB.eq (SI.v 1)
                  (SI.app 104
                    (SA.l
                      (SL.app 110
                        (SA.l (SL.v 0)
                          (SA.i (SI.sel (SL.v 9) (SI.v 2) 1)
                            (SA.i (SI.bits BinOp.and IntKind.i64 (SI.sel (SL.v 9) (SI.v 2) 2) (SI.c (Int.ofNat 63)))
                              (SA.i (SI.c (Int.ofNat 4)) SA.nil)))))
                      SA.nil))))),
          SB.app 130
            (SA.l
              (SL.app 110
                (SA.l (SL.v 0)
                  (SA.i (SI.sel (SL.v 9) (SI.v 2) 1)
                    (SA.i (SI.bits BinOp.and IntKind.i64 (SI.sel (SL.v 9) (SI.v 2) 2) (SI.c (Int.ofNat 63)))
                      (SA.i (SI.c (Int.ofNat 4)) SA.nil)))))
              (SA.l (SL.v 1000) (SA.i (SI.c (Int.ofNat 4)) SA.nil))),
          SB.eq
            (SI.len
              (SL.app 110
                (SA.l (SL.v 0)
                  (SA.i (SI.sel (SL.v 9) (SI.v 2) 1)
                    (SA.i (SI.bits BinOp.and IntKind.i64 (SI.sel (SL.v 9) (SI.v 2) 2) (SI.c (Int.ofNat 63)))
                      (SA.i (SI.c (Int.ofNat 4)) SA.nil))))))
            (SI.len (SL.v 0)),
          SB.eq (SI.sel (SL.v 9) (SI.v 2) 0) (SI.c (Int.ofNat 0)), SB.lt (SI.v 2) (SI.c (Int.ofNat 100)),
          SB.lt (SI.v 2) (SI.len (SL.v 9)), SB.le (SI.c (Int.ofNat 1)) (SI.v 0), SB.le (SI.v 0) (SI.c (Int.ofNat 8)),
          SB.eq (SI.len (SL.v 0)) (SI.v 0), SB.eq (SI.len (SL.v 2)) (SI.c (Int.ofNat 64)),
          SB.le (SI.c (Int.ofNat 0)) (SI.v 2), SB.le (SI.v 2) (SI.c (Int.ofNat 100)),
          SB.le (SI.c (Int.ofNat 0)) (SI.v 1), SB.le (SI.v 1) (SI.c (Int.ofNat 10000)), SB.c true,
          SB.app 130 (SA.l (SL.v 0) (SA.l (SL.v 1) (SA.i (SI.c (Int.ofNat 4)) SA.nil))),
          SB.app 134 (SA.l (SL.v 0) (SA.l (SL.v 2) SA.nil)), SB.eq (SI.v 1) (SI.app 104 (SA.l (SL.v 0) SA.nil))],
      eqs := [Eqn.T (SB.c false)] },
    {
      pc :=
        [SB.not
            (SB.le (SI.c (Int.ofNat 0))
              (SI.bits BinOp.and IntKind.i64 (SI.sel (SL.v 9) (SI.v 2) 2) (SI.c (Int.ofNat 63)))),
          SB.app 130
            (SA.l
              (SL.app 110
                (SA.l (SL.v 0)
                  (SA.i (SI.sel (SL.v 9) (SI.v 2) 1)
                    (SA.i (SI.bits BinOp.and IntKind.i64 (SI.sel (SL.v 9) (SI.v 2) 2) (SI.c (Int.ofNat 63)))
                      (SA.i (SI.c (Int.ofNat 4)) SA.nil)))))
              (SA.l (SL.v 1000) (SA.i (SI.c (Int.ofNat 4)) SA.nil))),
          SB.eq
            (SI.len
              (SL.app 110
                (SA.l (SL.v 0)
                  (SA.i (SI.sel (SL.v 9) (SI.v 2) 1)
                    (SA.i (SI.bits BinOp.and IntKind.i64 (SI.sel (SL.v 9) (SI.v 2) 2) (SI.c (Int.ofNat 63)))
                      (SA.i (SI.c (Int.ofNat 4)) SA.nil))))))
            (SI.len (SL.v 0)),
          SB.eq (SI.sel (SL.v 9) (SI.v 2) 0) (SI.c (Int.ofNat 0)), SB.lt (SI.v 2) (SI.c (Int.ofNat 100)),
          SB.lt (SI.v 2) (SI.len (SL.v 9)), SB.le (SI.c (Int.ofNat 1)) (SI.v 0), SB.le (SI.v 0) (SI.c (Int.ofNat 8)),
          SB.eq (SI.len (SL.v 0)) (SI.v 0), SB.eq (SI.len (SL.v 2)) (SI.c (Int.ofNat 64)),
          SB.le (SI.c (Int.ofNat 0)) (SI.v 2), SB.le (SI.v 2) (SI.c (Int.ofNat 100)),
          SB.le (SI.c (Int.ofNat 0)) (SI.v 1), SB.le (SI.v 1) (SI.c (Int.ofNat 10000)), SB.c true,
          SB.app 130 (SA.l (SL.v 0) (SA.l (SL.v 1) (SA.i (SI.c (Int.ofNat 4)) SA.nil))),
          SB.app 134 (SA.l (SL.v 0) (SA.l (SL.v 2) SA.nil)), SB.eq (SI.v 1) (SI.app 104 (SA.l (SL.v 0) SA.nil))],
      eqs := [Eqn.T (SB.c false)] },
    {
      pc :=
        [SB.not
            (SB.le (SI.bits BinOp.and IntKind.i64 (SI.sel (SL.v 9) (SI.v 2) 2) (SI.c (Int.ofNat 63)))
              (SI.c (Int.ofNat 63))),
          SB.app 130
            (SA.l
              (SL.app 110
                (SA.l (SL.v 0)
                  (SA.i (SI.sel (SL.v 9) (SI.v 2) 1)
                    (SA.i (SI.bits BinOp.and IntKind.i64 (SI.sel (SL.v 9) (SI.v 2) 2) (SI.c (Int.ofNat 63)))
                      (SA.i (SI.c (Int.ofNat 4)) SA.nil)))))
              (SA.l (SL.v 1000) (SA.i (SI.c (Int.ofNat 4)) SA.nil))),
          SB.eq
            (SI.len
              (SL.app 110
                (SA.l (SL.v 0)
                  (SA.i (SI.sel (SL.v 9) (SI.v 2) 1)
                    (SA.i (SI.bits BinOp.and IntKind.i64 (SI.sel (SL.v 9) (SI.v 2) 2) (SI.c (Int.ofNat 63)))
                      (SA.i (SI.c (Int.ofNat 4)) SA.nil))))))
            (SI.len (SL.v 0)),
          SB.eq (SI.sel (SL.v 9) (SI.v 2) 0) (SI.c (Int.ofNat 0)), SB.lt (SI.v 2) (SI.c (Int.ofNat 100)),
          SB.lt (SI.v 2) (SI.len (SL.v 9)), SB.le (SI.c (Int.ofNat 1)) (SI.v 0), SB.le (SI.v 0) (SI.c (Int.ofNat 8)),
          SB.eq (SI.len (SL.v 0)) (SI.v 0), SB.eq (SI.len (SL.v 2)) (SI.c (Int.ofNat 64)),
          SB.le (SI.c (Int.ofNat 0)) (SI.v 2), SB.le (SI.v 2) (SI.c (Int.ofNat 100)),
          SB.le (SI.c (Int.ofNat 0)) (SI.v 1), SB.le (SI.v 1) (SI.c (Int.ofNat 10000)), SB.c true,
          SB.app 130 (SA.l (SL.v 0) (SA.l (SL.v 1) (SA.i (SI.c (Int.ofNat 4)) SA.nil))),
          SB.app 134 (SA.l (SL.v 0) (SA.l (SL.v 2) SA.nil)), SB.eq (SI.v 1) (SI.app 104 (SA.l (SL.v 0) SA.nil))],
      eqs := [Eqn.T (SB.c false)] },
    {
      pc :=
        [SB.not
            (SB.or
              (SB.and
                (SB.eq
                  (SI.app 110
                    (SA.l (SL.v 0)
                      (SA.i (SI.sel (SL.v 9) (SI.v 2) 1)
                        (SA.i (SI.bits BinOp.and IntKind.i64 (SI.sel (SL.v 9) (SI.v 2) 2) (SI.c (Int.ofNat 63)))
                          (SA.i (SI.c (Int.ofNat 4)) SA.nil)))))
                  (SI.c (Int.ofNat 0)))
                (SB.app 136
                  (SA.l
                    (SL.app 110
                      (SA.l (SL.v 0)
                        (SA.i (SI.sel (SL.v 9) (SI.v 2) 1)
                          (SA.i (SI.bits BinOp.and IntKind.i64 (SI.sel (SL.v 9) (SI.v 2) 2) (SI.c (Int.ofNat 63)))
                            (SA.i (SI.c (Int.ofNat 4)) SA.nil)))))
                    (SA.l (SL.v 2)
                      (SA.i (SI.bits BinOp.and IntKind.i64 (SI.sel (SL.v 9) (SI.v 2) 2) (SI.c (Int.ofNat 63)))
                        (SA.i (SI.v 1) SA.nil))))))
              (SB.and
                (SB.not
                  (SB.eq
                    (SI.app 110
                      (SA.l (SL.v 0)
                        (SA.i (SI.sel (SL.v 9) (SI.v 2) 1)
                          (SA.i (SI.bits BinOp.and IntKind.i64 (SI.sel (SL.v 9) (SI.v 2) 2) (SI.c (Int.ofNat 63)))
                            (SA.i (SI.c (Int.ofNat 4)) SA.nil)))))
                    (SI.c (Int.ofNat 0))))
                (SB.and
                  (SB.app 134
                    (SA.l
                      (SL.app 110
                        (SA.l (SL.v 0)
                          (SA.i (SI.sel (SL.v 9) (SI.v 2) 1)
                            (SA.i (SI.bits BinOp.and IntKind.i64 (SI.sel (SL.v 9) (SI.v 2) 2) (SI.c (Int.ofNat 63)))
                              (SA.i (SI.c (Int.ofNat 4)) SA.nil)))))
                      (SA.l (SL.v 2) SA.nil)))
                  (SB.eq (SI.v 1)
                    (SI.app 104
                      (SA.l
                        (SL.app 110
                          (SA.l (SL.v 0)
                            (SA.i (SI.sel (SL.v 9) (SI.v 2) 1)
                              (SA.i (SI.bits BinOp.and IntKind.i64 (SI.sel (SL.v 9) (SI.v 2) 2) (SI.c (Int.ofNat 63)))
                                (SA.i (SI.c (Int.ofNat 4)) SA.nil)))))
                        SA.nil)))))),
          SB.app 130
            (SA.l
              (SL.app 110
                (SA.l (SL.v 0)
                  (SA.i (SI.sel (SL.v 9) (SI.v 2) 1)
                    (SA.i (SI.bits BinOp.and IntKind.i64 (SI.sel (SL.v 9) (SI.v 2) 2) (SI.c (Int.ofNat 63)))
                      (SA.i (SI.c (Int.ofNat 4)) SA.nil)))))
              (SA.l (SL.v 1000) (SA.i (SI.c (Int.ofNat 4)) SA.nil))),
          SB.eq
            (SI.len
              (SL.app 110
                (SA.l (SL.v 0)
                  (SA.i (SI.sel (SL.v 9) (SI.v 2) 1)
                    (SA.i (SI.bits BinOp.and IntKind.i64 (SI.sel (SL.v 9) (SI.v 2) 2) (SI.c (Int.ofNat 63)))
                      (SA.i (SI.c (Int.ofNat 4)) SA.nil))))))
            (SI.len (SL.v 0)),
          SB.eq (SI.sel (SL.v 9) (SI.v 2) 0) (SI.c (Int.ofNat 0)), SB.lt (SI.v 2) (SI.c (Int.ofNat 100)),
          SB.lt (SI.v 2) (SI.len (SL.v 9)), SB.le (SI.c (Int.ofNat 1)) (SI.v 0), SB.le (SI.v 0) (SI.c (Int.ofNat 8)),
          SB.eq (SI.len (SL.v 0)) (SI.v 0), SB.eq (SI.len (SL.v 2)) (SI.c (Int.ofNat 64)),
          SB.le (SI.c (Int.ofNat 0)) (SI.v 2), SB.le (SI.v 2) (SI.c (Int.ofNat 100)),
          SB.le (SI.c (Int.ofNat 0)) (SI.v 1), SB.le (SI.v 1) (SI.c (Int.ofNat 10000)), SB.c true,
          SB.app 130 (SA.l (SL.v 0) (SA.l (SL.v 1) (SA.i (SI.c (Int.ofNat 4)) SA.nil))),
          SB.app 134 (SA.l (SL.v 0) (SA.l (SL.v 2) SA.nil)), SB.eq (SI.v 1) (SI.app 104 (SA.l (SL.v 0) SA.nil))],
      eqs := [Eqn.T (SB.c false)] },
    {
      pc :=
        [SB.eq (SI.sub (SI.v 4000) (SI.app 105 (SA.l (SL.v 4001) (SA.i (SI.c (Int.ofNat 0)) SA.nil))))
            (SI.c (Int.ofNat 0)),
          SB.eq (SI.v 4000) (SI.app 104 (SA.l (SL.v 4001) SA.nil)),
          SB.app 134 (SA.l (SL.v 4001) (SA.l (SL.v 4002) SA.nil)),
          SB.app 130 (SA.l (SL.v 4001) (SA.l (SL.v 4000) (SA.i (SI.c (Int.ofNat 4)) SA.nil))),
          SB.le (SI.v 4000) (SI.c (Int.ofNat 10000)), SB.le (SI.c (Int.ofNat 0)) (SI.v 4000),
          SB.eq (SI.len (SL.v 4002)) (SI.c (Int.ofNat 64)), SB.eq (SI.len (SL.v 4001)) (SI.v 0),
          SB.eq (SI.v 3000) (SI.app 104 (SA.l (SL.v 3001) SA.nil)),
          SB.app 134 (SA.l (SL.v 3001) (SA.l (SL.v 3002) SA.nil)),
          SB.app 130 (SA.l (SL.v 3001) (SA.l (SL.v 3000) (SA.i (SI.c (Int.ofNat 4)) SA.nil))),
          SB.le (SI.v 3000) (SI.c (Int.ofNat 10000)), SB.le (SI.c (Int.ofNat 0)) (SI.v 3000),
          SB.eq (SI.len (SL.v 3002)) (SI.c (Int.ofNat 64)), SB.eq (SI.len (SL.v 3001)) (SI.v 0),
          SB.eq (SI.v 2000) (SI.app 104 (SA.l (SL.v 2001) SA.nil)),
          SB.app 134 (SA.l (SL.v 2001) (SA.l (SL.v 2002) SA.nil)),
          SB.app 130 (SA.l (SL.v 2001) (SA.l (SL.v 2000) (SA.i (SI.c (Int.ofNat 4)) SA.nil))),
          SB.le (SI.v 2000) (SI.c (Int.ofNat 10000)), SB.le (SI.c (Int.ofNat 0)) (SI.v 2000),
          SB.eq (SI.len (SL.v 2002)) (SI.c (Int.ofNat 64)), SB.eq (SI.len (SL.v 2001)) (SI.v 0),
          SB.or
            (SB.and (SB.lt (SI.sel (SL.v 9) (SI.v 2) 1) (SI.v 0))
              (SB.and (SB.le (SI.c (Int.ofNat 0)) (SI.sel (SL.v 9) (SI.v 2) 1))
                (SB.lt (SI.sel (SL.v 9) (SI.v 2) 1) (SI.v 0))))
            (SB.not (SB.lt (SI.sel (SL.v 9) (SI.v 2) 1) (SI.v 0))),
          SB.le (SI.c (Int.ofNat 0)) (SI.sel (SL.v 9) (SI.v 2) 1),
          SB.eq (SI.sel (SL.v 9) (SI.v 2) 0) (SI.c (Int.ofNat 1)),
          SB.eq (SI.v 1000) (SI.app 104 (SA.l (SL.v 1001) SA.nil)),
          SB.app 134 (SA.l (SL.v 1001) (SA.l (SL.v 1002) SA.nil)),
          SB.app 130 (SA.l (SL.v 1001) (SA.l (SL.v 1000) (SA.i (SI.c (Int.ofNat 4)) SA.nil))),
          SB.le (SI.v 1000) (SI.c (Int.ofNat 10000)), SB.le (SI.c (Int.ofNat 0)) (SI.v 1000),
          SB.eq (SI.len (SL.v 1002)) (SI.c (Int.ofNat 64)), SB.eq (SI.len (SL.v 1001)) (SI.v 0),
          SB.le (SI.c (Int.ofNat 0)) (SI.bits BinOp.and IntKind.i64 (SI.sel (SL.v 9) (SI.v 2) 2) (SI.c (Int.ofNat 63))),
          SB.le (SI.bits BinOp.and IntKind.i64 (SI.sel (SL.v 9) (SI.v 2) 2) (SI.c (Int.ofNat 63)))
            (SI.c (Int.ofNat 63)),
          SB.not (SB.eq (SI.sel (SL.v 9) (SI.v 2) 0) (SI.c (Int.ofNat 0))), SB.lt (SI.v 2) (SI.c (Int.ofNat 100)),
          SB.lt (SI.v 2) (SI.len (SL.v 9)), SB.le (SI.c (Int.ofNat 1)) (SI.v 0), SB.le (SI.v 0) (SI.c (Int.ofNat 8)),
          SB.eq (SI.len (SL.v 0)) (SI.v 0), SB.eq (SI.len (SL.v 2)) (SI.c (Int.ofNat 64)),
          SB.le (SI.c (Int.ofNat 0)) (SI.v 2), SB.le (SI.v 2) (SI.c (Int.ofNat 100)),
          SB.le (SI.c (Int.ofNat 0)) (SI.v 1), SB.le (SI.v 1) (SI.c (Int.ofNat 10000)), SB.c true,
          SB.app 130 (SA.l (SL.v 0) (SA.l (SL.v 1) (SA.i (SI.c (Int.ofNat 4)) SA.nil))),
          SB.app 134 (SA.l (SL.v 0) (SA.l (SL.v 2) SA.nil)), SB.eq (SI.v 1) (SI.app 104 (SA.l (SL.v 0) SA.nil))],
      eqs :=
        [Eqn.T
            (SB.lt (SI.sub (SI.c (Int.ofNat 100)) (SI.add (SI.v 2) (SI.c (Int.ofNat 1))))
              (SI.sub (SI.c (Int.ofNat 100)) (SI.v 2)))] },
    {
      pc :=
        [SB.not
            (SB.eq (SI.sub (SI.v 4000) (SI.app 105 (SA.l (SL.v 4001) (SA.i (SI.c (Int.ofNat 0)) SA.nil))))
              (SI.c (Int.ofNat 0))),
          SB.eq (SI.v 4000) (SI.app 104 (SA.l (SL.v 4001) SA.nil)),
          SB.app 134 (SA.l (SL.v 4001) (SA.l (SL.v 4002) SA.nil)),
          SB.app 130 (SA.l (SL.v 4001) (SA.l (SL.v 4000) (SA.i (SI.c (Int.ofNat 4)) SA.nil))),
          SB.le (SI.v 4000) (SI.c (Int.ofNat 10000)), SB.le (SI.c (Int.ofNat 0)) (SI.v 4000),
          SB.eq (SI.len (SL.v 4002)) (SI.c (Int.ofNat 64)), SB.eq (SI.len (SL.v 4001)) (SI.v 0),
          SB.eq (SI.v 3000) (SI.app 104 (SA.l (SL.v 3001) SA.nil)),
          SB.app 134 (SA.l (SL.v 3001) (SA.l (SL.v 3002) SA.nil)),
          SB.app 130 (SA.l (SL.v 3001) (SA.l (SL.v 3000) (SA.i (SI.c (Int.ofNat 4)) SA.nil))),
          SB.le (SI.v 3000) (SI.c (Int.ofNat 10000)), SB.le (SI.c (Int.ofNat 0)) (SI.v 3000),
          SB.eq (SI.len (SL.v 3002)) (SI.c (Int.ofNat 64)), SB.eq (SI.len (SL.v 3001)) (SI.v 0),
          SB.eq (SI.v 2000) (SI.app 104 (SA.l (SL.v 2001) SA.nil)),
          SB.app 134 (SA.l (SL.v 2001) (SA.l (SL.v 2002) SA.nil)),
          SB.app 130 (SA.l (SL.v 2001) (SA.l (SL.v 2000) (SA.i (SI.c (Int.ofNat 4)) SA.nil))),
          SB.le (SI.v 2000) (SI.c (Int.ofNat 10000)), SB.le (SI.c (Int.ofNat 0)) (SI.v 2000),
          SB.eq (SI.len (SL.v 2002)) (SI.c (Int.ofNat 64)), SB.eq (SI.len (SL.v 2001)) (SI.v 0),
          SB.or
            (SB.and (SB.lt (SI.sel (SL.v 9) (SI.v 2) 1) (SI.v 0))
              (SB.and (SB.le (SI.c (Int.ofNat 0)) (SI.sel (SL.v 9) (SI.v 2) 1))
                (SB.lt (SI.sel (SL.v 9) (SI.v 2) 1) (SI.v 0))))
            (SB.not (SB.lt (SI.sel (SL.v 9) (SI.v 2) 1) (SI.v 0))),
          SB.le (SI.c (Int.ofNat 0)) (SI.sel (SL.v 9) (SI.v 2) 1),
          SB.eq (SI.sel (SL.v 9) (SI.v 2) 0) (SI.c (Int.ofNat 1)),
          SB.eq (SI.v 1000) (SI.app 104 (SA.l (SL.v 1001) SA.nil)),
          SB.app 134 (SA.l (SL.v 1001) (SA.l (SL.v 1002) SA.nil)),
          SB.app 130 (SA.l (SL.v 1001) (SA.l (SL.v 1000) (SA.i (SI.c (Int.ofNat 4)) SA.nil))),
          SB.le (SI.v 1000) (SI.c (Int.ofNat 10000)), SB.le (SI.c (Int.ofNat 0)) (SI.v 1000),
          SB.eq (SI.len (SL.v 1002)) (SI.c (Int.ofNat 64)), SB.eq (SI.len (SL.v 1001)) (SI.v 0),
          SB.le (SI.c (Int.ofNat 0)) (SI.bits BinOp.and IntKind.i64 (SI.sel (SL.v 9) (SI.v 2) 2) (SI.c (Int.ofNat 63))),
          SB.le (SI.bits BinOp.and IntKind.i64 (SI.sel (SL.v 9) (SI.v 2) 2) (SI.c (Int.ofNat 63)))
            (SI.c (Int.ofNat 63)),
          SB.not (SB.eq (SI.sel (SL.v 9) (SI.v 2) 0) (SI.c (Int.ofNat 0))), SB.lt (SI.v 2) (SI.c (Int.ofNat 100)),
          SB.lt (SI.v 2) (SI.len (SL.v 9)), SB.le (SI.c (Int.ofNat 1)) (SI.v 0), SB.le (SI.v 0) (SI.c (Int.ofNat 8)),
          SB.eq (SI.len (SL.v 0)) (SI.v 0), SB.eq (SI.len (SL.v 2)) (SI.c (Int.ofNat 64)),
          SB.le (SI.c (Int.ofNat 0)) (SI.v 2), SB.le (SI.v 2) (SI.c (Int.ofNat 100)),
          SB.le (SI.c (Int.ofNat 0)) (SI.v 1), SB.le (SI.v 1) (SI.c (Int.ofNat 10000)), SB.c true,
          SB.app 130 (SA.l (SL.v 0) (SA.l (SL.v 1) (SA.i (SI.c (Int.ofNat 4)) SA.nil))),
          SB.app 134 (SA.l (SL.v 0) (SA.l (SL.v 2) SA.nil)), SB.eq (SI.v 1) (SI.app 104 (SA.l (SL.v 0) SA.nil))],
      eqs := [Eqn.T (SB.c false)] },
    {
      pc :=
        [SB.not
            (SB.or
              (SB.and (SB.lt (SI.sel (SL.v 9) (SI.v 2) 1) (SI.v 0))
                (SB.and (SB.le (SI.c (Int.ofNat 0)) (SI.sel (SL.v 9) (SI.v 2) 1))
                  (SB.lt (SI.sel (SL.v 9) (SI.v 2) 1) (SI.v 0))))
              (SB.not (SB.lt (SI.sel (SL.v 9) (SI.v 2) 1) (SI.v 0)))),
          SB.le (SI.c (Int.ofNat 0)) (SI.sel (SL.v 9) (SI.v 2) 1),
          SB.eq (SI.sel (SL.v 9) (SI.v 2) 0) (SI.c (Int.ofNat 1)),
          SB.eq (SI.v 1000) (SI.app 104 (SA.l (SL.v 1001) SA.nil)),
          SB.app 134 (SA.l (SL.v 1001) (SA.l (SL.v 1002) SA.nil)),
          SB.app 130 (SA.l (SL.v 1001) (SA.l (SL.v 1000) (SA.i (SI.c (Int.ofNat 4)) SA.nil))),
          SB.le (SI.v 1000) (SI.c (Int.ofNat 10000)), SB.le (SI.c (Int.ofNat 0)) (SI.v 1000),
          SB.eq (SI.len (SL.v 1002)) (SI.c (Int.ofNat 64)), SB.eq (SI.len (SL.v 1001)) (SI.v 0),
          SB.le (SI.c (Int.ofNat 0)) (SI.bits BinOp.and IntKind.i64 (SI.sel (SL.v 9) (SI.v 2) 2) (SI.c (Int.ofNat 63))),
          SB.le (SI.bits BinOp.and IntKind.i64 (SI.sel (SL.v 9) (SI.v 2) 2) (SI.c (Int.ofNat 63)))
            (SI.c (Int.ofNat 63)),
          SB.not (SB.eq (SI.sel (SL.v 9) (SI.v 2) 0) (SI.c (Int.ofNat 0))), SB.lt (SI.v 2) (SI.c (Int.ofNat 100)),
          SB.lt (SI.v 2) (SI.len (SL.v 9)), SB.le (SI.c (Int.ofNat 1)) (SI.v 0), SB.le (SI.v 0) (SI.c (Int.ofNat 8)),
          SB.eq (SI.len (SL.v 0)) (SI.v 0), SB.eq (SI.len (SL.v 2)) (SI.c (Int.ofNat 64)),
          SB.le (SI.c (Int.ofNat 0)) (SI.v 2), SB.le (SI.v 2) (SI.c (Int.ofNat 100)),
          SB.le (SI.c (Int.ofNat 0)) (SI.v 1), SB.le (SI.v 1) (SI.c (Int.ofNat 10000)), SB.c true,
          SB.app 130 (SA.l (SL.v 0) (SA.l (SL.v 1) (SA.i (SI.c (Int.ofNat 4)) SA.nil))),
          SB.app 134 (SA.l (SL.v 0) (SA.l (SL.v 2) SA.nil)), SB.eq (SI.v 1) (SI.app 104 (SA.l (SL.v 0) SA.nil))],
      eqs := [Eqn.T (SB.c false)] },
    {
      pc :=
        [SB.eq (SI.sub (SI.v 4000) (SI.app 105 (SA.l (SL.v 4001) (SA.i (SI.c (Int.ofNat 0)) SA.nil))))
            (SI.c (Int.ofNat 0)),
          SB.eq (SI.v 4000) (SI.app 104 (SA.l (SL.v 4001) SA.nil)),
          SB.app 134 (SA.l (SL.v 4001) (SA.l (SL.v 4002) SA.nil)),
          SB.app 130 (SA.l (SL.v 4001) (SA.l (SL.v 4000) (SA.i (SI.c (Int.ofNat 4)) SA.nil))),
          SB.le (SI.v 4000) (SI.c (Int.ofNat 10000)), SB.le (SI.c (Int.ofNat 0)) (SI.v 4000),
          SB.eq (SI.len (SL.v 4002)) (SI.c (Int.ofNat 64)), SB.eq (SI.len (SL.v 4001)) (SI.v 0),
          SB.eq (SI.v 3000) (SI.app 104 (SA.l (SL.v 3001) SA.nil)),
          SB.app 134 (SA.l (SL.v 3001) (SA.l (SL.v 3002) SA.nil)),
          SB.app 130 (SA.l (SL.v 3001) (SA.l (SL.v 3000) (SA.i (SI.c (Int.ofNat 4)) SA.nil))),
          SB.le (SI.v 3000) (SI.c (Int.ofNat 10000)), SB.le (SI.c (Int.ofNat 0)) (SI.v 3000),
          SB.eq (SI.len (SL.v 3002)) (SI.c (Int.ofNat 64)), SB.eq (SI.len (SL.v 3001)) (SI.v 0),
          SB.eq (SI.v 2000) (SI.app 104 (SA.l (SL.v 2001) SA.nil)),
          SB.app 134 (SA.l (SL.v 2001) (SA.l (SL.v 2002) SA.nil)),
          SB.app 130 (SA.l (SL.v 2001) (SA.l (SL.v 2000) (SA.i (SI.c (Int.ofNat 4)) SA.nil))),
          SB.le (SI.v 2000) (SI.c (Int.ofNat 10000)), SB.le (SI.c (Int.ofNat 0)) (SI.v 2000),
          SB.eq (SI.len (SL.v 2002)) (SI.c (Int.ofNat 64)), SB.eq (SI.len (SL.v 2001)) (SI.v 0),
          SB.not (SB.le (SI.c (Int.ofNat 0)) (SI.sel (SL.v 9) (SI.v 2) 1)),
          SB.eq (SI.sel (SL.v 9) (SI.v 2) 0) (SI.c (Int.ofNat 1)),
          SB.eq (SI.v 1000) (SI.app 104 (SA.l (SL.v 1001) SA.nil)),
          SB.app 134 (SA.l (SL.v 1001) (SA.l (SL.v 1002) SA.nil)),
          SB.app 130 (SA.l (SL.v 1001) (SA.l (SL.v 1000) (SA.i (SI.c (Int.ofNat 4)) SA.nil))),
          SB.le (SI.v 1000) (SI.c (Int.ofNat 10000)), SB.le (SI.c (Int.ofNat 0)) (SI.v 1000),
          SB.eq (SI.len (SL.v 1002)) (SI.c (Int.ofNat 64)), SB.eq (SI.len (SL.v 1001)) (SI.v 0),
          SB.le (SI.c (Int.ofNat 0)) (SI.bits BinOp.and IntKind.i64 (SI.sel (SL.v 9) (SI.v 2) 2) (SI.c (Int.ofNat 63))),
          SB.le (SI.bits BinOp.and IntKind.i64 (SI.sel (SL.v 9) (SI.v 2) 2) (SI.c (Int.ofNat 63)))
            (SI.c (Int.ofNat 63)),
          SB.not (SB.eq (SI.sel (SL.v 9) (SI.v 2) 0) (SI.c (Int.ofNat 0))), SB.lt (SI.v 2) (SI.c (Int.ofNat 100)),
          SB.lt (SI.v 2) (SI.len (SL.v 9)), SB.le (SI.c (Int.ofNat 1)) (SI.v 0), SB.le (SI.v 0) (SI.c (Int.ofNat 8)),
          SB.eq (SI.len (SL.v 0)) (SI.v 0), SB.eq (SI.len (SL.v 2)) (SI.c (Int.ofNat 64)),
          SB.le (SI.c (Int.ofNat 0)) (SI.v 2), SB.le (SI.v 2) (SI.c (Int.ofNat 100)),
          SB.le (SI.c (Int.ofNat 0)) (SI.v 1), SB.le (SI.v 1) (SI.c (Int.ofNat 10000)), SB.c true,
          SB.app 130 (SA.l (SL.v 0) (SA.l (SL.v 1) (SA.i (SI.c (Int.ofNat 4)) SA.nil))),
          SB.app 134 (SA.l (SL.v 0) (SA.l (SL.v 2) SA.nil)), SB.eq (SI.v 1) (SI.app 104 (SA.l (SL.v 0) SA.nil))],
      eqs :=
        [Eqn.T
            (SB.lt (SI.sub (SI.c (Int.ofNat 100)) (SI.add (SI.v 2) (SI.c (Int.ofNat 1))))
              (SI.sub (SI.c (Int.ofNat 100)) (SI.v 2)))] },
    {
      pc :=
        [SB.not
            (SB.eq (SI.sub (SI.v 4000) (SI.app 105 (SA.l (SL.v 4001) (SA.i (SI.c (Int.ofNat 0)) SA.nil))))
              (SI.c (Int.ofNat 0))),
          SB.eq (SI.v 4000) (SI.app 104 (SA.l (SL.v 4001) SA.nil)),
          SB.app 134 (SA.l (SL.v 4001) (SA.l (SL.v 4002) SA.nil)),
          SB.app 130 (SA.l (SL.v 4001) (SA.l (SL.v 4000) (SA.i (SI.c (Int.ofNat 4)) SA.nil))),
          SB.le (SI.v 4000) (SI.c (Int.ofNat 10000)), SB.le (SI.c (Int.ofNat 0)) (SI.v 4000),
          SB.eq (SI.len (SL.v 4002)) (SI.c (Int.ofNat 64)), SB.eq (SI.len (SL.v 4001)) (SI.v 0),
          SB.eq (SI.v 3000) (SI.app 104 (SA.l (SL.v 3001) SA.nil)),
          SB.app 134 (SA.l (SL.v 3001) (SA.l (SL.v 3002) SA.nil)),
          SB.app 130 (SA.l (SL.v 3001) (SA.l (SL.v 3000) (SA.i (SI.c (Int.ofNat 4)) SA.nil))),
          SB.le (SI.v 3000) (SI.c (Int.ofNat 10000)), SB.le (SI.c (Int.ofNat 0)) (SI.v 3000),
          SB.eq (SI.len (SL.v 3002)) (SI.c (Int.ofNat 64)), SB.eq (SI.len (SL.v 3001)) (SI.v 0),
          SB.eq (SI.v 2000) (SI.app 104 (SA.l (SL.v 2001) SA.nil)),
          SB.app 134 (SA.l (SL.v 2001) (SA.l (SL.v 2002) SA.nil)),
          SB.app 130 (SA.l (SL.v 2001) (SA.l (SL.v 2000) (SA.i (SI.c (Int.ofNat 4)) SA.nil))),
          SB.le (SI.v 2000) (SI.c (Int.ofNat 10000)), SB.le (SI.c (Int.ofNat 0)) (SI.v 2000),
          SB.eq (SI.len (SL.v 2002)) (SI.c (Int.ofNat 64)), SB.eq (SI.len (SL.v 2001)) (SI.v 0),
          SB.not (SB.le (SI.c (Int.ofNat 0)) (SI.sel (SL.v 9) (SI.v 2) 1)),
          SB.eq (SI.sel (SL.v 9) (SI.v 2) 0) (SI.c (Int.ofNat 1)),
          SB.eq (SI.v 1000) (SI.app 104 (SA.l (SL.v 1001) SA.nil)),
          SB.app 134 (SA.l (SL.v 1001) (SA.l (SL.v 1002) SA.nil)),
          SB.app 130 (SA.l (SL.v 1001) (SA.l (SL.v 1000) (SA.i (SI.c (Int.ofNat 4)) SA.nil))),
          SB.le (SI.v 1000) (SI.c (Int.ofNat 10000)), SB.le (SI.c (Int.ofNat 0)) (SI.v 1000),
          SB.eq (SI.len (SL.v 1002)) (SI.c (Int.ofNat 64)), SB.eq (SI.len (SL.v 1001)) (SI.v 0),
          SB.le (SI.c (Int.ofNat 0)) (SI.bits BinOp.and IntKind.i64 (SI.sel (SL.v 9) (SI.v 2) 2) (SI.c (Int.ofNat 63))),
          SB.le (SI.bits BinOp.and IntKind.i64 (SI.sel (SL.v 9) (SI.v 2) 2) (SI.c (Int.ofNat 63)))
            (SI.c (Int.ofNat 63)),
          SB.not (SB.eq (SI.sel (SL.v 9) (SI.v 2) 0) (SI.c (Int.ofNat 0))), SB.lt (SI.v 2) (SI.c (Int.ofNat 100)),
          SB.lt (SI.v 2) (SI.len (SL.v 9)), SB.le (SI.c (Int.ofNat 1)) (SI.v 0), SB.le (SI.v 0) (SI.c (Int.ofNat 8)),
          SB.eq (SI.len (SL.v 0)) (SI.v 0), SB.eq (SI.len (SL.v 2)) (SI.c (Int.ofNat 64)),
          SB.le (SI.c (Int.ofNat 0)) (SI.v 2), SB.le (SI.v 2) (SI.c (Int.ofNat 100)),
          SB.le (SI.c (Int.ofNat 0)) (SI.v 1), SB.le (SI.v 1) (SI.c (Int.ofNat 10000)), SB.c true,
          SB.app 130 (SA.l (SL.v 0) (SA.l (SL.v 1) (SA.i (SI.c (Int.ofNat 4)) SA.nil))),
          SB.app 134 (SA.l (SL.v 0) (SA.l (SL.v 2) SA.nil)), SB.eq (SI.v 1) (SI.app 104 (SA.l (SL.v 0) SA.nil))],
      eqs := [Eqn.T (SB.c false)] },
    {
      pc :=
        [SB.eq (SI.sub (SI.v 4000) (SI.app 105 (SA.l (SL.v 4001) (SA.i (SI.c (Int.ofNat 0)) SA.nil))))
            (SI.c (Int.ofNat 0)),
          SB.eq (SI.v 4000) (SI.app 104 (SA.l (SL.v 4001) SA.nil)),
          SB.app 134 (SA.l (SL.v 4001) (SA.l (SL.v 4002) SA.nil)),
          SB.app 130 (SA.l (SL.v 4001) (SA.l (SL.v 4000) (SA.i (SI.c (Int.ofNat 4)) SA.nil))),
          SB.le (SI.v 4000) (SI.c (Int.ofNat 10000)), SB.le (SI.c (Int.ofNat 0)) (SI.v 4000),
          SB.eq (SI.len (SL.v 4002)) (SI.c (Int.ofNat 64)), SB.eq (SI.len (SL.v 4001)) (SI.v 0),
          SB.or (SB.lt (SI.c (Int.ofNat 2)) (SI.sel (SL.v 9) (SI.v 2) 0))
            (SB.not (SB.lt (SI.c (Int.ofNat 2)) (SI.sel (SL.v 9) (SI.v 2) 0))),
          SB.eq (SI.v 3000) (SI.app 104 (SA.l (SL.v 3001) SA.nil)),
          SB.app 134 (SA.l (SL.v 3001) (SA.l (SL.v 3002) SA.nil)),
          SB.app 130 (SA.l (SL.v 3001) (SA.l (SL.v 3000) (SA.i (SI.c (Int.ofNat 4)) SA.nil))),
          SB.le (SI.v 3000) (SI.c (Int.ofNat 10000)), SB.le (SI.c (Int.ofNat 0)) (SI.v 3000),
          SB.eq (SI.len (SL.v 3002)) (SI.c (Int.ofNat 64)), SB.eq (SI.len (SL.v 3001)) (SI.v 0),
          SB.or (SB.eq (SI.sel (SL.v 9) (SI.v 2) 0) (SI.c (Int.ofNat 2)))
            (SB.not (SB.eq (SI.sel (SL.v 9) (SI.v 2) 0) (SI.c (Int.ofNat 2)))),
          SB.eq (SI.v 2000) (SI.app 104 (SA.l (SL.v 2001) SA.nil)),
          SB.app 134 (SA.l (SL.v 2001) (SA.l (SL.v 2002) SA.nil)),
          SB.app 130 (SA.l (SL.v 2001) (SA.l (SL.v 2000) (SA.i (SI.c (Int.ofNat 4)) SA.nil))),
          SB.le (SI.v 2000) (SI.c (Int.ofNat 10000)), SB.le (SI.c (Int.ofNat 0)) (SI.v 2000),
          SB.eq (SI.len (SL.v 2002)) (SI.c (Int.ofNat 64)), SB.eq (SI.len (SL.v 2001)) (SI.v 0),
          SB.not (SB.eq (SI.sel (SL.v 9) (SI.v 2) 0) (SI.c (Int.ofNat 1))),
          SB.eq (SI.v 1000) (SI.app 104 (SA.l (SL.v 1001) SA.nil)),
          SB.app 134 (SA.l (SL.v 1001) (SA.l (SL.v 1002) SA.nil)),
          SB.app 130 (SA.l (SL.v 1001) (SA.l (SL.v 1000) (SA.i (SI.c (Int.ofNat 4)) SA.nil))),
          SB.le (SI.v 1000) (SI.c (Int.ofNat 10000)), SB.le (SI.c (Int.ofNat 0)) (SI.v 1000),
          SB.eq (SI.len (SL.v 1002)) (SI.c (Int.ofNat 64)), SB.eq (SI.len (SL.v 1001)) (SI.v 0),
          SB.le (SI.c (Int.ofNat 0)) (SI.bits BinOp.and IntKind.i64 (SI.sel (SL.v 9) (SI.v 2) 2) (SI.c (Int.ofNat 63))),
          SB.le (SI.bits BinOp.and IntKind.i64 (SI.sel (SL.v 9) (SI.v 2) 2) (SI.c (Int.ofNat 63)))
            (SI.c (Int.ofNat 63)),
          SB.not (SB.eq (SI.sel (SL.v 9) (SI.v 2) 0) (SI.c (Int.ofNat 0))), SB.lt (SI.v 2) (SI.c (Int.ofNat 100)),
          SB.lt (SI.v 2) (SI.len (SL.v 9)), SB.le (SI.c (Int.ofNat 1)) (SI.v 0), SB.le (SI.v 0) (SI.c (Int.ofNat 8)),
          SB.eq (SI.len (SL.v 0)) (SI.v 0), SB.eq (SI.len (SL.v 2)) (SI.c (Int.ofNat 64)),
          SB.le (SI.c (Int.ofNat 0)) (SI.v 2), SB.le (SI.v 2) (SI.c (Int.ofNat 100)),
          SB.le (SI.c (Int.ofNat 0)) (SI.v 1), SB.le (SI.v 1) (SI.c (Int.ofNat 10000)), SB.c true,
          SB.app 130 (SA.l (SL.v 0) (SA.l (SL.v 1) (SA.i (SI.c (Int.ofNat 4)) SA.nil))),
          SB.app 134 (SA.l (SL.v 0) (SA.l (SL.v 2) SA.nil)), SB.eq (SI.v 1) (SI.app 104 (SA.l (SL.v 0) SA.nil))],
      eqs :=
        [Eqn.T
            (SB.lt (SI.sub (SI.c (Int.ofNat 100)) (SI.add (SI.v 2) (SI.c (Int.ofNat 1))))
              (SI.sub (SI.c (Int.ofNat 100)) (SI.v 2)))] },
    {
      pc :=
        [SB.not
            (SB.eq (SI.sub (SI.v 4000) (SI.app 105 (SA.l (SL.v 4001) (SA.i (SI.c (Int.ofNat 0)) SA.nil))))
              (SI.c (Int.ofNat 0))),
          SB.eq (SI.v 4000) (SI.app 104 (SA.l (SL.v 4001) SA.nil)),
          SB.app 134 (SA.l (SL.v 4001) (SA.l (SL.v 4002) SA.nil)),
          SB.app 130 (SA.l (SL.v 4001) (SA.l (SL.v 4000) (SA.i (SI.c (Int.ofNat 4)) SA.nil))),
          SB.le (SI.v 4000) (SI.c (Int.ofNat 10000)), SB.le (SI.c (Int.ofNat 0)) (SI.v 4000),
          SB.eq (SI.len (SL.v 4002)) (SI.c (Int.ofNat 64)), SB.eq (SI.len (SL.v 4001)) (SI.v 0),
          SB.or (SB.lt (SI.c (Int.ofNat 2)) (SI.sel (SL.v 9) (SI.v 2) 0))
            (SB.not (SB.lt (SI.c (Int.ofNat 2)) (SI.sel (SL.v 9) (SI.v 2) 0))),
          SB.eq (SI.v 3000) (SI.app 104 (SA.l (SL.v 3001) SA.nil)),
          SB.app 134 (SA.l (SL.v 3001) (SA.l (SL.v 3002) SA.nil)),
          SB.app 130 (SA.l (SL.v 3001) (SA.l (SL.v 3000) (SA.i (SI.c (Int.ofNat 4)) SA.nil))),
          SB.le (SI.v 3000) (SI.c (Int.ofNat 10000)), SB.le (SI.c (Int.ofNat 0)) (SI.v 3000),
          SB.eq (SI.len (SL.v 3002)) (SI.c (Int.ofNat 64)), SB.eq (SI.len (SL.v 3001)) (SI.v 0),
          SB.or (SB.eq (SI.sel (SL.v 9) (SI.v 2) 0) (SI.c (Int.ofNat 2)))
            (SB.not (SB.eq (SI.sel (SL.v 9) (SI.v 2) 0) (SI.c (Int.ofNat 2)))),
          SB.eq (SI.v 2000) (SI.app 104 (SA.l (SL.v 2001) SA.nil)),
          SB.app 134 (SA.l (SL.v 2001) (SA.l (SL.v 2002) SA.nil)),
          SB.app 130 (SA.l (SL.v 2001) (SA.l (SL.v 2000) (SA.i (SI.c (Int.ofNat 4)) SA.nil))),
          SB.le (SI.v 2000) (SI.c (Int.ofNat 10000)), SB.le (SI.c (Int.ofNat 0)) (SI.v 2000),
          SB.eq (SI.len (SL.v 2002)) (SI.c (Int.ofNat 64)), SB.eq (SI.len (SL.v 2001)) (SI.v 0),
          SB.not (SB.eq (SI.sel (SL.v 9) (SI.v 2) 0) (SI.c (Int.ofNat 1))),
          SB.eq (SI.v 1000) (SI.app 104 (SA.l (SL.v 1001) SA.nil)),
          SB.app 134 (SA.l (SL.v 1001) (SA.l (SL.v 1002) SA.nil)),
          SB.app 130 (SA.l (SL.v 1001) (SA.l (SL.v 1000) (SA.i (SI.c (Int.ofNat 4)) SA.nil))),
          SB.le (SI.v 1000) (SI.c (Int.ofNat 10000)), SB.le (SI.c (Int.ofNat 0)) (SI.v 1000),
          SB.eq (SI.len (SL.v 1002)) (SI.c (Int.ofNat 64)), SB.eq (SI.len (SL.v 1001)) (SI.v 0),
          SB.le (SI.c (Int.ofNat 0)) (SI.bits BinOp.and IntKind.i64 (SI.sel (SL.v 9) (SI.v 2) 2) (SI.c (Int.ofNat 63))),
          SB.le (SI.bits BinOp.and IntKind.i64 (SI.sel (SL.v 9) (SI.v 2) 2) (SI.c (Int.ofNat 63)))
            (SI.c (Int.ofNat 63)),
          SB.not (SB.eq (SI.sel (SL.v 9) (SI.v 2) 0) (SI.c (Int.ofNat 0))), SB.lt (SI.v 2) (SI.c (Int.ofNat 100)),
          SB.lt (SI.v 2) (SI.len (SL.v 9)), SB.le (SI.c (Int.ofNat 1)) (SI.v 0), SB.le (SI.v 0) (SI.c (Int.ofNat 8)),
          SB.eq (SI.len (SL.v 0)) (SI.v 0), SB.eq (SI.len (SL.v 2)) (SI.c (Int.ofNat 64)),
          SB.le (SI.c (Int.ofNat 0)) (SI.v 2), SB.le (SI.v 2) (SI.c (Int.ofNat 100)),
          SB.le (SI.c (Int.ofNat 0)) (SI.v 1), SB.le (SI.v 1) (SI.c (Int.ofNat 10000)), SB.c true,
          SB.app 130 (SA.l (SL.v 0) (SA.l (SL.v 1) (SA.i (SI.c (Int.ofNat 4)) SA.nil))),
          SB.app 134 (SA.l (SL.v 0) (SA.l (SL.v 2) SA.nil)), SB.eq (SI.v 1) (SI.app 104 (SA.l (SL.v 0) SA.nil))],
      eqs := [Eqn.T (SB.c false)] },
    {
      pc :=
        [SB.not
            (SB.or (SB.lt (SI.c (Int.ofNat 2)) (SI.sel (SL.v 9) (SI.v 2) 0))
              (SB.not (SB.lt (SI.c (Int.ofNat 2)) (SI.sel (SL.v 9) (SI.v 2) 0)))),
          SB.eq (SI.v 3000) (SI.app 104 (SA.l (SL.v 3001) SA.nil)),
          SB.app 134 (SA.l (SL.v 3001) (SA.l (SL.v 3002) SA.nil)),
          SB.app 130 (SA.l (SL.v 3001) (SA.l (SL.v 3000) (SA.i (SI.c (Int.ofNat 4)) SA.nil))),
          SB.le (SI.v 3000) (SI.c (Int.ofNat 10000)), SB.le (SI.c (Int.ofNat 0)) (SI.v 3000),
          SB.eq (SI.len (SL.v 3002)) (SI.c (Int.ofNat 64)), SB.eq (SI.len (SL.v 3001)) (SI.v 0),
          SB.or (SB.eq (SI.sel (SL.v 9) (SI.v 2) 0) (SI.c (Int.ofNat 2)))
            (SB.not (SB.eq (SI.sel (SL.v 9) (SI.v 2) 0) (SI.c (Int.ofNat 2)))),
          SB.eq (SI.v 2000) (SI.app 104 (SA.l (SL.v 2001) SA.nil)),
          SB.app 134 (SA.l (SL.v 2001) (SA.l (SL.v 2002) SA.nil)),
          SB.app 130 (SA.l (SL.v 2001) (SA.l (SL.v 2000) (SA.i (SI.c (Int.ofNat 4)) SA.nil))),
          SB.le (SI.v 2000) (SI.c (Int.ofNat 10000)), SB.le (SI.c (Int.ofNat 0)) (SI.v 2000),
          SB.eq (SI.len (SL.v 2002)) (SI.c (Int.ofNat 64)), SB.eq (SI.len (SL.v 2001)) (SI.v 0),
          SB.not (SB.eq (SI.sel (SL.v 9) (SI.v 2) 0) (SI.c (Int.ofNat 1))),
          SB.eq (SI.v 1000) (SI.app 104 (SA.l (SL.v 1001) SA.nil)),
          SB.app 134 (SA.l (SL.v 1001) (SA.l (SL.v 1002) SA.nil)),
          SB.app 130 (SA.l (SL.v 1001) (SA.l (SL.v 1000) (SA.i (SI.c (Int.ofNat 4)) SA.nil))),
          SB.le (SI.v 1000) (SI.c (Int.ofNat 10000)), SB.le (SI.c (Int.ofNat 0)) (SI.v 1000),
          SB.eq (SI.len (SL.v 1002)) (SI.c (Int.ofNat 64)), SB.eq (SI.len (SL.v 1001)) (SI.v 0),
          SB.le (SI.c (Int.ofNat 0)) (SI.bits BinOp.and IntKind.i64 (SI.sel (SL.v 9) (SI.v 2) 2) (SI.c (Int.ofNat 63))),
          SB.le (SI.bits BinOp.and IntKind.i64 (SI.sel (SL.v 9) (SI.v 2) 2) (SI.c (Int.ofNat 63)))
            (SI.c (Int.ofNat 63)),
          SB.not (SB.eq (SI.sel (SL.v 9) (SI.v 2) 0) (SI.c (Int.ofNat 0))), SB.lt (SI.v 2) (SI.c (Int.ofNat 100)),
          SB.lt (SI.v 2) (SI.len (SL.v 9)), SB.le (SI.c (Int.ofNat 1)) (SI.v 0), SB.le (SI.v 0) (SI.c (Int.ofNat 8)),
          SB.eq (SI.len (SL.v 0)) (SI.v 0), SB.eq (SI.len (SL.v 2)) (SI.c (Int.ofNat 64)),
          SB.le (SI.c (Int.ofNat 0)) (SI.v 2), SB.le (SI.v 2) (SI.c (Int.ofNat 100)),
          SB.le (SI.c (Int.ofNat 0)) (SI.v 1), SB.le (SI.v 1) (SI.c (Int.ofNat 10000)), SB.c true,
          SB.app 130 (SA.l (SL.v 0) (SA.l (SL.v 1) (SA.i (SI.c (Int.ofNat 4)) SA.nil))),
          SB.app 134 (SA.l (SL.v 0) (SA.l (SL.v 2) SA.nil)), SB.eq (SI.v 1) (SI.app 104 (SA.l (SL.v 0) SA.nil))],
      eqs := [Eqn.T (SB.c false)] },
    {
      pc :=
        [SB.not
            (SB.or (SB.eq (SI.sel (SL.v 9) (SI.v 2) 0) (SI.c (Int.ofNat 2)))
              (SB.not (SB.eq (SI.sel (SL.v 9) (SI.v 2) 0) (SI.c (Int.ofNat 2))))),
          SB.eq (SI.v 2000) (SI.app 104 (SA.l (SL.v 2001) SA.nil)),
          SB.app 134 (SA.l (SL.v 2001) (SA.l (SL.v 2002) SA.nil)),
          SB.app 130 (SA.l (SL.v 2001) (SA.l (SL.v 2000) (SA.i (SI.c (Int.ofNat 4)) SA.nil))),
          SB.le (SI.v 2000) (SI.c (Int.ofNat 10000)), SB.le (SI.c (Int.ofNat 0)) (SI.v 2000),
          SB.eq (SI.len (SL.v 2002)) (SI.c (Int.ofNat 64)), SB.eq (SI.len (SL.v 2001)) (SI.v 0),
          SB.not (SB.eq (SI.sel (SL.v 9) (SI.v 2) 0) (SI.c (Int.ofNat 1))),
          SB.eq (SI.v 1000) (SI.app 104 (SA.l (SL.v 1001) SA.nil)),
          SB.app 134 (SA.l (SL.v 1001) (SA.l (SL.v 1002) SA.nil)),
          SB.app 130 (SA.l (SL.v 1001) (SA.l (SL.v 1000) (SA.i (SI.c (Int.ofNat 4)) SA.nil))),
          SB.le (SI.v 1000) (SI.c (Int.ofNat 10000)), SB.le (SI.c (Int.ofNat 0)) (SI.v 1000),
          SB.eq (SI.len (SL.v 1002)) (SI.c (Int.ofNat 64)), SB.eq (SI.len (SL.v 1001)) (SI.v 0),
          SB.le (SI.c (Int.ofNat 0)) (SI.bits BinOp.and IntKind.i64 (SI.sel (SL.v 9) (SI.v 2) 2) (SI.c (Int.ofNat 63))),
          SB.le (SI.bits BinOp.and IntKind.i64 (SI.sel (SL.v 9) (SI.v 2) 2) (SI.c (Int.ofNat 63)))
            (SI.c (Int.ofNat 63)),
          SB.not (SB.eq (SI.sel (SL.v 9) (SI.v 2) 0) (SI.c (Int.ofNat 0))), SB.lt (SI.v 2) (SI.c (Int.ofNat 100)),
          SB.lt (SI.v 2) (SI.len (SL.v 9)), SB.le (SI.c (Int.ofNat 1)) (SI.v 0), SB.le (SI.v 0) (SI.c (Int.ofNat 8)),
          SB.eq (SI.len (SL.v 0)) (SI.v 0), SB.eq (SI.len (SL.v 2)) (SI.c (Int.ofNat 64)),
          SB.le (SI.c (Int.ofNat 0)) (SI.v 2), SB.le (SI.v 2) (SI.c (Int.ofNat 100)),
          SB.le (SI.c (Int.ofNat 0)) (SI.v 1), SB.le (SI.v 1) (SI.c (Int.ofNat 10000)), SB.c true,
          SB.app 130 (SA.l (SL.v 0) (SA.l (SL.v 1) (SA.i (SI.c (Int.ofNat 4)) SA.nil))),
          SB.app 134 (SA.l (SL.v 0) (SA.l (SL.v 2) SA.nil)), SB.eq (SI.v 1) (SI.app 104 (SA.l (SL.v 0) SA.nil))],
      eqs := [Eqn.T (SB.c false)] },
    {
      pc :=
        [SB.not
            (SB.le (SI.c (Int.ofNat 0))
              (SI.bits BinOp.and IntKind.i64 (SI.sel (SL.v 9) (SI.v 2) 2) (SI.c (Int.ofNat 63)))),
          SB.not (SB.eq (SI.sel (SL.v 9) (SI.v 2) 0) (SI.c (Int.ofNat 0))), SB.lt (SI.v 2) (SI.c (Int.ofNat 100)),
          SB.lt (SI.v 2) (SI.len (SL.v 9)), SB.le (SI.c (Int.ofNat 1)) (SI.v 0), SB.le (SI.v 0) (SI.c (Int.ofNat 8)),
          SB.eq (SI.len (SL.v 0)) (SI.v 0), SB.eq (SI.len (SL.v 2)) (SI.c (Int.ofNat 64)),
          SB.le (SI.c (Int.ofNat 0)) (SI.v 2), SB.le (SI.v 2) (SI.c (Int.ofNat 100)),
          SB.le (SI.c (Int.ofNat 0)) (SI.v 1), SB.le (SI.v 1) (SI.c (Int.ofNat 10000)), SB.c true,
          SB.app 130 (SA.l (SL.v 0) (SA.l (SL.v 1) (SA.i (SI.c (Int.ofNat 4)) SA.nil))),
          SB.app 134 (SA.l (SL.v 0) (SA.l (SL.v 2) SA.nil)), SB.eq (SI.v 1) (SI.app 104 (SA.l (SL.v 0) SA.nil))],
      eqs := [Eqn.T (SB.c false)] },
    {
      pc :=
        [SB.not
            (SB.le (SI.bits BinOp.and IntKind.i64 (SI.sel (SL.v 9) (SI.v 2) 2) (SI.c (Int.ofNat 63)))
              (SI.c (Int.ofNat 63))),
          SB.not (SB.eq (SI.sel (SL.v 9) (SI.v 2) 0) (SI.c (Int.ofNat 0))), SB.lt (SI.v 2) (SI.c (Int.ofNat 100)),
          SB.lt (SI.v 2) (SI.len (SL.v 9)), SB.le (SI.c (Int.ofNat 1)) (SI.v 0), SB.le (SI.v 0) (SI.c (Int.ofNat 8)),
          SB.eq (SI.len (SL.v 0)) (SI.v 0), SB.eq (SI.len (SL.v 2)) (SI.c (Int.ofNat 64)),
          SB.le (SI.c (Int.ofNat 0)) (SI.v 2), SB.le (SI.v 2) (SI.c (Int.ofNat 100)),
          SB.le (SI.c (Int.ofNat 0)) (SI.v 1), SB.le (SI.v 1) (SI.c (Int.ofNat 10000)), SB.c true,
          SB.app 130 (SA.l (SL.v 0) (SA.l (SL.v 1) (SA.i (SI.c (Int.ofNat 4)) SA.nil))),
          SB.app 134 (SA.l (SL.v 0) (SA.l (SL.v 2) SA.nil)), SB.eq (SI.v 1) (SI.app 104 (SA.l (SL.v 0) SA.nil))],
      eqs := [Eqn.T (SB.c false)] }] := by kernel_rfl
theorem on1_ok : on1.ok Φ Try.prog := by
  refine ⟨by kernel_rfl, loop_rule (fun ρ => u1_ok ρ) (loopAt_sub (by kernel_rfl)) on1_obs ?_⟩
  simp only [and_imp, List.forall_mem_cons, List.not_mem_nil, false_implies, implies_true, and_true, Ob.ok, holds, Eqn.ok, evB_eq, evB_lt, evB_le, evB_not, evB_and, evB_or, evB_eqL, evB_app, evB_v, evB_c, ev_sel, ev_len, ev_v, ev_c, ev_add, ev_sub, ev_mul, ev_quo, ev_rem, ev_bits, ev_wrap, evL_v, evL_lit, evL_app, ev_app, evA_l, evA_i, evA_nil, std_min, std_max, std_cat, std_take, std_drop, std_row, std_set, std_rep, std_find, std_put, std_del, std_flag, std_unflag, std_clr, std_left, std_copy, ints_cons, ints_nil, ofNat_lit, negSucc_lit, decide_eq_true_eq, Bool.and_eq_true, Bool.or_eq_true, Bool.not_eq_true', Bool.and_eq_false_iff, Bool.or_eq_false_iff, decide_eq_false_iff_not, std_rowT, std_setT, lenR_rowT, rowT_get, aI100, aI101, aI102, aI103, aI104, aI105, aI106, aI107, aI110, aI111, aI112, aI113, aI114, aL110, aL111, aL112, aL113, aL115, aL116, aL120, aL121, aB130, aB131, aB132, aB133, aB134, aB135, aB136, aB199, Bool.not_eq_false']
  repeat' apply And.intro
  all_goals intro ρ hR
  all_goals intros
  all_goals first
    | (omega)
    | (have h := sum_all (ρ.l 5001)
       exfalso
       omega)
    | (have h := sum_all (ρ.l 4001)
       exfalso
       omega)
    | (have h := and63 (((ρ.l 9).getD (ρ.i 2).toNat []).getD 2 0)
       exfalso
       omega)
    | (have hi : inB (ρ.l 0) (ρ.l 2) = true := by with_reducible assumption
       have h64 : ((ρ.l 2).length : Int) = 64 := by omega
       have hr : ∀ r ∈ ρ.l 2, okRow [.b] r := hR.row 5 rfl rfl
       have hv : invB (ρ.l 0) (ρ.l 1) 4 = true := by with_reducible assumption
       have hn := (inv_iff.1 hv).2.1
       have hT : 1 ≤ ((ρ.l 0).length : Int) := by omega
       have e1 := ‹¬ pushE _ _ _ _ = 0 ∨ preB _ _ _ _ = false›
       have e2 := ‹pushE _ _ _ _ = 0 ∨ _›
       have h63 := and63 (((ρ.l 9).getD (ρ.i 2).toNat []).getD 2 0)
       exfalso
       by_cases he : pushE (ρ.l 0) (((ρ.l 9).getD (ρ.i 2).toNat []).getD 1 0) (Go.bits .and .i64 (((ρ.l 9).getD (ρ.i 2).toNat []).getD 2 0) 63) 4 = 0
       · have hp := pre_push hi h64 hr h63.1 h63.2 he (many := ρ.i 1) (by with_reducible assumption)
         rw [hp] at e1
         rcases e1 with h | h
         · exact h he
         · cases h
       · rw [push_no rfl he] at e2
         rcases e2 with h | h | h
         · exact he h
         · rw [hi] at h; cases h
         · exact h (by with_reducible assumption))
    | (exfalso
       simp_all
       omega)
theorem t11_ok (ρ : Env) : TblOK Φ ρ Try.prog t11 := addLp_ok (t7_ok ρ) on1_ok
set_option maxRecDepth 100000 in
theorem lOnce0_obs : callObs Φ Try.prog t11 1000 lOnce0.f lOnce0.vs lOnce0.o lOnce0.pc lOnce0.outs = some
  [{
      pc :=
        [SB.not
            (SB.app 134
              (SA.l (SL.app 5 (SA.i (SI.add (SI.rem (SI.v 0) (SI.c (Int.ofNat 8))) (SI.c (Int.ofNat 1))) SA.nil))
                (SA.l
                  (SL.lit
                    [[Int.ofNat 0], [Int.ofNat 0], [Int.ofNat 0], [Int.ofNat 0], [Int.ofNat 0], [Int.ofNat 0],
                      [Int.ofNat 0], [Int.ofNat 0], [Int.ofNat 0], [Int.ofNat 0], [Int.ofNat 0], [Int.ofNat 0],
                      [Int.ofNat 0], [Int.ofNat 0], [Int.ofNat 0], [Int.ofNat 0], [Int.ofNat 0], [Int.ofNat 0],
                      [Int.ofNat 0], [Int.ofNat 0], [Int.ofNat 0], [Int.ofNat 0], [Int.ofNat 0], [Int.ofNat 0],
                      [Int.ofNat 0], [Int.ofNat 0], [Int.ofNat 0], [Int.ofNat 0], [Int.ofNat 0], [Int.ofNat 0],
                      [Int.ofNat 0], [Int.ofNat 0], [Int.ofNat 0], [Int.ofNat 0], [Int.ofNat 0], [Int.ofNat 0],
                      [Int.ofNat 0], [Int.ofNat 0], [Int.ofNat 0], [Int.ofNat 0], [Int.ofNat 0], [Int.ofNat 0],
                      [Int.ofNat 0], [Int.ofNat 0], [Int.ofNat 0], [Int.ofNat 0], [Int.ofNat 0], [Int.ofNat 0],
                      [Int.ofNat 0], [Int.ofNat 0], [Int.ofNat 0], [Int.ofNat 0], [Int.ofNat 0], [Int.ofNat 0],
                      [Int.ofNat 0], [Int.ofNat 0], [Int.ofNat 0], [Int.ofNat 0], [Int.ofNat 0], [Int.ofNat 0],
                      [Int.ofNat 0], [Int.ofNat 0], [Int.ofNat 0], [Int.ofNat 0]])
                  SA.nil))),
          SB.app 130
            (SA.l (SL.app 5 (SA.i (SI.add (SI.rem (SI.v 0) (SI.c (Int.ofNat 8))) (SI.c (Int.ofNat 1))) SA.nil))
              (SA.l (SL.lit []) (SA.i (SI.c (Int.ofNat 4)) SA.nil))),
          SB.eq (SI.len (SL.app 5 (SA.i (SI.add (SI.rem (SI.v 0) (SI.c (Int.ofNat 8))) (SI.c (Int.ofNat 1))) SA.nil)))
            (SI.add (SI.rem (SI.v 0) (SI.c (Int.ofNat 8))) (SI.c (Int.ofNat 1))),
          SB.le (SI.c (Int.ofNat 0)) (SI.v 0), SB.le (SI.v 0) (SI.c (Int.ofNat 255))],
      eqs := [Eqn.T (SB.c false)] },
    {
      pc :=
        [SB.not
            (SB.eq
              (SI.app 104
                (SA.l (SL.app 5 (SA.i (SI.add (SI.rem (SI.v 0) (SI.c (Int.ofNat 8))) (SI.c (Int.ofNat 1))) SA.nil))
                  SA.nil))
              (SI.c (Int.ofNat 0))),
          SB.app 130
            (SA.l (SL.app 5 (SA.i (SI.add (SI.rem (SI.v 0) (SI.c (Int.ofNat 8))) (SI.c (Int.ofNat 1))) SA.nil))
              (SA.l (SL.lit []) (SA.i (SI.c (Int.ofNat 4)) SA.nil))),
          SB.eq (SI.len (SL.app 5 (SA.i (SI.add (SI.rem (SI.v 0) (SI.c (Int.ofNat 8))) (SI.c (Int.ofNat 1))) SA.nil)))
            (SI.add (SI.rem (SI.v 0) (SI.c (Int.ofNat 8))) (SI.c (Int.ofNat 1))),
          SB.le (SI.c (Int.ofNat 0)) (SI.v 0), SB.le (SI.v 0) (SI.c (Int.ofNat 255))],
      eqs := [Eqn.T (SB.c false)] }] := by kernel_rfl
theorem lOnce0_ok : lOnce0.ok Φ Try.prog := by
  refine call_rule (fun ρ => t11_ok ρ) lOnce0_obs ?_
  simp only [and_imp, List.forall_mem_cons, List.not_mem_nil, false_implies, implies_true, and_true, Ob.ok, holds, Eqn.ok, evB_eq, evB_lt, evB_le, evB_not, evB_and, evB_or, evB_eqL, evB_app, evB_v, evB_c, ev_sel, ev_len, ev_v, ev_c, ev_add, ev_sub, ev_mul, ev_quo, ev_rem, ev_bits, ev_wrap, evL_v, evL_lit, evL_app, ev_app, evA_l, evA_i, evA_nil, std_min, std_max, std_cat, std_take, std_drop, std_row, std_set, std_rep, std_find, std_put, std_del, std_flag, std_unflag, std_clr, std_left, std_copy, ints_cons, ints_nil, ofNat_lit, negSucc_lit, decide_eq_true_eq, Bool.and_eq_true, Bool.or_eq_true, Bool.not_eq_true', Bool.and_eq_false_iff, Bool.or_eq_false_iff, decide_eq_false_iff_not, std_rowT, std_setT, lenR_rowT, rowT_get, aI100, aI101, aI102, aI103, aI104, aI105, aI106, aI107, aI110, aI111, aI112, aI113, aI114, aL110, aL111, aL112, aL113, aL115, aL116, aL120, aL121, aB130, aB131, aB132, aB133, aB134, aB135, aB136, aB199, Bool.not_eq_false']
  repeat' apply And.intro
  all_goals intro ρ hR
  all_goals intros
  all_goals first
    | (exfalso
       exact Bool.false_ne_true (‹inB _ _ = false›.symm.trans (in_new0 _)))
    | (exfalso
       have h := ‹¬ total _ = 0›
       exact h (total_new _))
theorem lOnce_ok : lOnce.ok Φ Try.prog := drop_never rfl lOnce0_ok
end Go.SF.C17
