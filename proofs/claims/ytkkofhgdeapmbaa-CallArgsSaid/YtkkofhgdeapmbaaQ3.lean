/- cut, named and number, shown. -/
import Derived.Test.YtkkofhgdeapmbaaQ2
import Derived.Test.YtkkofhgdeapmbaaP6
import Derived.KernelRfl
namespace Go.SF.C22
open Go Go.SF Go.Proofs
set_option linter.unusedVariables false
set_option linter.unusedSimpArgs false

set_option maxRecDepth 100000 in
theorem ct0_obs : loopObs Φ Try.prog noTbl 1000 ct0.f (loopAt Try.prog ct0.f ct0.id) ct0.n ct0.T k0 ct0.outs = some
  [{pc := [.eq (.app 4 (.i (.app 6 (.i (.v 0) (.i (.c 0) (.i (.v 1) .nil)))) .nil)) (.v 1), .eq (.app 4 (.i (.app 6 (.i (.v 0) (.i (.add (.v 1) (.c 1)) (.i (.app 4 (.i (.v 0) .nil)) .nil)))) .nil)) (.sub (.app 4 (.i (.v 0) .nil)) (.add (.v 1) (.c 1))), .eq (.app 5 (.i (.v 0) (.i (.v 1) .nil))) (.c 32), .lt (.v 1) (.app 4 (.i (.v 0) .nil)), .le (.c 0) (.v 0), .le (.app 4 (.i (.v 0) .nil)) (.c 1000), .le (.c 0) (.v 1), .le (.v 1) (.app 4 (.i (.v 0) .nil)), .c true, .app 132 (.i (.v 0) (.i (.v 1) .nil))], eqs := [.T (.app 131 (.i (.v 0) .nil)), .I (.app 103 (.i (.v 0) .nil)) (.app 6 (.i (.v 0) (.i (.c 0) (.i (.v 1) .nil)))), .I (.app 104 (.i (.v 0) .nil)) (.app 6 (.i (.v 0) (.i (.add (.v 1) (.c 1)) (.i (.app 4 (.i (.v 0) .nil)) .nil))))]}, {pc := [.not (.eq (.app 5 (.i (.v 0) (.i (.v 1) .nil))) (.c 32)), .lt (.v 1) (.app 4 (.i (.v 0) .nil)), .le (.c 0) (.v 0), .le (.app 4 (.i (.v 0) .nil)) (.c 1000), .le (.c 0) (.v 1), .le (.v 1) (.app 4 (.i (.v 0) .nil)), .c true, .app 132 (.i (.v 0) (.i (.v 1) .nil))], eqs := [.T (.lt (.sub (.app 4 (.i (.v 0) .nil)) (.add (.v 1) (.c 1))) (.sub (.app 4 (.i (.v 0) .nil)) (.v 1))), .T (.lt (.c 0) (.sub (.app 4 (.i (.v 0) .nil)) (.v 1))), .T (.app 132 (.i (.v 0) (.i (.add (.v 1) (.c 1)) .nil)))]}, {pc := [.not (.lt (.v 1) (.app 4 (.i (.v 0) .nil))), .le (.c 0) (.v 0), .le (.app 4 (.i (.v 0) .nil)) (.c 1000), .le (.c 0) (.v 1), .le (.v 1) (.app 4 (.i (.v 0) .nil)), .c true, .app 132 (.i (.v 0) (.i (.v 1) .nil))], eqs := [.T (.not (.app 131 (.i (.v 0) .nil)))]}] := by kernel_rfl
theorem ct0_ok : ct0.ok Φ Try.prog := by
  refine ⟨by kernel_rfl, loop_rule (fun ρ => noTbl_ok) (loopAt_sub (by kernel_rfl)) ct0_obs ?_⟩
  simp only [and_imp, List.forall_mem_cons, List.not_mem_nil, false_implies, implies_true, and_true, Ob.ok, holds, Eqn.ok, evB_eq, evB_lt, evB_le, evB_not, evB_and, evB_or, evB_eqL, evB_app, evB_v, evB_c, ev_sel, ev_len, ev_v, ev_c, ev_add, ev_sub, ev_mul, ev_quo, ev_rem, ev_bits, ev_wrap, evL_v, evL_lit, evL_app, ev_app, evA_l, evA_i, evA_nil, std_min, std_max, std_cat, std_take, std_drop, std_row, std_set, std_rep, std_find, std_put, std_del, std_flag, std_unflag, std_clr, std_left, std_copy, std_cnt, std_catS, std_lenS, std_atS, std_subS, std_ofB, std_snd, std_rcv, ints_cons, ints_nil, ofNat_lit, negSucc_lit, decide_eq_true_eq, Bool.and_eq_true, Bool.or_eq_true, Bool.not_eq_true', Bool.and_eq_false_iff, Bool.or_eq_false_iff, decide_eq_false_iff_not, aI100, aI101, aI102, aI103, aI104, aI105, aI106, aI107, aI108, aI109, aI113, aI114, aI115, aI121, aI123, aI124, aL110, aL111, aL112, aB130, aB131, aB132, aB133, aB134, aB135, aB136, aB199, Bool.not_eq_false']
  repeat' apply And.intro
  all_goals intro ρ hR
  all_goals intros
  all_goals first
    | (have hb : noBl (strB (ρ.i 0)) (ρ.i 1) = true := by with_reducible assumption
       exact cut_hit (by omega) (by omega) (by assumption) hb)
    | (have hb : noBl (strB (ρ.i 0)) (ρ.i 1) = true := by with_reducible assumption
       exact ⟨by omega, by omega, noBl_step (by omega) (by omega) (by assumption) hb⟩)
    | (have hb : noBl (strB (ρ.i 0)) (ρ.i 1) = true := by with_reducible assumption
       exact noBl_end (by omega) hb)
theorem t6_ok (ρ : Env) : TblOK Φ ρ Try.prog t6 := addLp_ok noTbl_ok ct0_ok
set_option maxRecDepth 100000 in
theorem cCut_obs : callObs Φ Try.prog t6 1000 cCut.f cCut.vs cCut.o cCut.pc cCut.outs = some
  [{pc := [.not (.app 131 (.i (.v 0) .nil)), .app 132 (.i (.v 0) (.i (.c 0) .nil)), .le (.c 0) (.v 0), .le (.app 4 (.i (.v 0) .nil)) (.c 1000)], eqs := [.T (.le (.c 0) (.app 103 (.i (.v 0) .nil))), .T (.le (.app 4 (.i (.app 103 (.i (.v 0) .nil)) .nil)) (.app 4 (.i (.v 0) .nil))), .T (.le (.c 0) (.app 104 (.i (.v 0) .nil))), .T (.le (.app 4 (.i (.app 104 (.i (.v 0) .nil)) .nil)) (.app 4 (.i (.v 0) .nil))), .I (.app 103 (.i (.v 0) .nil)) (.v 0), .I (.app 104 (.i (.v 0) .nil)) (.c 0), .B (.app 131 (.i (.v 0) .nil)) (.c false)]}, {pc := [.app 131 (.i (.v 0) .nil), .app 132 (.i (.v 0) (.i (.c 0) .nil)), .le (.c 0) (.v 0), .le (.app 4 (.i (.v 0) .nil)) (.c 1000)], eqs := [.T (.le (.c 0) (.app 103 (.i (.v 0) .nil))), .T (.le (.app 4 (.i (.app 103 (.i (.v 0) .nil)) .nil)) (.app 4 (.i (.v 0) .nil))), .T (.le (.c 0) (.app 104 (.i (.v 0) .nil))), .T (.le (.app 4 (.i (.app 104 (.i (.v 0) .nil)) .nil)) (.app 4 (.i (.v 0) .nil))), .B (.app 131 (.i (.v 0) .nil)) (.c true)]}, {pc := [.not (.app 132 (.i (.v 0) (.i (.c 0) .nil))), .le (.c 0) (.v 0), .le (.app 4 (.i (.v 0) .nil)) (.c 1000)], eqs := [.T (.c false)]}] := by kernel_rfl
theorem cCut_ok : cCut.ok Φ Try.prog := by
  refine call_rule (fun ρ => t6_ok ρ) cCut_obs ?_
  simp only [and_imp, List.forall_mem_cons, List.not_mem_nil, false_implies, implies_true, and_true, Ob.ok, holds, Eqn.ok, evB_eq, evB_lt, evB_le, evB_not, evB_and, evB_or, evB_eqL, evB_app, evB_v, evB_c, ev_sel, ev_len, ev_v, ev_c, ev_add, ev_sub, ev_mul, ev_quo, ev_rem, ev_bits, ev_wrap, evL_v, evL_lit, evL_app, ev_app, evA_l, evA_i, evA_nil, std_min, std_max, std_cat, std_take, std_drop, std_row, std_set, std_rep, std_find, std_put, std_del, std_flag, std_unflag, std_clr, std_left, std_copy, std_cnt, std_catS, std_lenS, std_atS, std_subS, std_ofB, std_snd, std_rcv, ints_cons, ints_nil, ofNat_lit, negSucc_lit, decide_eq_true_eq, Bool.and_eq_true, Bool.or_eq_true, Bool.not_eq_true', Bool.and_eq_false_iff, Bool.or_eq_false_iff, decide_eq_false_iff_not, aI100, aI101, aI102, aI103, aI104, aI105, aI106, aI107, aI108, aI109, aI113, aI114, aI115, aI121, aI123, aI124, aL110, aL111, aL112, aB130, aB131, aB132, aB133, aB134, aB135, aB136, aB199, Bool.not_eq_false']
  repeat' apply And.intro
  all_goals intro ρ hR
  all_goals intros
  all_goals first
    | (have h := cut_none (s := ρ.i 0) (by omega) (by with_reducible assumption)
       obtain ⟨h1, h2, h3, h4⟩ := cut_le (ρ.i 0)
       exact ⟨h1, h2, h3, h4, h.1, h.2, by with_reducible assumption⟩)
    | (obtain ⟨h1, h2, h3, h4⟩ := cut_le (ρ.i 0)
       exact ⟨h1, h2, h3, h4, by with_reducible assumption⟩)
    | (have h : noBl (strB (ρ.i 0)) 0 = false := by with_reducible assumption
       rw [noBl_0] at h
       cases h)
theorem t7_ok (ρ : Env) : TblOK Φ ρ Try.prog t7 := addFn_ok (t5_ok ρ) cCut_ok
set_option maxRecDepth 100000 in
theorem nm0_obs : loopObs Φ Try.prog t7 1000 nm0.f (loopAt Try.prog nm0.f nm0.id) nm0.n nm0.T left nm0.outs = some
  [{pc := [.not (.lt (.c 0) (.len (.app 12 (.l (.v 0) .nil)))), .le (.c 0) (.v 0), .le (.app 4 (.i (.v 0) .nil)) (.c 1000), .c true, .app 133 (.l (.v 0) (.i (.v 0) .nil))], eqs := [.T (.eq (.app 105 (.i (.v 0) .nil)) (.c (.negSucc 0)))]}, {pc := [.eq (.sel (.app 6 (.l (.app 11 (.l (.v 0) (.i (.v 1000) .nil))) (.i (.v 1000) .nil))) (.c 0) 1) (.v 0), .eq (.sel (.app 6 (.l (.v 0) (.i (.v 1000) .nil))) (.c 0) 3) (.c 1), .eq (.len (.app 6 (.l (.v 0) (.i (.v 1000) .nil)))) (.c 1), .eq (.len (.app 6 (.l (.app 11 (.l (.v 0) (.i (.v 1000) .nil))) (.i (.v 1000) .nil)))) (.c 1), .lt (.c 0) (.len (.app 12 (.l (.v 0) .nil))), .le (.c 0) (.sel (.app 6 (.l (.app 11 (.l (.v 0) (.i (.v 1000) .nil))) (.i (.v 1000) .nil))) (.c 0) 1), .le (.c 0) (.sel (.app 6 (.l (.v 0) (.i (.v 1000) .nil))) (.c 0) 1), .le (.c 0) (.v 0), .le (.app 4 (.i (.v 0) .nil)) (.c 1000), .c true, .app 133 (.l (.v 0) (.i (.v 0) .nil))], eqs := [.I (.app 105 (.i (.v 0) .nil)) (.v 1000)]}, {pc := [.not (.eq (.sel (.app 6 (.l (.app 11 (.l (.v 0) (.i (.v 1000) .nil))) (.i (.v 1000) .nil))) (.c 0) 1) (.v 0)), .eq (.sel (.app 6 (.l (.v 0) (.i (.v 1000) .nil))) (.c 0) 3) (.c 1), .eq (.len (.app 6 (.l (.v 0) (.i (.v 1000) .nil)))) (.c 1), .eq (.len (.app 6 (.l (.app 11 (.l (.v 0) (.i (.v 1000) .nil))) (.i (.v 1000) .nil)))) (.c 1), .lt (.c 0) (.len (.app 12 (.l (.v 0) .nil))), .le (.c 0) (.sel (.app 6 (.l (.app 11 (.l (.v 0) (.i (.v 1000) .nil))) (.i (.v 1000) .nil))) (.c 0) 1), .le (.c 0) (.sel (.app 6 (.l (.v 0) (.i (.v 1000) .nil))) (.c 0) 1), .le (.c 0) (.v 0), .le (.app 4 (.i (.v 0) .nil)) (.c 1000), .c true, .app 133 (.l (.v 0) (.i (.v 0) .nil))], eqs := [.T (.lt (.add (.len (.app 12 (.l (.app 11 (.l (.v 0) (.i (.v 1000) .nil))) .nil))) (.c 1)) (.add (.len (.app 12 (.l (.v 0) .nil))) (.c 1))), .T (.app 133 (.l (.app 11 (.l (.v 0) (.i (.v 1000) .nil))) (.i (.v 0) .nil)))]}] := by kernel_rfl
theorem nm0_ok : nm0.ok Φ Try.prog := by
  refine ⟨by kernel_rfl, loop_rule (fun ρ => t7_ok ρ) (loopAt_sub (by kernel_rfl)) nm0_obs ?_⟩
  simp only [and_imp, List.forall_mem_cons, List.not_mem_nil, false_implies, implies_true, and_true, Ob.ok, holds, Eqn.ok, evB_eq, evB_lt, evB_le, evB_not, evB_and, evB_or, evB_eqL, evB_app, evB_v, evB_c, ev_sel, ev_len, ev_v, ev_c, ev_add, ev_sub, ev_mul, ev_quo, ev_rem, ev_bits, ev_wrap, evL_v, evL_lit, evL_app, ev_app, evA_l, evA_i, evA_nil, std_min, std_max, std_cat, std_take, std_drop, std_row, std_set, std_rep, std_find, std_put, std_del, std_flag, std_unflag, std_clr, std_left, std_copy, std_cnt, std_catS, std_lenS, std_atS, std_subS, std_ofB, std_snd, std_rcv, ints_cons, ints_nil, ofNat_lit, negSucc_lit, decide_eq_true_eq, Bool.and_eq_true, Bool.or_eq_true, Bool.not_eq_true', Bool.and_eq_false_iff, Bool.or_eq_false_iff, decide_eq_false_iff_not, aI100, aI101, aI102, aI103, aI104, aI105, aI106, aI107, aI108, aI109, aI113, aI114, aI115, aI121, aI123, aI124, aL110, aL111, aL112, aB130, aB131, aB132, aB133, aB134, aB135, aB136, aB199, Bool.not_eq_false']
  repeat' apply And.intro
  all_goals intro ρ hR
  all_goals intros
  all_goals first
    | (have hb : doneB (ρ.l 0) (ρ.i 0) = true := by with_reducible assumption
       exact done_end (by omega) hb (by omega))
    | (have hb : doneB (ρ.l 0) (ρ.i 0) = true := by with_reducible assumption
       exact done_hit (by omega) hb (by with_reducible assumption) (by with_reducible assumption))
    | (have hb : doneB (ρ.l 0) (ρ.i 0) = true := by with_reducible assumption
       exact done_step hb (by with_reducible assumption) (by with_reducible assumption) (by with_reducible assumption) (by with_reducible assumption))
theorem t8_ok (ρ : Env) : TblOK Φ ρ Try.prog t8 := addLp_ok (t7_ok ρ) nm0_ok
set_option maxRecDepth 100000 in
theorem cNamed_obs : callObs Φ Try.prog t8 1000 cNamed.f cNamed.vs cNamed.o cNamed.pc cNamed.outs = some
  [{pc := [.eq (.app 105 (.i (.v 0) .nil)) (.c (.negSucc 0)), .app 133 (.l (.lit [[Int.ofNat 1, Int.ofNat 110446801745254, Int.ofNat 0, Int.ofNat 1], [Int.ofNat 2, Int.ofNat 28541623020515450, Int.ofNat 1, Int.ofNat 1], [Int.ofNat 3, Int.ofNat 111533579466086, Int.ofNat 2, Int.ofNat 1], [Int.ofNat 4, Int.ofNat 32482203839654510, Int.ofNat 1, Int.ofNat 1], [Int.ofNat 5, Int.ofNat 31933599211480181, Int.ofNat 2, Int.ofNat 1], [Int.ofNat 6, Int.ofNat 1836081765, Int.ofNat 1, Int.ofNat 1], [Int.ofNat 7, Int.ofNat 500186510182, Int.ofNat 2, Int.ofNat 1], [Int.ofNat 8, Int.ofNat 482771166835, Int.ofNat 3, Int.ofNat 1], [Int.ofNat 9, Int.ofNat 1969384550, Int.ofNat 3, Int.ofNat 1], [Int.ofNat 10, Int.ofNat 1667392620, Int.ofNat 1, Int.ofNat 1], [Int.ofNat 11, Int.ofNat 126883927714918, Int.ofNat 1, Int.ofNat 1], [Int.ofNat 12, Int.ofNat 1886479983, Int.ofNat 1, Int.ofNat 1], [Int.ofNat 13, Int.ofNat 1667919717, Int.ofNat 2, Int.ofNat 1], [Int.ofNat 14, Int.ofNat 1952870245, Int.ofNat 1, Int.ofNat 1], [Int.ofNat 15, Int.ofNat 1903193453, Int.ofNat 0, Int.ofNat 1], [Int.ofNat 16, Int.ofNat 431332815974, Int.ofNat 1, Int.ofNat 1], [Int.ofNat 17, Int.ofNat 500236183153, Int.ofNat 0, Int.ofNat 1]]) (.i (.v 0) .nil)), .le (.c 0) (.v 0), .le (.app 4 (.i (.v 0) .nil)) (.c 1000)], eqs := [.I (.app 105 (.i (.v 0) .nil)) (.c (.negSucc 0))]}, {pc := [.app 133 (.l (.lit [[Int.ofNat 1, Int.ofNat 110446801745254, Int.ofNat 0, Int.ofNat 1], [Int.ofNat 2, Int.ofNat 28541623020515450, Int.ofNat 1, Int.ofNat 1], [Int.ofNat 3, Int.ofNat 111533579466086, Int.ofNat 2, Int.ofNat 1], [Int.ofNat 4, Int.ofNat 32482203839654510, Int.ofNat 1, Int.ofNat 1], [Int.ofNat 5, Int.ofNat 31933599211480181, Int.ofNat 2, Int.ofNat 1], [Int.ofNat 6, Int.ofNat 1836081765, Int.ofNat 1, Int.ofNat 1], [Int.ofNat 7, Int.ofNat 500186510182, Int.ofNat 2, Int.ofNat 1], [Int.ofNat 8, Int.ofNat 482771166835, Int.ofNat 3, Int.ofNat 1], [Int.ofNat 9, Int.ofNat 1969384550, Int.ofNat 3, Int.ofNat 1], [Int.ofNat 10, Int.ofNat 1667392620, Int.ofNat 1, Int.ofNat 1], [Int.ofNat 11, Int.ofNat 126883927714918, Int.ofNat 1, Int.ofNat 1], [Int.ofNat 12, Int.ofNat 1886479983, Int.ofNat 1, Int.ofNat 1], [Int.ofNat 13, Int.ofNat 1667919717, Int.ofNat 2, Int.ofNat 1], [Int.ofNat 14, Int.ofNat 1952870245, Int.ofNat 1, Int.ofNat 1], [Int.ofNat 15, Int.ofNat 1903193453, Int.ofNat 0, Int.ofNat 1], [Int.ofNat 16, Int.ofNat 431332815974, Int.ofNat 1, Int.ofNat 1], [Int.ofNat 17, Int.ofNat 500236183153, Int.ofNat 0, Int.ofNat 1]]) (.i (.v 0) .nil)), .le (.c 0) (.v 0), .le (.app 4 (.i (.v 0) .nil)) (.c 1000)], eqs := [.T (.le (.c (.negSucc 0)) (.app 105 (.i (.v 0) .nil))), .T (.le (.app 105 (.i (.v 0) .nil)) (.c 17))]}, {pc := [.not (.app 133 (.l (.lit [[Int.ofNat 1, Int.ofNat 110446801745254, Int.ofNat 0, Int.ofNat 1], [Int.ofNat 2, Int.ofNat 28541623020515450, Int.ofNat 1, Int.ofNat 1], [Int.ofNat 3, Int.ofNat 111533579466086, Int.ofNat 2, Int.ofNat 1], [Int.ofNat 4, Int.ofNat 32482203839654510, Int.ofNat 1, Int.ofNat 1], [Int.ofNat 5, Int.ofNat 31933599211480181, Int.ofNat 2, Int.ofNat 1], [Int.ofNat 6, Int.ofNat 1836081765, Int.ofNat 1, Int.ofNat 1], [Int.ofNat 7, Int.ofNat 500186510182, Int.ofNat 2, Int.ofNat 1], [Int.ofNat 8, Int.ofNat 482771166835, Int.ofNat 3, Int.ofNat 1], [Int.ofNat 9, Int.ofNat 1969384550, Int.ofNat 3, Int.ofNat 1], [Int.ofNat 10, Int.ofNat 1667392620, Int.ofNat 1, Int.ofNat 1], [Int.ofNat 11, Int.ofNat 126883927714918, Int.ofNat 1, Int.ofNat 1], [Int.ofNat 12, Int.ofNat 1886479983, Int.ofNat 1, Int.ofNat 1], [Int.ofNat 13, Int.ofNat 1667919717, Int.ofNat 2, Int.ofNat 1], [Int.ofNat 14, Int.ofNat 1952870245, Int.ofNat 1, Int.ofNat 1], [Int.ofNat 15, Int.ofNat 1903193453, Int.ofNat 0, Int.ofNat 1], [Int.ofNat 16, Int.ofNat 431332815974, Int.ofNat 1, Int.ofNat 1], [Int.ofNat 17, Int.ofNat 500236183153, Int.ofNat 0, Int.ofNat 1]]) (.i (.v 0) .nil))), .le (.c 0) (.v 0), .le (.app 4 (.i (.v 0) .nil)) (.c 1000)], eqs := [.T (.c false)]}] := by kernel_rfl
theorem cNamed_ok : cNamed.ok Φ Try.prog := by
  refine call_rule (fun ρ => t8_ok ρ) cNamed_obs ?_
  simp only [and_imp, List.forall_mem_cons, List.not_mem_nil, false_implies, implies_true, and_true, Ob.ok, holds, Eqn.ok, evB_eq, evB_lt, evB_le, evB_not, evB_and, evB_or, evB_eqL, evB_app, evB_v, evB_c, ev_sel, ev_len, ev_v, ev_c, ev_add, ev_sub, ev_mul, ev_quo, ev_rem, ev_bits, ev_wrap, evL_v, evL_lit, evL_app, ev_app, evA_l, evA_i, evA_nil, std_min, std_max, std_cat, std_take, std_drop, std_row, std_set, std_rep, std_find, std_put, std_del, std_flag, std_unflag, std_clr, std_left, std_copy, std_cnt, std_catS, std_lenS, std_atS, std_subS, std_ofB, std_snd, std_rcv, ints_cons, ints_nil, ofNat_lit, negSucc_lit, decide_eq_true_eq, Bool.and_eq_true, Bool.or_eq_true, Bool.not_eq_true', Bool.and_eq_false_iff, Bool.or_eq_false_iff, decide_eq_false_iff_not, aI100, aI101, aI102, aI103, aI104, aI105, aI106, aI107, aI108, aI109, aI113, aI114, aI115, aI121, aI123, aI124, aL110, aL111, aL112, aB130, aB131, aB132, aB133, aB134, aB135, aB136, aB199, Bool.not_eq_false']
  simp only [done_lit]
  repeat' apply And.intro
  all_goals intro ρ hR
  all_goals intros
  all_goals first
    | (with_reducible assumption)
    | (have h := named_range (strB (ρ.i 0))
       exact ⟨by omega, by omega⟩)
    | (exfalso
       have h : true = false := by with_reducible assumption
       cases h)
set_option maxRecDepth 100000 in
theorem nb0_obs : loopObs Φ Try.prog (addFn Φ t8 cNamed) 1000 nb0.f (loopAt Try.prog nb0.f nb0.id) nb0.n nb0.T kN nb0.outs = some
  [{pc := [.lt (.app 5 (.i (.v 0) (.i (.v 2) .nil))) (.c 48), .lt (.app 5 (.i (.v 0) (.i (.v 2) .nil))) (.c 128), .lt (.v 2) (.app 4 (.i (.v 0) .nil)), .le (.c 0) (.v 0), .le (.app 4 (.i (.v 0) .nil)) (.c 1000), .le (.c 0) (.v 1), .le (.v 1) (.c 18446744073709551615), .le (.c 0) (.v 2), .le (.v 2) (.app 4 (.i (.v 0) .nil)), .c true, .app 134 (.i (.v 0) (.i (.v 2) (.i (.v 1) .nil)))], eqs := [.T (.not (.app 136 (.i (.v 0) .nil)))]}, {pc := [.lt (.c 57) (.app 5 (.i (.v 0) (.i (.v 2) .nil))), .not (.lt (.app 5 (.i (.v 0) (.i (.v 2) .nil))) (.c 48)), .lt (.app 5 (.i (.v 0) (.i (.v 2) .nil))) (.c 128), .lt (.v 2) (.app 4 (.i (.v 0) .nil)), .le (.c 0) (.v 0), .le (.app 4 (.i (.v 0) .nil)) (.c 1000), .le (.c 0) (.v 1), .le (.v 1) (.c 18446744073709551615), .le (.c 0) (.v 2), .le (.v 2) (.app 4 (.i (.v 0) .nil)), .c true, .app 134 (.i (.v 0) (.i (.v 2) (.i (.v 1) .nil)))], eqs := [.T (.not (.app 136 (.i (.v 0) .nil)))]}, {pc := [.not (.lt (.c 57) (.app 5 (.i (.v 0) (.i (.v 2) .nil)))), .not (.lt (.app 5 (.i (.v 0) (.i (.v 2) .nil))) (.c 48)), .lt (.app 5 (.i (.v 0) (.i (.v 2) .nil))) (.c 128), .lt (.v 2) (.app 4 (.i (.v 0) .nil)), .le (.c 0) (.v 0), .le (.app 4 (.i (.v 0) .nil)) (.c 1000), .le (.c 0) (.v 1), .le (.v 1) (.c 18446744073709551615), .le (.c 0) (.v 2), .le (.v 2) (.app 4 (.i (.v 0) .nil)), .c true, .app 134 (.i (.v 0) (.i (.v 2) (.i (.v 1) .nil)))], eqs := [.T (.lt (.sub (.app 4 (.i (.v 0) .nil)) (.add (.v 2) (.c 1))) (.sub (.app 4 (.i (.v 0) .nil)) (.v 2))), .T (.lt (.c 0) (.sub (.app 4 (.i (.v 0) .nil)) (.v 2))), .T (.app 134 (.i (.v 0) (.i (.add (.v 2) (.c 1)) (.i (.wrap IntKind.u64 (.add (.wrap IntKind.u64 (.mul (.c 10) (.v 1))) (.sub (.app 5 (.i (.v 0) (.i (.v 2) .nil))) (.c 48)))) .nil))))]}, {pc := [.le (.c 128) (.v 1000), .lt (.v 2) (.v 1001), .not (.lt (.app 5 (.i (.v 0) (.i (.v 2) .nil))) (.c 128)), .lt (.v 2) (.app 4 (.i (.v 0) .nil)), .le (.c 0) (.v 0), .le (.app 4 (.i (.v 0) .nil)) (.c 1000), .le (.c 0) (.v 1), .le (.v 1) (.c 18446744073709551615), .le (.c 0) (.v 2), .le (.v 2) (.app 4 (.i (.v 0) .nil)), .c true, .app 134 (.i (.v 0) (.i (.v 2) (.i (.v 1) .nil)))], eqs := [.T (.not (.app 136 (.i (.v 0) .nil)))]}, {pc := [.not (.lt (.v 2) (.app 4 (.i (.v 0) .nil))), .le (.c 0) (.v 0), .le (.app 4 (.i (.v 0) .nil)) (.c 1000), .le (.c 0) (.v 1), .le (.v 1) (.c 18446744073709551615), .le (.c 0) (.v 2), .le (.v 2) (.app 4 (.i (.v 0) .nil)), .c true, .app 134 (.i (.v 0) (.i (.v 2) (.i (.v 1) .nil)))], eqs := [.T (.app 136 (.i (.v 0) .nil)), .T (.le (.c 0) (.app 106 (.i (.v 0) .nil))), .T (.le (.app 106 (.i (.v 0) .nil)) (.c 18446744073709551615)), .I (.app 106 (.i (.v 0) .nil)) (.v 1)]}] := by kernel_rfl
theorem nb0_ok : nb0.ok Φ Try.prog := by
  refine ⟨by kernel_rfl, loop_rule (fun ρ => addFn_ok (t8_ok ρ) cNamed_ok) (loopAt_sub (by kernel_rfl)) nb0_obs ?_⟩
  simp only [and_imp, List.forall_mem_cons, List.not_mem_nil, false_implies, implies_true, and_true, Ob.ok, holds, Eqn.ok, evB_eq, evB_lt, evB_le, evB_not, evB_and, evB_or, evB_eqL, evB_app, evB_v, evB_c, ev_sel, ev_len, ev_v, ev_c, ev_add, ev_sub, ev_mul, ev_quo, ev_rem, ev_bits, ev_wrap, evL_v, evL_lit, evL_app, ev_app, evA_l, evA_i, evA_nil, std_min, std_max, std_cat, std_take, std_drop, std_row, std_set, std_rep, std_find, std_put, std_del, std_flag, std_unflag, std_clr, std_left, std_copy, std_cnt, std_catS, std_lenS, std_atS, std_subS, std_ofB, std_snd, std_rcv, ints_cons, ints_nil, ofNat_lit, negSucc_lit, decide_eq_true_eq, Bool.and_eq_true, Bool.or_eq_true, Bool.not_eq_true', Bool.and_eq_false_iff, Bool.or_eq_false_iff, decide_eq_false_iff_not, aI100, aI101, aI102, aI103, aI104, aI105, aI106, aI107, aI108, aI109, aI113, aI114, aI115, aI121, aI123, aI124, aL110, aL111, aL112, aB130, aB131, aB132, aB133, aB134, aB135, aB136, aB199, Bool.not_eq_false']
  repeat' apply And.intro
  all_goals intro ρ hR
  all_goals intros
  all_goals first
    | (exact dig_bad (i := ρ.i 2) (by omega) (by omega) (by omega))
    | (have hb : numB (strB (ρ.i 0)) (ρ.i 2) (ρ.i 1) = true := by with_reducible assumption
       exact ⟨by omega, by omega, num_step (by omega) (by omega) (by assumption) (by assumption) hb⟩)
    | (have hb : numB (strB (ρ.i 0)) (ρ.i 2) (ρ.i 1) = true := by with_reducible assumption
       obtain ⟨h1, h2⟩ := num_end (by omega) hb
       have h3 := numV_range (ρ.i 0)
       unfold numV at h3
       exact ⟨h1, h3.1, h3.2, by rw [if_pos h1]; exact h2⟩)
theorem t9_ok (ρ : Env) : TblOK Φ ρ Try.prog t9 := addLp_ok (addFn_ok (t8_ok ρ) cNamed_ok) nb0_ok
set_option maxRecDepth 100000 in
theorem cNum_obs : callObs Φ Try.prog t9 1000 cNum.f cNum.vs cNum.o cNum.pc cNum.outs = some
  [{pc := [.le (.app 4 (.i (.app 101 (.i (.app 106 (.i (.v 0) .nil)) .nil)) .nil)) (.c 20), .le (.c 0) (.app 101 (.i (.app 106 (.i (.v 0) .nil)) .nil)), .le (.app 106 (.i (.v 0) .nil)) (.c 18446744073709551615), .le (.c 0) (.app 106 (.i (.v 0) .nil)), .app 136 (.i (.v 0) .nil), .app 134 (.i (.v 0) (.i (.c 0) (.i (.c 0) .nil))), .le (.c 0) (.v 0), .le (.app 4 (.i (.v 0) .nil)) (.c 1000)], eqs := [.B (.app 135 (.i (.v 0) .nil)) (.eq (.app 101 (.i (.app 106 (.i (.v 0) .nil)) .nil)) (.v 0))]}, {pc := [.not (.app 136 (.i (.v 0) .nil)), .app 134 (.i (.v 0) (.i (.c 0) (.i (.c 0) .nil))), .le (.c 0) (.v 0), .le (.app 4 (.i (.v 0) .nil)) (.c 1000)], eqs := [.T (.le (.c 0) (.app 106 (.i (.v 0) .nil))), .T (.le (.app 106 (.i (.v 0) .nil)) (.c 18446744073709551615)), .I (.app 106 (.i (.v 0) .nil)) (.c 0), .B (.app 135 (.i (.v 0) .nil)) (.c false)]}, {pc := [.not (.app 134 (.i (.v 0) (.i (.c 0) (.i (.c 0) .nil)))), .le (.c 0) (.v 0), .le (.app 4 (.i (.v 0) .nil)) (.c 1000)], eqs := [.T (.c false)]}] := by kernel_rfl
theorem cNum_ok : cNum.ok Φ Try.prog := by
  refine call_rule (fun ρ => t9_ok ρ) cNum_obs ?_
  simp only [and_imp, List.forall_mem_cons, List.not_mem_nil, false_implies, implies_true, and_true, Ob.ok, holds, Eqn.ok, evB_eq, evB_lt, evB_le, evB_not, evB_and, evB_or, evB_eqL, evB_app, evB_v, evB_c, ev_sel, ev_len, ev_v, ev_c, ev_add, ev_sub, ev_mul, ev_quo, ev_rem, ev_bits, ev_wrap, evL_v, evL_lit, evL_app, ev_app, evA_l, evA_i, evA_nil, std_min, std_max, std_cat, std_take, std_drop, std_row, std_set, std_rep, std_find, std_put, std_del, std_flag, std_unflag, std_clr, std_left, std_copy, std_cnt, std_catS, std_lenS, std_atS, std_subS, std_ofB, std_snd, std_rcv, ints_cons, ints_nil, ofNat_lit, negSucc_lit, decide_eq_true_eq, Bool.and_eq_true, Bool.or_eq_true, Bool.not_eq_true', Bool.and_eq_false_iff, Bool.or_eq_false_iff, decide_eq_false_iff_not, aI100, aI101, aI102, aI103, aI104, aI105, aI106, aI107, aI108, aI109, aI113, aI114, aI115, aI121, aI123, aI124, aL110, aL111, aL112, aB130, aB131, aB132, aB133, aB134, aB135, aB136, aB199, Bool.not_eq_false']
  repeat' apply And.intro
  all_goals intro ρ hR
  all_goals intros
  all_goals first
    | (exact ok_code (by omega) (by with_reducible assumption))
    | (have h : digB (strB (ρ.i 0)) = false := by with_reducible assumption
       rw [ok_not h, h]
       simp)
    | (have h : numB (strB (ρ.i 0)) 0 0 = false := by with_reducible assumption
       rw [numB_0] at h
       cases h)
theorem t10_ok (ρ : Env) : TblOK Φ ρ Try.prog t10 := addFn_ok (t9_ok ρ) cNum_ok
end Go.SF.C22
