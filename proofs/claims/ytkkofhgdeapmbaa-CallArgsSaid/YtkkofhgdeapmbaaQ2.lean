/- Show, shown. -/
import Derived.Test.YtkkofhgdeapmbaaQ1
import Derived.KernelRfl
namespace Go.SF.C22
open Go Go.SF Go.Proofs
set_option linter.unusedVariables false
set_option linter.unusedSimpArgs false

theorem denK {ρ : Env} {μ : List Loc} {xs : List Value} {k : Int} (e : ρ.i 0 = k) (h : DenAll Φ ρ μ [callV] xs) : DenAll Φ ρ μ [callK k] xs := by
  have e2 : den Φ ρ μ (callK k) = den Φ ρ μ callV := by
    simp only [callK, callV, den, denL, denC, ev_c, x0, ev_v, e]
  refine ⟨h.1, fun i v x hv hx => ?_⟩
  cases i with
  | zero =>
    have hv : callK k = v := by simpa using hv
    rw [← hv, e2]
    exact h.2 0 _ x rfl hx
  | succ i => simp at hv

set_option maxRecDepth 100000 in
theorem shK1_obs : callObs Φ Try.prog t4 1000 shK1.f shK1.vs shK1.o shK1.pc shK1.outs = some
  [{pc := [.app 130 (.i (.c 1) (.i (.v 1) (.i (.v 2) (.i (.v 3) .nil)))), .le (.c 0) (.v 1), .le (.v 1) (.c 18446744073709551615), .le (.c 0) (.v 2), .le (.v 2) (.c 18446744073709551615), .le (.c 0) (.v 3), .le (.v 3) (.c 18446744073709551615), .eq (.v 0) (.c 1), .app 130 (.i (.v 0) (.i (.v 1) (.i (.v 2) (.i (.v 3) .nil))))], eqs := [.T (.le (.c 0) (.app 102 (.i (.v 0) (.i (.v 1) (.i (.v 2) (.i (.v 3) .nil)))))), .T (.le (.app 4 (.i (.app 102 (.i (.v 0) (.i (.v 1) (.i (.v 2) (.i (.v 3) .nil))))) .nil)) (.c 100)), .I (.app 102 (.i (.v 0) (.i (.v 1) (.i (.v 2) (.i (.v 3) .nil))))) (.c 110446801745254)]}, {pc := [.not (.app 130 (.i (.c 1) (.i (.v 1) (.i (.v 2) (.i (.v 3) .nil))))), .le (.c 0) (.v 1), .le (.v 1) (.c 18446744073709551615), .le (.c 0) (.v 2), .le (.v 2) (.c 18446744073709551615), .le (.c 0) (.v 3), .le (.v 3) (.c 18446744073709551615), .eq (.v 0) (.c 1), .app 130 (.i (.v 0) (.i (.v 1) (.i (.v 2) (.i (.v 3) .nil))))], eqs := [.T (.le (.c 0) (.app 102 (.i (.v 0) (.i (.v 1) (.i (.v 2) (.i (.v 3) .nil)))))), .T (.le (.app 4 (.i (.app 102 (.i (.v 0) (.i (.v 1) (.i (.v 2) (.i (.v 3) .nil))))) .nil)) (.c 100)), .I (.app 102 (.i (.v 0) (.i (.v 1) (.i (.v 2) (.i (.v 3) .nil))))) (.c 0)]}] := by kernel_rfl
theorem shK1_ok : shK1.ok Φ Try.prog := by
  refine call_rule (fun ρ => t4_ok ρ) shK1_obs ?_
  simp only [and_imp, List.forall_mem_cons, List.not_mem_nil, false_implies, implies_true, and_true, Ob.ok, holds, Eqn.ok, evB_eq, evB_lt, evB_le, evB_not, evB_and, evB_or, evB_eqL, evB_app, evB_v, evB_c, ev_sel, ev_len, ev_v, ev_c, ev_add, ev_sub, ev_mul, ev_quo, ev_rem, ev_bits, ev_wrap, evL_v, evL_lit, evL_app, ev_app, evA_l, evA_i, evA_nil, std_min, std_max, std_cat, std_take, std_drop, std_row, std_set, std_rep, std_find, std_put, std_del, std_flag, std_unflag, std_clr, std_left, std_copy, std_cnt, std_catS, std_lenS, std_atS, std_subS, std_ofB, std_snd, std_rcv, ints_cons, ints_nil, ofNat_lit, negSucc_lit, decide_eq_true_eq, Bool.and_eq_true, Bool.or_eq_true, Bool.not_eq_true', Bool.and_eq_false_iff, Bool.or_eq_false_iff, decide_eq_false_iff_not, aI100, aI101, aI102, aI103, aI104, aI105, aI106, aI107, aI108, aI109, aI113, aI114, aI115, aI121, aI123, aI124, aL110, aL111, aL112, aB130, aB131, aB132, aB133, aB134, aB135, aB136, aB199, Bool.not_eq_false']
  repeat' apply And.intro
  all_goals intro ρ hR
  all_goals intros
  all_goals first
    | (have e : ρ.i 0 = 1 := by with_reducible assumption
       have hr : rightB (ρ.i 0) (ρ.i 1) (ρ.i 2) (ρ.i 3) = true := by with_reducible assumption
       rw [e] at hr ⊢
       exact ⟨show_nn .., show_le .., sh0 (by decide) hr (by decide)⟩)
    | (have e : ρ.i 0 = 1 := by with_reducible assumption
       have hr : rightB (ρ.i 0) (ρ.i 1) (ρ.i 2) (ρ.i 3) = true := by with_reducible assumption
       rw [e] at hr
       have h2 : rightB 1 (ρ.i 1) (ρ.i 2) (ρ.i 3) = false := by with_reducible assumption
       rw [hr] at h2
       cases h2)
set_option maxRecDepth 100000 in
theorem shK2_obs : callObs Φ Try.prog t4 1000 shK2.f shK2.vs shK2.o shK2.pc shK2.outs = some
  [{pc := [.le (.app 4 (.i (.app 101 (.i (.v 1) .nil)) .nil)) (.c 20), .le (.c 0) (.app 101 (.i (.v 1) .nil)), .app 130 (.i (.c 2) (.i (.v 1) (.i (.v 2) (.i (.v 3) .nil)))), .le (.c 0) (.v 1), .le (.v 1) (.c 18446744073709551615), .le (.c 0) (.v 2), .le (.v 2) (.c 18446744073709551615), .le (.c 0) (.v 3), .le (.v 3) (.c 18446744073709551615), .eq (.v 0) (.c 2), .app 130 (.i (.v 0) (.i (.v 1) (.i (.v 2) (.i (.v 3) .nil))))], eqs := [.T (.le (.c 0) (.app 102 (.i (.v 0) (.i (.v 1) (.i (.v 2) (.i (.v 3) .nil)))))), .T (.le (.app 4 (.i (.app 102 (.i (.v 0) (.i (.v 1) (.i (.v 2) (.i (.v 3) .nil))))) .nil)) (.c 100)), .I (.app 102 (.i (.v 0) (.i (.v 1) (.i (.v 2) (.i (.v 3) .nil))))) (.app 3 (.i (.c 28541623020515450) (.i (.app 3 (.i (.c 33) (.i (.app 101 (.i (.v 1) .nil)) .nil))) .nil)))]}, {pc := [.not (.app 130 (.i (.c 2) (.i (.v 1) (.i (.v 2) (.i (.v 3) .nil))))), .le (.c 0) (.v 1), .le (.v 1) (.c 18446744073709551615), .le (.c 0) (.v 2), .le (.v 2) (.c 18446744073709551615), .le (.c 0) (.v 3), .le (.v 3) (.c 18446744073709551615), .eq (.v 0) (.c 2), .app 130 (.i (.v 0) (.i (.v 1) (.i (.v 2) (.i (.v 3) .nil))))], eqs := [.T (.le (.c 0) (.app 102 (.i (.v 0) (.i (.v 1) (.i (.v 2) (.i (.v 3) .nil)))))), .T (.le (.app 4 (.i (.app 102 (.i (.v 0) (.i (.v 1) (.i (.v 2) (.i (.v 3) .nil))))) .nil)) (.c 100)), .I (.app 102 (.i (.v 0) (.i (.v 1) (.i (.v 2) (.i (.v 3) .nil))))) (.c 0)]}] := by kernel_rfl
theorem shK2_ok : shK2.ok Φ Try.prog := by
  refine call_rule (fun ρ => t4_ok ρ) shK2_obs ?_
  simp only [and_imp, List.forall_mem_cons, List.not_mem_nil, false_implies, implies_true, and_true, Ob.ok, holds, Eqn.ok, evB_eq, evB_lt, evB_le, evB_not, evB_and, evB_or, evB_eqL, evB_app, evB_v, evB_c, ev_sel, ev_len, ev_v, ev_c, ev_add, ev_sub, ev_mul, ev_quo, ev_rem, ev_bits, ev_wrap, evL_v, evL_lit, evL_app, ev_app, evA_l, evA_i, evA_nil, std_min, std_max, std_cat, std_take, std_drop, std_row, std_set, std_rep, std_find, std_put, std_del, std_flag, std_unflag, std_clr, std_left, std_copy, std_cnt, std_catS, std_lenS, std_atS, std_subS, std_ofB, std_snd, std_rcv, ints_cons, ints_nil, ofNat_lit, negSucc_lit, decide_eq_true_eq, Bool.and_eq_true, Bool.or_eq_true, Bool.not_eq_true', Bool.and_eq_false_iff, Bool.or_eq_false_iff, decide_eq_false_iff_not, aI100, aI101, aI102, aI103, aI104, aI105, aI106, aI107, aI108, aI109, aI113, aI114, aI115, aI121, aI123, aI124, aL110, aL111, aL112, aB130, aB131, aB132, aB133, aB134, aB135, aB136, aB199, Bool.not_eq_false']
  repeat' apply And.intro
  all_goals intro ρ hR
  all_goals intros
  all_goals first
    | (have e : ρ.i 0 = 2 := by with_reducible assumption
       have hr : rightB (ρ.i 0) (ρ.i 1) (ρ.i 2) (ρ.i 3) = true := by with_reducible assumption
       rw [e] at hr ⊢
       exact ⟨show_nn .., show_le .., sh1 (by decide) hr (by decide)⟩)
    | (have e : ρ.i 0 = 2 := by with_reducible assumption
       have hr : rightB (ρ.i 0) (ρ.i 1) (ρ.i 2) (ρ.i 3) = true := by with_reducible assumption
       rw [e] at hr
       have h2 : rightB 2 (ρ.i 1) (ρ.i 2) (ρ.i 3) = false := by with_reducible assumption
       rw [hr] at h2
       cases h2)
set_option maxRecDepth 100000 in
theorem shK3_obs : callObs Φ Try.prog t4 1000 shK3.f shK3.vs shK3.o shK3.pc shK3.outs = some
  [{pc := [.le (.app 4 (.i (.app 101 (.i (.v 2) .nil)) .nil)) (.c 20), .le (.c 0) (.app 101 (.i (.v 2) .nil)), .le (.app 4 (.i (.app 101 (.i (.v 1) .nil)) .nil)) (.c 20), .le (.c 0) (.app 101 (.i (.v 1) .nil)), .app 130 (.i (.c 3) (.i (.v 1) (.i (.v 2) (.i (.v 3) .nil)))), .le (.c 0) (.v 1), .le (.v 1) (.c 18446744073709551615), .le (.c 0) (.v 2), .le (.v 2) (.c 18446744073709551615), .le (.c 0) (.v 3), .le (.v 3) (.c 18446744073709551615), .eq (.v 0) (.c 3), .app 130 (.i (.v 0) (.i (.v 1) (.i (.v 2) (.i (.v 3) .nil))))], eqs := [.T (.le (.c 0) (.app 102 (.i (.v 0) (.i (.v 1) (.i (.v 2) (.i (.v 3) .nil)))))), .T (.le (.app 4 (.i (.app 102 (.i (.v 0) (.i (.v 1) (.i (.v 2) (.i (.v 3) .nil))))) .nil)) (.c 100)), .I (.app 102 (.i (.v 0) (.i (.v 1) (.i (.v 2) (.i (.v 3) .nil))))) (.app 3 (.i (.app 3 (.i (.c 111533579466086) (.i (.app 3 (.i (.c 33) (.i (.app 101 (.i (.v 1) .nil)) .nil))) .nil))) (.i (.app 3 (.i (.c 33) (.i (.app 101 (.i (.v 2) .nil)) .nil))) .nil)))]}, {pc := [.not (.app 130 (.i (.c 3) (.i (.v 1) (.i (.v 2) (.i (.v 3) .nil))))), .le (.c 0) (.v 1), .le (.v 1) (.c 18446744073709551615), .le (.c 0) (.v 2), .le (.v 2) (.c 18446744073709551615), .le (.c 0) (.v 3), .le (.v 3) (.c 18446744073709551615), .eq (.v 0) (.c 3), .app 130 (.i (.v 0) (.i (.v 1) (.i (.v 2) (.i (.v 3) .nil))))], eqs := [.T (.le (.c 0) (.app 102 (.i (.v 0) (.i (.v 1) (.i (.v 2) (.i (.v 3) .nil)))))), .T (.le (.app 4 (.i (.app 102 (.i (.v 0) (.i (.v 1) (.i (.v 2) (.i (.v 3) .nil))))) .nil)) (.c 100)), .I (.app 102 (.i (.v 0) (.i (.v 1) (.i (.v 2) (.i (.v 3) .nil))))) (.c 0)]}] := by kernel_rfl
theorem shK3_ok : shK3.ok Φ Try.prog := by
  refine call_rule (fun ρ => t4_ok ρ) shK3_obs ?_
  simp only [and_imp, List.forall_mem_cons, List.not_mem_nil, false_implies, implies_true, and_true, Ob.ok, holds, Eqn.ok, evB_eq, evB_lt, evB_le, evB_not, evB_and, evB_or, evB_eqL, evB_app, evB_v, evB_c, ev_sel, ev_len, ev_v, ev_c, ev_add, ev_sub, ev_mul, ev_quo, ev_rem, ev_bits, ev_wrap, evL_v, evL_lit, evL_app, ev_app, evA_l, evA_i, evA_nil, std_min, std_max, std_cat, std_take, std_drop, std_row, std_set, std_rep, std_find, std_put, std_del, std_flag, std_unflag, std_clr, std_left, std_copy, std_cnt, std_catS, std_lenS, std_atS, std_subS, std_ofB, std_snd, std_rcv, ints_cons, ints_nil, ofNat_lit, negSucc_lit, decide_eq_true_eq, Bool.and_eq_true, Bool.or_eq_true, Bool.not_eq_true', Bool.and_eq_false_iff, Bool.or_eq_false_iff, decide_eq_false_iff_not, aI100, aI101, aI102, aI103, aI104, aI105, aI106, aI107, aI108, aI109, aI113, aI114, aI115, aI121, aI123, aI124, aL110, aL111, aL112, aB130, aB131, aB132, aB133, aB134, aB135, aB136, aB199, Bool.not_eq_false']
  repeat' apply And.intro
  all_goals intro ρ hR
  all_goals intros
  all_goals first
    | (have e : ρ.i 0 = 3 := by with_reducible assumption
       have hr : rightB (ρ.i 0) (ρ.i 1) (ρ.i 2) (ρ.i 3) = true := by with_reducible assumption
       rw [e] at hr ⊢
       exact ⟨show_nn .., show_le .., sh2 (by decide) hr (by decide)⟩)
    | (have e : ρ.i 0 = 3 := by with_reducible assumption
       have hr : rightB (ρ.i 0) (ρ.i 1) (ρ.i 2) (ρ.i 3) = true := by with_reducible assumption
       rw [e] at hr
       have h2 : rightB 3 (ρ.i 1) (ρ.i 2) (ρ.i 3) = false := by with_reducible assumption
       rw [hr] at h2
       cases h2)
set_option maxRecDepth 100000 in
theorem shK4_obs : callObs Φ Try.prog t4 1000 shK4.f shK4.vs shK4.o shK4.pc shK4.outs = some
  [{pc := [.le (.app 4 (.i (.app 101 (.i (.v 1) .nil)) .nil)) (.c 20), .le (.c 0) (.app 101 (.i (.v 1) .nil)), .app 130 (.i (.c 4) (.i (.v 1) (.i (.v 2) (.i (.v 3) .nil)))), .le (.c 0) (.v 1), .le (.v 1) (.c 18446744073709551615), .le (.c 0) (.v 2), .le (.v 2) (.c 18446744073709551615), .le (.c 0) (.v 3), .le (.v 3) (.c 18446744073709551615), .eq (.v 0) (.c 4), .app 130 (.i (.v 0) (.i (.v 1) (.i (.v 2) (.i (.v 3) .nil))))], eqs := [.T (.le (.c 0) (.app 102 (.i (.v 0) (.i (.v 1) (.i (.v 2) (.i (.v 3) .nil)))))), .T (.le (.app 4 (.i (.app 102 (.i (.v 0) (.i (.v 1) (.i (.v 2) (.i (.v 3) .nil))))) .nil)) (.c 100)), .I (.app 102 (.i (.v 0) (.i (.v 1) (.i (.v 2) (.i (.v 3) .nil))))) (.app 3 (.i (.c 32482203839654510) (.i (.app 3 (.i (.c 33) (.i (.app 101 (.i (.v 1) .nil)) .nil))) .nil)))]}, {pc := [.not (.app 130 (.i (.c 4) (.i (.v 1) (.i (.v 2) (.i (.v 3) .nil))))), .le (.c 0) (.v 1), .le (.v 1) (.c 18446744073709551615), .le (.c 0) (.v 2), .le (.v 2) (.c 18446744073709551615), .le (.c 0) (.v 3), .le (.v 3) (.c 18446744073709551615), .eq (.v 0) (.c 4), .app 130 (.i (.v 0) (.i (.v 1) (.i (.v 2) (.i (.v 3) .nil))))], eqs := [.T (.le (.c 0) (.app 102 (.i (.v 0) (.i (.v 1) (.i (.v 2) (.i (.v 3) .nil)))))), .T (.le (.app 4 (.i (.app 102 (.i (.v 0) (.i (.v 1) (.i (.v 2) (.i (.v 3) .nil))))) .nil)) (.c 100)), .I (.app 102 (.i (.v 0) (.i (.v 1) (.i (.v 2) (.i (.v 3) .nil))))) (.c 0)]}] := by kernel_rfl
theorem shK4_ok : shK4.ok Φ Try.prog := by
  refine call_rule (fun ρ => t4_ok ρ) shK4_obs ?_
  simp only [and_imp, List.forall_mem_cons, List.not_mem_nil, false_implies, implies_true, and_true, Ob.ok, holds, Eqn.ok, evB_eq, evB_lt, evB_le, evB_not, evB_and, evB_or, evB_eqL, evB_app, evB_v, evB_c, ev_sel, ev_len, ev_v, ev_c, ev_add, ev_sub, ev_mul, ev_quo, ev_rem, ev_bits, ev_wrap, evL_v, evL_lit, evL_app, ev_app, evA_l, evA_i, evA_nil, std_min, std_max, std_cat, std_take, std_drop, std_row, std_set, std_rep, std_find, std_put, std_del, std_flag, std_unflag, std_clr, std_left, std_copy, std_cnt, std_catS, std_lenS, std_atS, std_subS, std_ofB, std_snd, std_rcv, ints_cons, ints_nil, ofNat_lit, negSucc_lit, decide_eq_true_eq, Bool.and_eq_true, Bool.or_eq_true, Bool.not_eq_true', Bool.and_eq_false_iff, Bool.or_eq_false_iff, decide_eq_false_iff_not, aI100, aI101, aI102, aI103, aI104, aI105, aI106, aI107, aI108, aI109, aI113, aI114, aI115, aI121, aI123, aI124, aL110, aL111, aL112, aB130, aB131, aB132, aB133, aB134, aB135, aB136, aB199, Bool.not_eq_false']
  repeat' apply And.intro
  all_goals intro ρ hR
  all_goals intros
  all_goals first
    | (have e : ρ.i 0 = 4 := by with_reducible assumption
       have hr : rightB (ρ.i 0) (ρ.i 1) (ρ.i 2) (ρ.i 3) = true := by with_reducible assumption
       rw [e] at hr ⊢
       exact ⟨show_nn .., show_le .., sh1 (by decide) hr (by decide)⟩)
    | (have e : ρ.i 0 = 4 := by with_reducible assumption
       have hr : rightB (ρ.i 0) (ρ.i 1) (ρ.i 2) (ρ.i 3) = true := by with_reducible assumption
       rw [e] at hr
       have h2 : rightB 4 (ρ.i 1) (ρ.i 2) (ρ.i 3) = false := by with_reducible assumption
       rw [hr] at h2
       cases h2)
set_option maxRecDepth 100000 in
theorem shK5_obs : callObs Φ Try.prog t4 1000 shK5.f shK5.vs shK5.o shK5.pc shK5.outs = some
  [{pc := [.le (.app 4 (.i (.app 101 (.i (.v 2) .nil)) .nil)) (.c 20), .le (.c 0) (.app 101 (.i (.v 2) .nil)), .le (.app 4 (.i (.app 101 (.i (.v 1) .nil)) .nil)) (.c 20), .le (.c 0) (.app 101 (.i (.v 1) .nil)), .app 130 (.i (.c 5) (.i (.v 1) (.i (.v 2) (.i (.v 3) .nil)))), .le (.c 0) (.v 1), .le (.v 1) (.c 18446744073709551615), .le (.c 0) (.v 2), .le (.v 2) (.c 18446744073709551615), .le (.c 0) (.v 3), .le (.v 3) (.c 18446744073709551615), .eq (.v 0) (.c 5), .app 130 (.i (.v 0) (.i (.v 1) (.i (.v 2) (.i (.v 3) .nil))))], eqs := [.T (.le (.c 0) (.app 102 (.i (.v 0) (.i (.v 1) (.i (.v 2) (.i (.v 3) .nil)))))), .T (.le (.app 4 (.i (.app 102 (.i (.v 0) (.i (.v 1) (.i (.v 2) (.i (.v 3) .nil))))) .nil)) (.c 100)), .I (.app 102 (.i (.v 0) (.i (.v 1) (.i (.v 2) (.i (.v 3) .nil))))) (.app 3 (.i (.app 3 (.i (.c 31933599211480181) (.i (.app 3 (.i (.c 33) (.i (.app 101 (.i (.v 1) .nil)) .nil))) .nil))) (.i (.app 3 (.i (.c 33) (.i (.app 101 (.i (.v 2) .nil)) .nil))) .nil)))]}, {pc := [.not (.app 130 (.i (.c 5) (.i (.v 1) (.i (.v 2) (.i (.v 3) .nil))))), .le (.c 0) (.v 1), .le (.v 1) (.c 18446744073709551615), .le (.c 0) (.v 2), .le (.v 2) (.c 18446744073709551615), .le (.c 0) (.v 3), .le (.v 3) (.c 18446744073709551615), .eq (.v 0) (.c 5), .app 130 (.i (.v 0) (.i (.v 1) (.i (.v 2) (.i (.v 3) .nil))))], eqs := [.T (.le (.c 0) (.app 102 (.i (.v 0) (.i (.v 1) (.i (.v 2) (.i (.v 3) .nil)))))), .T (.le (.app 4 (.i (.app 102 (.i (.v 0) (.i (.v 1) (.i (.v 2) (.i (.v 3) .nil))))) .nil)) (.c 100)), .I (.app 102 (.i (.v 0) (.i (.v 1) (.i (.v 2) (.i (.v 3) .nil))))) (.c 0)]}] := by kernel_rfl
theorem shK5_ok : shK5.ok Φ Try.prog := by
  refine call_rule (fun ρ => t4_ok ρ) shK5_obs ?_
  simp only [and_imp, List.forall_mem_cons, List.not_mem_nil, false_implies, implies_true, and_true, Ob.ok, holds, Eqn.ok, evB_eq, evB_lt, evB_le, evB_not, evB_and, evB_or, evB_eqL, evB_app, evB_v, evB_c, ev_sel, ev_len, ev_v, ev_c, ev_add, ev_sub, ev_mul, ev_quo, ev_rem, ev_bits, ev_wrap, evL_v, evL_lit, evL_app, ev_app, evA_l, evA_i, evA_nil, std_min, std_max, std_cat, std_take, std_drop, std_row, std_set, std_rep, std_find, std_put, std_del, std_flag, std_unflag, std_clr, std_left, std_copy, std_cnt, std_catS, std_lenS, std_atS, std_subS, std_ofB, std_snd, std_rcv, ints_cons, ints_nil, ofNat_lit, negSucc_lit, decide_eq_true_eq, Bool.and_eq_true, Bool.or_eq_true, Bool.not_eq_true', Bool.and_eq_false_iff, Bool.or_eq_false_iff, decide_eq_false_iff_not, aI100, aI101, aI102, aI103, aI104, aI105, aI106, aI107, aI108, aI109, aI113, aI114, aI115, aI121, aI123, aI124, aL110, aL111, aL112, aB130, aB131, aB132, aB133, aB134, aB135, aB136, aB199, Bool.not_eq_false']
  repeat' apply And.intro
  all_goals intro ρ hR
  all_goals intros
  all_goals first
    | (have e : ρ.i 0 = 5 := by with_reducible assumption
       have hr : rightB (ρ.i 0) (ρ.i 1) (ρ.i 2) (ρ.i 3) = true := by with_reducible assumption
       rw [e] at hr ⊢
       exact ⟨show_nn .., show_le .., sh2 (by decide) hr (by decide)⟩)
    | (have e : ρ.i 0 = 5 := by with_reducible assumption
       have hr : rightB (ρ.i 0) (ρ.i 1) (ρ.i 2) (ρ.i 3) = true := by with_reducible assumption
       rw [e] at hr
       have h2 : rightB 5 (ρ.i 1) (ρ.i 2) (ρ.i 3) = false := by with_reducible assumption
       rw [hr] at h2
       cases h2)
set_option maxRecDepth 100000 in
theorem shK6_obs : callObs Φ Try.prog t4 1000 shK6.f shK6.vs shK6.o shK6.pc shK6.outs = some
  [{pc := [.le (.app 4 (.i (.app 101 (.i (.v 1) .nil)) .nil)) (.c 20), .le (.c 0) (.app 101 (.i (.v 1) .nil)), .app 130 (.i (.c 6) (.i (.v 1) (.i (.v 2) (.i (.v 3) .nil)))), .le (.c 0) (.v 1), .le (.v 1) (.c 18446744073709551615), .le (.c 0) (.v 2), .le (.v 2) (.c 18446744073709551615), .le (.c 0) (.v 3), .le (.v 3) (.c 18446744073709551615), .eq (.v 0) (.c 6), .app 130 (.i (.v 0) (.i (.v 1) (.i (.v 2) (.i (.v 3) .nil))))], eqs := [.T (.le (.c 0) (.app 102 (.i (.v 0) (.i (.v 1) (.i (.v 2) (.i (.v 3) .nil)))))), .T (.le (.app 4 (.i (.app 102 (.i (.v 0) (.i (.v 1) (.i (.v 2) (.i (.v 3) .nil))))) .nil)) (.c 100)), .I (.app 102 (.i (.v 0) (.i (.v 1) (.i (.v 2) (.i (.v 3) .nil))))) (.app 3 (.i (.c 1836081765) (.i (.app 3 (.i (.c 33) (.i (.app 101 (.i (.v 1) .nil)) .nil))) .nil)))]}, {pc := [.not (.app 130 (.i (.c 6) (.i (.v 1) (.i (.v 2) (.i (.v 3) .nil))))), .le (.c 0) (.v 1), .le (.v 1) (.c 18446744073709551615), .le (.c 0) (.v 2), .le (.v 2) (.c 18446744073709551615), .le (.c 0) (.v 3), .le (.v 3) (.c 18446744073709551615), .eq (.v 0) (.c 6), .app 130 (.i (.v 0) (.i (.v 1) (.i (.v 2) (.i (.v 3) .nil))))], eqs := [.T (.le (.c 0) (.app 102 (.i (.v 0) (.i (.v 1) (.i (.v 2) (.i (.v 3) .nil)))))), .T (.le (.app 4 (.i (.app 102 (.i (.v 0) (.i (.v 1) (.i (.v 2) (.i (.v 3) .nil))))) .nil)) (.c 100)), .I (.app 102 (.i (.v 0) (.i (.v 1) (.i (.v 2) (.i (.v 3) .nil))))) (.c 0)]}] := by kernel_rfl
theorem shK6_ok : shK6.ok Φ Try.prog := by
  refine call_rule (fun ρ => t4_ok ρ) shK6_obs ?_
  simp only [and_imp, List.forall_mem_cons, List.not_mem_nil, false_implies, implies_true, and_true, Ob.ok, holds, Eqn.ok, evB_eq, evB_lt, evB_le, evB_not, evB_and, evB_or, evB_eqL, evB_app, evB_v, evB_c, ev_sel, ev_len, ev_v, ev_c, ev_add, ev_sub, ev_mul, ev_quo, ev_rem, ev_bits, ev_wrap, evL_v, evL_lit, evL_app, ev_app, evA_l, evA_i, evA_nil, std_min, std_max, std_cat, std_take, std_drop, std_row, std_set, std_rep, std_find, std_put, std_del, std_flag, std_unflag, std_clr, std_left, std_copy, std_cnt, std_catS, std_lenS, std_atS, std_subS, std_ofB, std_snd, std_rcv, ints_cons, ints_nil, ofNat_lit, negSucc_lit, decide_eq_true_eq, Bool.and_eq_true, Bool.or_eq_true, Bool.not_eq_true', Bool.and_eq_false_iff, Bool.or_eq_false_iff, decide_eq_false_iff_not, aI100, aI101, aI102, aI103, aI104, aI105, aI106, aI107, aI108, aI109, aI113, aI114, aI115, aI121, aI123, aI124, aL110, aL111, aL112, aB130, aB131, aB132, aB133, aB134, aB135, aB136, aB199, Bool.not_eq_false']
  repeat' apply And.intro
  all_goals intro ρ hR
  all_goals intros
  all_goals first
    | (have e : ρ.i 0 = 6 := by with_reducible assumption
       have hr : rightB (ρ.i 0) (ρ.i 1) (ρ.i 2) (ρ.i 3) = true := by with_reducible assumption
       rw [e] at hr ⊢
       exact ⟨show_nn .., show_le .., sh1 (by decide) hr (by decide)⟩)
    | (have e : ρ.i 0 = 6 := by with_reducible assumption
       have hr : rightB (ρ.i 0) (ρ.i 1) (ρ.i 2) (ρ.i 3) = true := by with_reducible assumption
       rw [e] at hr
       have h2 : rightB 6 (ρ.i 1) (ρ.i 2) (ρ.i 3) = false := by with_reducible assumption
       rw [hr] at h2
       cases h2)
set_option maxRecDepth 100000 in
theorem shK7_obs : callObs Φ Try.prog t4 1000 shK7.f shK7.vs shK7.o shK7.pc shK7.outs = some
  [{pc := [.le (.app 4 (.i (.app 101 (.i (.v 2) .nil)) .nil)) (.c 20), .le (.c 0) (.app 101 (.i (.v 2) .nil)), .le (.app 4 (.i (.app 101 (.i (.v 1) .nil)) .nil)) (.c 20), .le (.c 0) (.app 101 (.i (.v 1) .nil)), .app 130 (.i (.c 7) (.i (.v 1) (.i (.v 2) (.i (.v 3) .nil)))), .le (.c 0) (.v 1), .le (.v 1) (.c 18446744073709551615), .le (.c 0) (.v 2), .le (.v 2) (.c 18446744073709551615), .le (.c 0) (.v 3), .le (.v 3) (.c 18446744073709551615), .eq (.v 0) (.c 7), .app 130 (.i (.v 0) (.i (.v 1) (.i (.v 2) (.i (.v 3) .nil))))], eqs := [.T (.le (.c 0) (.app 102 (.i (.v 0) (.i (.v 1) (.i (.v 2) (.i (.v 3) .nil)))))), .T (.le (.app 4 (.i (.app 102 (.i (.v 0) (.i (.v 1) (.i (.v 2) (.i (.v 3) .nil))))) .nil)) (.c 100)), .I (.app 102 (.i (.v 0) (.i (.v 1) (.i (.v 2) (.i (.v 3) .nil))))) (.app 3 (.i (.app 3 (.i (.c 500186510182) (.i (.app 3 (.i (.c 33) (.i (.app 101 (.i (.v 1) .nil)) .nil))) .nil))) (.i (.app 3 (.i (.c 33) (.i (.app 101 (.i (.v 2) .nil)) .nil))) .nil)))]}, {pc := [.not (.app 130 (.i (.c 7) (.i (.v 1) (.i (.v 2) (.i (.v 3) .nil))))), .le (.c 0) (.v 1), .le (.v 1) (.c 18446744073709551615), .le (.c 0) (.v 2), .le (.v 2) (.c 18446744073709551615), .le (.c 0) (.v 3), .le (.v 3) (.c 18446744073709551615), .eq (.v 0) (.c 7), .app 130 (.i (.v 0) (.i (.v 1) (.i (.v 2) (.i (.v 3) .nil))))], eqs := [.T (.le (.c 0) (.app 102 (.i (.v 0) (.i (.v 1) (.i (.v 2) (.i (.v 3) .nil)))))), .T (.le (.app 4 (.i (.app 102 (.i (.v 0) (.i (.v 1) (.i (.v 2) (.i (.v 3) .nil))))) .nil)) (.c 100)), .I (.app 102 (.i (.v 0) (.i (.v 1) (.i (.v 2) (.i (.v 3) .nil))))) (.c 0)]}] := by kernel_rfl
theorem shK7_ok : shK7.ok Φ Try.prog := by
  refine call_rule (fun ρ => t4_ok ρ) shK7_obs ?_
  simp only [and_imp, List.forall_mem_cons, List.not_mem_nil, false_implies, implies_true, and_true, Ob.ok, holds, Eqn.ok, evB_eq, evB_lt, evB_le, evB_not, evB_and, evB_or, evB_eqL, evB_app, evB_v, evB_c, ev_sel, ev_len, ev_v, ev_c, ev_add, ev_sub, ev_mul, ev_quo, ev_rem, ev_bits, ev_wrap, evL_v, evL_lit, evL_app, ev_app, evA_l, evA_i, evA_nil, std_min, std_max, std_cat, std_take, std_drop, std_row, std_set, std_rep, std_find, std_put, std_del, std_flag, std_unflag, std_clr, std_left, std_copy, std_cnt, std_catS, std_lenS, std_atS, std_subS, std_ofB, std_snd, std_rcv, ints_cons, ints_nil, ofNat_lit, negSucc_lit, decide_eq_true_eq, Bool.and_eq_true, Bool.or_eq_true, Bool.not_eq_true', Bool.and_eq_false_iff, Bool.or_eq_false_iff, decide_eq_false_iff_not, aI100, aI101, aI102, aI103, aI104, aI105, aI106, aI107, aI108, aI109, aI113, aI114, aI115, aI121, aI123, aI124, aL110, aL111, aL112, aB130, aB131, aB132, aB133, aB134, aB135, aB136, aB199, Bool.not_eq_false']
  repeat' apply And.intro
  all_goals intro ρ hR
  all_goals intros
  all_goals first
    | (have e : ρ.i 0 = 7 := by with_reducible assumption
       have hr : rightB (ρ.i 0) (ρ.i 1) (ρ.i 2) (ρ.i 3) = true := by with_reducible assumption
       rw [e] at hr ⊢
       exact ⟨show_nn .., show_le .., sh2 (by decide) hr (by decide)⟩)
    | (have e : ρ.i 0 = 7 := by with_reducible assumption
       have hr : rightB (ρ.i 0) (ρ.i 1) (ρ.i 2) (ρ.i 3) = true := by with_reducible assumption
       rw [e] at hr
       have h2 : rightB 7 (ρ.i 1) (ρ.i 2) (ρ.i 3) = false := by with_reducible assumption
       rw [hr] at h2
       cases h2)
set_option maxRecDepth 100000 in
theorem shK8_obs : callObs Φ Try.prog t4 1000 shK8.f shK8.vs shK8.o shK8.pc shK8.outs = some
  [{pc := [.le (.app 4 (.i (.app 101 (.i (.v 3) .nil)) .nil)) (.c 20), .le (.c 0) (.app 101 (.i (.v 3) .nil)), .le (.app 4 (.i (.app 101 (.i (.v 2) .nil)) .nil)) (.c 20), .le (.c 0) (.app 101 (.i (.v 2) .nil)), .le (.app 4 (.i (.app 101 (.i (.v 1) .nil)) .nil)) (.c 20), .le (.c 0) (.app 101 (.i (.v 1) .nil)), .app 130 (.i (.c 8) (.i (.v 1) (.i (.v 2) (.i (.v 3) .nil)))), .le (.c 0) (.v 1), .le (.v 1) (.c 18446744073709551615), .le (.c 0) (.v 2), .le (.v 2) (.c 18446744073709551615), .le (.c 0) (.v 3), .le (.v 3) (.c 18446744073709551615), .eq (.v 0) (.c 8), .app 130 (.i (.v 0) (.i (.v 1) (.i (.v 2) (.i (.v 3) .nil))))], eqs := [.T (.le (.c 0) (.app 102 (.i (.v 0) (.i (.v 1) (.i (.v 2) (.i (.v 3) .nil)))))), .T (.le (.app 4 (.i (.app 102 (.i (.v 0) (.i (.v 1) (.i (.v 2) (.i (.v 3) .nil))))) .nil)) (.c 100)), .I (.app 102 (.i (.v 0) (.i (.v 1) (.i (.v 2) (.i (.v 3) .nil))))) (.app 3 (.i (.app 3 (.i (.app 3 (.i (.c 482771166835) (.i (.app 3 (.i (.c 33) (.i (.app 101 (.i (.v 1) .nil)) .nil))) .nil))) (.i (.app 3 (.i (.c 33) (.i (.app 101 (.i (.v 2) .nil)) .nil))) .nil))) (.i (.app 3 (.i (.c 33) (.i (.app 101 (.i (.v 3) .nil)) .nil))) .nil)))]}, {pc := [.not (.app 130 (.i (.c 8) (.i (.v 1) (.i (.v 2) (.i (.v 3) .nil))))), .le (.c 0) (.v 1), .le (.v 1) (.c 18446744073709551615), .le (.c 0) (.v 2), .le (.v 2) (.c 18446744073709551615), .le (.c 0) (.v 3), .le (.v 3) (.c 18446744073709551615), .eq (.v 0) (.c 8), .app 130 (.i (.v 0) (.i (.v 1) (.i (.v 2) (.i (.v 3) .nil))))], eqs := [.T (.le (.c 0) (.app 102 (.i (.v 0) (.i (.v 1) (.i (.v 2) (.i (.v 3) .nil)))))), .T (.le (.app 4 (.i (.app 102 (.i (.v 0) (.i (.v 1) (.i (.v 2) (.i (.v 3) .nil))))) .nil)) (.c 100)), .I (.app 102 (.i (.v 0) (.i (.v 1) (.i (.v 2) (.i (.v 3) .nil))))) (.c 0)]}] := by kernel_rfl
theorem shK8_ok : shK8.ok Φ Try.prog := by
  refine call_rule (fun ρ => t4_ok ρ) shK8_obs ?_
  simp only [and_imp, List.forall_mem_cons, List.not_mem_nil, false_implies, implies_true, and_true, Ob.ok, holds, Eqn.ok, evB_eq, evB_lt, evB_le, evB_not, evB_and, evB_or, evB_eqL, evB_app, evB_v, evB_c, ev_sel, ev_len, ev_v, ev_c, ev_add, ev_sub, ev_mul, ev_quo, ev_rem, ev_bits, ev_wrap, evL_v, evL_lit, evL_app, ev_app, evA_l, evA_i, evA_nil, std_min, std_max, std_cat, std_take, std_drop, std_row, std_set, std_rep, std_find, std_put, std_del, std_flag, std_unflag, std_clr, std_left, std_copy, std_cnt, std_catS, std_lenS, std_atS, std_subS, std_ofB, std_snd, std_rcv, ints_cons, ints_nil, ofNat_lit, negSucc_lit, decide_eq_true_eq, Bool.and_eq_true, Bool.or_eq_true, Bool.not_eq_true', Bool.and_eq_false_iff, Bool.or_eq_false_iff, decide_eq_false_iff_not, aI100, aI101, aI102, aI103, aI104, aI105, aI106, aI107, aI108, aI109, aI113, aI114, aI115, aI121, aI123, aI124, aL110, aL111, aL112, aB130, aB131, aB132, aB133, aB134, aB135, aB136, aB199, Bool.not_eq_false']
  repeat' apply And.intro
  all_goals intro ρ hR
  all_goals intros
  all_goals first
    | (have e : ρ.i 0 = 8 := by with_reducible assumption
       have hr : rightB (ρ.i 0) (ρ.i 1) (ρ.i 2) (ρ.i 3) = true := by with_reducible assumption
       rw [e] at hr ⊢
       exact ⟨show_nn .., show_le .., sh3 (by decide) hr (by decide)⟩)
    | (have e : ρ.i 0 = 8 := by with_reducible assumption
       have hr : rightB (ρ.i 0) (ρ.i 1) (ρ.i 2) (ρ.i 3) = true := by with_reducible assumption
       rw [e] at hr
       have h2 : rightB 8 (ρ.i 1) (ρ.i 2) (ρ.i 3) = false := by with_reducible assumption
       rw [hr] at h2
       cases h2)
set_option maxRecDepth 100000 in
theorem shK9_obs : callObs Φ Try.prog t4 1000 shK9.f shK9.vs shK9.o shK9.pc shK9.outs = some
  [{pc := [.le (.app 4 (.i (.app 101 (.i (.v 3) .nil)) .nil)) (.c 20), .le (.c 0) (.app 101 (.i (.v 3) .nil)), .le (.app 4 (.i (.app 101 (.i (.v 2) .nil)) .nil)) (.c 20), .le (.c 0) (.app 101 (.i (.v 2) .nil)), .le (.app 4 (.i (.app 101 (.i (.v 1) .nil)) .nil)) (.c 20), .le (.c 0) (.app 101 (.i (.v 1) .nil)), .app 130 (.i (.c 9) (.i (.v 1) (.i (.v 2) (.i (.v 3) .nil)))), .le (.c 0) (.v 1), .le (.v 1) (.c 18446744073709551615), .le (.c 0) (.v 2), .le (.v 2) (.c 18446744073709551615), .le (.c 0) (.v 3), .le (.v 3) (.c 18446744073709551615), .eq (.v 0) (.c 9), .app 130 (.i (.v 0) (.i (.v 1) (.i (.v 2) (.i (.v 3) .nil))))], eqs := [.T (.le (.c 0) (.app 102 (.i (.v 0) (.i (.v 1) (.i (.v 2) (.i (.v 3) .nil)))))), .T (.le (.app 4 (.i (.app 102 (.i (.v 0) (.i (.v 1) (.i (.v 2) (.i (.v 3) .nil))))) .nil)) (.c 100)), .I (.app 102 (.i (.v 0) (.i (.v 1) (.i (.v 2) (.i (.v 3) .nil))))) (.app 3 (.i (.app 3 (.i (.app 3 (.i (.c 1969384550) (.i (.app 3 (.i (.c 33) (.i (.app 101 (.i (.v 1) .nil)) .nil))) .nil))) (.i (.app 3 (.i (.c 33) (.i (.app 101 (.i (.v 2) .nil)) .nil))) .nil))) (.i (.app 3 (.i (.c 33) (.i (.app 101 (.i (.v 3) .nil)) .nil))) .nil)))]}, {pc := [.not (.app 130 (.i (.c 9) (.i (.v 1) (.i (.v 2) (.i (.v 3) .nil))))), .le (.c 0) (.v 1), .le (.v 1) (.c 18446744073709551615), .le (.c 0) (.v 2), .le (.v 2) (.c 18446744073709551615), .le (.c 0) (.v 3), .le (.v 3) (.c 18446744073709551615), .eq (.v 0) (.c 9), .app 130 (.i (.v 0) (.i (.v 1) (.i (.v 2) (.i (.v 3) .nil))))], eqs := [.T (.le (.c 0) (.app 102 (.i (.v 0) (.i (.v 1) (.i (.v 2) (.i (.v 3) .nil)))))), .T (.le (.app 4 (.i (.app 102 (.i (.v 0) (.i (.v 1) (.i (.v 2) (.i (.v 3) .nil))))) .nil)) (.c 100)), .I (.app 102 (.i (.v 0) (.i (.v 1) (.i (.v 2) (.i (.v 3) .nil))))) (.c 0)]}] := by kernel_rfl
theorem shK9_ok : shK9.ok Φ Try.prog := by
  refine call_rule (fun ρ => t4_ok ρ) shK9_obs ?_
  simp only [and_imp, List.forall_mem_cons, List.not_mem_nil, false_implies, implies_true, and_true, Ob.ok, holds, Eqn.ok, evB_eq, evB_lt, evB_le, evB_not, evB_and, evB_or, evB_eqL, evB_app, evB_v, evB_c, ev_sel, ev_len, ev_v, ev_c, ev_add, ev_sub, ev_mul, ev_quo, ev_rem, ev_bits, ev_wrap, evL_v, evL_lit, evL_app, ev_app, evA_l, evA_i, evA_nil, std_min, std_max, std_cat, std_take, std_drop, std_row, std_set, std_rep, std_find, std_put, std_del, std_flag, std_unflag, std_clr, std_left, std_copy, std_cnt, std_catS, std_lenS, std_atS, std_subS, std_ofB, std_snd, std_rcv, ints_cons, ints_nil, ofNat_lit, negSucc_lit, decide_eq_true_eq, Bool.and_eq_true, Bool.or_eq_true, Bool.not_eq_true', Bool.and_eq_false_iff, Bool.or_eq_false_iff, decide_eq_false_iff_not, aI100, aI101, aI102, aI103, aI104, aI105, aI106, aI107, aI108, aI109, aI113, aI114, aI115, aI121, aI123, aI124, aL110, aL111, aL112, aB130, aB131, aB132, aB133, aB134, aB135, aB136, aB199, Bool.not_eq_false']
  repeat' apply And.intro
  all_goals intro ρ hR
  all_goals intros
  all_goals first
    | (have e : ρ.i 0 = 9 := by with_reducible assumption
       have hr : rightB (ρ.i 0) (ρ.i 1) (ρ.i 2) (ρ.i 3) = true := by with_reducible assumption
       rw [e] at hr ⊢
       exact ⟨show_nn .., show_le .., sh3 (by decide) hr (by decide)⟩)
    | (have e : ρ.i 0 = 9 := by with_reducible assumption
       have hr : rightB (ρ.i 0) (ρ.i 1) (ρ.i 2) (ρ.i 3) = true := by with_reducible assumption
       rw [e] at hr
       have h2 : rightB 9 (ρ.i 1) (ρ.i 2) (ρ.i 3) = false := by with_reducible assumption
       rw [hr] at h2
       cases h2)
set_option maxRecDepth 100000 in
theorem shK10_obs : callObs Φ Try.prog t4 1000 shK10.f shK10.vs shK10.o shK10.pc shK10.outs = some
  [{pc := [.le (.app 4 (.i (.app 101 (.i (.v 1) .nil)) .nil)) (.c 20), .le (.c 0) (.app 101 (.i (.v 1) .nil)), .app 130 (.i (.c 10) (.i (.v 1) (.i (.v 2) (.i (.v 3) .nil)))), .le (.c 0) (.v 1), .le (.v 1) (.c 18446744073709551615), .le (.c 0) (.v 2), .le (.v 2) (.c 18446744073709551615), .le (.c 0) (.v 3), .le (.v 3) (.c 18446744073709551615), .eq (.v 0) (.c 10), .app 130 (.i (.v 0) (.i (.v 1) (.i (.v 2) (.i (.v 3) .nil))))], eqs := [.T (.le (.c 0) (.app 102 (.i (.v 0) (.i (.v 1) (.i (.v 2) (.i (.v 3) .nil)))))), .T (.le (.app 4 (.i (.app 102 (.i (.v 0) (.i (.v 1) (.i (.v 2) (.i (.v 3) .nil))))) .nil)) (.c 100)), .I (.app 102 (.i (.v 0) (.i (.v 1) (.i (.v 2) (.i (.v 3) .nil))))) (.app 3 (.i (.c 1667392620) (.i (.app 3 (.i (.c 33) (.i (.app 101 (.i (.v 1) .nil)) .nil))) .nil)))]}, {pc := [.not (.app 130 (.i (.c 10) (.i (.v 1) (.i (.v 2) (.i (.v 3) .nil))))), .le (.c 0) (.v 1), .le (.v 1) (.c 18446744073709551615), .le (.c 0) (.v 2), .le (.v 2) (.c 18446744073709551615), .le (.c 0) (.v 3), .le (.v 3) (.c 18446744073709551615), .eq (.v 0) (.c 10), .app 130 (.i (.v 0) (.i (.v 1) (.i (.v 2) (.i (.v 3) .nil))))], eqs := [.T (.le (.c 0) (.app 102 (.i (.v 0) (.i (.v 1) (.i (.v 2) (.i (.v 3) .nil)))))), .T (.le (.app 4 (.i (.app 102 (.i (.v 0) (.i (.v 1) (.i (.v 2) (.i (.v 3) .nil))))) .nil)) (.c 100)), .I (.app 102 (.i (.v 0) (.i (.v 1) (.i (.v 2) (.i (.v 3) .nil))))) (.c 0)]}] := by kernel_rfl
theorem shK10_ok : shK10.ok Φ Try.prog := by
  refine call_rule (fun ρ => t4_ok ρ) shK10_obs ?_
  simp only [and_imp, List.forall_mem_cons, List.not_mem_nil, false_implies, implies_true, and_true, Ob.ok, holds, Eqn.ok, evB_eq, evB_lt, evB_le, evB_not, evB_and, evB_or, evB_eqL, evB_app, evB_v, evB_c, ev_sel, ev_len, ev_v, ev_c, ev_add, ev_sub, ev_mul, ev_quo, ev_rem, ev_bits, ev_wrap, evL_v, evL_lit, evL_app, ev_app, evA_l, evA_i, evA_nil, std_min, std_max, std_cat, std_take, std_drop, std_row, std_set, std_rep, std_find, std_put, std_del, std_flag, std_unflag, std_clr, std_left, std_copy, std_cnt, std_catS, std_lenS, std_atS, std_subS, std_ofB, std_snd, std_rcv, ints_cons, ints_nil, ofNat_lit, negSucc_lit, decide_eq_true_eq, Bool.and_eq_true, Bool.or_eq_true, Bool.not_eq_true', Bool.and_eq_false_iff, Bool.or_eq_false_iff, decide_eq_false_iff_not, aI100, aI101, aI102, aI103, aI104, aI105, aI106, aI107, aI108, aI109, aI113, aI114, aI115, aI121, aI123, aI124, aL110, aL111, aL112, aB130, aB131, aB132, aB133, aB134, aB135, aB136, aB199, Bool.not_eq_false']
  repeat' apply And.intro
  all_goals intro ρ hR
  all_goals intros
  all_goals first
    | (have e : ρ.i 0 = 10 := by with_reducible assumption
       have hr : rightB (ρ.i 0) (ρ.i 1) (ρ.i 2) (ρ.i 3) = true := by with_reducible assumption
       rw [e] at hr ⊢
       exact ⟨show_nn .., show_le .., sh1 (by decide) hr (by decide)⟩)
    | (have e : ρ.i 0 = 10 := by with_reducible assumption
       have hr : rightB (ρ.i 0) (ρ.i 1) (ρ.i 2) (ρ.i 3) = true := by with_reducible assumption
       rw [e] at hr
       have h2 : rightB 10 (ρ.i 1) (ρ.i 2) (ρ.i 3) = false := by with_reducible assumption
       rw [hr] at h2
       cases h2)
set_option maxRecDepth 100000 in
theorem shK11_obs : callObs Φ Try.prog t4 1000 shK11.f shK11.vs shK11.o shK11.pc shK11.outs = some
  [{pc := [.le (.app 4 (.i (.app 101 (.i (.v 1) .nil)) .nil)) (.c 20), .le (.c 0) (.app 101 (.i (.v 1) .nil)), .app 130 (.i (.c 11) (.i (.v 1) (.i (.v 2) (.i (.v 3) .nil)))), .le (.c 0) (.v 1), .le (.v 1) (.c 18446744073709551615), .le (.c 0) (.v 2), .le (.v 2) (.c 18446744073709551615), .le (.c 0) (.v 3), .le (.v 3) (.c 18446744073709551615), .eq (.v 0) (.c 11), .app 130 (.i (.v 0) (.i (.v 1) (.i (.v 2) (.i (.v 3) .nil))))], eqs := [.T (.le (.c 0) (.app 102 (.i (.v 0) (.i (.v 1) (.i (.v 2) (.i (.v 3) .nil)))))), .T (.le (.app 4 (.i (.app 102 (.i (.v 0) (.i (.v 1) (.i (.v 2) (.i (.v 3) .nil))))) .nil)) (.c 100)), .I (.app 102 (.i (.v 0) (.i (.v 1) (.i (.v 2) (.i (.v 3) .nil))))) (.app 3 (.i (.c 126883927714918) (.i (.app 3 (.i (.c 33) (.i (.app 101 (.i (.v 1) .nil)) .nil))) .nil)))]}, {pc := [.not (.app 130 (.i (.c 11) (.i (.v 1) (.i (.v 2) (.i (.v 3) .nil))))), .le (.c 0) (.v 1), .le (.v 1) (.c 18446744073709551615), .le (.c 0) (.v 2), .le (.v 2) (.c 18446744073709551615), .le (.c 0) (.v 3), .le (.v 3) (.c 18446744073709551615), .eq (.v 0) (.c 11), .app 130 (.i (.v 0) (.i (.v 1) (.i (.v 2) (.i (.v 3) .nil))))], eqs := [.T (.le (.c 0) (.app 102 (.i (.v 0) (.i (.v 1) (.i (.v 2) (.i (.v 3) .nil)))))), .T (.le (.app 4 (.i (.app 102 (.i (.v 0) (.i (.v 1) (.i (.v 2) (.i (.v 3) .nil))))) .nil)) (.c 100)), .I (.app 102 (.i (.v 0) (.i (.v 1) (.i (.v 2) (.i (.v 3) .nil))))) (.c 0)]}] := by kernel_rfl
theorem shK11_ok : shK11.ok Φ Try.prog := by
  refine call_rule (fun ρ => t4_ok ρ) shK11_obs ?_
  simp only [and_imp, List.forall_mem_cons, List.not_mem_nil, false_implies, implies_true, and_true, Ob.ok, holds, Eqn.ok, evB_eq, evB_lt, evB_le, evB_not, evB_and, evB_or, evB_eqL, evB_app, evB_v, evB_c, ev_sel, ev_len, ev_v, ev_c, ev_add, ev_sub, ev_mul, ev_quo, ev_rem, ev_bits, ev_wrap, evL_v, evL_lit, evL_app, ev_app, evA_l, evA_i, evA_nil, std_min, std_max, std_cat, std_take, std_drop, std_row, std_set, std_rep, std_find, std_put, std_del, std_flag, std_unflag, std_clr, std_left, std_copy, std_cnt, std_catS, std_lenS, std_atS, std_subS, std_ofB, std_snd, std_rcv, ints_cons, ints_nil, ofNat_lit, negSucc_lit, decide_eq_true_eq, Bool.and_eq_true, Bool.or_eq_true, Bool.not_eq_true', Bool.and_eq_false_iff, Bool.or_eq_false_iff, decide_eq_false_iff_not, aI100, aI101, aI102, aI103, aI104, aI105, aI106, aI107, aI108, aI109, aI113, aI114, aI115, aI121, aI123, aI124, aL110, aL111, aL112, aB130, aB131, aB132, aB133, aB134, aB135, aB136, aB199, Bool.not_eq_false']
  repeat' apply And.intro
  all_goals intro ρ hR
  all_goals intros
  all_goals first
    | (have e : ρ.i 0 = 11 := by with_reducible assumption
       have hr : rightB (ρ.i 0) (ρ.i 1) (ρ.i 2) (ρ.i 3) = true := by with_reducible assumption
       rw [e] at hr ⊢
       exact ⟨show_nn .., show_le .., sh1 (by decide) hr (by decide)⟩)
    | (have e : ρ.i 0 = 11 := by with_reducible assumption
       have hr : rightB (ρ.i 0) (ρ.i 1) (ρ.i 2) (ρ.i 3) = true := by with_reducible assumption
       rw [e] at hr
       have h2 : rightB 11 (ρ.i 1) (ρ.i 2) (ρ.i 3) = false := by with_reducible assumption
       rw [hr] at h2
       cases h2)
set_option maxRecDepth 100000 in
theorem shK12_obs : callObs Φ Try.prog t4 1000 shK12.f shK12.vs shK12.o shK12.pc shK12.outs = some
  [{pc := [.le (.app 4 (.i (.app 101 (.i (.v 1) .nil)) .nil)) (.c 20), .le (.c 0) (.app 101 (.i (.v 1) .nil)), .app 130 (.i (.c 12) (.i (.v 1) (.i (.v 2) (.i (.v 3) .nil)))), .le (.c 0) (.v 1), .le (.v 1) (.c 18446744073709551615), .le (.c 0) (.v 2), .le (.v 2) (.c 18446744073709551615), .le (.c 0) (.v 3), .le (.v 3) (.c 18446744073709551615), .eq (.v 0) (.c 12), .app 130 (.i (.v 0) (.i (.v 1) (.i (.v 2) (.i (.v 3) .nil))))], eqs := [.T (.le (.c 0) (.app 102 (.i (.v 0) (.i (.v 1) (.i (.v 2) (.i (.v 3) .nil)))))), .T (.le (.app 4 (.i (.app 102 (.i (.v 0) (.i (.v 1) (.i (.v 2) (.i (.v 3) .nil))))) .nil)) (.c 100)), .I (.app 102 (.i (.v 0) (.i (.v 1) (.i (.v 2) (.i (.v 3) .nil))))) (.app 3 (.i (.c 1886479983) (.i (.app 3 (.i (.c 33) (.i (.app 101 (.i (.v 1) .nil)) .nil))) .nil)))]}, {pc := [.not (.app 130 (.i (.c 12) (.i (.v 1) (.i (.v 2) (.i (.v 3) .nil))))), .le (.c 0) (.v 1), .le (.v 1) (.c 18446744073709551615), .le (.c 0) (.v 2), .le (.v 2) (.c 18446744073709551615), .le (.c 0) (.v 3), .le (.v 3) (.c 18446744073709551615), .eq (.v 0) (.c 12), .app 130 (.i (.v 0) (.i (.v 1) (.i (.v 2) (.i (.v 3) .nil))))], eqs := [.T (.le (.c 0) (.app 102 (.i (.v 0) (.i (.v 1) (.i (.v 2) (.i (.v 3) .nil)))))), .T (.le (.app 4 (.i (.app 102 (.i (.v 0) (.i (.v 1) (.i (.v 2) (.i (.v 3) .nil))))) .nil)) (.c 100)), .I (.app 102 (.i (.v 0) (.i (.v 1) (.i (.v 2) (.i (.v 3) .nil))))) (.c 0)]}] := by kernel_rfl
theorem shK12_ok : shK12.ok Φ Try.prog := by
  refine call_rule (fun ρ => t4_ok ρ) shK12_obs ?_
  simp only [and_imp, List.forall_mem_cons, List.not_mem_nil, false_implies, implies_true, and_true, Ob.ok, holds, Eqn.ok, evB_eq, evB_lt, evB_le, evB_not, evB_and, evB_or, evB_eqL, evB_app, evB_v, evB_c, ev_sel, ev_len, ev_v, ev_c, ev_add, ev_sub, ev_mul, ev_quo, ev_rem, ev_bits, ev_wrap, evL_v, evL_lit, evL_app, ev_app, evA_l, evA_i, evA_nil, std_min, std_max, std_cat, std_take, std_drop, std_row, std_set, std_rep, std_find, std_put, std_del, std_flag, std_unflag, std_clr, std_left, std_copy, std_cnt, std_catS, std_lenS, std_atS, std_subS, std_ofB, std_snd, std_rcv, ints_cons, ints_nil, ofNat_lit, negSucc_lit, decide_eq_true_eq, Bool.and_eq_true, Bool.or_eq_true, Bool.not_eq_true', Bool.and_eq_false_iff, Bool.or_eq_false_iff, decide_eq_false_iff_not, aI100, aI101, aI102, aI103, aI104, aI105, aI106, aI107, aI108, aI109, aI113, aI114, aI115, aI121, aI123, aI124, aL110, aL111, aL112, aB130, aB131, aB132, aB133, aB134, aB135, aB136, aB199, Bool.not_eq_false']
  repeat' apply And.intro
  all_goals intro ρ hR
  all_goals intros
  all_goals first
    | (have e : ρ.i 0 = 12 := by with_reducible assumption
       have hr : rightB (ρ.i 0) (ρ.i 1) (ρ.i 2) (ρ.i 3) = true := by with_reducible assumption
       rw [e] at hr ⊢
       exact ⟨show_nn .., show_le .., sh1 (by decide) hr (by decide)⟩)
    | (have e : ρ.i 0 = 12 := by with_reducible assumption
       have hr : rightB (ρ.i 0) (ρ.i 1) (ρ.i 2) (ρ.i 3) = true := by with_reducible assumption
       rw [e] at hr
       have h2 : rightB 12 (ρ.i 1) (ρ.i 2) (ρ.i 3) = false := by with_reducible assumption
       rw [hr] at h2
       cases h2)
set_option maxRecDepth 100000 in
theorem shK13_obs : callObs Φ Try.prog t4 1000 shK13.f shK13.vs shK13.o shK13.pc shK13.outs = some
  [{pc := [.le (.app 4 (.i (.app 101 (.i (.v 2) .nil)) .nil)) (.c 20), .le (.c 0) (.app 101 (.i (.v 2) .nil)), .le (.app 4 (.i (.app 101 (.i (.v 1) .nil)) .nil)) (.c 20), .le (.c 0) (.app 101 (.i (.v 1) .nil)), .app 130 (.i (.c 13) (.i (.v 1) (.i (.v 2) (.i (.v 3) .nil)))), .le (.c 0) (.v 1), .le (.v 1) (.c 18446744073709551615), .le (.c 0) (.v 2), .le (.v 2) (.c 18446744073709551615), .le (.c 0) (.v 3), .le (.v 3) (.c 18446744073709551615), .eq (.v 0) (.c 13), .app 130 (.i (.v 0) (.i (.v 1) (.i (.v 2) (.i (.v 3) .nil))))], eqs := [.T (.le (.c 0) (.app 102 (.i (.v 0) (.i (.v 1) (.i (.v 2) (.i (.v 3) .nil)))))), .T (.le (.app 4 (.i (.app 102 (.i (.v 0) (.i (.v 1) (.i (.v 2) (.i (.v 3) .nil))))) .nil)) (.c 100)), .I (.app 102 (.i (.v 0) (.i (.v 1) (.i (.v 2) (.i (.v 3) .nil))))) (.app 3 (.i (.app 3 (.i (.c 1667919717) (.i (.app 3 (.i (.c 33) (.i (.app 101 (.i (.v 1) .nil)) .nil))) .nil))) (.i (.app 3 (.i (.c 33) (.i (.app 101 (.i (.v 2) .nil)) .nil))) .nil)))]}, {pc := [.not (.app 130 (.i (.c 13) (.i (.v 1) (.i (.v 2) (.i (.v 3) .nil))))), .le (.c 0) (.v 1), .le (.v 1) (.c 18446744073709551615), .le (.c 0) (.v 2), .le (.v 2) (.c 18446744073709551615), .le (.c 0) (.v 3), .le (.v 3) (.c 18446744073709551615), .eq (.v 0) (.c 13), .app 130 (.i (.v 0) (.i (.v 1) (.i (.v 2) (.i (.v 3) .nil))))], eqs := [.T (.le (.c 0) (.app 102 (.i (.v 0) (.i (.v 1) (.i (.v 2) (.i (.v 3) .nil)))))), .T (.le (.app 4 (.i (.app 102 (.i (.v 0) (.i (.v 1) (.i (.v 2) (.i (.v 3) .nil))))) .nil)) (.c 100)), .I (.app 102 (.i (.v 0) (.i (.v 1) (.i (.v 2) (.i (.v 3) .nil))))) (.c 0)]}] := by kernel_rfl
theorem shK13_ok : shK13.ok Φ Try.prog := by
  refine call_rule (fun ρ => t4_ok ρ) shK13_obs ?_
  simp only [and_imp, List.forall_mem_cons, List.not_mem_nil, false_implies, implies_true, and_true, Ob.ok, holds, Eqn.ok, evB_eq, evB_lt, evB_le, evB_not, evB_and, evB_or, evB_eqL, evB_app, evB_v, evB_c, ev_sel, ev_len, ev_v, ev_c, ev_add, ev_sub, ev_mul, ev_quo, ev_rem, ev_bits, ev_wrap, evL_v, evL_lit, evL_app, ev_app, evA_l, evA_i, evA_nil, std_min, std_max, std_cat, std_take, std_drop, std_row, std_set, std_rep, std_find, std_put, std_del, std_flag, std_unflag, std_clr, std_left, std_copy, std_cnt, std_catS, std_lenS, std_atS, std_subS, std_ofB, std_snd, std_rcv, ints_cons, ints_nil, ofNat_lit, negSucc_lit, decide_eq_true_eq, Bool.and_eq_true, Bool.or_eq_true, Bool.not_eq_true', Bool.and_eq_false_iff, Bool.or_eq_false_iff, decide_eq_false_iff_not, aI100, aI101, aI102, aI103, aI104, aI105, aI106, aI107, aI108, aI109, aI113, aI114, aI115, aI121, aI123, aI124, aL110, aL111, aL112, aB130, aB131, aB132, aB133, aB134, aB135, aB136, aB199, Bool.not_eq_false']
  repeat' apply And.intro
  all_goals intro ρ hR
  all_goals intros
  all_goals first
    | (have e : ρ.i 0 = 13 := by with_reducible assumption
       have hr : rightB (ρ.i 0) (ρ.i 1) (ρ.i 2) (ρ.i 3) = true := by with_reducible assumption
       rw [e] at hr ⊢
       exact ⟨show_nn .., show_le .., sh2 (by decide) hr (by decide)⟩)
    | (have e : ρ.i 0 = 13 := by with_reducible assumption
       have hr : rightB (ρ.i 0) (ρ.i 1) (ρ.i 2) (ρ.i 3) = true := by with_reducible assumption
       rw [e] at hr
       have h2 : rightB 13 (ρ.i 1) (ρ.i 2) (ρ.i 3) = false := by with_reducible assumption
       rw [hr] at h2
       cases h2)
set_option maxRecDepth 100000 in
theorem shK14_obs : callObs Φ Try.prog t4 1000 shK14.f shK14.vs shK14.o shK14.pc shK14.outs = some
  [{pc := [.le (.app 4 (.i (.app 101 (.i (.v 1) .nil)) .nil)) (.c 20), .le (.c 0) (.app 101 (.i (.v 1) .nil)), .app 130 (.i (.c 14) (.i (.v 1) (.i (.v 2) (.i (.v 3) .nil)))), .le (.c 0) (.v 1), .le (.v 1) (.c 18446744073709551615), .le (.c 0) (.v 2), .le (.v 2) (.c 18446744073709551615), .le (.c 0) (.v 3), .le (.v 3) (.c 18446744073709551615), .eq (.v 0) (.c 14), .app 130 (.i (.v 0) (.i (.v 1) (.i (.v 2) (.i (.v 3) .nil))))], eqs := [.T (.le (.c 0) (.app 102 (.i (.v 0) (.i (.v 1) (.i (.v 2) (.i (.v 3) .nil)))))), .T (.le (.app 4 (.i (.app 102 (.i (.v 0) (.i (.v 1) (.i (.v 2) (.i (.v 3) .nil))))) .nil)) (.c 100)), .I (.app 102 (.i (.v 0) (.i (.v 1) (.i (.v 2) (.i (.v 3) .nil))))) (.app 3 (.i (.c 1952870245) (.i (.app 3 (.i (.c 33) (.i (.app 101 (.i (.v 1) .nil)) .nil))) .nil)))]}, {pc := [.not (.app 130 (.i (.c 14) (.i (.v 1) (.i (.v 2) (.i (.v 3) .nil))))), .le (.c 0) (.v 1), .le (.v 1) (.c 18446744073709551615), .le (.c 0) (.v 2), .le (.v 2) (.c 18446744073709551615), .le (.c 0) (.v 3), .le (.v 3) (.c 18446744073709551615), .eq (.v 0) (.c 14), .app 130 (.i (.v 0) (.i (.v 1) (.i (.v 2) (.i (.v 3) .nil))))], eqs := [.T (.le (.c 0) (.app 102 (.i (.v 0) (.i (.v 1) (.i (.v 2) (.i (.v 3) .nil)))))), .T (.le (.app 4 (.i (.app 102 (.i (.v 0) (.i (.v 1) (.i (.v 2) (.i (.v 3) .nil))))) .nil)) (.c 100)), .I (.app 102 (.i (.v 0) (.i (.v 1) (.i (.v 2) (.i (.v 3) .nil))))) (.c 0)]}] := by kernel_rfl
theorem shK14_ok : shK14.ok Φ Try.prog := by
  refine call_rule (fun ρ => t4_ok ρ) shK14_obs ?_
  simp only [and_imp, List.forall_mem_cons, List.not_mem_nil, false_implies, implies_true, and_true, Ob.ok, holds, Eqn.ok, evB_eq, evB_lt, evB_le, evB_not, evB_and, evB_or, evB_eqL, evB_app, evB_v, evB_c, ev_sel, ev_len, ev_v, ev_c, ev_add, ev_sub, ev_mul, ev_quo, ev_rem, ev_bits, ev_wrap, evL_v, evL_lit, evL_app, ev_app, evA_l, evA_i, evA_nil, std_min, std_max, std_cat, std_take, std_drop, std_row, std_set, std_rep, std_find, std_put, std_del, std_flag, std_unflag, std_clr, std_left, std_copy, std_cnt, std_catS, std_lenS, std_atS, std_subS, std_ofB, std_snd, std_rcv, ints_cons, ints_nil, ofNat_lit, negSucc_lit, decide_eq_true_eq, Bool.and_eq_true, Bool.or_eq_true, Bool.not_eq_true', Bool.and_eq_false_iff, Bool.or_eq_false_iff, decide_eq_false_iff_not, aI100, aI101, aI102, aI103, aI104, aI105, aI106, aI107, aI108, aI109, aI113, aI114, aI115, aI121, aI123, aI124, aL110, aL111, aL112, aB130, aB131, aB132, aB133, aB134, aB135, aB136, aB199, Bool.not_eq_false']
  repeat' apply And.intro
  all_goals intro ρ hR
  all_goals intros
  all_goals first
    | (have e : ρ.i 0 = 14 := by with_reducible assumption
       have hr : rightB (ρ.i 0) (ρ.i 1) (ρ.i 2) (ρ.i 3) = true := by with_reducible assumption
       rw [e] at hr ⊢
       exact ⟨show_nn .., show_le .., sh1 (by decide) hr (by decide)⟩)
    | (have e : ρ.i 0 = 14 := by with_reducible assumption
       have hr : rightB (ρ.i 0) (ρ.i 1) (ρ.i 2) (ρ.i 3) = true := by with_reducible assumption
       rw [e] at hr
       have h2 : rightB 14 (ρ.i 1) (ρ.i 2) (ρ.i 3) = false := by with_reducible assumption
       rw [hr] at h2
       cases h2)
set_option maxRecDepth 100000 in
theorem shK15_obs : callObs Φ Try.prog t4 1000 shK15.f shK15.vs shK15.o shK15.pc shK15.outs = some
  [{pc := [.app 130 (.i (.c 15) (.i (.v 1) (.i (.v 2) (.i (.v 3) .nil)))), .le (.c 0) (.v 1), .le (.v 1) (.c 18446744073709551615), .le (.c 0) (.v 2), .le (.v 2) (.c 18446744073709551615), .le (.c 0) (.v 3), .le (.v 3) (.c 18446744073709551615), .eq (.v 0) (.c 15), .app 130 (.i (.v 0) (.i (.v 1) (.i (.v 2) (.i (.v 3) .nil))))], eqs := [.T (.le (.c 0) (.app 102 (.i (.v 0) (.i (.v 1) (.i (.v 2) (.i (.v 3) .nil)))))), .T (.le (.app 4 (.i (.app 102 (.i (.v 0) (.i (.v 1) (.i (.v 2) (.i (.v 3) .nil))))) .nil)) (.c 100)), .I (.app 102 (.i (.v 0) (.i (.v 1) (.i (.v 2) (.i (.v 3) .nil))))) (.c 1903193453)]}, {pc := [.not (.app 130 (.i (.c 15) (.i (.v 1) (.i (.v 2) (.i (.v 3) .nil))))), .le (.c 0) (.v 1), .le (.v 1) (.c 18446744073709551615), .le (.c 0) (.v 2), .le (.v 2) (.c 18446744073709551615), .le (.c 0) (.v 3), .le (.v 3) (.c 18446744073709551615), .eq (.v 0) (.c 15), .app 130 (.i (.v 0) (.i (.v 1) (.i (.v 2) (.i (.v 3) .nil))))], eqs := [.T (.le (.c 0) (.app 102 (.i (.v 0) (.i (.v 1) (.i (.v 2) (.i (.v 3) .nil)))))), .T (.le (.app 4 (.i (.app 102 (.i (.v 0) (.i (.v 1) (.i (.v 2) (.i (.v 3) .nil))))) .nil)) (.c 100)), .I (.app 102 (.i (.v 0) (.i (.v 1) (.i (.v 2) (.i (.v 3) .nil))))) (.c 0)]}] := by kernel_rfl
theorem shK15_ok : shK15.ok Φ Try.prog := by
  refine call_rule (fun ρ => t4_ok ρ) shK15_obs ?_
  simp only [and_imp, List.forall_mem_cons, List.not_mem_nil, false_implies, implies_true, and_true, Ob.ok, holds, Eqn.ok, evB_eq, evB_lt, evB_le, evB_not, evB_and, evB_or, evB_eqL, evB_app, evB_v, evB_c, ev_sel, ev_len, ev_v, ev_c, ev_add, ev_sub, ev_mul, ev_quo, ev_rem, ev_bits, ev_wrap, evL_v, evL_lit, evL_app, ev_app, evA_l, evA_i, evA_nil, std_min, std_max, std_cat, std_take, std_drop, std_row, std_set, std_rep, std_find, std_put, std_del, std_flag, std_unflag, std_clr, std_left, std_copy, std_cnt, std_catS, std_lenS, std_atS, std_subS, std_ofB, std_snd, std_rcv, ints_cons, ints_nil, ofNat_lit, negSucc_lit, decide_eq_true_eq, Bool.and_eq_true, Bool.or_eq_true, Bool.not_eq_true', Bool.and_eq_false_iff, Bool.or_eq_false_iff, decide_eq_false_iff_not, aI100, aI101, aI102, aI103, aI104, aI105, aI106, aI107, aI108, aI109, aI113, aI114, aI115, aI121, aI123, aI124, aL110, aL111, aL112, aB130, aB131, aB132, aB133, aB134, aB135, aB136, aB199, Bool.not_eq_false']
  repeat' apply And.intro
  all_goals intro ρ hR
  all_goals intros
  all_goals first
    | (have e : ρ.i 0 = 15 := by with_reducible assumption
       have hr : rightB (ρ.i 0) (ρ.i 1) (ρ.i 2) (ρ.i 3) = true := by with_reducible assumption
       rw [e] at hr ⊢
       exact ⟨show_nn .., show_le .., sh0 (by decide) hr (by decide)⟩)
    | (have e : ρ.i 0 = 15 := by with_reducible assumption
       have hr : rightB (ρ.i 0) (ρ.i 1) (ρ.i 2) (ρ.i 3) = true := by with_reducible assumption
       rw [e] at hr
       have h2 : rightB 15 (ρ.i 1) (ρ.i 2) (ρ.i 3) = false := by with_reducible assumption
       rw [hr] at h2
       cases h2)
set_option maxRecDepth 100000 in
theorem shK16_obs : callObs Φ Try.prog t4 1000 shK16.f shK16.vs shK16.o shK16.pc shK16.outs = some
  [{pc := [.le (.app 4 (.i (.app 101 (.i (.v 1) .nil)) .nil)) (.c 20), .le (.c 0) (.app 101 (.i (.v 1) .nil)), .app 130 (.i (.c 16) (.i (.v 1) (.i (.v 2) (.i (.v 3) .nil)))), .le (.c 0) (.v 1), .le (.v 1) (.c 18446744073709551615), .le (.c 0) (.v 2), .le (.v 2) (.c 18446744073709551615), .le (.c 0) (.v 3), .le (.v 3) (.c 18446744073709551615), .eq (.v 0) (.c 16), .app 130 (.i (.v 0) (.i (.v 1) (.i (.v 2) (.i (.v 3) .nil))))], eqs := [.T (.le (.c 0) (.app 102 (.i (.v 0) (.i (.v 1) (.i (.v 2) (.i (.v 3) .nil)))))), .T (.le (.app 4 (.i (.app 102 (.i (.v 0) (.i (.v 1) (.i (.v 2) (.i (.v 3) .nil))))) .nil)) (.c 100)), .I (.app 102 (.i (.v 0) (.i (.v 1) (.i (.v 2) (.i (.v 3) .nil))))) (.app 3 (.i (.c 431332815974) (.i (.app 3 (.i (.c 33) (.i (.app 101 (.i (.v 1) .nil)) .nil))) .nil)))]}, {pc := [.not (.app 130 (.i (.c 16) (.i (.v 1) (.i (.v 2) (.i (.v 3) .nil))))), .le (.c 0) (.v 1), .le (.v 1) (.c 18446744073709551615), .le (.c 0) (.v 2), .le (.v 2) (.c 18446744073709551615), .le (.c 0) (.v 3), .le (.v 3) (.c 18446744073709551615), .eq (.v 0) (.c 16), .app 130 (.i (.v 0) (.i (.v 1) (.i (.v 2) (.i (.v 3) .nil))))], eqs := [.T (.le (.c 0) (.app 102 (.i (.v 0) (.i (.v 1) (.i (.v 2) (.i (.v 3) .nil)))))), .T (.le (.app 4 (.i (.app 102 (.i (.v 0) (.i (.v 1) (.i (.v 2) (.i (.v 3) .nil))))) .nil)) (.c 100)), .I (.app 102 (.i (.v 0) (.i (.v 1) (.i (.v 2) (.i (.v 3) .nil))))) (.c 0)]}] := by kernel_rfl
theorem shK16_ok : shK16.ok Φ Try.prog := by
  refine call_rule (fun ρ => t4_ok ρ) shK16_obs ?_
  simp only [and_imp, List.forall_mem_cons, List.not_mem_nil, false_implies, implies_true, and_true, Ob.ok, holds, Eqn.ok, evB_eq, evB_lt, evB_le, evB_not, evB_and, evB_or, evB_eqL, evB_app, evB_v, evB_c, ev_sel, ev_len, ev_v, ev_c, ev_add, ev_sub, ev_mul, ev_quo, ev_rem, ev_bits, ev_wrap, evL_v, evL_lit, evL_app, ev_app, evA_l, evA_i, evA_nil, std_min, std_max, std_cat, std_take, std_drop, std_row, std_set, std_rep, std_find, std_put, std_del, std_flag, std_unflag, std_clr, std_left, std_copy, std_cnt, std_catS, std_lenS, std_atS, std_subS, std_ofB, std_snd, std_rcv, ints_cons, ints_nil, ofNat_lit, negSucc_lit, decide_eq_true_eq, Bool.and_eq_true, Bool.or_eq_true, Bool.not_eq_true', Bool.and_eq_false_iff, Bool.or_eq_false_iff, decide_eq_false_iff_not, aI100, aI101, aI102, aI103, aI104, aI105, aI106, aI107, aI108, aI109, aI113, aI114, aI115, aI121, aI123, aI124, aL110, aL111, aL112, aB130, aB131, aB132, aB133, aB134, aB135, aB136, aB199, Bool.not_eq_false']
  repeat' apply And.intro
  all_goals intro ρ hR
  all_goals intros
  all_goals first
    | (have e : ρ.i 0 = 16 := by with_reducible assumption
       have hr : rightB (ρ.i 0) (ρ.i 1) (ρ.i 2) (ρ.i 3) = true := by with_reducible assumption
       rw [e] at hr ⊢
       exact ⟨show_nn .., show_le .., sh1 (by decide) hr (by decide)⟩)
    | (have e : ρ.i 0 = 16 := by with_reducible assumption
       have hr : rightB (ρ.i 0) (ρ.i 1) (ρ.i 2) (ρ.i 3) = true := by with_reducible assumption
       rw [e] at hr
       have h2 : rightB 16 (ρ.i 1) (ρ.i 2) (ρ.i 3) = false := by with_reducible assumption
       rw [hr] at h2
       cases h2)
set_option maxRecDepth 100000 in
theorem shK17_obs : callObs Φ Try.prog t4 1000 shK17.f shK17.vs shK17.o shK17.pc shK17.outs = some
  [{pc := [.app 130 (.i (.c 17) (.i (.v 1) (.i (.v 2) (.i (.v 3) .nil)))), .le (.c 0) (.v 1), .le (.v 1) (.c 18446744073709551615), .le (.c 0) (.v 2), .le (.v 2) (.c 18446744073709551615), .le (.c 0) (.v 3), .le (.v 3) (.c 18446744073709551615), .eq (.v 0) (.c 17), .app 130 (.i (.v 0) (.i (.v 1) (.i (.v 2) (.i (.v 3) .nil))))], eqs := [.T (.le (.c 0) (.app 102 (.i (.v 0) (.i (.v 1) (.i (.v 2) (.i (.v 3) .nil)))))), .T (.le (.app 4 (.i (.app 102 (.i (.v 0) (.i (.v 1) (.i (.v 2) (.i (.v 3) .nil))))) .nil)) (.c 100)), .I (.app 102 (.i (.v 0) (.i (.v 1) (.i (.v 2) (.i (.v 3) .nil))))) (.c 500236183153)]}, {pc := [.not (.app 130 (.i (.c 17) (.i (.v 1) (.i (.v 2) (.i (.v 3) .nil))))), .le (.c 0) (.v 1), .le (.v 1) (.c 18446744073709551615), .le (.c 0) (.v 2), .le (.v 2) (.c 18446744073709551615), .le (.c 0) (.v 3), .le (.v 3) (.c 18446744073709551615), .eq (.v 0) (.c 17), .app 130 (.i (.v 0) (.i (.v 1) (.i (.v 2) (.i (.v 3) .nil))))], eqs := [.T (.le (.c 0) (.app 102 (.i (.v 0) (.i (.v 1) (.i (.v 2) (.i (.v 3) .nil)))))), .T (.le (.app 4 (.i (.app 102 (.i (.v 0) (.i (.v 1) (.i (.v 2) (.i (.v 3) .nil))))) .nil)) (.c 100)), .I (.app 102 (.i (.v 0) (.i (.v 1) (.i (.v 2) (.i (.v 3) .nil))))) (.c 0)]}] := by kernel_rfl
theorem shK17_ok : shK17.ok Φ Try.prog := by
  refine call_rule (fun ρ => t4_ok ρ) shK17_obs ?_
  simp only [and_imp, List.forall_mem_cons, List.not_mem_nil, false_implies, implies_true, and_true, Ob.ok, holds, Eqn.ok, evB_eq, evB_lt, evB_le, evB_not, evB_and, evB_or, evB_eqL, evB_app, evB_v, evB_c, ev_sel, ev_len, ev_v, ev_c, ev_add, ev_sub, ev_mul, ev_quo, ev_rem, ev_bits, ev_wrap, evL_v, evL_lit, evL_app, ev_app, evA_l, evA_i, evA_nil, std_min, std_max, std_cat, std_take, std_drop, std_row, std_set, std_rep, std_find, std_put, std_del, std_flag, std_unflag, std_clr, std_left, std_copy, std_cnt, std_catS, std_lenS, std_atS, std_subS, std_ofB, std_snd, std_rcv, ints_cons, ints_nil, ofNat_lit, negSucc_lit, decide_eq_true_eq, Bool.and_eq_true, Bool.or_eq_true, Bool.not_eq_true', Bool.and_eq_false_iff, Bool.or_eq_false_iff, decide_eq_false_iff_not, aI100, aI101, aI102, aI103, aI104, aI105, aI106, aI107, aI108, aI109, aI113, aI114, aI115, aI121, aI123, aI124, aL110, aL111, aL112, aB130, aB131, aB132, aB133, aB134, aB135, aB136, aB199, Bool.not_eq_false']
  repeat' apply And.intro
  all_goals intro ρ hR
  all_goals intros
  all_goals first
    | (have e : ρ.i 0 = 17 := by with_reducible assumption
       have hr : rightB (ρ.i 0) (ρ.i 1) (ρ.i 2) (ρ.i 3) = true := by with_reducible assumption
       rw [e] at hr ⊢
       exact ⟨show_nn .., show_le .., sh0 (by decide) hr (by decide)⟩)
    | (have e : ρ.i 0 = 17 := by with_reducible assumption
       have hr : rightB (ρ.i 0) (ρ.i 1) (ρ.i 2) (ρ.i 3) = true := by with_reducible assumption
       rw [e] at hr
       have h2 : rightB 17 (ρ.i 1) (ρ.i 2) (ρ.i 3) = false := by with_reducible assumption
       rw [hr] at h2
       cases h2)
set_option maxRecDepth 100000 in
theorem shKN_obs : callObs Φ Try.prog t4 1000 shKN.f shKN.vs shKN.o shKN.pc shKN.outs = some
  [{pc := [.le (.c 0) (.v 1), .le (.v 1) (.c 18446744073709551615), .le (.c 0) (.v 2), .le (.v 2) (.c 18446744073709551615), .le (.c 0) (.v 3), .le (.v 3) (.c 18446744073709551615), .not (.app 130 (.i (.v 0) (.i (.v 1) (.i (.v 2) (.i (.v 3) .nil)))))], eqs := [.T (.le (.c 0) (.app 102 (.i (.v 0) (.i (.v 1) (.i (.v 2) (.i (.v 3) .nil)))))), .T (.le (.app 4 (.i (.app 102 (.i (.v 0) (.i (.v 1) (.i (.v 2) (.i (.v 3) .nil))))) .nil)) (.c 100)), .I (.app 102 (.i (.v 0) (.i (.v 1) (.i (.v 2) (.i (.v 3) .nil))))) (.c 0)]}] := by kernel_rfl
theorem shKN_ok : shKN.ok Φ Try.prog := by
  refine call_rule (fun ρ => t4_ok ρ) shKN_obs ?_
  simp only [and_imp, List.forall_mem_cons, List.not_mem_nil, false_implies, implies_true, and_true, Ob.ok, holds, Eqn.ok, evB_eq, evB_lt, evB_le, evB_not, evB_and, evB_or, evB_eqL, evB_app, evB_v, evB_c, ev_sel, ev_len, ev_v, ev_c, ev_add, ev_sub, ev_mul, ev_quo, ev_rem, ev_bits, ev_wrap, evL_v, evL_lit, evL_app, ev_app, evA_l, evA_i, evA_nil, std_min, std_max, std_cat, std_take, std_drop, std_row, std_set, std_rep, std_find, std_put, std_del, std_flag, std_unflag, std_clr, std_left, std_copy, std_cnt, std_catS, std_lenS, std_atS, std_subS, std_ofB, std_snd, std_rcv, ints_cons, ints_nil, ofNat_lit, negSucc_lit, decide_eq_true_eq, Bool.and_eq_true, Bool.or_eq_true, Bool.not_eq_true', Bool.and_eq_false_iff, Bool.or_eq_false_iff, decide_eq_false_iff_not, aI100, aI101, aI102, aI103, aI104, aI105, aI106, aI107, aI108, aI109, aI113, aI114, aI115, aI121, aI123, aI124, aL110, aL111, aL112, aB130, aB131, aB132, aB133, aB134, aB135, aB136, aB199, Bool.not_eq_false']
  repeat' apply And.intro
  all_goals intro ρ hR
  all_goals intros
  all_goals first
    | (have hr : rightB (ρ.i 0) (ρ.i 1) (ρ.i 2) (ρ.i 3) = false := by with_reducible assumption
       exact ⟨show_nn .., show_le .., show_no hr⟩)
theorem cShow_ok : cShow.ok Φ Try.prog := by
  intro ρ μ B w xs hx hM hp R hR
  by_cases hr : rightB (ρ.i 0) (ρ.i 1) (ρ.i 2) (ρ.i 3) = true
  · obtain ⟨h1, h2, _⟩ := (right_iff ..).1 hr
    have hk : ∀ k : Int, ρ.i 0 = k → holds Φ ρ (cShK 11 k).pc := by
      intro k e x hx
      simp only [cShK, List.mem_append, List.mem_cons, List.not_mem_nil, or_false] at hx
      rcases hx with hx | rfl | rfl
      · exact hp x hx
      · simp only [evB_eq, ev_c, x0, ev_v, decide_eq_true_eq]; exact e
      · exact hr
    have hv : ∀ k : Int, ρ.i 0 = k → DenAll Φ ρ μ [callK k] xs := by
      intro k e
      rcases kinds17 h1 h2 with e' | e' | e' | e' | e' | e' | e' | e' | e' | e' | e' | e' | e' | e' | e' | e' | e' <;> (subst e; exact denK (e := rfl) hx)
    rcases kinds17 h1 h2 with e | e | e | e | e | e | e | e | e | e | e | e | e | e | e | e | e
    · exact shK1_ok ρ μ B w xs (hv 1 e) hM (hk 1 e) R hR
    · exact shK2_ok ρ μ B w xs (hv 2 e) hM (hk 2 e) R hR
    · exact shK3_ok ρ μ B w xs (hv 3 e) hM (hk 3 e) R hR
    · exact shK4_ok ρ μ B w xs (hv 4 e) hM (hk 4 e) R hR
    · exact shK5_ok ρ μ B w xs (hv 5 e) hM (hk 5 e) R hR
    · exact shK6_ok ρ μ B w xs (hv 6 e) hM (hk 6 e) R hR
    · exact shK7_ok ρ μ B w xs (hv 7 e) hM (hk 7 e) R hR
    · exact shK8_ok ρ μ B w xs (hv 8 e) hM (hk 8 e) R hR
    · exact shK9_ok ρ μ B w xs (hv 9 e) hM (hk 9 e) R hR
    · exact shK10_ok ρ μ B w xs (hv 10 e) hM (hk 10 e) R hR
    · exact shK11_ok ρ μ B w xs (hv 11 e) hM (hk 11 e) R hR
    · exact shK12_ok ρ μ B w xs (hv 12 e) hM (hk 12 e) R hR
    · exact shK13_ok ρ μ B w xs (hv 13 e) hM (hk 13 e) R hR
    · exact shK14_ok ρ μ B w xs (hv 14 e) hM (hk 14 e) R hR
    · exact shK15_ok ρ μ B w xs (hv 15 e) hM (hk 15 e) R hR
    · exact shK16_ok ρ μ B w xs (hv 16 e) hM (hk 16 e) R hR
    · exact shK17_ok ρ μ B w xs (hv 17 e) hM (hk 17 e) R hR
  · refine shKN_ok ρ μ B w xs hx hM (fun x hx => ?_) R hR
    simp only [shKN, cShN, List.mem_append, List.mem_cons, List.not_mem_nil, or_false] at hx
    rcases hx with hx | rfl
    · exact hp x hx
    · have e : rg.ev Φ ρ = rightB (ρ.i 0) (ρ.i 1) (ρ.i 2) (ρ.i 3) := rfl
      rw [evB_not, e, Bool.eq_false_iff.2 hr]; rfl

set_option maxRecDepth 100000 in
theorem shR1_obs : callObs Φ Try.prog t4 1000 shR1.f shR1.vs shR1.o shR1.pc shR1.outs = some
  [{pc := [.app 130 (.i (.c 1) (.i (.v 1) (.i (.v 2) (.i (.v 3) .nil)))), .le (.c 0) (.v 1), .le (.v 1) (.c 18446744073709551615), .le (.c 0) (.v 2), .le (.v 2) (.c 18446744073709551615), .le (.c 0) (.v 3), .le (.v 3) (.c 18446744073709551615), .eq (.v 0) (.c 1), .app 130 (.i (.v 0) (.i (.v 1) (.i (.v 2) (.i (.v 3) .nil))))], eqs := [.T (.le (.c 0) (.app 102 (.i (.v 0) (.i (.v 1) (.i (.v 2) (.i (.v 3) .nil)))))), .T (.le (.app 4 (.i (.app 102 (.i (.v 0) (.i (.v 1) (.i (.v 2) (.i (.v 3) .nil))))) .nil)) (.c 100)), .I (.app 102 (.i (.v 0) (.i (.v 1) (.i (.v 2) (.i (.v 3) .nil))))) (.c 110446801745254)]}, {pc := [.not (.app 130 (.i (.c 1) (.i (.v 1) (.i (.v 2) (.i (.v 3) .nil))))), .le (.c 0) (.v 1), .le (.v 1) (.c 18446744073709551615), .le (.c 0) (.v 2), .le (.v 2) (.c 18446744073709551615), .le (.c 0) (.v 3), .le (.v 3) (.c 18446744073709551615), .eq (.v 0) (.c 1), .app 130 (.i (.v 0) (.i (.v 1) (.i (.v 2) (.i (.v 3) .nil))))], eqs := [.T (.le (.c 0) (.app 102 (.i (.v 0) (.i (.v 1) (.i (.v 2) (.i (.v 3) .nil)))))), .T (.le (.app 4 (.i (.app 102 (.i (.v 0) (.i (.v 1) (.i (.v 2) (.i (.v 3) .nil))))) .nil)) (.c 100)), .I (.app 102 (.i (.v 0) (.i (.v 1) (.i (.v 2) (.i (.v 3) .nil))))) (.c 0)]}] := by kernel_rfl
theorem shR1_ok : shR1.ok Φ Try.prog := by
  refine call_rule (fun ρ => t4_ok ρ) shR1_obs ?_
  simp only [and_imp, List.forall_mem_cons, List.not_mem_nil, false_implies, implies_true, and_true, Ob.ok, holds, Eqn.ok, evB_eq, evB_lt, evB_le, evB_not, evB_and, evB_or, evB_eqL, evB_app, evB_v, evB_c, ev_sel, ev_len, ev_v, ev_c, ev_add, ev_sub, ev_mul, ev_quo, ev_rem, ev_bits, ev_wrap, evL_v, evL_lit, evL_app, ev_app, evA_l, evA_i, evA_nil, std_min, std_max, std_cat, std_take, std_drop, std_row, std_set, std_rep, std_find, std_put, std_del, std_flag, std_unflag, std_clr, std_left, std_copy, std_cnt, std_catS, std_lenS, std_atS, std_subS, std_ofB, std_snd, std_rcv, ints_cons, ints_nil, ofNat_lit, negSucc_lit, decide_eq_true_eq, Bool.and_eq_true, Bool.or_eq_true, Bool.not_eq_true', Bool.and_eq_false_iff, Bool.or_eq_false_iff, decide_eq_false_iff_not, aI100, aI101, aI102, aI103, aI104, aI105, aI106, aI107, aI108, aI109, aI113, aI114, aI115, aI121, aI123, aI124, aL110, aL111, aL112, aB130, aB131, aB132, aB133, aB134, aB135, aB136, aB199, Bool.not_eq_false']
  repeat' apply And.intro
  all_goals intro ρ hR
  all_goals intros
  all_goals first
    | (have e : ρ.i 0 = 1 := by with_reducible assumption
       have hr : rightB (ρ.i 0) (ρ.i 1) (ρ.i 2) (ρ.i 3) = true := by with_reducible assumption
       rw [e] at hr ⊢
       exact ⟨show_nn .., show_le .., sh0 (by decide) hr (by decide)⟩)
    | (have e : ρ.i 0 = 1 := by with_reducible assumption
       have hr : rightB (ρ.i 0) (ρ.i 1) (ρ.i 2) (ρ.i 3) = true := by with_reducible assumption
       rw [e] at hr
       have h2 : rightB 1 (ρ.i 1) (ρ.i 2) (ρ.i 3) = false := by with_reducible assumption
       rw [hr] at h2
       cases h2)
set_option maxRecDepth 100000 in
theorem shR2_obs : callObs Φ Try.prog t4 1000 shR2.f shR2.vs shR2.o shR2.pc shR2.outs = some
  [{pc := [.le (.app 4 (.i (.app 101 (.i (.v 1) .nil)) .nil)) (.c 20), .le (.c 0) (.app 101 (.i (.v 1) .nil)), .app 130 (.i (.c 2) (.i (.v 1) (.i (.v 2) (.i (.v 3) .nil)))), .le (.c 0) (.v 1), .le (.v 1) (.c 18446744073709551615), .le (.c 0) (.v 2), .le (.v 2) (.c 18446744073709551615), .le (.c 0) (.v 3), .le (.v 3) (.c 18446744073709551615), .eq (.v 0) (.c 2), .app 130 (.i (.v 0) (.i (.v 1) (.i (.v 2) (.i (.v 3) .nil))))], eqs := [.T (.le (.c 0) (.app 102 (.i (.v 0) (.i (.v 1) (.i (.v 2) (.i (.v 3) .nil)))))), .T (.le (.app 4 (.i (.app 102 (.i (.v 0) (.i (.v 1) (.i (.v 2) (.i (.v 3) .nil))))) .nil)) (.c 100)), .I (.app 102 (.i (.v 0) (.i (.v 1) (.i (.v 2) (.i (.v 3) .nil))))) (.app 3 (.i (.c 7306655493251955233) (.i (.app 101 (.i (.v 1) .nil)) .nil)))]}, {pc := [.not (.app 130 (.i (.c 2) (.i (.v 1) (.i (.v 2) (.i (.v 3) .nil))))), .le (.c 0) (.v 1), .le (.v 1) (.c 18446744073709551615), .le (.c 0) (.v 2), .le (.v 2) (.c 18446744073709551615), .le (.c 0) (.v 3), .le (.v 3) (.c 18446744073709551615), .eq (.v 0) (.c 2), .app 130 (.i (.v 0) (.i (.v 1) (.i (.v 2) (.i (.v 3) .nil))))], eqs := [.T (.le (.c 0) (.app 102 (.i (.v 0) (.i (.v 1) (.i (.v 2) (.i (.v 3) .nil)))))), .T (.le (.app 4 (.i (.app 102 (.i (.v 0) (.i (.v 1) (.i (.v 2) (.i (.v 3) .nil))))) .nil)) (.c 100)), .I (.app 102 (.i (.v 0) (.i (.v 1) (.i (.v 2) (.i (.v 3) .nil))))) (.c 0)]}] := by kernel_rfl
theorem shR2_ok : shR2.ok Φ Try.prog := by
  refine call_rule (fun ρ => t4_ok ρ) shR2_obs ?_
  simp only [and_imp, List.forall_mem_cons, List.not_mem_nil, false_implies, implies_true, and_true, Ob.ok, holds, Eqn.ok, evB_eq, evB_lt, evB_le, evB_not, evB_and, evB_or, evB_eqL, evB_app, evB_v, evB_c, ev_sel, ev_len, ev_v, ev_c, ev_add, ev_sub, ev_mul, ev_quo, ev_rem, ev_bits, ev_wrap, evL_v, evL_lit, evL_app, ev_app, evA_l, evA_i, evA_nil, std_min, std_max, std_cat, std_take, std_drop, std_row, std_set, std_rep, std_find, std_put, std_del, std_flag, std_unflag, std_clr, std_left, std_copy, std_cnt, std_catS, std_lenS, std_atS, std_subS, std_ofB, std_snd, std_rcv, ints_cons, ints_nil, ofNat_lit, negSucc_lit, decide_eq_true_eq, Bool.and_eq_true, Bool.or_eq_true, Bool.not_eq_true', Bool.and_eq_false_iff, Bool.or_eq_false_iff, decide_eq_false_iff_not, aI100, aI101, aI102, aI103, aI104, aI105, aI106, aI107, aI108, aI109, aI113, aI114, aI115, aI121, aI123, aI124, aL110, aL111, aL112, aB130, aB131, aB132, aB133, aB134, aB135, aB136, aB199, Bool.not_eq_false']
  repeat' apply And.intro
  all_goals intro ρ hR
  all_goals intros
  all_goals first
    | (have e : ρ.i 0 = 2 := by with_reducible assumption
       have hr : rightB (ρ.i 0) (ρ.i 1) (ρ.i 2) (ρ.i 3) = true := by with_reducible assumption
       rw [e] at hr ⊢
       exact ⟨show_nn .., show_le .., sr1 (by decide) hr (by decide)⟩)
    | (have e : ρ.i 0 = 2 := by with_reducible assumption
       have hr : rightB (ρ.i 0) (ρ.i 1) (ρ.i 2) (ρ.i 3) = true := by with_reducible assumption
       rw [e] at hr
       have h2 : rightB 2 (ρ.i 1) (ρ.i 2) (ρ.i 3) = false := by with_reducible assumption
       rw [hr] at h2
       cases h2)
set_option maxRecDepth 100000 in
theorem shR3_obs : callObs Φ Try.prog t4 1000 shR3.f shR3.vs shR3.o shR3.pc shR3.outs = some
  [{pc := [.le (.app 4 (.i (.app 101 (.i (.v 2) .nil)) .nil)) (.c 20), .le (.c 0) (.app 101 (.i (.v 2) .nil)), .le (.app 4 (.i (.app 101 (.i (.v 1) .nil)) .nil)) (.c 20), .le (.c 0) (.app 101 (.i (.v 1) .nil)), .app 130 (.i (.c 3) (.i (.v 1) (.i (.v 2) (.i (.v 3) .nil)))), .le (.c 0) (.v 1), .le (.v 1) (.c 18446744073709551615), .le (.c 0) (.v 2), .le (.v 2) (.c 18446744073709551615), .le (.c 0) (.v 3), .le (.v 3) (.c 18446744073709551615), .eq (.v 0) (.c 3), .app 130 (.i (.v 0) (.i (.v 1) (.i (.v 2) (.i (.v 3) .nil))))], eqs := [.T (.le (.c 0) (.app 102 (.i (.v 0) (.i (.v 1) (.i (.v 2) (.i (.v 3) .nil)))))), .T (.le (.app 4 (.i (.app 102 (.i (.v 0) (.i (.v 1) (.i (.v 2) (.i (.v 3) .nil))))) .nil)) (.c 100)), .I (.app 102 (.i (.v 0) (.i (.v 1) (.i (.v 2) (.i (.v 3) .nil))))) (.app 3 (.i (.app 3 (.i (.app 3 (.i (.c 28552596343318049) (.i (.app 101 (.i (.v 1) .nil)) .nil))) (.i (.c 33) .nil))) (.i (.app 101 (.i (.v 2) .nil)) .nil)))]}, {pc := [.not (.app 130 (.i (.c 3) (.i (.v 1) (.i (.v 2) (.i (.v 3) .nil))))), .le (.c 0) (.v 1), .le (.v 1) (.c 18446744073709551615), .le (.c 0) (.v 2), .le (.v 2) (.c 18446744073709551615), .le (.c 0) (.v 3), .le (.v 3) (.c 18446744073709551615), .eq (.v 0) (.c 3), .app 130 (.i (.v 0) (.i (.v 1) (.i (.v 2) (.i (.v 3) .nil))))], eqs := [.T (.le (.c 0) (.app 102 (.i (.v 0) (.i (.v 1) (.i (.v 2) (.i (.v 3) .nil)))))), .T (.le (.app 4 (.i (.app 102 (.i (.v 0) (.i (.v 1) (.i (.v 2) (.i (.v 3) .nil))))) .nil)) (.c 100)), .I (.app 102 (.i (.v 0) (.i (.v 1) (.i (.v 2) (.i (.v 3) .nil))))) (.c 0)]}] := by kernel_rfl
theorem shR3_ok : shR3.ok Φ Try.prog := by
  refine call_rule (fun ρ => t4_ok ρ) shR3_obs ?_
  simp only [and_imp, List.forall_mem_cons, List.not_mem_nil, false_implies, implies_true, and_true, Ob.ok, holds, Eqn.ok, evB_eq, evB_lt, evB_le, evB_not, evB_and, evB_or, evB_eqL, evB_app, evB_v, evB_c, ev_sel, ev_len, ev_v, ev_c, ev_add, ev_sub, ev_mul, ev_quo, ev_rem, ev_bits, ev_wrap, evL_v, evL_lit, evL_app, ev_app, evA_l, evA_i, evA_nil, std_min, std_max, std_cat, std_take, std_drop, std_row, std_set, std_rep, std_find, std_put, std_del, std_flag, std_unflag, std_clr, std_left, std_copy, std_cnt, std_catS, std_lenS, std_atS, std_subS, std_ofB, std_snd, std_rcv, ints_cons, ints_nil, ofNat_lit, negSucc_lit, decide_eq_true_eq, Bool.and_eq_true, Bool.or_eq_true, Bool.not_eq_true', Bool.and_eq_false_iff, Bool.or_eq_false_iff, decide_eq_false_iff_not, aI100, aI101, aI102, aI103, aI104, aI105, aI106, aI107, aI108, aI109, aI113, aI114, aI115, aI121, aI123, aI124, aL110, aL111, aL112, aB130, aB131, aB132, aB133, aB134, aB135, aB136, aB199, Bool.not_eq_false']
  repeat' apply And.intro
  all_goals intro ρ hR
  all_goals intros
  all_goals first
    | (have e : ρ.i 0 = 3 := by with_reducible assumption
       have hr : rightB (ρ.i 0) (ρ.i 1) (ρ.i 2) (ρ.i 3) = true := by with_reducible assumption
       rw [e] at hr ⊢
       exact ⟨show_nn .., show_le .., sr2 (by decide) hr (by decide)⟩)
    | (have e : ρ.i 0 = 3 := by with_reducible assumption
       have hr : rightB (ρ.i 0) (ρ.i 1) (ρ.i 2) (ρ.i 3) = true := by with_reducible assumption
       rw [e] at hr
       have h2 : rightB 3 (ρ.i 1) (ρ.i 2) (ρ.i 3) = false := by with_reducible assumption
       rw [hr] at h2
       cases h2)
set_option maxRecDepth 100000 in
theorem shR4_obs : callObs Φ Try.prog t4 1000 shR4.f shR4.vs shR4.o shR4.pc shR4.outs = some
  [{pc := [.le (.app 4 (.i (.app 101 (.i (.v 1) .nil)) .nil)) (.c 20), .le (.c 0) (.app 101 (.i (.v 1) .nil)), .app 130 (.i (.c 4) (.i (.v 1) (.i (.v 2) (.i (.v 3) .nil)))), .le (.c 0) (.v 1), .le (.v 1) (.c 18446744073709551615), .le (.c 0) (.v 2), .le (.v 2) (.c 18446744073709551615), .le (.c 0) (.v 3), .le (.v 3) (.c 18446744073709551615), .eq (.v 0) (.c 4), .app 130 (.i (.v 0) (.i (.v 1) (.i (.v 2) (.i (.v 3) .nil))))], eqs := [.T (.le (.c 0) (.app 102 (.i (.v 0) (.i (.v 1) (.i (.v 2) (.i (.v 3) .nil)))))), .T (.le (.app 4 (.i (.app 102 (.i (.v 0) (.i (.v 1) (.i (.v 2) (.i (.v 3) .nil))))) .nil)) (.c 100)), .I (.app 102 (.i (.v 0) (.i (.v 1) (.i (.v 2) (.i (.v 3) .nil))))) (.app 3 (.i (.c 8315444182951554593) (.i (.app 101 (.i (.v 1) .nil)) .nil)))]}, {pc := [.not (.app 130 (.i (.c 4) (.i (.v 1) (.i (.v 2) (.i (.v 3) .nil))))), .le (.c 0) (.v 1), .le (.v 1) (.c 18446744073709551615), .le (.c 0) (.v 2), .le (.v 2) (.c 18446744073709551615), .le (.c 0) (.v 3), .le (.v 3) (.c 18446744073709551615), .eq (.v 0) (.c 4), .app 130 (.i (.v 0) (.i (.v 1) (.i (.v 2) (.i (.v 3) .nil))))], eqs := [.T (.le (.c 0) (.app 102 (.i (.v 0) (.i (.v 1) (.i (.v 2) (.i (.v 3) .nil)))))), .T (.le (.app 4 (.i (.app 102 (.i (.v 0) (.i (.v 1) (.i (.v 2) (.i (.v 3) .nil))))) .nil)) (.c 100)), .I (.app 102 (.i (.v 0) (.i (.v 1) (.i (.v 2) (.i (.v 3) .nil))))) (.c 0)]}] := by kernel_rfl
theorem shR4_ok : shR4.ok Φ Try.prog := by
  refine call_rule (fun ρ => t4_ok ρ) shR4_obs ?_
  simp only [and_imp, List.forall_mem_cons, List.not_mem_nil, false_implies, implies_true, and_true, Ob.ok, holds, Eqn.ok, evB_eq, evB_lt, evB_le, evB_not, evB_and, evB_or, evB_eqL, evB_app, evB_v, evB_c, ev_sel, ev_len, ev_v, ev_c, ev_add, ev_sub, ev_mul, ev_quo, ev_rem, ev_bits, ev_wrap, evL_v, evL_lit, evL_app, ev_app, evA_l, evA_i, evA_nil, std_min, std_max, std_cat, std_take, std_drop, std_row, std_set, std_rep, std_find, std_put, std_del, std_flag, std_unflag, std_clr, std_left, std_copy, std_cnt, std_catS, std_lenS, std_atS, std_subS, std_ofB, std_snd, std_rcv, ints_cons, ints_nil, ofNat_lit, negSucc_lit, decide_eq_true_eq, Bool.and_eq_true, Bool.or_eq_true, Bool.not_eq_true', Bool.and_eq_false_iff, Bool.or_eq_false_iff, decide_eq_false_iff_not, aI100, aI101, aI102, aI103, aI104, aI105, aI106, aI107, aI108, aI109, aI113, aI114, aI115, aI121, aI123, aI124, aL110, aL111, aL112, aB130, aB131, aB132, aB133, aB134, aB135, aB136, aB199, Bool.not_eq_false']
  repeat' apply And.intro
  all_goals intro ρ hR
  all_goals intros
  all_goals first
    | (have e : ρ.i 0 = 4 := by with_reducible assumption
       have hr : rightB (ρ.i 0) (ρ.i 1) (ρ.i 2) (ρ.i 3) = true := by with_reducible assumption
       rw [e] at hr ⊢
       exact ⟨show_nn .., show_le .., sr1 (by decide) hr (by decide)⟩)
    | (have e : ρ.i 0 = 4 := by with_reducible assumption
       have hr : rightB (ρ.i 0) (ρ.i 1) (ρ.i 2) (ρ.i 3) = true := by with_reducible assumption
       rw [e] at hr
       have h2 : rightB 4 (ρ.i 1) (ρ.i 2) (ρ.i 3) = false := by with_reducible assumption
       rw [hr] at h2
       cases h2)
set_option maxRecDepth 100000 in
theorem shR5_obs : callObs Φ Try.prog t4 1000 shR5.f shR5.vs shR5.o shR5.pc shR5.outs = some
  [{pc := [.le (.app 4 (.i (.app 101 (.i (.v 2) .nil)) .nil)) (.c 20), .le (.c 0) (.app 101 (.i (.v 2) .nil)), .le (.app 4 (.i (.app 101 (.i (.v 1) .nil)) .nil)) (.c 20), .le (.c 0) (.app 101 (.i (.v 1) .nil)), .app 130 (.i (.c 5) (.i (.v 1) (.i (.v 2) (.i (.v 3) .nil)))), .le (.c 0) (.v 1), .le (.v 1) (.c 18446744073709551615), .le (.c 0) (.v 2), .le (.v 2) (.c 18446744073709551615), .le (.c 0) (.v 3), .le (.v 3) (.c 18446744073709551615), .eq (.v 0) (.c 5), .app 130 (.i (.v 0) (.i (.v 1) (.i (.v 2) (.i (.v 3) .nil))))], eqs := [.T (.le (.c 0) (.app 102 (.i (.v 0) (.i (.v 1) (.i (.v 2) (.i (.v 3) .nil)))))), .T (.le (.app 4 (.i (.app 102 (.i (.v 0) (.i (.v 1) (.i (.v 2) (.i (.v 3) .nil))))) .nil)) (.c 100)), .I (.app 102 (.i (.v 0) (.i (.v 1) (.i (.v 2) (.i (.v 3) .nil))))) (.app 3 (.i (.app 3 (.i (.app 3 (.i (.c 8175001398138926369) (.i (.app 101 (.i (.v 1) .nil)) .nil))) (.i (.c 33) .nil))) (.i (.app 101 (.i (.v 2) .nil)) .nil)))]}, {pc := [.not (.app 130 (.i (.c 5) (.i (.v 1) (.i (.v 2) (.i (.v 3) .nil))))), .le (.c 0) (.v 1), .le (.v 1) (.c 18446744073709551615), .le (.c 0) (.v 2), .le (.v 2) (.c 18446744073709551615), .le (.c 0) (.v 3), .le (.v 3) (.c 18446744073709551615), .eq (.v 0) (.c 5), .app 130 (.i (.v 0) (.i (.v 1) (.i (.v 2) (.i (.v 3) .nil))))], eqs := [.T (.le (.c 0) (.app 102 (.i (.v 0) (.i (.v 1) (.i (.v 2) (.i (.v 3) .nil)))))), .T (.le (.app 4 (.i (.app 102 (.i (.v 0) (.i (.v 1) (.i (.v 2) (.i (.v 3) .nil))))) .nil)) (.c 100)), .I (.app 102 (.i (.v 0) (.i (.v 1) (.i (.v 2) (.i (.v 3) .nil))))) (.c 0)]}] := by kernel_rfl
theorem shR5_ok : shR5.ok Φ Try.prog := by
  refine call_rule (fun ρ => t4_ok ρ) shR5_obs ?_
  simp only [and_imp, List.forall_mem_cons, List.not_mem_nil, false_implies, implies_true, and_true, Ob.ok, holds, Eqn.ok, evB_eq, evB_lt, evB_le, evB_not, evB_and, evB_or, evB_eqL, evB_app, evB_v, evB_c, ev_sel, ev_len, ev_v, ev_c, ev_add, ev_sub, ev_mul, ev_quo, ev_rem, ev_bits, ev_wrap, evL_v, evL_lit, evL_app, ev_app, evA_l, evA_i, evA_nil, std_min, std_max, std_cat, std_take, std_drop, std_row, std_set, std_rep, std_find, std_put, std_del, std_flag, std_unflag, std_clr, std_left, std_copy, std_cnt, std_catS, std_lenS, std_atS, std_subS, std_ofB, std_snd, std_rcv, ints_cons, ints_nil, ofNat_lit, negSucc_lit, decide_eq_true_eq, Bool.and_eq_true, Bool.or_eq_true, Bool.not_eq_true', Bool.and_eq_false_iff, Bool.or_eq_false_iff, decide_eq_false_iff_not, aI100, aI101, aI102, aI103, aI104, aI105, aI106, aI107, aI108, aI109, aI113, aI114, aI115, aI121, aI123, aI124, aL110, aL111, aL112, aB130, aB131, aB132, aB133, aB134, aB135, aB136, aB199, Bool.not_eq_false']
  repeat' apply And.intro
  all_goals intro ρ hR
  all_goals intros
  all_goals first
    | (have e : ρ.i 0 = 5 := by with_reducible assumption
       have hr : rightB (ρ.i 0) (ρ.i 1) (ρ.i 2) (ρ.i 3) = true := by with_reducible assumption
       rw [e] at hr ⊢
       exact ⟨show_nn .., show_le .., sr2 (by decide) hr (by decide)⟩)
    | (have e : ρ.i 0 = 5 := by with_reducible assumption
       have hr : rightB (ρ.i 0) (ρ.i 1) (ρ.i 2) (ρ.i 3) = true := by with_reducible assumption
       rw [e] at hr
       have h2 : rightB 5 (ρ.i 1) (ρ.i 2) (ρ.i 3) = false := by with_reducible assumption
       rw [hr] at h2
       cases h2)
set_option maxRecDepth 100000 in
theorem shR6_obs : callObs Φ Try.prog t4 1000 shR6.f shR6.vs shR6.o shR6.pc shR6.outs = some
  [{pc := [.le (.app 4 (.i (.app 101 (.i (.v 1) .nil)) .nil)) (.c 20), .le (.c 0) (.app 101 (.i (.v 1) .nil)), .app 130 (.i (.c 6) (.i (.v 1) (.i (.v 2) (.i (.v 3) .nil)))), .le (.c 0) (.v 1), .le (.v 1) (.c 18446744073709551615), .le (.c 0) (.v 2), .le (.v 2) (.c 18446744073709551615), .le (.c 0) (.v 3), .le (.v 3) (.c 18446744073709551615), .eq (.v 0) (.c 6), .app 130 (.i (.v 0) (.i (.v 1) (.i (.v 2) (.i (.v 3) .nil))))], eqs := [.T (.le (.c 0) (.app 102 (.i (.v 0) (.i (.v 1) (.i (.v 2) (.i (.v 3) .nil)))))), .T (.le (.app 4 (.i (.app 102 (.i (.v 0) (.i (.v 1) (.i (.v 2) (.i (.v 3) .nil))))) .nil)) (.c 100)), .I (.app 102 (.i (.v 0) (.i (.v 1) (.i (.v 2) (.i (.v 3) .nil))))) (.app 3 (.i (.c 470036931873) (.i (.app 101 (.i (.v 1) .nil)) .nil)))]}, {pc := [.not (.app 130 (.i (.c 6) (.i (.v 1) (.i (.v 2) (.i (.v 3) .nil))))), .le (.c 0) (.v 1), .le (.v 1) (.c 18446744073709551615), .le (.c 0) (.v 2), .le (.v 2) (.c 18446744073709551615), .le (.c 0) (.v 3), .le (.v 3) (.c 18446744073709551615), .eq (.v 0) (.c 6), .app 130 (.i (.v 0) (.i (.v 1) (.i (.v 2) (.i (.v 3) .nil))))], eqs := [.T (.le (.c 0) (.app 102 (.i (.v 0) (.i (.v 1) (.i (.v 2) (.i (.v 3) .nil)))))), .T (.le (.app 4 (.i (.app 102 (.i (.v 0) (.i (.v 1) (.i (.v 2) (.i (.v 3) .nil))))) .nil)) (.c 100)), .I (.app 102 (.i (.v 0) (.i (.v 1) (.i (.v 2) (.i (.v 3) .nil))))) (.c 0)]}] := by kernel_rfl
theorem shR6_ok : shR6.ok Φ Try.prog := by
  refine call_rule (fun ρ => t4_ok ρ) shR6_obs ?_
  simp only [and_imp, List.forall_mem_cons, List.not_mem_nil, false_implies, implies_true, and_true, Ob.ok, holds, Eqn.ok, evB_eq, evB_lt, evB_le, evB_not, evB_and, evB_or, evB_eqL, evB_app, evB_v, evB_c, ev_sel, ev_len, ev_v, ev_c, ev_add, ev_sub, ev_mul, ev_quo, ev_rem, ev_bits, ev_wrap, evL_v, evL_lit, evL_app, ev_app, evA_l, evA_i, evA_nil, std_min, std_max, std_cat, std_take, std_drop, std_row, std_set, std_rep, std_find, std_put, std_del, std_flag, std_unflag, std_clr, std_left, std_copy, std_cnt, std_catS, std_lenS, std_atS, std_subS, std_ofB, std_snd, std_rcv, ints_cons, ints_nil, ofNat_lit, negSucc_lit, decide_eq_true_eq, Bool.and_eq_true, Bool.or_eq_true, Bool.not_eq_true', Bool.and_eq_false_iff, Bool.or_eq_false_iff, decide_eq_false_iff_not, aI100, aI101, aI102, aI103, aI104, aI105, aI106, aI107, aI108, aI109, aI113, aI114, aI115, aI121, aI123, aI124, aL110, aL111, aL112, aB130, aB131, aB132, aB133, aB134, aB135, aB136, aB199, Bool.not_eq_false']
  repeat' apply And.intro
  all_goals intro ρ hR
  all_goals intros
  all_goals first
    | (have e : ρ.i 0 = 6 := by with_reducible assumption
       have hr : rightB (ρ.i 0) (ρ.i 1) (ρ.i 2) (ρ.i 3) = true := by with_reducible assumption
       rw [e] at hr ⊢
       exact ⟨show_nn .., show_le .., sr1 (by decide) hr (by decide)⟩)
    | (have e : ρ.i 0 = 6 := by with_reducible assumption
       have hr : rightB (ρ.i 0) (ρ.i 1) (ρ.i 2) (ρ.i 3) = true := by with_reducible assumption
       rw [e] at hr
       have h2 : rightB 6 (ρ.i 1) (ρ.i 2) (ρ.i 3) = false := by with_reducible assumption
       rw [hr] at h2
       cases h2)
set_option maxRecDepth 100000 in
theorem shR7_obs : callObs Φ Try.prog t4 1000 shR7.f shR7.vs shR7.o shR7.pc shR7.outs = some
  [{pc := [.le (.app 4 (.i (.app 101 (.i (.v 2) .nil)) .nil)) (.c 20), .le (.c 0) (.app 101 (.i (.v 2) .nil)), .le (.app 4 (.i (.app 101 (.i (.v 1) .nil)) .nil)) (.c 20), .le (.c 0) (.app 101 (.i (.v 1) .nil)), .app 130 (.i (.c 7) (.i (.v 1) (.i (.v 2) (.i (.v 3) .nil)))), .le (.c 0) (.v 1), .le (.v 1) (.c 18446744073709551615), .le (.c 0) (.v 2), .le (.v 2) (.c 18446744073709551615), .le (.c 0) (.v 3), .le (.v 3) (.c 18446744073709551615), .eq (.v 0) (.c 7), .app 130 (.i (.v 0) (.i (.v 1) (.i (.v 2) (.i (.v 3) .nil))))], eqs := [.T (.le (.c 0) (.app 102 (.i (.v 0) (.i (.v 1) (.i (.v 2) (.i (.v 3) .nil)))))), .T (.le (.app 4 (.i (.app 102 (.i (.v 0) (.i (.v 1) (.i (.v 2) (.i (.v 3) .nil))))) .nil)) (.c 100)), .I (.app 102 (.i (.v 0) (.i (.v 1) (.i (.v 2) (.i (.v 3) .nil))))) (.app 3 (.i (.app 3 (.i (.app 3 (.i (.c 128047746606625) (.i (.app 101 (.i (.v 1) .nil)) .nil))) (.i (.c 33) .nil))) (.i (.app 101 (.i (.v 2) .nil)) .nil)))]}, {pc := [.not (.app 130 (.i (.c 7) (.i (.v 1) (.i (.v 2) (.i (.v 3) .nil))))), .le (.c 0) (.v 1), .le (.v 1) (.c 18446744073709551615), .le (.c 0) (.v 2), .le (.v 2) (.c 18446744073709551615), .le (.c 0) (.v 3), .le (.v 3) (.c 18446744073709551615), .eq (.v 0) (.c 7), .app 130 (.i (.v 0) (.i (.v 1) (.i (.v 2) (.i (.v 3) .nil))))], eqs := [.T (.le (.c 0) (.app 102 (.i (.v 0) (.i (.v 1) (.i (.v 2) (.i (.v 3) .nil)))))), .T (.le (.app 4 (.i (.app 102 (.i (.v 0) (.i (.v 1) (.i (.v 2) (.i (.v 3) .nil))))) .nil)) (.c 100)), .I (.app 102 (.i (.v 0) (.i (.v 1) (.i (.v 2) (.i (.v 3) .nil))))) (.c 0)]}] := by kernel_rfl
theorem shR7_ok : shR7.ok Φ Try.prog := by
  refine call_rule (fun ρ => t4_ok ρ) shR7_obs ?_
  simp only [and_imp, List.forall_mem_cons, List.not_mem_nil, false_implies, implies_true, and_true, Ob.ok, holds, Eqn.ok, evB_eq, evB_lt, evB_le, evB_not, evB_and, evB_or, evB_eqL, evB_app, evB_v, evB_c, ev_sel, ev_len, ev_v, ev_c, ev_add, ev_sub, ev_mul, ev_quo, ev_rem, ev_bits, ev_wrap, evL_v, evL_lit, evL_app, ev_app, evA_l, evA_i, evA_nil, std_min, std_max, std_cat, std_take, std_drop, std_row, std_set, std_rep, std_find, std_put, std_del, std_flag, std_unflag, std_clr, std_left, std_copy, std_cnt, std_catS, std_lenS, std_atS, std_subS, std_ofB, std_snd, std_rcv, ints_cons, ints_nil, ofNat_lit, negSucc_lit, decide_eq_true_eq, Bool.and_eq_true, Bool.or_eq_true, Bool.not_eq_true', Bool.and_eq_false_iff, Bool.or_eq_false_iff, decide_eq_false_iff_not, aI100, aI101, aI102, aI103, aI104, aI105, aI106, aI107, aI108, aI109, aI113, aI114, aI115, aI121, aI123, aI124, aL110, aL111, aL112, aB130, aB131, aB132, aB133, aB134, aB135, aB136, aB199, Bool.not_eq_false']
  repeat' apply And.intro
  all_goals intro ρ hR
  all_goals intros
  all_goals first
    | (have e : ρ.i 0 = 7 := by with_reducible assumption
       have hr : rightB (ρ.i 0) (ρ.i 1) (ρ.i 2) (ρ.i 3) = true := by with_reducible assumption
       rw [e] at hr ⊢
       exact ⟨show_nn .., show_le .., sr2 (by decide) hr (by decide)⟩)
    | (have e : ρ.i 0 = 7 := by with_reducible assumption
       have hr : rightB (ρ.i 0) (ρ.i 1) (ρ.i 2) (ρ.i 3) = true := by with_reducible assumption
       rw [e] at hr
       have h2 : rightB 7 (ρ.i 1) (ρ.i 2) (ρ.i 3) = false := by with_reducible assumption
       rw [hr] at h2
       cases h2)
set_option maxRecDepth 100000 in
theorem shR8_obs : callObs Φ Try.prog t4 1000 shR8.f shR8.vs shR8.o shR8.pc shR8.outs = some
  [{pc := [.le (.app 4 (.i (.app 101 (.i (.v 3) .nil)) .nil)) (.c 20), .le (.c 0) (.app 101 (.i (.v 3) .nil)), .le (.app 4 (.i (.app 101 (.i (.v 2) .nil)) .nil)) (.c 20), .le (.c 0) (.app 101 (.i (.v 2) .nil)), .le (.app 4 (.i (.app 101 (.i (.v 1) .nil)) .nil)) (.c 20), .le (.c 0) (.app 101 (.i (.v 1) .nil)), .app 130 (.i (.c 8) (.i (.v 1) (.i (.v 2) (.i (.v 3) .nil)))), .le (.c 0) (.v 1), .le (.v 1) (.c 18446744073709551615), .le (.c 0) (.v 2), .le (.v 2) (.c 18446744073709551615), .le (.c 0) (.v 3), .le (.v 3) (.c 18446744073709551615), .eq (.v 0) (.c 8), .app 130 (.i (.v 0) (.i (.v 1) (.i (.v 2) (.i (.v 3) .nil))))], eqs := [.T (.le (.c 0) (.app 102 (.i (.v 0) (.i (.v 1) (.i (.v 2) (.i (.v 3) .nil)))))), .T (.le (.app 4 (.i (.app 102 (.i (.v 0) (.i (.v 1) (.i (.v 2) (.i (.v 3) .nil))))) .nil)) (.c 100)), .I (.app 102 (.i (.v 0) (.i (.v 1) (.i (.v 2) (.i (.v 3) .nil))))) (.app 3 (.i (.app 3 (.i (.app 3 (.i (.app 3 (.i (.app 3 (.i (.c 123589418709793) (.i (.app 101 (.i (.v 1) .nil)) .nil))) (.i (.c 33) .nil))) (.i (.app 101 (.i (.v 2) .nil)) .nil))) (.i (.c 33) .nil))) (.i (.app 101 (.i (.v 3) .nil)) .nil)))]}, {pc := [.not (.app 130 (.i (.c 8) (.i (.v 1) (.i (.v 2) (.i (.v 3) .nil))))), .le (.c 0) (.v 1), .le (.v 1) (.c 18446744073709551615), .le (.c 0) (.v 2), .le (.v 2) (.c 18446744073709551615), .le (.c 0) (.v 3), .le (.v 3) (.c 18446744073709551615), .eq (.v 0) (.c 8), .app 130 (.i (.v 0) (.i (.v 1) (.i (.v 2) (.i (.v 3) .nil))))], eqs := [.T (.le (.c 0) (.app 102 (.i (.v 0) (.i (.v 1) (.i (.v 2) (.i (.v 3) .nil)))))), .T (.le (.app 4 (.i (.app 102 (.i (.v 0) (.i (.v 1) (.i (.v 2) (.i (.v 3) .nil))))) .nil)) (.c 100)), .I (.app 102 (.i (.v 0) (.i (.v 1) (.i (.v 2) (.i (.v 3) .nil))))) (.c 0)]}] := by kernel_rfl
theorem shR8_ok : shR8.ok Φ Try.prog := by
  refine call_rule (fun ρ => t4_ok ρ) shR8_obs ?_
  simp only [and_imp, List.forall_mem_cons, List.not_mem_nil, false_implies, implies_true, and_true, Ob.ok, holds, Eqn.ok, evB_eq, evB_lt, evB_le, evB_not, evB_and, evB_or, evB_eqL, evB_app, evB_v, evB_c, ev_sel, ev_len, ev_v, ev_c, ev_add, ev_sub, ev_mul, ev_quo, ev_rem, ev_bits, ev_wrap, evL_v, evL_lit, evL_app, ev_app, evA_l, evA_i, evA_nil, std_min, std_max, std_cat, std_take, std_drop, std_row, std_set, std_rep, std_find, std_put, std_del, std_flag, std_unflag, std_clr, std_left, std_copy, std_cnt, std_catS, std_lenS, std_atS, std_subS, std_ofB, std_snd, std_rcv, ints_cons, ints_nil, ofNat_lit, negSucc_lit, decide_eq_true_eq, Bool.and_eq_true, Bool.or_eq_true, Bool.not_eq_true', Bool.and_eq_false_iff, Bool.or_eq_false_iff, decide_eq_false_iff_not, aI100, aI101, aI102, aI103, aI104, aI105, aI106, aI107, aI108, aI109, aI113, aI114, aI115, aI121, aI123, aI124, aL110, aL111, aL112, aB130, aB131, aB132, aB133, aB134, aB135, aB136, aB199, Bool.not_eq_false']
  repeat' apply And.intro
  all_goals intro ρ hR
  all_goals intros
  all_goals first
    | (have e : ρ.i 0 = 8 := by with_reducible assumption
       have hr : rightB (ρ.i 0) (ρ.i 1) (ρ.i 2) (ρ.i 3) = true := by with_reducible assumption
       rw [e] at hr ⊢
       exact ⟨show_nn .., show_le .., sr3 (by decide) hr (by decide)⟩)
    | (have e : ρ.i 0 = 8 := by with_reducible assumption
       have hr : rightB (ρ.i 0) (ρ.i 1) (ρ.i 2) (ρ.i 3) = true := by with_reducible assumption
       rw [e] at hr
       have h2 : rightB 8 (ρ.i 1) (ρ.i 2) (ρ.i 3) = false := by with_reducible assumption
       rw [hr] at h2
       cases h2)
set_option maxRecDepth 100000 in
theorem shR9_obs : callObs Φ Try.prog t4 1000 shR9.f shR9.vs shR9.o shR9.pc shR9.outs = some
  [{pc := [.le (.app 4 (.i (.app 101 (.i (.v 3) .nil)) .nil)) (.c 20), .le (.c 0) (.app 101 (.i (.v 3) .nil)), .le (.app 4 (.i (.app 101 (.i (.v 2) .nil)) .nil)) (.c 20), .le (.c 0) (.app 101 (.i (.v 2) .nil)), .le (.app 4 (.i (.app 101 (.i (.v 1) .nil)) .nil)) (.c 20), .le (.c 0) (.app 101 (.i (.v 1) .nil)), .app 130 (.i (.c 9) (.i (.v 1) (.i (.v 2) (.i (.v 3) .nil)))), .le (.c 0) (.v 1), .le (.v 1) (.c 18446744073709551615), .le (.c 0) (.v 2), .le (.v 2) (.c 18446744073709551615), .le (.c 0) (.v 3), .le (.v 3) (.c 18446744073709551615), .eq (.v 0) (.c 9), .app 130 (.i (.v 0) (.i (.v 1) (.i (.v 2) (.i (.v 3) .nil))))], eqs := [.T (.le (.c 0) (.app 102 (.i (.v 0) (.i (.v 1) (.i (.v 2) (.i (.v 3) .nil)))))), .T (.le (.app 4 (.i (.app 102 (.i (.v 0) (.i (.v 1) (.i (.v 2) (.i (.v 3) .nil))))) .nil)) (.c 100)), .I (.app 102 (.i (.v 0) (.i (.v 1) (.i (.v 2) (.i (.v 3) .nil))))) (.app 3 (.i (.app 3 (.i (.app 3 (.i (.app 3 (.i (.app 3 (.i (.c 504162444833) (.i (.app 101 (.i (.v 1) .nil)) .nil))) (.i (.c 33) .nil))) (.i (.app 101 (.i (.v 2) .nil)) .nil))) (.i (.c 33) .nil))) (.i (.app 101 (.i (.v 3) .nil)) .nil)))]}, {pc := [.not (.app 130 (.i (.c 9) (.i (.v 1) (.i (.v 2) (.i (.v 3) .nil))))), .le (.c 0) (.v 1), .le (.v 1) (.c 18446744073709551615), .le (.c 0) (.v 2), .le (.v 2) (.c 18446744073709551615), .le (.c 0) (.v 3), .le (.v 3) (.c 18446744073709551615), .eq (.v 0) (.c 9), .app 130 (.i (.v 0) (.i (.v 1) (.i (.v 2) (.i (.v 3) .nil))))], eqs := [.T (.le (.c 0) (.app 102 (.i (.v 0) (.i (.v 1) (.i (.v 2) (.i (.v 3) .nil)))))), .T (.le (.app 4 (.i (.app 102 (.i (.v 0) (.i (.v 1) (.i (.v 2) (.i (.v 3) .nil))))) .nil)) (.c 100)), .I (.app 102 (.i (.v 0) (.i (.v 1) (.i (.v 2) (.i (.v 3) .nil))))) (.c 0)]}] := by kernel_rfl
theorem shR9_ok : shR9.ok Φ Try.prog := by
  refine call_rule (fun ρ => t4_ok ρ) shR9_obs ?_
  simp only [and_imp, List.forall_mem_cons, List.not_mem_nil, false_implies, implies_true, and_true, Ob.ok, holds, Eqn.ok, evB_eq, evB_lt, evB_le, evB_not, evB_and, evB_or, evB_eqL, evB_app, evB_v, evB_c, ev_sel, ev_len, ev_v, ev_c, ev_add, ev_sub, ev_mul, ev_quo, ev_rem, ev_bits, ev_wrap, evL_v, evL_lit, evL_app, ev_app, evA_l, evA_i, evA_nil, std_min, std_max, std_cat, std_take, std_drop, std_row, std_set, std_rep, std_find, std_put, std_del, std_flag, std_unflag, std_clr, std_left, std_copy, std_cnt, std_catS, std_lenS, std_atS, std_subS, std_ofB, std_snd, std_rcv, ints_cons, ints_nil, ofNat_lit, negSucc_lit, decide_eq_true_eq, Bool.and_eq_true, Bool.or_eq_true, Bool.not_eq_true', Bool.and_eq_false_iff, Bool.or_eq_false_iff, decide_eq_false_iff_not, aI100, aI101, aI102, aI103, aI104, aI105, aI106, aI107, aI108, aI109, aI113, aI114, aI115, aI121, aI123, aI124, aL110, aL111, aL112, aB130, aB131, aB132, aB133, aB134, aB135, aB136, aB199, Bool.not_eq_false']
  repeat' apply And.intro
  all_goals intro ρ hR
  all_goals intros
  all_goals first
    | (have e : ρ.i 0 = 9 := by with_reducible assumption
       have hr : rightB (ρ.i 0) (ρ.i 1) (ρ.i 2) (ρ.i 3) = true := by with_reducible assumption
       rw [e] at hr ⊢
       exact ⟨show_nn .., show_le .., sr3 (by decide) hr (by decide)⟩)
    | (have e : ρ.i 0 = 9 := by with_reducible assumption
       have hr : rightB (ρ.i 0) (ρ.i 1) (ρ.i 2) (ρ.i 3) = true := by with_reducible assumption
       rw [e] at hr
       have h2 : rightB 9 (ρ.i 1) (ρ.i 2) (ρ.i 3) = false := by with_reducible assumption
       rw [hr] at h2
       cases h2)
set_option maxRecDepth 100000 in
theorem shR10_obs : callObs Φ Try.prog t4 1000 shR10.f shR10.vs shR10.o shR10.pc shR10.outs = some
  [{pc := [.le (.app 4 (.i (.app 101 (.i (.v 1) .nil)) .nil)) (.c 20), .le (.c 0) (.app 101 (.i (.v 1) .nil)), .app 130 (.i (.c 10) (.i (.v 1) (.i (.v 2) (.i (.v 3) .nil)))), .le (.c 0) (.v 1), .le (.v 1) (.c 18446744073709551615), .le (.c 0) (.v 2), .le (.v 2) (.c 18446744073709551615), .le (.c 0) (.v 3), .le (.v 3) (.c 18446744073709551615), .eq (.v 0) (.c 10), .app 130 (.i (.v 0) (.i (.v 1) (.i (.v 2) (.i (.v 3) .nil))))], eqs := [.T (.le (.c 0) (.app 102 (.i (.v 0) (.i (.v 1) (.i (.v 2) (.i (.v 3) .nil)))))), .T (.le (.app 4 (.i (.app 102 (.i (.v 0) (.i (.v 1) (.i (.v 2) (.i (.v 3) .nil))))) .nil)) (.c 100)), .I (.app 102 (.i (.v 0) (.i (.v 1) (.i (.v 2) (.i (.v 3) .nil))))) (.app 3 (.i (.c 426852510753) (.i (.app 101 (.i (.v 1) .nil)) .nil)))]}, {pc := [.not (.app 130 (.i (.c 10) (.i (.v 1) (.i (.v 2) (.i (.v 3) .nil))))), .le (.c 0) (.v 1), .le (.v 1) (.c 18446744073709551615), .le (.c 0) (.v 2), .le (.v 2) (.c 18446744073709551615), .le (.c 0) (.v 3), .le (.v 3) (.c 18446744073709551615), .eq (.v 0) (.c 10), .app 130 (.i (.v 0) (.i (.v 1) (.i (.v 2) (.i (.v 3) .nil))))], eqs := [.T (.le (.c 0) (.app 102 (.i (.v 0) (.i (.v 1) (.i (.v 2) (.i (.v 3) .nil)))))), .T (.le (.app 4 (.i (.app 102 (.i (.v 0) (.i (.v 1) (.i (.v 2) (.i (.v 3) .nil))))) .nil)) (.c 100)), .I (.app 102 (.i (.v 0) (.i (.v 1) (.i (.v 2) (.i (.v 3) .nil))))) (.c 0)]}] := by kernel_rfl
theorem shR10_ok : shR10.ok Φ Try.prog := by
  refine call_rule (fun ρ => t4_ok ρ) shR10_obs ?_
  simp only [and_imp, List.forall_mem_cons, List.not_mem_nil, false_implies, implies_true, and_true, Ob.ok, holds, Eqn.ok, evB_eq, evB_lt, evB_le, evB_not, evB_and, evB_or, evB_eqL, evB_app, evB_v, evB_c, ev_sel, ev_len, ev_v, ev_c, ev_add, ev_sub, ev_mul, ev_quo, ev_rem, ev_bits, ev_wrap, evL_v, evL_lit, evL_app, ev_app, evA_l, evA_i, evA_nil, std_min, std_max, std_cat, std_take, std_drop, std_row, std_set, std_rep, std_find, std_put, std_del, std_flag, std_unflag, std_clr, std_left, std_copy, std_cnt, std_catS, std_lenS, std_atS, std_subS, std_ofB, std_snd, std_rcv, ints_cons, ints_nil, ofNat_lit, negSucc_lit, decide_eq_true_eq, Bool.and_eq_true, Bool.or_eq_true, Bool.not_eq_true', Bool.and_eq_false_iff, Bool.or_eq_false_iff, decide_eq_false_iff_not, aI100, aI101, aI102, aI103, aI104, aI105, aI106, aI107, aI108, aI109, aI113, aI114, aI115, aI121, aI123, aI124, aL110, aL111, aL112, aB130, aB131, aB132, aB133, aB134, aB135, aB136, aB199, Bool.not_eq_false']
  repeat' apply And.intro
  all_goals intro ρ hR
  all_goals intros
  all_goals first
    | (have e : ρ.i 0 = 10 := by with_reducible assumption
       have hr : rightB (ρ.i 0) (ρ.i 1) (ρ.i 2) (ρ.i 3) = true := by with_reducible assumption
       rw [e] at hr ⊢
       exact ⟨show_nn .., show_le .., sr1 (by decide) hr (by decide)⟩)
    | (have e : ρ.i 0 = 10 := by with_reducible assumption
       have hr : rightB (ρ.i 0) (ρ.i 1) (ρ.i 2) (ρ.i 3) = true := by with_reducible assumption
       rw [e] at hr
       have h2 : rightB 10 (ρ.i 1) (ρ.i 2) (ρ.i 3) = false := by with_reducible assumption
       rw [hr] at h2
       cases h2)
set_option maxRecDepth 100000 in
theorem shR11_obs : callObs Φ Try.prog t4 1000 shR11.f shR11.vs shR11.o shR11.pc shR11.outs = some
  [{pc := [.le (.app 4 (.i (.app 101 (.i (.v 1) .nil)) .nil)) (.c 20), .le (.c 0) (.app 101 (.i (.v 1) .nil)), .app 130 (.i (.c 11) (.i (.v 1) (.i (.v 2) (.i (.v 3) .nil)))), .le (.c 0) (.v 1), .le (.v 1) (.c 18446744073709551615), .le (.c 0) (.v 2), .le (.v 2) (.c 18446744073709551615), .le (.c 0) (.v 3), .le (.v 3) (.c 18446744073709551615), .eq (.v 0) (.c 11), .app 130 (.i (.v 0) (.i (.v 1) (.i (.v 2) (.i (.v 3) .nil))))], eqs := [.T (.le (.c 0) (.app 102 (.i (.v 0) (.i (.v 1) (.i (.v 2) (.i (.v 3) .nil)))))), .T (.le (.app 4 (.i (.app 102 (.i (.v 0) (.i (.v 1) (.i (.v 2) (.i (.v 3) .nil))))) .nil)) (.c 100)), .I (.app 102 (.i (.v 0) (.i (.v 1) (.i (.v 2) (.i (.v 3) .nil))))) (.app 3 (.i (.c 32482285495019041) (.i (.app 101 (.i (.v 1) .nil)) .nil)))]}, {pc := [.not (.app 130 (.i (.c 11) (.i (.v 1) (.i (.v 2) (.i (.v 3) .nil))))), .le (.c 0) (.v 1), .le (.v 1) (.c 18446744073709551615), .le (.c 0) (.v 2), .le (.v 2) (.c 18446744073709551615), .le (.c 0) (.v 3), .le (.v 3) (.c 18446744073709551615), .eq (.v 0) (.c 11), .app 130 (.i (.v 0) (.i (.v 1) (.i (.v 2) (.i (.v 3) .nil))))], eqs := [.T (.le (.c 0) (.app 102 (.i (.v 0) (.i (.v 1) (.i (.v 2) (.i (.v 3) .nil)))))), .T (.le (.app 4 (.i (.app 102 (.i (.v 0) (.i (.v 1) (.i (.v 2) (.i (.v 3) .nil))))) .nil)) (.c 100)), .I (.app 102 (.i (.v 0) (.i (.v 1) (.i (.v 2) (.i (.v 3) .nil))))) (.c 0)]}] := by kernel_rfl
theorem shR11_ok : shR11.ok Φ Try.prog := by
  refine call_rule (fun ρ => t4_ok ρ) shR11_obs ?_
  simp only [and_imp, List.forall_mem_cons, List.not_mem_nil, false_implies, implies_true, and_true, Ob.ok, holds, Eqn.ok, evB_eq, evB_lt, evB_le, evB_not, evB_and, evB_or, evB_eqL, evB_app, evB_v, evB_c, ev_sel, ev_len, ev_v, ev_c, ev_add, ev_sub, ev_mul, ev_quo, ev_rem, ev_bits, ev_wrap, evL_v, evL_lit, evL_app, ev_app, evA_l, evA_i, evA_nil, std_min, std_max, std_cat, std_take, std_drop, std_row, std_set, std_rep, std_find, std_put, std_del, std_flag, std_unflag, std_clr, std_left, std_copy, std_cnt, std_catS, std_lenS, std_atS, std_subS, std_ofB, std_snd, std_rcv, ints_cons, ints_nil, ofNat_lit, negSucc_lit, decide_eq_true_eq, Bool.and_eq_true, Bool.or_eq_true, Bool.not_eq_true', Bool.and_eq_false_iff, Bool.or_eq_false_iff, decide_eq_false_iff_not, aI100, aI101, aI102, aI103, aI104, aI105, aI106, aI107, aI108, aI109, aI113, aI114, aI115, aI121, aI123, aI124, aL110, aL111, aL112, aB130, aB131, aB132, aB133, aB134, aB135, aB136, aB199, Bool.not_eq_false']
  repeat' apply And.intro
  all_goals intro ρ hR
  all_goals intros
  all_goals first
    | (have e : ρ.i 0 = 11 := by with_reducible assumption
       have hr : rightB (ρ.i 0) (ρ.i 1) (ρ.i 2) (ρ.i 3) = true := by with_reducible assumption
       rw [e] at hr ⊢
       exact ⟨show_nn .., show_le .., sr1 (by decide) hr (by decide)⟩)
    | (have e : ρ.i 0 = 11 := by with_reducible assumption
       have hr : rightB (ρ.i 0) (ρ.i 1) (ρ.i 2) (ρ.i 3) = true := by with_reducible assumption
       rw [e] at hr
       have h2 : rightB 11 (ρ.i 1) (ρ.i 2) (ρ.i 3) = false := by with_reducible assumption
       rw [hr] at h2
       cases h2)
set_option maxRecDepth 100000 in
theorem shR12_obs : callObs Φ Try.prog t4 1000 shR12.f shR12.vs shR12.o shR12.pc shR12.outs = some
  [{pc := [.le (.app 4 (.i (.app 101 (.i (.v 1) .nil)) .nil)) (.c 20), .le (.c 0) (.app 101 (.i (.v 1) .nil)), .app 130 (.i (.c 12) (.i (.v 1) (.i (.v 2) (.i (.v 3) .nil)))), .le (.c 0) (.v 1), .le (.v 1) (.c 18446744073709551615), .le (.c 0) (.v 2), .le (.v 2) (.c 18446744073709551615), .le (.c 0) (.v 3), .le (.v 3) (.c 18446744073709551615), .eq (.v 0) (.c 12), .app 130 (.i (.v 0) (.i (.v 1) (.i (.v 2) (.i (.v 3) .nil))))], eqs := [.T (.le (.c 0) (.app 102 (.i (.v 0) (.i (.v 1) (.i (.v 2) (.i (.v 3) .nil)))))), .T (.le (.app 4 (.i (.app 102 (.i (.v 0) (.i (.v 1) (.i (.v 2) (.i (.v 3) .nil))))) .nil)) (.c 100)), .I (.app 102 (.i (.v 0) (.i (.v 1) (.i (.v 2) (.i (.v 3) .nil))))) (.app 3 (.i (.c 482938875681) (.i (.app 101 (.i (.v 1) .nil)) .nil)))]}, {pc := [.not (.app 130 (.i (.c 12) (.i (.v 1) (.i (.v 2) (.i (.v 3) .nil))))), .le (.c 0) (.v 1), .le (.v 1) (.c 18446744073709551615), .le (.c 0) (.v 2), .le (.v 2) (.c 18446744073709551615), .le (.c 0) (.v 3), .le (.v 3) (.c 18446744073709551615), .eq (.v 0) (.c 12), .app 130 (.i (.v 0) (.i (.v 1) (.i (.v 2) (.i (.v 3) .nil))))], eqs := [.T (.le (.c 0) (.app 102 (.i (.v 0) (.i (.v 1) (.i (.v 2) (.i (.v 3) .nil)))))), .T (.le (.app 4 (.i (.app 102 (.i (.v 0) (.i (.v 1) (.i (.v 2) (.i (.v 3) .nil))))) .nil)) (.c 100)), .I (.app 102 (.i (.v 0) (.i (.v 1) (.i (.v 2) (.i (.v 3) .nil))))) (.c 0)]}] := by kernel_rfl
theorem shR12_ok : shR12.ok Φ Try.prog := by
  refine call_rule (fun ρ => t4_ok ρ) shR12_obs ?_
  simp only [and_imp, List.forall_mem_cons, List.not_mem_nil, false_implies, implies_true, and_true, Ob.ok, holds, Eqn.ok, evB_eq, evB_lt, evB_le, evB_not, evB_and, evB_or, evB_eqL, evB_app, evB_v, evB_c, ev_sel, ev_len, ev_v, ev_c, ev_add, ev_sub, ev_mul, ev_quo, ev_rem, ev_bits, ev_wrap, evL_v, evL_lit, evL_app, ev_app, evA_l, evA_i, evA_nil, std_min, std_max, std_cat, std_take, std_drop, std_row, std_set, std_rep, std_find, std_put, std_del, std_flag, std_unflag, std_clr, std_left, std_copy, std_cnt, std_catS, std_lenS, std_atS, std_subS, std_ofB, std_snd, std_rcv, ints_cons, ints_nil, ofNat_lit, negSucc_lit, decide_eq_true_eq, Bool.and_eq_true, Bool.or_eq_true, Bool.not_eq_true', Bool.and_eq_false_iff, Bool.or_eq_false_iff, decide_eq_false_iff_not, aI100, aI101, aI102, aI103, aI104, aI105, aI106, aI107, aI108, aI109, aI113, aI114, aI115, aI121, aI123, aI124, aL110, aL111, aL112, aB130, aB131, aB132, aB133, aB134, aB135, aB136, aB199, Bool.not_eq_false']
  repeat' apply And.intro
  all_goals intro ρ hR
  all_goals intros
  all_goals first
    | (have e : ρ.i 0 = 12 := by with_reducible assumption
       have hr : rightB (ρ.i 0) (ρ.i 1) (ρ.i 2) (ρ.i 3) = true := by with_reducible assumption
       rw [e] at hr ⊢
       exact ⟨show_nn .., show_le .., sr1 (by decide) hr (by decide)⟩)
    | (have e : ρ.i 0 = 12 := by with_reducible assumption
       have hr : rightB (ρ.i 0) (ρ.i 1) (ρ.i 2) (ρ.i 3) = true := by with_reducible assumption
       rw [e] at hr
       have h2 : rightB 12 (ρ.i 1) (ρ.i 2) (ρ.i 3) = false := by with_reducible assumption
       rw [hr] at h2
       cases h2)
set_option maxRecDepth 100000 in
theorem shR13_obs : callObs Φ Try.prog t4 1000 shR13.f shR13.vs shR13.o shR13.pc shR13.outs = some
  [{pc := [.le (.app 4 (.i (.app 101 (.i (.v 2) .nil)) .nil)) (.c 20), .le (.c 0) (.app 101 (.i (.v 2) .nil)), .le (.app 4 (.i (.app 101 (.i (.v 1) .nil)) .nil)) (.c 20), .le (.c 0) (.app 101 (.i (.v 1) .nil)), .app 130 (.i (.c 13) (.i (.v 1) (.i (.v 2) (.i (.v 3) .nil)))), .le (.c 0) (.v 1), .le (.v 1) (.c 18446744073709551615), .le (.c 0) (.v 2), .le (.v 2) (.c 18446744073709551615), .le (.c 0) (.v 3), .le (.v 3) (.c 18446744073709551615), .eq (.v 0) (.c 13), .app 130 (.i (.v 0) (.i (.v 1) (.i (.v 2) (.i (.v 3) .nil))))], eqs := [.T (.le (.c 0) (.app 102 (.i (.v 0) (.i (.v 1) (.i (.v 2) (.i (.v 3) .nil)))))), .T (.le (.app 4 (.i (.app 102 (.i (.v 0) (.i (.v 1) (.i (.v 2) (.i (.v 3) .nil))))) .nil)) (.c 100)), .I (.app 102 (.i (.v 0) (.i (.v 1) (.i (.v 2) (.i (.v 3) .nil))))) (.app 3 (.i (.app 3 (.i (.app 3 (.i (.c 426987447585) (.i (.app 101 (.i (.v 1) .nil)) .nil))) (.i (.c 33) .nil))) (.i (.app 101 (.i (.v 2) .nil)) .nil)))]}, {pc := [.not (.app 130 (.i (.c 13) (.i (.v 1) (.i (.v 2) (.i (.v 3) .nil))))), .le (.c 0) (.v 1), .le (.v 1) (.c 18446744073709551615), .le (.c 0) (.v 2), .le (.v 2) (.c 18446744073709551615), .le (.c 0) (.v 3), .le (.v 3) (.c 18446744073709551615), .eq (.v 0) (.c 13), .app 130 (.i (.v 0) (.i (.v 1) (.i (.v 2) (.i (.v 3) .nil))))], eqs := [.T (.le (.c 0) (.app 102 (.i (.v 0) (.i (.v 1) (.i (.v 2) (.i (.v 3) .nil)))))), .T (.le (.app 4 (.i (.app 102 (.i (.v 0) (.i (.v 1) (.i (.v 2) (.i (.v 3) .nil))))) .nil)) (.c 100)), .I (.app 102 (.i (.v 0) (.i (.v 1) (.i (.v 2) (.i (.v 3) .nil))))) (.c 0)]}] := by kernel_rfl
theorem shR13_ok : shR13.ok Φ Try.prog := by
  refine call_rule (fun ρ => t4_ok ρ) shR13_obs ?_
  simp only [and_imp, List.forall_mem_cons, List.not_mem_nil, false_implies, implies_true, and_true, Ob.ok, holds, Eqn.ok, evB_eq, evB_lt, evB_le, evB_not, evB_and, evB_or, evB_eqL, evB_app, evB_v, evB_c, ev_sel, ev_len, ev_v, ev_c, ev_add, ev_sub, ev_mul, ev_quo, ev_rem, ev_bits, ev_wrap, evL_v, evL_lit, evL_app, ev_app, evA_l, evA_i, evA_nil, std_min, std_max, std_cat, std_take, std_drop, std_row, std_set, std_rep, std_find, std_put, std_del, std_flag, std_unflag, std_clr, std_left, std_copy, std_cnt, std_catS, std_lenS, std_atS, std_subS, std_ofB, std_snd, std_rcv, ints_cons, ints_nil, ofNat_lit, negSucc_lit, decide_eq_true_eq, Bool.and_eq_true, Bool.or_eq_true, Bool.not_eq_true', Bool.and_eq_false_iff, Bool.or_eq_false_iff, decide_eq_false_iff_not, aI100, aI101, aI102, aI103, aI104, aI105, aI106, aI107, aI108, aI109, aI113, aI114, aI115, aI121, aI123, aI124, aL110, aL111, aL112, aB130, aB131, aB132, aB133, aB134, aB135, aB136, aB199, Bool.not_eq_false']
  repeat' apply And.intro
  all_goals intro ρ hR
  all_goals intros
  all_goals first
    | (have e : ρ.i 0 = 13 := by with_reducible assumption
       have hr : rightB (ρ.i 0) (ρ.i 1) (ρ.i 2) (ρ.i 3) = true := by with_reducible assumption
       rw [e] at hr ⊢
       exact ⟨show_nn .., show_le .., sr2 (by decide) hr (by decide)⟩)
    | (have e : ρ.i 0 = 13 := by with_reducible assumption
       have hr : rightB (ρ.i 0) (ρ.i 1) (ρ.i 2) (ρ.i 3) = true := by with_reducible assumption
       rw [e] at hr
       have h2 : rightB 13 (ρ.i 1) (ρ.i 2) (ρ.i 3) = false := by with_reducible assumption
       rw [hr] at h2
       cases h2)
set_option maxRecDepth 100000 in
theorem shR14_obs : callObs Φ Try.prog t4 1000 shR14.f shR14.vs shR14.o shR14.pc shR14.outs = some
  [{pc := [.le (.app 4 (.i (.app 101 (.i (.v 1) .nil)) .nil)) (.c 20), .le (.c 0) (.app 101 (.i (.v 1) .nil)), .app 130 (.i (.c 14) (.i (.v 1) (.i (.v 2) (.i (.v 3) .nil)))), .le (.c 0) (.v 1), .le (.v 1) (.c 18446744073709551615), .le (.c 0) (.v 2), .le (.v 2) (.c 18446744073709551615), .le (.c 0) (.v 3), .le (.v 3) (.c 18446744073709551615), .eq (.v 0) (.c 14), .app 130 (.i (.v 0) (.i (.v 1) (.i (.v 2) (.i (.v 3) .nil))))], eqs := [.T (.le (.c 0) (.app 102 (.i (.v 0) (.i (.v 1) (.i (.v 2) (.i (.v 3) .nil)))))), .T (.le (.app 4 (.i (.app 102 (.i (.v 0) (.i (.v 1) (.i (.v 2) (.i (.v 3) .nil))))) .nil)) (.c 100)), .I (.app 102 (.i (.v 0) (.i (.v 1) (.i (.v 2) (.i (.v 3) .nil))))) (.app 3 (.i (.c 499934782753) (.i (.app 101 (.i (.v 1) .nil)) .nil)))]}, {pc := [.not (.app 130 (.i (.c 14) (.i (.v 1) (.i (.v 2) (.i (.v 3) .nil))))), .le (.c 0) (.v 1), .le (.v 1) (.c 18446744073709551615), .le (.c 0) (.v 2), .le (.v 2) (.c 18446744073709551615), .le (.c 0) (.v 3), .le (.v 3) (.c 18446744073709551615), .eq (.v 0) (.c 14), .app 130 (.i (.v 0) (.i (.v 1) (.i (.v 2) (.i (.v 3) .nil))))], eqs := [.T (.le (.c 0) (.app 102 (.i (.v 0) (.i (.v 1) (.i (.v 2) (.i (.v 3) .nil)))))), .T (.le (.app 4 (.i (.app 102 (.i (.v 0) (.i (.v 1) (.i (.v 2) (.i (.v 3) .nil))))) .nil)) (.c 100)), .I (.app 102 (.i (.v 0) (.i (.v 1) (.i (.v 2) (.i (.v 3) .nil))))) (.c 0)]}] := by kernel_rfl
theorem shR14_ok : shR14.ok Φ Try.prog := by
  refine call_rule (fun ρ => t4_ok ρ) shR14_obs ?_
  simp only [and_imp, List.forall_mem_cons, List.not_mem_nil, false_implies, implies_true, and_true, Ob.ok, holds, Eqn.ok, evB_eq, evB_lt, evB_le, evB_not, evB_and, evB_or, evB_eqL, evB_app, evB_v, evB_c, ev_sel, ev_len, ev_v, ev_c, ev_add, ev_sub, ev_mul, ev_quo, ev_rem, ev_bits, ev_wrap, evL_v, evL_lit, evL_app, ev_app, evA_l, evA_i, evA_nil, std_min, std_max, std_cat, std_take, std_drop, std_row, std_set, std_rep, std_find, std_put, std_del, std_flag, std_unflag, std_clr, std_left, std_copy, std_cnt, std_catS, std_lenS, std_atS, std_subS, std_ofB, std_snd, std_rcv, ints_cons, ints_nil, ofNat_lit, negSucc_lit, decide_eq_true_eq, Bool.and_eq_true, Bool.or_eq_true, Bool.not_eq_true', Bool.and_eq_false_iff, Bool.or_eq_false_iff, decide_eq_false_iff_not, aI100, aI101, aI102, aI103, aI104, aI105, aI106, aI107, aI108, aI109, aI113, aI114, aI115, aI121, aI123, aI124, aL110, aL111, aL112, aB130, aB131, aB132, aB133, aB134, aB135, aB136, aB199, Bool.not_eq_false']
  repeat' apply And.intro
  all_goals intro ρ hR
  all_goals intros
  all_goals first
    | (have e : ρ.i 0 = 14 := by with_reducible assumption
       have hr : rightB (ρ.i 0) (ρ.i 1) (ρ.i 2) (ρ.i 3) = true := by with_reducible assumption
       rw [e] at hr ⊢
       exact ⟨show_nn .., show_le .., sr1 (by decide) hr (by decide)⟩)
    | (have e : ρ.i 0 = 14 := by with_reducible assumption
       have hr : rightB (ρ.i 0) (ρ.i 1) (ρ.i 2) (ρ.i 3) = true := by with_reducible assumption
       rw [e] at hr
       have h2 : rightB 14 (ρ.i 1) (ρ.i 2) (ρ.i 3) = false := by with_reducible assumption
       rw [hr] at h2
       cases h2)
set_option maxRecDepth 100000 in
theorem shR15_obs : callObs Φ Try.prog t4 1000 shR15.f shR15.vs shR15.o shR15.pc shR15.outs = some
  [{pc := [.app 130 (.i (.c 15) (.i (.v 1) (.i (.v 2) (.i (.v 3) .nil)))), .le (.c 0) (.v 1), .le (.v 1) (.c 18446744073709551615), .le (.c 0) (.v 2), .le (.v 2) (.c 18446744073709551615), .le (.c 0) (.v 3), .le (.v 3) (.c 18446744073709551615), .eq (.v 0) (.c 15), .app 130 (.i (.v 0) (.i (.v 1) (.i (.v 2) (.i (.v 3) .nil))))], eqs := [.T (.le (.c 0) (.app 102 (.i (.v 0) (.i (.v 1) (.i (.v 2) (.i (.v 3) .nil)))))), .T (.le (.app 4 (.i (.app 102 (.i (.v 0) (.i (.v 1) (.i (.v 2) (.i (.v 3) .nil))))) .nil)) (.c 100)), .I (.app 102 (.i (.v 0) (.i (.v 1) (.i (.v 2) (.i (.v 3) .nil))))) (.c 1903193453)]}, {pc := [.not (.app 130 (.i (.c 15) (.i (.v 1) (.i (.v 2) (.i (.v 3) .nil))))), .le (.c 0) (.v 1), .le (.v 1) (.c 18446744073709551615), .le (.c 0) (.v 2), .le (.v 2) (.c 18446744073709551615), .le (.c 0) (.v 3), .le (.v 3) (.c 18446744073709551615), .eq (.v 0) (.c 15), .app 130 (.i (.v 0) (.i (.v 1) (.i (.v 2) (.i (.v 3) .nil))))], eqs := [.T (.le (.c 0) (.app 102 (.i (.v 0) (.i (.v 1) (.i (.v 2) (.i (.v 3) .nil)))))), .T (.le (.app 4 (.i (.app 102 (.i (.v 0) (.i (.v 1) (.i (.v 2) (.i (.v 3) .nil))))) .nil)) (.c 100)), .I (.app 102 (.i (.v 0) (.i (.v 1) (.i (.v 2) (.i (.v 3) .nil))))) (.c 0)]}] := by kernel_rfl
theorem shR15_ok : shR15.ok Φ Try.prog := by
  refine call_rule (fun ρ => t4_ok ρ) shR15_obs ?_
  simp only [and_imp, List.forall_mem_cons, List.not_mem_nil, false_implies, implies_true, and_true, Ob.ok, holds, Eqn.ok, evB_eq, evB_lt, evB_le, evB_not, evB_and, evB_or, evB_eqL, evB_app, evB_v, evB_c, ev_sel, ev_len, ev_v, ev_c, ev_add, ev_sub, ev_mul, ev_quo, ev_rem, ev_bits, ev_wrap, evL_v, evL_lit, evL_app, ev_app, evA_l, evA_i, evA_nil, std_min, std_max, std_cat, std_take, std_drop, std_row, std_set, std_rep, std_find, std_put, std_del, std_flag, std_unflag, std_clr, std_left, std_copy, std_cnt, std_catS, std_lenS, std_atS, std_subS, std_ofB, std_snd, std_rcv, ints_cons, ints_nil, ofNat_lit, negSucc_lit, decide_eq_true_eq, Bool.and_eq_true, Bool.or_eq_true, Bool.not_eq_true', Bool.and_eq_false_iff, Bool.or_eq_false_iff, decide_eq_false_iff_not, aI100, aI101, aI102, aI103, aI104, aI105, aI106, aI107, aI108, aI109, aI113, aI114, aI115, aI121, aI123, aI124, aL110, aL111, aL112, aB130, aB131, aB132, aB133, aB134, aB135, aB136, aB199, Bool.not_eq_false']
  repeat' apply And.intro
  all_goals intro ρ hR
  all_goals intros
  all_goals first
    | (have e : ρ.i 0 = 15 := by with_reducible assumption
       have hr : rightB (ρ.i 0) (ρ.i 1) (ρ.i 2) (ρ.i 3) = true := by with_reducible assumption
       rw [e] at hr ⊢
       exact ⟨show_nn .., show_le .., sh0 (by decide) hr (by decide)⟩)
    | (have e : ρ.i 0 = 15 := by with_reducible assumption
       have hr : rightB (ρ.i 0) (ρ.i 1) (ρ.i 2) (ρ.i 3) = true := by with_reducible assumption
       rw [e] at hr
       have h2 : rightB 15 (ρ.i 1) (ρ.i 2) (ρ.i 3) = false := by with_reducible assumption
       rw [hr] at h2
       cases h2)
set_option maxRecDepth 100000 in
theorem shR16_obs : callObs Φ Try.prog t4 1000 shR16.f shR16.vs shR16.o shR16.pc shR16.outs = some
  [{pc := [.le (.app 4 (.i (.app 101 (.i (.v 1) .nil)) .nil)) (.c 20), .le (.c 0) (.app 101 (.i (.v 1) .nil)), .app 130 (.i (.c 16) (.i (.v 1) (.i (.v 2) (.i (.v 3) .nil)))), .le (.c 0) (.v 1), .le (.v 1) (.c 18446744073709551615), .le (.c 0) (.v 2), .le (.v 2) (.c 18446744073709551615), .le (.c 0) (.v 3), .le (.v 3) (.c 18446744073709551615), .eq (.v 0) (.c 16), .app 130 (.i (.v 0) (.i (.v 1) (.i (.v 2) (.i (.v 3) .nil))))], eqs := [.T (.le (.c 0) (.app 102 (.i (.v 0) (.i (.v 1) (.i (.v 2) (.i (.v 3) .nil)))))), .T (.le (.app 4 (.i (.app 102 (.i (.v 0) (.i (.v 1) (.i (.v 2) (.i (.v 3) .nil))))) .nil)) (.c 100)), .I (.app 102 (.i (.v 0) (.i (.v 1) (.i (.v 2) (.i (.v 3) .nil))))) (.app 3 (.i (.c 110421200889377) (.i (.app 101 (.i (.v 1) .nil)) .nil)))]}, {pc := [.not (.app 130 (.i (.c 16) (.i (.v 1) (.i (.v 2) (.i (.v 3) .nil))))), .le (.c 0) (.v 1), .le (.v 1) (.c 18446744073709551615), .le (.c 0) (.v 2), .le (.v 2) (.c 18446744073709551615), .le (.c 0) (.v 3), .le (.v 3) (.c 18446744073709551615), .eq (.v 0) (.c 16), .app 130 (.i (.v 0) (.i (.v 1) (.i (.v 2) (.i (.v 3) .nil))))], eqs := [.T (.le (.c 0) (.app 102 (.i (.v 0) (.i (.v 1) (.i (.v 2) (.i (.v 3) .nil)))))), .T (.le (.app 4 (.i (.app 102 (.i (.v 0) (.i (.v 1) (.i (.v 2) (.i (.v 3) .nil))))) .nil)) (.c 100)), .I (.app 102 (.i (.v 0) (.i (.v 1) (.i (.v 2) (.i (.v 3) .nil))))) (.c 0)]}] := by kernel_rfl
theorem shR16_ok : shR16.ok Φ Try.prog := by
  refine call_rule (fun ρ => t4_ok ρ) shR16_obs ?_
  simp only [and_imp, List.forall_mem_cons, List.not_mem_nil, false_implies, implies_true, and_true, Ob.ok, holds, Eqn.ok, evB_eq, evB_lt, evB_le, evB_not, evB_and, evB_or, evB_eqL, evB_app, evB_v, evB_c, ev_sel, ev_len, ev_v, ev_c, ev_add, ev_sub, ev_mul, ev_quo, ev_rem, ev_bits, ev_wrap, evL_v, evL_lit, evL_app, ev_app, evA_l, evA_i, evA_nil, std_min, std_max, std_cat, std_take, std_drop, std_row, std_set, std_rep, std_find, std_put, std_del, std_flag, std_unflag, std_clr, std_left, std_copy, std_cnt, std_catS, std_lenS, std_atS, std_subS, std_ofB, std_snd, std_rcv, ints_cons, ints_nil, ofNat_lit, negSucc_lit, decide_eq_true_eq, Bool.and_eq_true, Bool.or_eq_true, Bool.not_eq_true', Bool.and_eq_false_iff, Bool.or_eq_false_iff, decide_eq_false_iff_not, aI100, aI101, aI102, aI103, aI104, aI105, aI106, aI107, aI108, aI109, aI113, aI114, aI115, aI121, aI123, aI124, aL110, aL111, aL112, aB130, aB131, aB132, aB133, aB134, aB135, aB136, aB199, Bool.not_eq_false']
  repeat' apply And.intro
  all_goals intro ρ hR
  all_goals intros
  all_goals first
    | (have e : ρ.i 0 = 16 := by with_reducible assumption
       have hr : rightB (ρ.i 0) (ρ.i 1) (ρ.i 2) (ρ.i 3) = true := by with_reducible assumption
       rw [e] at hr ⊢
       exact ⟨show_nn .., show_le .., sr1 (by decide) hr (by decide)⟩)
    | (have e : ρ.i 0 = 16 := by with_reducible assumption
       have hr : rightB (ρ.i 0) (ρ.i 1) (ρ.i 2) (ρ.i 3) = true := by with_reducible assumption
       rw [e] at hr
       have h2 : rightB 16 (ρ.i 1) (ρ.i 2) (ρ.i 3) = false := by with_reducible assumption
       rw [hr] at h2
       cases h2)
set_option maxRecDepth 100000 in
theorem shR17_obs : callObs Φ Try.prog t4 1000 shR17.f shR17.vs shR17.o shR17.pc shR17.outs = some
  [{pc := [.app 130 (.i (.c 17) (.i (.v 1) (.i (.v 2) (.i (.v 3) .nil)))), .le (.c 0) (.v 1), .le (.v 1) (.c 18446744073709551615), .le (.c 0) (.v 2), .le (.v 2) (.c 18446744073709551615), .le (.c 0) (.v 3), .le (.v 3) (.c 18446744073709551615), .eq (.v 0) (.c 17), .app 130 (.i (.v 0) (.i (.v 1) (.i (.v 2) (.i (.v 3) .nil))))], eqs := [.T (.le (.c 0) (.app 102 (.i (.v 0) (.i (.v 1) (.i (.v 2) (.i (.v 3) .nil)))))), .T (.le (.app 4 (.i (.app 102 (.i (.v 0) (.i (.v 1) (.i (.v 2) (.i (.v 3) .nil))))) .nil)) (.c 100)), .I (.app 102 (.i (.v 0) (.i (.v 1) (.i (.v 2) (.i (.v 3) .nil))))) (.c 500236183153)]}, {pc := [.not (.app 130 (.i (.c 17) (.i (.v 1) (.i (.v 2) (.i (.v 3) .nil))))), .le (.c 0) (.v 1), .le (.v 1) (.c 18446744073709551615), .le (.c 0) (.v 2), .le (.v 2) (.c 18446744073709551615), .le (.c 0) (.v 3), .le (.v 3) (.c 18446744073709551615), .eq (.v 0) (.c 17), .app 130 (.i (.v 0) (.i (.v 1) (.i (.v 2) (.i (.v 3) .nil))))], eqs := [.T (.le (.c 0) (.app 102 (.i (.v 0) (.i (.v 1) (.i (.v 2) (.i (.v 3) .nil)))))), .T (.le (.app 4 (.i (.app 102 (.i (.v 0) (.i (.v 1) (.i (.v 2) (.i (.v 3) .nil))))) .nil)) (.c 100)), .I (.app 102 (.i (.v 0) (.i (.v 1) (.i (.v 2) (.i (.v 3) .nil))))) (.c 0)]}] := by kernel_rfl
theorem shR17_ok : shR17.ok Φ Try.prog := by
  refine call_rule (fun ρ => t4_ok ρ) shR17_obs ?_
  simp only [and_imp, List.forall_mem_cons, List.not_mem_nil, false_implies, implies_true, and_true, Ob.ok, holds, Eqn.ok, evB_eq, evB_lt, evB_le, evB_not, evB_and, evB_or, evB_eqL, evB_app, evB_v, evB_c, ev_sel, ev_len, ev_v, ev_c, ev_add, ev_sub, ev_mul, ev_quo, ev_rem, ev_bits, ev_wrap, evL_v, evL_lit, evL_app, ev_app, evA_l, evA_i, evA_nil, std_min, std_max, std_cat, std_take, std_drop, std_row, std_set, std_rep, std_find, std_put, std_del, std_flag, std_unflag, std_clr, std_left, std_copy, std_cnt, std_catS, std_lenS, std_atS, std_subS, std_ofB, std_snd, std_rcv, ints_cons, ints_nil, ofNat_lit, negSucc_lit, decide_eq_true_eq, Bool.and_eq_true, Bool.or_eq_true, Bool.not_eq_true', Bool.and_eq_false_iff, Bool.or_eq_false_iff, decide_eq_false_iff_not, aI100, aI101, aI102, aI103, aI104, aI105, aI106, aI107, aI108, aI109, aI113, aI114, aI115, aI121, aI123, aI124, aL110, aL111, aL112, aB130, aB131, aB132, aB133, aB134, aB135, aB136, aB199, Bool.not_eq_false']
  repeat' apply And.intro
  all_goals intro ρ hR
  all_goals intros
  all_goals first
    | (have e : ρ.i 0 = 17 := by with_reducible assumption
       have hr : rightB (ρ.i 0) (ρ.i 1) (ρ.i 2) (ρ.i 3) = true := by with_reducible assumption
       rw [e] at hr ⊢
       exact ⟨show_nn .., show_le .., sh0 (by decide) hr (by decide)⟩)
    | (have e : ρ.i 0 = 17 := by with_reducible assumption
       have hr : rightB (ρ.i 0) (ρ.i 1) (ρ.i 2) (ρ.i 3) = true := by with_reducible assumption
       rw [e] at hr
       have h2 : rightB 17 (ρ.i 1) (ρ.i 2) (ρ.i 3) = false := by with_reducible assumption
       rw [hr] at h2
       cases h2)
set_option maxRecDepth 100000 in
theorem shRN_obs : callObs Φ Try.prog t4 1000 shRN.f shRN.vs shRN.o shRN.pc shRN.outs = some
  [{pc := [.le (.c 0) (.v 1), .le (.v 1) (.c 18446744073709551615), .le (.c 0) (.v 2), .le (.v 2) (.c 18446744073709551615), .le (.c 0) (.v 3), .le (.v 3) (.c 18446744073709551615), .not (.app 130 (.i (.v 0) (.i (.v 1) (.i (.v 2) (.i (.v 3) .nil)))))], eqs := [.T (.le (.c 0) (.app 102 (.i (.v 0) (.i (.v 1) (.i (.v 2) (.i (.v 3) .nil)))))), .T (.le (.app 4 (.i (.app 102 (.i (.v 0) (.i (.v 1) (.i (.v 2) (.i (.v 3) .nil))))) .nil)) (.c 100)), .I (.app 102 (.i (.v 0) (.i (.v 1) (.i (.v 2) (.i (.v 3) .nil))))) (.c 0)]}] := by kernel_rfl
theorem shRN_ok : shRN.ok Φ Try.prog := by
  refine call_rule (fun ρ => t4_ok ρ) shRN_obs ?_
  simp only [and_imp, List.forall_mem_cons, List.not_mem_nil, false_implies, implies_true, and_true, Ob.ok, holds, Eqn.ok, evB_eq, evB_lt, evB_le, evB_not, evB_and, evB_or, evB_eqL, evB_app, evB_v, evB_c, ev_sel, ev_len, ev_v, ev_c, ev_add, ev_sub, ev_mul, ev_quo, ev_rem, ev_bits, ev_wrap, evL_v, evL_lit, evL_app, ev_app, evA_l, evA_i, evA_nil, std_min, std_max, std_cat, std_take, std_drop, std_row, std_set, std_rep, std_find, std_put, std_del, std_flag, std_unflag, std_clr, std_left, std_copy, std_cnt, std_catS, std_lenS, std_atS, std_subS, std_ofB, std_snd, std_rcv, ints_cons, ints_nil, ofNat_lit, negSucc_lit, decide_eq_true_eq, Bool.and_eq_true, Bool.or_eq_true, Bool.not_eq_true', Bool.and_eq_false_iff, Bool.or_eq_false_iff, decide_eq_false_iff_not, aI100, aI101, aI102, aI103, aI104, aI105, aI106, aI107, aI108, aI109, aI113, aI114, aI115, aI121, aI123, aI124, aL110, aL111, aL112, aB130, aB131, aB132, aB133, aB134, aB135, aB136, aB199, Bool.not_eq_false']
  repeat' apply And.intro
  all_goals intro ρ hR
  all_goals intros
  all_goals first
    | (have hr : rightB (ρ.i 0) (ρ.i 1) (ρ.i 2) (ρ.i 3) = false := by with_reducible assumption
       exact ⟨show_nn .., show_le .., show_no hr⟩)
theorem cShowR_ok : cShowR.ok Φ Try.prog := by
  intro ρ μ B w xs hx hM hp R hR
  by_cases hr : rightB (ρ.i 0) (ρ.i 1) (ρ.i 2) (ρ.i 3) = true
  · obtain ⟨h1, h2, _⟩ := (right_iff ..).1 hr
    have hk : ∀ k : Int, ρ.i 0 = k → holds Φ ρ (cShK 12 k).pc := by
      intro k e x hx
      simp only [cShK, List.mem_append, List.mem_cons, List.not_mem_nil, or_false] at hx
      rcases hx with hx | rfl | rfl
      · exact hp x hx
      · simp only [evB_eq, ev_c, x0, ev_v, decide_eq_true_eq]; exact e
      · exact hr
    have hv : ∀ k : Int, ρ.i 0 = k → DenAll Φ ρ μ [callK k] xs := by
      intro k e
      rcases kinds17 h1 h2 with e' | e' | e' | e' | e' | e' | e' | e' | e' | e' | e' | e' | e' | e' | e' | e' | e' <;> (subst e; exact denK (e := rfl) hx)
    rcases kinds17 h1 h2 with e | e | e | e | e | e | e | e | e | e | e | e | e | e | e | e | e
    · exact shR1_ok ρ μ B w xs (hv 1 e) hM (hk 1 e) R hR
    · exact shR2_ok ρ μ B w xs (hv 2 e) hM (hk 2 e) R hR
    · exact shR3_ok ρ μ B w xs (hv 3 e) hM (hk 3 e) R hR
    · exact shR4_ok ρ μ B w xs (hv 4 e) hM (hk 4 e) R hR
    · exact shR5_ok ρ μ B w xs (hv 5 e) hM (hk 5 e) R hR
    · exact shR6_ok ρ μ B w xs (hv 6 e) hM (hk 6 e) R hR
    · exact shR7_ok ρ μ B w xs (hv 7 e) hM (hk 7 e) R hR
    · exact shR8_ok ρ μ B w xs (hv 8 e) hM (hk 8 e) R hR
    · exact shR9_ok ρ μ B w xs (hv 9 e) hM (hk 9 e) R hR
    · exact shR10_ok ρ μ B w xs (hv 10 e) hM (hk 10 e) R hR
    · exact shR11_ok ρ μ B w xs (hv 11 e) hM (hk 11 e) R hR
    · exact shR12_ok ρ μ B w xs (hv 12 e) hM (hk 12 e) R hR
    · exact shR13_ok ρ μ B w xs (hv 13 e) hM (hk 13 e) R hR
    · exact shR14_ok ρ μ B w xs (hv 14 e) hM (hk 14 e) R hR
    · exact shR15_ok ρ μ B w xs (hv 15 e) hM (hk 15 e) R hR
    · exact shR16_ok ρ μ B w xs (hv 16 e) hM (hk 16 e) R hR
    · exact shR17_ok ρ μ B w xs (hv 17 e) hM (hk 17 e) R hR
  · refine shRN_ok ρ μ B w xs hx hM (fun x hx => ?_) R hR
    simp only [shRN, cShN, List.mem_append, List.mem_cons, List.not_mem_nil, or_false] at hx
    rcases hx with hx | rfl
    · exact hp x hx
    · have e : rg.ev Φ ρ = rightB (ρ.i 0) (ρ.i 1) (ρ.i 2) (ρ.i 3) := rfl
      rw [evB_not, e, Bool.eq_false_iff.2 hr]; rfl

theorem t5_ok (ρ : Env) : TblOK Φ ρ Try.prog t5 := addFn_ok (addFn_ok (t4_ok ρ) cShow_ok) cShowR_ok
end Go.SF.C22
