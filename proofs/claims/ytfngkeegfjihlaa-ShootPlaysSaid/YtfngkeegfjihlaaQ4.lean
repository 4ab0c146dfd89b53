/- The document's answer, and the law that plays against it, shown. -/
import Derived.Test.YtfngkeegfjihlaaC4
import Derived.Test.YtfngkeegfjihlaaQ1
import Derived.Test.YtfngkeegfjihlaaP7
import Derived.KernelRfl
namespace Go.SF.C15
open Go Go.SF Go.Proofs
set_option linter.unusedVariables false
set_option linter.unusedSimpArgs false

set_option maxRecDepth 100000 in
theorem cKnown_obs : callObs Φ Try.prog t6 1000 cKnown.f cKnown.vs cKnown.o cKnown.pc cKnown.outs = some
  [] := by kernel_rfl
theorem cKnown_ok : cKnown.ok Φ Try.prog := by
  refine call_rule (fun ρ => t6_ok ρ) cKnown_obs ?_
  intro ob h; cases h
theorem t7_ok (ρ : Env) : TblOK Φ ρ Try.prog t7 := addFn_ok (t6_ok ρ) cKnown_ok
set_option maxRecDepth 100000 in
theorem rNew_obs : callObs Φ Try.prog noTbl 1000 rNew.f rNew.vs rNew.o rNew.pc rNew.outs = some
  [⟨[.not (.lt (.c 8) (.v 0)), .not (.lt (.v 0) (.c 1))], [.T (.eq (.len (.app 5 (.i (.v 0) .nil))) (.v 0))]⟩] := by kernel_rfl
theorem rNew_ok : rNew.ok Φ Try.prog := by
  refine call_rule (fun ρ => noTbl_ok) rNew_obs ?_
  simp only [and_imp, List.forall_mem_cons, List.not_mem_nil, false_implies, implies_true, and_true, Ob.ok, holds, Eqn.ok, evB_eq, evB_lt, evB_le, evB_not, evB_and, evB_or, evB_eqL, evB_app, evB_v, evB_c, ev_sel, ev_len, ev_v, ev_c, ev_add, ev_sub, ev_mul, ev_quo, ev_rem, ev_bits, ev_wrap, evL_v, evL_lit, evL_app, ev_app, evA_l, evA_i, evA_nil, std_min, std_max, std_cat, std_take, std_drop, std_row, std_set, std_rep, std_find, std_put, std_del, std_flag, std_unflag, std_clr, std_left, std_copy, std_cnt, std_catS, std_lenS, std_atS, std_subS, std_ofB, std_snd, std_rcv, ints_cons, ints_nil, ofNat_lit, negSucc_lit, decide_eq_true_eq, Bool.and_eq_true, Bool.or_eq_true, Bool.not_eq_true', Bool.and_eq_false_iff, Bool.or_eq_false_iff, decide_eq_false_iff_not, aI100, aI101, aL110, aL111, aL112, aL113, aL114, aL115, aL116, aL117, aL118, aB130, aB131, aB132, aB133, aB134, aB135, aB136, aB137, aB138, aB199, Bool.not_eq_false', aI102, aL119, aL120, aB139, aB140, aB141, aB142, aB143, aB144, aB145, std_rowN, std_setN, nat3]
  repeat' apply And.intro
  all_goals intro ρ hR
  all_goals intros
  all_goals first
    | (rw [List.length_replicate]
       omega)
def rp6_1 : SB := .eq (.v 3) (.v 0)
def rp6_2 : SI := .len (.v 1)
def rp6_3 : SB := .lt (.v 3) rp6_2
def rp6_4 : List SB := [.le (.c 1) rp6_2, .le rp6_2 (.c 8), .le (.c 0) (.v 9), .le (.v 9) (.c 1000), .le (.c 0) (.v 3), .le (.v 3) rp6_2]
def rp6_5 : List SB := rp6_3 :: rp6_4
def rp6_6 : List SB := rp6_1 :: rp6_5
def rp6_7 : SI := .add (.v 3) (.c 1)
def rp6_8 : SI := .sub rp6_2 (.v 3)
def rp6_9 : List Eqn := [.T (.lt (.sub rp6_2 rp6_7) rp6_8), .T (.lt (.c 0) rp6_8)]
def rp6_10 : SB := .app 143 (.l (.v 1) (.i (.v 0) (.i rp6_7 .nil)))
def rp6_11 : SB := .not rp6_10
def rp6_12 : SA := .i (.v 3) .nil
def rp6_13 : SB := .app 143 (.l (.v 1) (.i (.v 0) rp6_12))
def rp6_14 : List Eqn := [.T (.not rp6_13)]
def rp6_15 : List Eqn := [.T rp6_13]
def rp6_16 : SB := .le (.c 16) (.len (.app 18 (.i (.c 3) (.l (.v 1) rp6_12))))
def rp6_17 : List SB := .not rp6_1 :: rp6_5
def rp6_18 : List SB := .not rp6_16 :: rp6_17
set_option maxRecDepth 100000 in
theorem rp6_obs : loopObs Φ Try.prog noTbl 1000 rp6.f (loopAt Try.prog rp6.f rp6.id) rp6.n rp6.T kr1 rp6.outs = some
  [⟨rp6_6, rp6_9⟩, ⟨rp6_11 :: rp6_6, rp6_14⟩, ⟨rp6_10 :: rp6_6, rp6_15⟩, ⟨rp6_16 :: rp6_17, rp6_15⟩, ⟨rp6_18, rp6_9⟩, ⟨rp6_11 :: rp6_18, rp6_14⟩, ⟨rp6_10 :: rp6_18, rp6_15⟩, ⟨.not rp6_3 :: rp6_4, rp6_14⟩] := by kernel_rfl
theorem rp6_ok : rp6.ok Φ Try.prog := by
  refine ⟨by kernel_rfl, loop_rule (fun ρ => noTbl_ok) (loopAt_sub (by kernel_rfl)) rp6_obs ?_⟩
  simp only [rp6_1, rp6_2, rp6_3, rp6_4, rp6_5, rp6_6, rp6_7, rp6_8, rp6_9, rp6_10, rp6_11, rp6_12, rp6_13, rp6_14, rp6_15, rp6_16, rp6_17, rp6_18, and_imp, List.forall_mem_cons, List.not_mem_nil, false_implies, implies_true, and_true, Ob.ok, holds, Eqn.ok, evB_eq, evB_lt, evB_le, evB_not, evB_and, evB_or, evB_eqL, evB_app, evB_v, evB_c, ev_sel, ev_len, ev_v, ev_c, ev_add, ev_sub, ev_mul, ev_quo, ev_rem, ev_bits, ev_wrap, evL_v, evL_lit, evL_app, ev_app, evA_l, evA_i, evA_nil, std_min, std_max, std_cat, std_take, std_drop, std_row, std_set, std_rep, std_find, std_put, std_del, std_flag, std_unflag, std_clr, std_left, std_copy, std_cnt, std_catS, std_lenS, std_atS, std_subS, std_ofB, std_snd, std_rcv, ints_cons, ints_nil, ofNat_lit, negSucc_lit, decide_eq_true_eq, Bool.and_eq_true, Bool.or_eq_true, Bool.not_eq_true', Bool.and_eq_false_iff, Bool.or_eq_false_iff, decide_eq_false_iff_not, aI100, aI101, aL110, aL111, aL112, aL113, aL114, aL115, aL116, aL117, aL118, aB130, aB131, aB132, aB133, aB134, aB135, aB136, aB137, aB138, aB199, Bool.not_eq_false', aI102, aL119, aL120, aB139, aB140, aB141, aB142, aB143, aB144, aB145, std_rowN, std_setN, nat3]
  repeat' apply And.intro
  all_goals intro ρ hR
  all_goals intros
  all_goals first
    | (exact ⟨by omega, by omega⟩)
    | (have q0 : 0 ≤ ρ.i 3 := by omega
       have q1 : ρ.i 3 < (ρ.l 1).length := by omega
       have f := ful_step (c := ρ.i 0) q0 q1
       rw [f]
       have g : fullG (ρ.l 1) (ρ.i 0) (ρ.i 3 + 1) = false := by with_reducible assumption
       rw [g]
       simp
       try omega)
    | (have q0 : 0 ≤ ρ.i 3 := by omega
       have q1 : ρ.i 3 < (ρ.l 1).length := by omega
       have f := ful_step (c := ρ.i 0) q0 q1
       rw [f]
       have g : fullG (ρ.l 1) (ρ.i 0) (ρ.i 3 + 1) = true := by with_reducible assumption
       rw [g]
       exact Bool.or_true _)
    | (have q0 : 0 ≤ ρ.i 3 := by omega
       have q1 : ρ.i 3 < (ρ.l 1).length := by omega
       have f := ful_step (c := ρ.i 0) q0 q1
       rw [f]
       have a : ¬ ρ.i 3 = ρ.i 0 := by omega
       have b : 16 ≤ (rowN 3 (ρ.l 1) (ρ.i 3)).length := by omega
       rw [decide_eq_false a, decide_eq_true b]
       rfl)
    | (exact ful_end (by omega))
theorem v1_ok (ρ : Env) : TblOK Φ ρ Try.prog v1 := addLp_ok noTbl_ok rp6_ok
def rp12_1 : SB := .eq (.v 3) (.v 0)
def rp12_2 : SI := .len (.v 1)
def rp12_3 : SB := .lt (.v 3) rp12_2
def rp12_4 : SA := .i (.v 3) .nil
def rp12_5 : SA := .l (.v 1) rp12_4
def rp12_6 : SL := .app 18 (.i (.c 3) rp12_5)
def rp12_7 : List SB := [.le (.c 1) rp12_2, .le rp12_2 (.c 8), .le (.c 0) (.v 9), .le (.v 9) (.c 1000), .le (.c 0) (.v 3), .le (.v 3) rp12_2, .c true, .le (.len rp12_6) (.c 40), .app 145 rp12_5]
def rp12_8 : List SB := rp12_3 :: rp12_7
def rp12_9 : List SB := rp12_1 :: rp12_8
def rp12_10 : SI := .add (.v 3) (.c 1)
def rp12_11 : SI := .sub rp12_2 (.v 3)
def rp12_12 : Eqn := .T (.lt (.sub rp12_2 rp12_10) rp12_11)
def rp12_13 : Eqn := .T (.lt (.c 0) rp12_11)
def rp12_14 : SA := .i rp12_10 .nil
def rp12_15 : SA := .l (.v 1) rp12_14
def rp12_16 : SA := .i (.v 0) (.i (.v 9) (.i (.v 1) (.i (.v 2) rp12_14)))
def rp12_17 : SL := .app 119 (.l (.v 1) rp12_16)
def rp12_18 : SI := .len rp12_17
def rp12_19 : SL := .app 119 (.l (.v 1) (.i (.v 0) (.i (.v 9) (.i (.v 1) (.i (.v 2) rp12_4)))))
def rp12_20 : SI := .len rp12_19
def rp12_21 : Eqn := .T (.eq rp12_20 rp12_2)
def rp12_22 : List SB := .not rp12_1 :: rp12_8
def rp12_23 : SL := .app 19 (.i (.c 3) (.l (.v 1) (.i (.v 3) (.l (.app 0 (.l rp12_6 (.l (.app 3 (.i (.v 9) (.i (.v 1) (.i (.v 2) .nil)))) .nil))) .nil))))
def rp12_24 : SA := .l rp12_23 rp12_14
def rp12_25 : SL := .app 119 (.l rp12_23 rp12_16)
def rp12_26 : SI := .len rp12_25
set_option maxRecDepth 100000 in
theorem rp12_obs : loopObs Φ Try.prog v1 1000 rp12.f (loopAt Try.prog rp12.f rp12.id) rp12.n rp12.T kr1 rp12.outs = some
  [⟨rp12_9, [rp12_12, rp12_13, .T (.le (.len (.app 18 (.i (.c 3) rp12_15))) (.c 40)), .T (.app 145 rp12_15)]⟩, ⟨.eq rp12_18 rp12_2 :: rp12_9, [rp12_21, .I rp12_20 rp12_18, .L rp12_19 rp12_17]⟩, ⟨rp12_22, [rp12_12, rp12_13, .T (.le (.len (.app 18 (.i (.c 3) rp12_24))) (.c 40)), .T (.app 145 rp12_24)]⟩, ⟨.eq rp12_26 rp12_2 :: rp12_22, [rp12_21, .I rp12_20 rp12_26, .L rp12_19 rp12_25]⟩, ⟨.not rp12_3 :: rp12_7, [rp12_21, .I rp12_20 rp12_2, .L rp12_19 (.v 1)]⟩] := by kernel_rfl
theorem rp12_ok : rp12.ok Φ Try.prog := by
  refine ⟨by kernel_rfl, loop_rule (fun ρ => v1_ok ρ) (loopAt_sub (by kernel_rfl)) rp12_obs ?_⟩
  simp only [rp12_1, rp12_2, rp12_3, rp12_4, rp12_5, rp12_6, rp12_7, rp12_8, rp12_9, rp12_10, rp12_11, rp12_12, rp12_13, rp12_14, rp12_15, rp12_16, rp12_17, rp12_18, rp12_19, rp12_20, rp12_21, rp12_22, rp12_23, rp12_24, rp12_25, rp12_26, and_imp, List.forall_mem_cons, List.not_mem_nil, false_implies, implies_true, and_true, Ob.ok, holds, Eqn.ok, evB_eq, evB_lt, evB_le, evB_not, evB_and, evB_or, evB_eqL, evB_app, evB_v, evB_c, ev_sel, ev_len, ev_v, ev_c, ev_add, ev_sub, ev_mul, ev_quo, ev_rem, ev_bits, ev_wrap, evL_v, evL_lit, evL_app, ev_app, evA_l, evA_i, evA_nil, std_min, std_max, std_cat, std_take, std_drop, std_row, std_set, std_rep, std_find, std_put, std_del, std_flag, std_unflag, std_clr, std_left, std_copy, std_cnt, std_catS, std_lenS, std_atS, std_subS, std_ofB, std_snd, std_rcv, ints_cons, ints_nil, ofNat_lit, negSucc_lit, decide_eq_true_eq, Bool.and_eq_true, Bool.or_eq_true, Bool.not_eq_true', Bool.and_eq_false_iff, Bool.or_eq_false_iff, decide_eq_false_iff_not, aI100, aI101, aL110, aL111, aL112, aL113, aL114, aL115, aL116, aL117, aL118, aB130, aB131, aB132, aB133, aB134, aB135, aB136, aB137, aB138, aB199, Bool.not_eq_false', aI102, aL119, aL120, aB139, aB140, aB141, aB142, aB143, aB144, aB145, std_rowN, std_setN, nat3]
  repeat' apply And.intro
  all_goals intro ρ hR
  all_goals intros
  all_goals first
    | (have lo : lowB (ρ.l 1) (ρ.i 3) = true := by with_reducible assumption
       exact ⟨by omega, by omega, low_row lo (by omega) (by omega), low_next lo⟩)
    | (have lo : lowB (ρ.l 1) (ρ.i 3) = true := by with_reducible assumption
       exact ⟨by omega, by omega, low_set_row lo (by omega), low_set lo (by omega)⟩)
    | (have q0 : ρ.i 3 = ρ.i 0 := by omega
       have q1 : 0 ≤ ρ.i 3 := by omega
       have e := post_skip (Q := ρ.l 1) (c := ρ.i 0) (id := ρ.i 9) (t := ρ.i 1) (p := ρ.i 2) (i := ρ.i 3) q0 q1
       rw [e]
       repeat' apply And.intro
       all_goals first
         | rfl
         | omega
         | with_reducible assumption
         | (rw [postG_len]; done)
         | (rw [takeQ_len]; done))
    | (have q0 : ¬ ρ.i 3 = ρ.i 0 := by omega
       have q1 : 0 ≤ ρ.i 3 := by omega
       have q2 : ρ.i 3 < (ρ.l 1).length := by omega
       have e := post_do (Q := ρ.l 1) (c := ρ.i 0) (id := ρ.i 9) (t := ρ.i 1) (p := ρ.i 2) (i := ρ.i 3) q0 q1 q2
       rw [e]
       repeat' apply And.intro
       all_goals first
         | rfl
         | omega
         | with_reducible assumption
         | (rw [postG_len]; done)
         | (rw [takeQ_len]; done))
    | (have q0 : ¬ ρ.i 3 < (ρ.l 1).length := by omega
       have e := post_end (Q := ρ.l 1) (c := ρ.i 0) (id := ρ.i 9) (t := ρ.i 1) (p := ρ.i 2) (i := ρ.i 3) q0
       rw [e]
       repeat' apply And.intro
       all_goals first
         | rfl
         | omega
         | with_reducible assumption
         | (rw [postG_len]; done)
         | (rw [takeQ_len]; done))
theorem v2_ok (ρ : Env) : TblOK Φ ρ Try.prog v2 := addLp_ok (v1_ok ρ) rp12_ok
def rPost_1 : SI := .add (.v 9) (.c 1)
def rPost_2 : SA := .i (.c 0) .nil
def rPost_3 : SL := .app 119 (.l (.v 1) (.i (.v 0) (.i rPost_1 (.i (.v 1) (.i (.v 2) rPost_2)))))
def rPost_4 : SI := .len rPost_3
def rPost_5 : SI := .len (.v 1)
def rPost_6 : SA := .l (.v 1) rPost_2
def rPost_7 : SB := .le (.len (.app 18 (.i (.c 3) rPost_6))) (.c 40)
def rPost_8 : SB := .app 145 rPost_6
def rPost_9 : SB := .app 143 (.l (.v 1) (.i (.v 0) rPost_2))
def rPost_10 : List SB := [.not (.lt (.c 65535) (.v 2)), .not (.lt (.v 2) (.c (.negSucc 0))), .not (.lt (.c 16) (.v 1)), .not (.lt (.v 1) (.c 1)), .not (.le rPost_5 (.v 0)), .not (.lt (.v 0) (.c 0)), .le (.c 1) rPost_5, .le rPost_5 (.c 8), .le (.c 0) (.v 9), .le (.v 9) (.c 1000), .lt (.v 9) (.c 900), .c true, .app 139 (.l (.v 1) (.i (.v 9) .nil))]
def rPost_11 : List SB := .not rPost_9 :: rPost_10
def rPost_12 : SB := .app 131 (.l (.v 1) (.i (.v 0) .nil))
def rPost_13 : SL := .app 110 (.l (.v 1) (.i (.v 0) (.i rPost_1 (.i (.v 1) (.i (.v 2) .nil)))))
def rPost_14 : SI := .len rPost_13
def rPost_15 : List Eqn := [.T (.c false)]
set_option maxRecDepth 100000 in
theorem rPost_obs : callObs Φ Try.prog v2 1000 rPost.f rPost.vs rPost.o rPost.pc rPost.outs = some
  [⟨.eq rPost_4 rPost_5 :: rPost_7 :: rPost_8 :: rPost_11, [.T (.not rPost_12), .T (.eq rPost_14 rPost_5), .I rPost_14 rPost_4, .L rPost_13 rPost_3]⟩, ⟨.not rPost_7 :: rPost_11, rPost_15⟩, ⟨.not rPost_8 :: rPost_11, rPost_15⟩, ⟨rPost_9 :: rPost_10, [.T rPost_12]⟩] := by kernel_rfl
theorem rPost_ok : rPost.ok Φ Try.prog := by
  refine call_rule (fun ρ => v2_ok ρ) rPost_obs ?_
  simp only [rPost_1, rPost_2, rPost_3, rPost_4, rPost_5, rPost_6, rPost_7, rPost_8, rPost_9, rPost_10, rPost_11, rPost_12, rPost_13, rPost_14, rPost_15, and_imp, List.forall_mem_cons, List.not_mem_nil, false_implies, implies_true, and_true, Ob.ok, holds, Eqn.ok, evB_eq, evB_lt, evB_le, evB_not, evB_and, evB_or, evB_eqL, evB_app, evB_v, evB_c, ev_sel, ev_len, ev_v, ev_c, ev_add, ev_sub, ev_mul, ev_quo, ev_rem, ev_bits, ev_wrap, evL_v, evL_lit, evL_app, ev_app, evA_l, evA_i, evA_nil, std_min, std_max, std_cat, std_take, std_drop, std_row, std_set, std_rep, std_find, std_put, std_del, std_flag, std_unflag, std_clr, std_left, std_copy, std_cnt, std_catS, std_lenS, std_atS, std_subS, std_ofB, std_snd, std_rcv, ints_cons, ints_nil, ofNat_lit, negSucc_lit, decide_eq_true_eq, Bool.and_eq_true, Bool.or_eq_true, Bool.not_eq_true', Bool.and_eq_false_iff, Bool.or_eq_false_iff, decide_eq_false_iff_not, aI100, aI101, aL110, aL111, aL112, aL113, aL114, aL115, aL116, aL117, aL118, aB130, aB131, aB132, aB133, aB134, aB135, aB136, aB137, aB138, aB199, Bool.not_eq_false', aI102, aL119, aL120, aB139, aB140, aB141, aB142, aB143, aB144, aB145, std_rowN, std_setN, nat3]
  repeat' apply And.intro
  all_goals intro ρ hR
  all_goals intros
  all_goals first
    | (have hq : rqB (ρ.l 1) (ρ.i 9) = true := by with_reducible assumption
       rw [ful_eq hq, post_eq]
       repeat' apply And.intro
       all_goals first
         | rfl
         | omega
         | with_reducible assumption
         | (rw [postG_len]; done)
         | (rw [takeQ_len]; done))
    | (have hq : rqB (ρ.l 1) (ρ.i 9) = true := by with_reducible assumption
       exfalso
       have h : ¬ ((rowN 3 (ρ.l 1) 0).length : Int) ≤ 40 := by with_reducible assumption
       exact h (low_row (rq_low hq) (by omega) (by omega)))
    | (have hq : rqB (ρ.l 1) (ρ.i 9) = true := by with_reducible assumption
       have h : lowB (ρ.l 1) 0 = false := by with_reducible assumption
       rw [rq_low hq] at h
       cases h)
    | (have hq : rqB (ρ.l 1) (ρ.i 9) = true := by with_reducible assumption
       rw [ful_eq hq]
       with_reducible assumption)
def rTake_1 : SA := .l (.v 1) (.i (.v 0) .nil)
def rTake_2 : SL := .app 18 (.i (.c 3) rTake_1)
def rTake_3 : SB := .eq (.len rTake_2) (.c 0)
def rTake_4 : SI := .len (.v 1)
def rTake_5 : List SB := [.not (.le rTake_4 (.v 0)), .not (.lt (.v 0) (.c 0)), .le (.c 1) rTake_4, .le rTake_4 (.c 8), .le (.c 0) (.v 9), .le (.v 9) (.c 1000), .c true, .app 139 (.l (.v 1) (.i (.v 9) .nil))]
def rTake_6 : SI := .app 100 rTake_1
def rTake_7 : SL := .app 111 rTake_1
def rTake_8 : SI := .len rTake_7
def rTake_9 : SA := .i (.c 1) .nil
set_option maxRecDepth 100000 in
theorem rTake_obs : callObs Φ Try.prog noTbl 1000 rTake.f rTake.vs rTake.o rTake.pc rTake.outs = some
  [⟨rTake_3 :: rTake_5, [.T (.eq rTake_6 (.c 0))]⟩, ⟨.not rTake_3 :: rTake_5, [.T (.lt (.c 0) rTake_6), .T (.eq rTake_8 rTake_4), .I (.app 101 (.l (.v 1) (.i (.v 0) (.i (.c 0) .nil)))) (.sel rTake_2 (.c 0) 0), .I (.app 101 (.l (.v 1) (.i (.v 0) rTake_9))) (.sel rTake_2 (.c 0) 1), .I (.app 101 (.l (.v 1) (.i (.v 0) (.i (.c 2) .nil)))) (.sel rTake_2 (.c 0) 2), .I rTake_8 rTake_4, .L rTake_7 (.app 19 (.i (.c 3) (.l (.v 1) (.i (.v 0) (.l (.app 2 (.l rTake_2 rTake_9)) .nil)))))]⟩] := by kernel_rfl
theorem rTake_ok : rTake.ok Φ Try.prog := by
  refine call_rule (fun ρ => noTbl_ok) rTake_obs ?_
  simp only [rTake_1, rTake_2, rTake_3, rTake_4, rTake_5, rTake_6, rTake_7, rTake_8, rTake_9, and_imp, List.forall_mem_cons, List.not_mem_nil, false_implies, implies_true, and_true, Ob.ok, holds, Eqn.ok, evB_eq, evB_lt, evB_le, evB_not, evB_and, evB_or, evB_eqL, evB_app, evB_v, evB_c, ev_sel, ev_len, ev_v, ev_c, ev_add, ev_sub, ev_mul, ev_quo, ev_rem, ev_bits, ev_wrap, evL_v, evL_lit, evL_app, ev_app, evA_l, evA_i, evA_nil, std_min, std_max, std_cat, std_take, std_drop, std_row, std_set, std_rep, std_find, std_put, std_del, std_flag, std_unflag, std_clr, std_left, std_copy, std_cnt, std_catS, std_lenS, std_atS, std_subS, std_ofB, std_snd, std_rcv, ints_cons, ints_nil, ofNat_lit, negSucc_lit, decide_eq_true_eq, Bool.and_eq_true, Bool.or_eq_true, Bool.not_eq_true', Bool.and_eq_false_iff, Bool.or_eq_false_iff, decide_eq_false_iff_not, aI100, aI101, aL110, aL111, aL112, aL113, aL114, aL115, aL116, aL117, aL118, aB130, aB131, aB132, aB133, aB134, aB135, aB136, aB137, aB138, aB199, Bool.not_eq_false', aI102, aL119, aL120, aB139, aB140, aB141, aB142, aB143, aB144, aB145, std_rowN, std_setN, nat3]
  repeat' apply And.intro
  all_goals intro ρ hR
  all_goals intros
  all_goals first
    | (have hq : rqB (ρ.l 1) (ρ.i 9) = true := by with_reducible assumption
       have q0 : 0 ≤ ρ.i 0 := by omega
       have q1 : ρ.i 0 < (ρ.l 1).length := by omega
       have l := lenQ_row hq q0 q1
       omega)
    | (have hq : rqB (ρ.l 1) (ρ.i 9) = true := by with_reducible assumption
       have q0 : 0 ≤ ρ.i 0 := by omega
       have q1 : ρ.i 0 < (ρ.l 1).length := by omega
       have l := lenQ_row hq q0 q1
       have q2 : ¬ ((rowN 3 (ρ.l 1) (ρ.i 0)).length : Int) = 0 := by omega
       have m := take_msg hq q0 q1 q2
       have e := take_eq hq q0 q1
       exact ⟨by omega, by rw [takeQ_len], m.1, m.2.1, m.2.2, by rw [takeQ_len], e⟩)
def rWt_1 : SB := .lt (.v 0) (.c 0)
def rWt_2 : SI := .len (.v 1)
def rWt_3 : List SB := [.le (.c 1) rWt_2, .le rWt_2 (.c 8), .le (.c 0) (.v 9), .le (.v 9) (.c 1000), .c true, .app 139 (.l (.v 1) (.i (.v 9) .nil))]
def rWt_4 : SA := .l (.v 1) (.i (.v 0) .nil)
def rWt_5 : SI := .app 102 rWt_4
def rWt_6 : List Eqn := [.I rWt_5 (.c 0)]
def rWt_7 : SB := .le rWt_2 (.v 0)
def rWt_8 : List SB := .not rWt_1 :: rWt_3
set_option maxRecDepth 100000 in
theorem rWt_obs : callObs Φ Try.prog noTbl 1000 rWt.f rWt.vs rWt.o rWt.pc rWt.outs = some
  [⟨rWt_1 :: rWt_3, rWt_6⟩, ⟨rWt_7 :: rWt_8, rWt_6⟩, ⟨.not rWt_7 :: rWt_8, [.I rWt_5 (.len (.app 18 (.i (.c 3) rWt_4)))]⟩] := by kernel_rfl
theorem rWt_ok : rWt.ok Φ Try.prog := by
  refine call_rule (fun ρ => noTbl_ok) rWt_obs ?_
  simp only [rWt_1, rWt_2, rWt_3, rWt_4, rWt_5, rWt_6, rWt_7, rWt_8, and_imp, List.forall_mem_cons, List.not_mem_nil, false_implies, implies_true, and_true, Ob.ok, holds, Eqn.ok, evB_eq, evB_lt, evB_le, evB_not, evB_and, evB_or, evB_eqL, evB_app, evB_v, evB_c, ev_sel, ev_len, ev_v, ev_c, ev_add, ev_sub, ev_mul, ev_quo, ev_rem, ev_bits, ev_wrap, evL_v, evL_lit, evL_app, ev_app, evA_l, evA_i, evA_nil, std_min, std_max, std_cat, std_take, std_drop, std_row, std_set, std_rep, std_find, std_put, std_del, std_flag, std_unflag, std_clr, std_left, std_copy, std_cnt, std_catS, std_lenS, std_atS, std_subS, std_ofB, std_snd, std_rcv, ints_cons, ints_nil, ofNat_lit, negSucc_lit, decide_eq_true_eq, Bool.and_eq_true, Bool.or_eq_true, Bool.not_eq_true', Bool.and_eq_false_iff, Bool.or_eq_false_iff, decide_eq_false_iff_not, aI100, aI101, aL110, aL111, aL112, aL113, aL114, aL115, aL116, aL117, aL118, aB130, aB131, aB132, aB133, aB134, aB135, aB136, aB137, aB138, aB199, Bool.not_eq_false', aI102, aL119, aL120, aB139, aB140, aB141, aB142, aB143, aB144, aB145, std_rowN, std_setN, nat3]
  repeat' apply And.intro
  all_goals intro ρ hR
  all_goals intros
  all_goals first
    | (have q0 : ρ.i 0 < 0 ∨ ((ρ.l 1).length : Int) ≤ ρ.i 0 := by omega
       exact if_neg (by omega))
    | (have hq : rqB (ρ.l 1) (ρ.i 9) = true := by with_reducible assumption
       have q0 : 0 ≤ ρ.i 0 := by omega
       have q1 : ρ.i 0 < (ρ.l 1).length := by omega
       have l := lenQ_row hq q0 q1
       rw [if_pos ⟨q0, q1⟩]
       exact l.1)
def rd5_1 : SL := .app 18 (.i (.c 3) (.l (.v 1) (.i (.v 1) .nil)))
def rd5_2 : SB := .eq (.sel rd5_1 (.v 2) 0) (.v 0)
def rd5_3 : SI := .len rd5_1
def rd5_4 : SB := .lt (.v 2) rd5_3
def rd5_5 : SI := .len (.v 1)
def rd5_6 : List SB := [.le (.c 1) rd5_5, .le rd5_5 (.c 8), .le (.c 0) (.v 9), .le (.v 9) (.c 1000), .le (.c 0) (.v 1), .lt (.v 1) rd5_5, .le (.c 0) (.v 2), .c true, .le (.v 2) rd5_3, .le rd5_3 (.c 40)]
def rd5_7 : List SB := rd5_4 :: rd5_6
def rd5_8 : SA := .i (.v 0) .nil
def rd5_9 : SB := .app 140 (.l (.v 1) (.i (.v 1) (.i (.v 2) rd5_8)))
def rd5_10 : List Eqn := [.T rd5_9]
def rd5_11 : List SB := .not rd5_2 :: rd5_7
def rd5_12 : SI := .add (.v 2) (.c 1)
def rd5_13 : SI := .sub rd5_3 (.v 2)
def rd5_14 : SB := .app 140 (.l (.v 1) (.i (.v 1) (.i rd5_12 rd5_8)))
def rd5_15 : List Eqn := [.T (.not rd5_9)]
set_option maxRecDepth 100000 in
theorem rd5_obs : loopObs Φ Try.prog noTbl 1000 rd5.f (loopAt Try.prog rd5.f rd5.id) rd5.n rd5.T kd5 rd5.outs = some
  [⟨rd5_2 :: rd5_7, rd5_10⟩, ⟨rd5_11, [.T (.lt (.sub rd5_3 rd5_12) rd5_13), .T (.lt (.c 0) rd5_13)]⟩, ⟨.not rd5_14 :: rd5_11, rd5_15⟩, ⟨rd5_14 :: rd5_11, rd5_10⟩, ⟨.not rd5_4 :: rd5_6, rd5_15⟩] := by kernel_rfl
theorem rd5_ok : rd5.ok Φ Try.prog := by
  refine ⟨by kernel_rfl, loop_rule (fun ρ => noTbl_ok) (loopAt_sub (by kernel_rfl)) rd5_obs ?_⟩
  simp only [rd5_1, rd5_2, rd5_3, rd5_4, rd5_5, rd5_6, rd5_7, rd5_8, rd5_9, rd5_10, rd5_11, rd5_12, rd5_13, rd5_14, rd5_15, and_imp, List.forall_mem_cons, List.not_mem_nil, false_implies, implies_true, and_true, Ob.ok, holds, Eqn.ok, evB_eq, evB_lt, evB_le, evB_not, evB_and, evB_or, evB_eqL, evB_app, evB_v, evB_c, ev_sel, ev_len, ev_v, ev_c, ev_add, ev_sub, ev_mul, ev_quo, ev_rem, ev_bits, ev_wrap, evL_v, evL_lit, evL_app, ev_app, evA_l, evA_i, evA_nil, std_min, std_max, std_cat, std_take, std_drop, std_row, std_set, std_rep, std_find, std_put, std_del, std_flag, std_unflag, std_clr, std_left, std_copy, std_cnt, std_catS, std_lenS, std_atS, std_subS, std_ofB, std_snd, std_rcv, ints_cons, ints_nil, ofNat_lit, negSucc_lit, decide_eq_true_eq, Bool.and_eq_true, Bool.or_eq_true, Bool.not_eq_true', Bool.and_eq_false_iff, Bool.or_eq_false_iff, decide_eq_false_iff_not, aI100, aI101, aL110, aL111, aL112, aL113, aL114, aL115, aL116, aL117, aL118, aB130, aB131, aB132, aB133, aB134, aB135, aB136, aB137, aB138, aB199, Bool.not_eq_false', aI102, aL119, aL120, aB139, aB140, aB141, aB142, aB143, aB144, aB145, std_rowN, std_setN, nat3]
  repeat' apply And.intro
  all_goals intro ρ hR
  all_goals intros
  all_goals first
    | (exact ⟨by omega, by omega⟩)
    | (have q0 : 0 ≤ ρ.i 2 := by omega
       have q1 : ρ.i 2 < (rowN 3 (ρ.l 1) (ρ.i 1)).length := by omega
       have f := inR_step (id := ρ.i 0) q0 q1
       rw [f]
       have a : ((List.getD (rowN 3 (ρ.l 1) (ρ.i 1)) (Int.toNat (ρ.i 2)) []).getD 0 0) = ρ.i 0 := by with_reducible assumption
       rw [decide_eq_true a]
       rfl)
    | (have q0 : 0 ≤ ρ.i 2 := by omega
       have q1 : ρ.i 2 < (rowN 3 (ρ.l 1) (ρ.i 1)).length := by omega
       have f := inR_step (id := ρ.i 0) q0 q1
       rw [f]
       have a : ¬ ((List.getD (rowN 3 (ρ.l 1) (ρ.i 1)) (Int.toNat (ρ.i 2)) []).getD 0 0) = ρ.i 0 := by with_reducible assumption
       have g : inR (ρ.l 1) (ρ.i 1) (ρ.i 2 + 1) (ρ.i 0) = true := by with_reducible assumption
       rw [decide_eq_false a, g]
       rfl)
    | (have q0 : 0 ≤ ρ.i 2 := by omega
       have q1 : ρ.i 2 < (rowN 3 (ρ.l 1) (ρ.i 1)).length := by omega
       have f := inR_step (id := ρ.i 0) q0 q1
       rw [f]
       have a : ¬ ((List.getD (rowN 3 (ρ.l 1) (ρ.i 1)) (Int.toNat (ρ.i 2)) []).getD 0 0) = ρ.i 0 := by with_reducible assumption
       have g : inR (ρ.l 1) (ρ.i 1) (ρ.i 2 + 1) (ρ.i 0) = false := by with_reducible assumption
       rw [decide_eq_false a, g]
       rfl)
    | (exact inR_end (by omega))
theorem v3_ok (ρ : Env) : TblOK Φ ρ Try.prog v3 := addLp_ok noTbl_ok rd5_ok
def rd2_1 : SA := .i (.v 0) .nil
def rd2_2 : SB := .app 140 (.l (.v 1) (.i (.v 1) (.i (.c 0) rd2_1)))
def rd2_3 : SB := .le (.len (.app 18 (.i (.c 3) (.l (.v 1) (.i (.v 1) .nil))))) (.c 40)
def rd2_4 : SI := .len (.v 1)
def rd2_5 : SB := .lt (.v 1) rd2_4
def rd2_6 : List SB := [.le (.c 1) rd2_4, .le rd2_4 (.c 8), .le (.c 0) (.v 9), .le (.v 9) (.c 1000), .le (.c 0) (.v 1), .le (.v 1) rd2_4, .c true, .app 145 (.l (.v 1) (.i (.c 0) .nil))]
def rd2_7 : List SB := rd2_5 :: rd2_6
def rd2_8 : List SB := rd2_3 :: rd2_7
def rd2_9 : List SB := .not rd2_2 :: rd2_8
def rd2_10 : SI := .add (.v 1) (.c 1)
def rd2_11 : SI := .sub rd2_4 (.v 1)
def rd2_12 : SB := .app 141 (.l (.v 1) (.i rd2_10 rd2_1))
def rd2_13 : SB := .app 141 (.l (.v 1) (.i (.v 1) rd2_1))
def rd2_14 : List Eqn := [.T (.not rd2_13)]
def rd2_15 : List Eqn := [.T rd2_13]
set_option maxRecDepth 100000 in
theorem rd2_obs : loopObs Φ Try.prog v3 1000 rd2.f (loopAt Try.prog rd2.f rd2.id) rd2.n rd2.T kd2 rd2.outs = some
  [⟨rd2_9, [.T (.lt (.sub rd2_4 rd2_10) rd2_11), .T (.lt (.c 0) rd2_11)]⟩, ⟨.not rd2_12 :: rd2_9, rd2_14⟩, ⟨rd2_12 :: rd2_9, rd2_15⟩, ⟨rd2_2 :: rd2_8, rd2_15⟩, ⟨.not rd2_3 :: rd2_7, [.T (.c false)]⟩, ⟨.not rd2_5 :: rd2_6, rd2_14⟩] := by kernel_rfl
theorem rd2_ok : rd2.ok Φ Try.prog := by
  refine ⟨by kernel_rfl, loop_rule (fun ρ => v3_ok ρ) (loopAt_sub (by kernel_rfl)) rd2_obs ?_⟩
  simp only [rd2_1, rd2_2, rd2_3, rd2_4, rd2_5, rd2_6, rd2_7, rd2_8, rd2_9, rd2_10, rd2_11, rd2_12, rd2_13, rd2_14, rd2_15, and_imp, List.forall_mem_cons, List.not_mem_nil, false_implies, implies_true, and_true, Ob.ok, holds, Eqn.ok, evB_eq, evB_lt, evB_le, evB_not, evB_and, evB_or, evB_eqL, evB_app, evB_v, evB_c, ev_sel, ev_len, ev_v, ev_c, ev_add, ev_sub, ev_mul, ev_quo, ev_rem, ev_bits, ev_wrap, evL_v, evL_lit, evL_app, ev_app, evA_l, evA_i, evA_nil, std_min, std_max, std_cat, std_take, std_drop, std_row, std_set, std_rep, std_find, std_put, std_del, std_flag, std_unflag, std_clr, std_left, std_copy, std_cnt, std_catS, std_lenS, std_atS, std_subS, std_ofB, std_snd, std_rcv, ints_cons, ints_nil, ofNat_lit, negSucc_lit, decide_eq_true_eq, Bool.and_eq_true, Bool.or_eq_true, Bool.not_eq_true', Bool.and_eq_false_iff, Bool.or_eq_false_iff, decide_eq_false_iff_not, aI100, aI101, aL110, aL111, aL112, aL113, aL114, aL115, aL116, aL117, aL118, aB130, aB131, aB132, aB133, aB134, aB135, aB136, aB137, aB138, aB199, Bool.not_eq_false', aI102, aL119, aL120, aB139, aB140, aB141, aB142, aB143, aB144, aB145, std_rowN, std_setN, nat3]
  repeat' apply And.intro
  all_goals intro ρ hR
  all_goals intros
  all_goals first
    | (exact ⟨by omega, by omega⟩)
    | (have q0 : 0 ≤ ρ.i 1 := by omega
       have q1 : ρ.i 1 < (ρ.l 1).length := by omega
       have f := inA_step (id := ρ.i 0) q0 q1
       rw [f]
       have g : inR (ρ.l 1) (ρ.i 1) 0 (ρ.i 0) = false := by with_reducible assumption
       rw [g]
       have g2 : inA (ρ.l 1) (ρ.i 1 + 1) (ρ.i 0) = false := by with_reducible assumption
       rw [g2]
       rfl)
    | (have q0 : 0 ≤ ρ.i 1 := by omega
       have q1 : ρ.i 1 < (ρ.l 1).length := by omega
       have f := inA_step (id := ρ.i 0) q0 q1
       rw [f]
       have g : inR (ρ.l 1) (ρ.i 1) 0 (ρ.i 0) = false := by with_reducible assumption
       rw [g]
       have g2 : inA (ρ.l 1) (ρ.i 1 + 1) (ρ.i 0) = true := by with_reducible assumption
       rw [g2]
       rfl)
    | (have q0 : 0 ≤ ρ.i 1 := by omega
       have q1 : ρ.i 1 < (ρ.l 1).length := by omega
       have f := inA_step (id := ρ.i 0) q0 q1
       rw [f]
       have g : inR (ρ.l 1) (ρ.i 1) 0 (ρ.i 0) = true := by with_reducible assumption
       rw [g]
       rfl)
    | (have lo : lowB (ρ.l 1) 0 = true := by with_reducible assumption
       exfalso
       have h : ¬ ((rowN 3 (ρ.l 1) (ρ.i 1)).length : Int) ≤ 40 := by with_reducible assumption
       exact h (low_row lo (by omega) (by omega)))
    | (exact inA_end (by omega))
theorem v4_ok (ρ : Env) : TblOK Φ ρ Try.prog v4 := addLp_ok (v3_ok ρ) rd2_ok
def rDone_1 : SB := .le (.c 1) (.v 0)
def rDone_2 : SA := .i (.v 0) .nil
def rDone_3 : SB := .app 141 (.l (.v 1) (.i (.c 0) rDone_2))
def rDone_4 : SI := .len (.v 1)
def rDone_5 : List SB := [.le (.c 1) rDone_4, .le rDone_4 (.c 8), .le (.c 0) (.v 9), .le (.v 9) (.c 1000), .c true, .app 145 (.l (.v 1) (.i (.c 0) .nil))]
def rDone_6 : List SB := .not rDone_3 :: rDone_5
def rDone_7 : SB := .app 144 (.l (.v 1) (.i (.v 9) rDone_2))
def rDone_8 : List Eqn := [.B rDone_7 (.c false)]
set_option maxRecDepth 100000 in
theorem rDone_obs : callObs Φ Try.prog v4 1000 rDone.f rDone.vs rDone.o rDone.pc rDone.outs = some
  [⟨rDone_1 :: rDone_6, [.B rDone_7 (.le (.v 0) (.v 9))]⟩, ⟨.not rDone_1 :: rDone_6, rDone_8⟩, ⟨rDone_3 :: rDone_5, rDone_8⟩] := by kernel_rfl
theorem rDone_ok : rDone.ok Φ Try.prog := by
  refine call_rule (fun ρ => v4_ok ρ) rDone_obs ?_
  simp only [rDone_1, rDone_2, rDone_3, rDone_4, rDone_5, rDone_6, rDone_7, rDone_8, and_imp, List.forall_mem_cons, List.not_mem_nil, false_implies, implies_true, and_true, Ob.ok, holds, Eqn.ok, evB_eq, evB_lt, evB_le, evB_not, evB_and, evB_or, evB_eqL, evB_app, evB_v, evB_c, ev_sel, ev_len, ev_v, ev_c, ev_add, ev_sub, ev_mul, ev_quo, ev_rem, ev_bits, ev_wrap, evL_v, evL_lit, evL_app, ev_app, evA_l, evA_i, evA_nil, std_min, std_max, std_cat, std_take, std_drop, std_row, std_set, std_rep, std_find, std_put, std_del, std_flag, std_unflag, std_clr, std_left, std_copy, std_cnt, std_catS, std_lenS, std_atS, std_subS, std_ofB, std_snd, std_rcv, ints_cons, ints_nil, ofNat_lit, negSucc_lit, decide_eq_true_eq, Bool.and_eq_true, Bool.or_eq_true, Bool.not_eq_true', Bool.and_eq_false_iff, Bool.or_eq_false_iff, decide_eq_false_iff_not, aI100, aI101, aL110, aL111, aL112, aL113, aL114, aL115, aL116, aL117, aL118, aB130, aB131, aB132, aB133, aB134, aB135, aB136, aB137, aB138, aB199, Bool.not_eq_false', aI102, aL119, aL120, aB139, aB140, aB141, aB142, aB143, aB144, aB145, std_rowN, std_setN, nat3]
  repeat' apply And.intro
  all_goals intro ρ hR
  all_goals intros
  all_goals first
    | (have a : inA (ρ.l 1) 0 (ρ.i 0) = false := by with_reducible assumption
       unfold doneR
       rw [a]
       have b : 1 ≤ ρ.i 0 := by omega
       rw [decide_eq_true b]
       rfl)
    | (have a : inA (ρ.l 1) 0 (ρ.i 0) = false := by with_reducible assumption
       unfold doneR
       rw [a]
       have b : ¬ 1 ≤ ρ.i 0 := by omega
       rw [decide_eq_false b]
       rfl)
    | (have a : inA (ρ.l 1) 0 (ρ.i 0) = true := by with_reducible assumption
       unfold doneR
       rw [a]
       rfl)
theorem v5_ok (ρ : Env) : TblOK Φ ρ Try.prog v5 := addFn_ok (v4_ok ρ) rDone_ok
def ro3_1 : SA := .i (.v 1) .nil
def ro3_2 : SA := .l (.v 1) (.i (.v 9) ro3_1)
def ro3_3 : SB := .app 144 ro3_2
def ro3_4 : SB := .le (.v 1) (.v 9)
def ro3_5 : SI := .len (.v 1)
def ro3_6 : SI := .add (.v 9) (.c 1)
def ro3_7 : SI := .len (.v 4)
def ro3_8 : List SB := [.le (.c 1) ro3_5, .le ro3_5 (.c 8), .le (.c 0) (.v 9), .le (.v 9) (.c 1000), .le (.c 1) (.v 1), .le (.v 1) ro3_6, .le ro3_7 (.v 1), .c true, .app 145 (.l (.v 1) (.i (.c 0) .nil))]
def ro3_9 : List SB := ro3_4 :: ro3_8
def ro3_10 : List SB := ro3_3 :: ro3_9
def ro3_11 : SI := .add (.v 1) (.c 1)
def ro3_12 : SI := .sub ro3_6 (.v 1)
def ro3_13 : List Eqn := [.T (.lt (.sub ro3_6 ro3_11) ro3_12), .T (.lt (.c 0) ro3_12)]
def ro3_14 : SL := .app 120 (.l (.v 1) (.i (.v 9) (.i ro3_11 .nil)))
def ro3_15 : SI := .len ro3_14
def ro3_16 : SI := .add ro3_7 ro3_15
def ro3_17 : SL := .app 0 (.l (.v 4) (.l (.app 120 ro3_2) .nil))
def ro3_18 : SI := .len ro3_17
def ro3_19 : Eqn := .T (.le ro3_18 ro3_6)
def ro3_20 : SA := .l ro3_14 .nil
def ro3_21 : List SB := .not ro3_3 :: ro3_9
def ro3_22 : SI := .add (.add ro3_7 (.c 1)) ro3_15
set_option maxRecDepth 100000 in
theorem ro3_obs : loopObs Φ Try.prog v5 1000 ro3.f (loopAt Try.prog ro3.f ro3.id) ro3.n ro3.T ko3 ro3.outs = some
  [⟨ro3_10, ro3_13⟩, ⟨.le ro3_16 ro3_6 :: ro3_10, [ro3_19, .I ro3_18 ro3_16, .L ro3_17 (.app 0 (.l (.v 4) ro3_20))]⟩, ⟨ro3_21, ro3_13⟩, ⟨.le ro3_22 ro3_6 :: ro3_21, [ro3_19, .I ro3_18 ro3_22, .L ro3_17 (.app 0 (.l (.app 0 (.l (.v 4) (.l (.app 3 ro3_1) .nil))) ro3_20))]⟩, ⟨.not ro3_4 :: ro3_8, [ro3_19, .I ro3_18 ro3_7, .L ro3_17 (.v 4)]⟩] := by kernel_rfl
theorem ro3_ok : ro3.ok Φ Try.prog := by
  refine ⟨by kernel_rfl, loop_rule (fun ρ => v5_ok ρ) (loopAt_sub (by kernel_rfl)) ro3_obs ?_⟩
  simp only [ro3_1, ro3_2, ro3_3, ro3_4, ro3_5, ro3_6, ro3_7, ro3_8, ro3_9, ro3_10, ro3_11, ro3_12, ro3_13, ro3_14, ro3_15, ro3_16, ro3_17, ro3_18, ro3_19, ro3_20, ro3_21, ro3_22, and_imp, List.forall_mem_cons, List.not_mem_nil, false_implies, implies_true, and_true, Ob.ok, holds, Eqn.ok, evB_eq, evB_lt, evB_le, evB_not, evB_and, evB_or, evB_eqL, evB_app, evB_v, evB_c, ev_sel, ev_len, ev_v, ev_c, ev_add, ev_sub, ev_mul, ev_quo, ev_rem, ev_bits, ev_wrap, evL_v, evL_lit, evL_app, ev_app, evA_l, evA_i, evA_nil, std_min, std_max, std_cat, std_take, std_drop, std_row, std_set, std_rep, std_find, std_put, std_del, std_flag, std_unflag, std_clr, std_left, std_copy, std_cnt, std_catS, std_lenS, std_atS, std_subS, std_ofB, std_snd, std_rcv, ints_cons, ints_nil, ofNat_lit, negSucc_lit, decide_eq_true_eq, Bool.and_eq_true, Bool.or_eq_true, Bool.not_eq_true', Bool.and_eq_false_iff, Bool.or_eq_false_iff, decide_eq_false_iff_not, aI100, aI101, aL110, aL111, aL112, aL113, aL114, aL115, aL116, aL117, aL118, aB130, aB131, aB132, aB133, aB134, aB135, aB136, aB137, aB138, aB199, Bool.not_eq_false', aI102, aL119, aL120, aB139, aB140, aB141, aB142, aB143, aB144, aB145, std_rowN, std_setN, nat3]
  repeat' apply And.intro
  all_goals intro ρ hR
  all_goals intros
  all_goals first
    | (exact ⟨by omega, by omega⟩)
    | (have q0 : ρ.i 1 ≤ ρ.i 9 := by omega
       have e := op_step (Q := ρ.l 1) q0
       have d : doneR (ρ.l 1) (ρ.i 9) (ρ.i 1) = true := by with_reducible assumption
       rw [d] at e
       rw [if_pos rfl, List.nil_append] at e
       rw [e]
       repeat' apply And.intro
       all_goals first
         | rfl
         | omega
         | with_reducible assumption
         | (simp; omega)
         | (simp; done))
    | (have q0 : ρ.i 1 ≤ ρ.i 9 := by omega
       have e := op_step (Q := ρ.l 1) q0
       have d : doneR (ρ.l 1) (ρ.i 9) (ρ.i 1) = false := by with_reducible assumption
       rw [d] at e
       rw [if_neg (by decide)] at e
       rw [e]
       repeat' apply And.intro
       all_goals first
         | rfl
         | omega
         | with_reducible assumption
         | (simp; omega)
         | (simp; done))
    | (have q0 : ¬ ρ.i 1 ≤ ρ.i 9 := by omega
       have e := op_end (Q := ρ.l 1) q0
       rw [e, List.append_nil]
       repeat' apply And.intro
       all_goals first
         | rfl
         | omega
         | with_reducible assumption
         | (simp; omega)
         | (simp; done))
theorem v6_ok (ρ : Env) : TblOK Φ ρ Try.prog v6 := addLp_ok (v5_ok ρ) ro3_ok
set_option maxRecDepth 100000 in
theorem rOpen_obs : callObs Φ Try.prog v6 1000 rOpen.f rOpen.vs rOpen.o rOpen.pc rOpen.outs = some
  [] := by kernel_rfl
theorem rOpen_ok : rOpen.ok Φ Try.prog := by
  refine call_rule (fun ρ => v6_ok ρ) rOpen_obs ?_
  intro ob h; cases h
def in4_1 : SB := .eq (.sel (.v 5) (.v 1) 0) (.sel (.v 6) (.v 1) 0)
def in4_2 : SI := .len (.v 5)
def in4_3 : SB := .lt (.v 1) in4_2
def in4_4 : List SB := [.le (.c 0) (.v 1), .le (.v 1) in4_2, .eq in4_2 (.len (.v 6)), .le in4_2 (.c 2000), .c true, .app 142 (.l (.v 5) (.l (.v 6) (.i (.v 1) .nil)))]
def in4_5 : List SB := in4_3 :: in4_4
def in4_6 : SI := .add (.v 1) (.c 1)
def in4_7 : SI := .sub in4_2 (.v 1)
def in4_8 : SB := .eqL (.v 5) (.v 6)
set_option maxRecDepth 100000 in
theorem in4_obs : loopObs Φ Try.prog noTbl 1000 in4.f (loopAt Try.prog in4.f in4.id) in4.n in4.T ki4 in4.outs = some
  [⟨in4_1 :: in4_5, [.T (.lt (.sub in4_2 in4_6) in4_7), .T (.lt (.c 0) in4_7), .T (.app 142 (.l (.v 5) (.l (.v 6) (.i in4_6 .nil))))]⟩, ⟨.not in4_1 :: in4_5, [.T (.not in4_8)]⟩, ⟨.not in4_3 :: in4_4, [.T in4_8]⟩] := by kernel_rfl
theorem in4_ok : in4.ok Φ Try.prog := by
  refine ⟨by kernel_rfl, loop_rule (fun ρ => noTbl_ok) (loopAt_sub (by kernel_rfl)) in4_obs ?_⟩
  simp only [in4_1, in4_2, in4_3, in4_4, in4_5, in4_6, in4_7, in4_8, and_imp, List.forall_mem_cons, List.not_mem_nil, false_implies, implies_true, and_true, Ob.ok, holds, Eqn.ok, evB_eq, evB_lt, evB_le, evB_not, evB_and, evB_or, evB_eqL, evB_app, evB_v, evB_c, ev_sel, ev_len, ev_v, ev_c, ev_add, ev_sub, ev_mul, ev_quo, ev_rem, ev_bits, ev_wrap, evL_v, evL_lit, evL_app, ev_app, evA_l, evA_i, evA_nil, std_min, std_max, std_cat, std_take, std_drop, std_row, std_set, std_rep, std_find, std_put, std_del, std_flag, std_unflag, std_clr, std_left, std_copy, std_cnt, std_catS, std_lenS, std_atS, std_subS, std_ofB, std_snd, std_rcv, ints_cons, ints_nil, ofNat_lit, negSucc_lit, decide_eq_true_eq, Bool.and_eq_true, Bool.or_eq_true, Bool.not_eq_true', Bool.and_eq_false_iff, Bool.or_eq_false_iff, decide_eq_false_iff_not, aI100, aI101, aL110, aL111, aL112, aL113, aL114, aL115, aL116, aL117, aL118, aB130, aB131, aB132, aB133, aB134, aB135, aB136, aB137, aB138, aB199, Bool.not_eq_false', aI102, aL119, aL120, aB139, aB140, aB141, aB142, aB143, aB144, aB145, std_rowN, std_setN, nat3]
  repeat' apply And.intro
  all_goals intro ρ hR
  all_goals intros
  all_goals first
    | (have h : preB (ρ.l 5) (ρ.l 6) (ρ.i 1) = true := by with_reducible assumption
       have e : ((List.getD (ρ.l 5) (Int.toNat (ρ.i 1)) []).getD 0 0) = ((List.getD (ρ.l 6) (Int.toNat (ρ.i 1)) []).getD 0 0) := by with_reducible assumption
       exact ⟨by omega, by omega, pre_step (hR.row 0 rfl rfl) (hR.row 1 rfl rfl) h (by omega) (by omega) e⟩)
    | (have e : ¬ ((List.getD (ρ.l 5) (Int.toNat (ρ.i 1)) []).getD 0 0) = ((List.getD (ρ.l 6) (Int.toNat (ρ.i 1)) []).getD 0 0) := by with_reducible assumption
       intro x
       rw [x] at e
       exact e rfl)
    | (have h : preB (ρ.l 5) (ρ.l 6) (ρ.i 1) = true := by with_reducible assumption
       exact pre_end h (by omega))
theorem v7_ok (ρ : Env) : TblOK Φ ρ Try.prog v7 := addLp_ok noTbl_ok in4_ok
set_option maxRecDepth 100000 in
theorem cInts_obs : callObs Φ Try.prog v7 1000 cInts.f cInts.vs cInts.o cInts.pc cInts.outs = some
  [{pc := [.not (.app 142 (.l (.v 5) (.l (.v 6) (.i (.c 0) .nil)))), .eq (.len (.v 5)) (.len (.v 6)), .le (.len (.v 5)) (.c 2000), .le (.len (.v 6)) (.c 2000)], eqs := [.T (.c false)]}, {pc := [.not (.eq (.len (.v 5)) (.len (.v 6))), .le (.len (.v 5)) (.c 2000), .le (.len (.v 6)) (.c 2000)], eqs := [.T (.not (.eqL (.v 5) (.v 6)))]}] := by kernel_rfl
theorem cInts_ok : cInts.ok Φ Try.prog := by
  refine call_rule (fun ρ => v7_ok ρ) cInts_obs ?_
  simp only [and_imp, List.forall_mem_cons, List.not_mem_nil, false_implies, implies_true, and_true, Ob.ok, holds, Eqn.ok, evB_eq, evB_lt, evB_le, evB_not, evB_and, evB_or, evB_eqL, evB_app, evB_v, evB_c, ev_sel, ev_len, ev_v, ev_c, ev_add, ev_sub, ev_mul, ev_quo, ev_rem, ev_bits, ev_wrap, evL_v, evL_lit, evL_app, ev_app, evA_l, evA_i, evA_nil, std_min, std_max, std_cat, std_take, std_drop, std_row, std_set, std_rep, std_find, std_put, std_del, std_flag, std_unflag, std_clr, std_left, std_copy, std_cnt, std_catS, std_lenS, std_atS, std_subS, std_ofB, std_snd, std_rcv, ints_cons, ints_nil, ofNat_lit, negSucc_lit, decide_eq_true_eq, Bool.and_eq_true, Bool.or_eq_true, Bool.not_eq_true', Bool.and_eq_false_iff, Bool.or_eq_false_iff, decide_eq_false_iff_not, aI100, aI101, aL110, aL111, aL112, aL113, aL114, aL115, aL116, aL117, aL118, aB130, aB131, aB132, aB133, aB134, aB135, aB136, aB137, aB138, aB199, Bool.not_eq_false', aI102, aL119, aL120, aB139, aB140, aB141, aB142, aB143, aB144, aB145, std_rowN, std_setN, nat3]
  repeat' apply And.intro
  all_goals intro ρ hR
  all_goals intros
  all_goals first
    | (exfalso
       have h : preB (ρ.l 5) (ρ.l 6) 0 = false := by with_reducible assumption
       have g : preB (ρ.l 5) (ρ.l 6) 0 = true := pre_iff.2 ⟨by omega, rfl⟩
       rw [g] at h
       cases h)
    | (intro x
       have e : ¬ ((ρ.l 5).length : Int) = (ρ.l 6).length := by with_reducible assumption
       rw [x] at e
       exact e rfl)
def cWt_1 : SL := .app 115 (.l (.v 0) (.l (.v 1) .nil))
def cWt_2 : SI := .sel (.v 0) (.v 0) 0
def cWt_3 : SB := .lt (.c 0) (.len (.app 6 (.l cWt_1 (.i cWt_2 .nil))))
def cWt_4 : SI := .len (.v 0)
def cWt_5 : SB := .lt (.v 0) cWt_4
def cWt_6 : SB := .le (.c 0) (.v 0)
def cWt_7 : List SB := [.le (.c 1) cWt_4, .le cWt_4 (.c 8), .le (.len (.v 2)) (.c 1000), .eq (.len (.v 1)) cWt_4, .c true, .app 136 (.l (.v 0) .nil), .app 130 (.l (.v 1) (.l (.v 2) .nil))]
def cWt_8 : List SB := cWt_6 :: cWt_7
def cWt_9 : List SB := .le (.c 0) cWt_2 :: cWt_5 :: cWt_8
def cWt_10 : SI := .app 102 (.l (.v 1) (.i (.v 0) .nil))
def cWt_11 : List Eqn := [.I cWt_10 (.c 0)]
set_option maxRecDepth 100000 in
theorem cWt_obs : callObs Φ Try.prog t7 1000 cWt.f cWt.vs cWt.o cWt.pc cWt.outs = some
  [⟨cWt_3 :: cWt_9, [.I cWt_10 (.app 2 (.l cWt_1 (.i cWt_2 (.i (.c 3) .nil))))]⟩, ⟨.not cWt_3 :: cWt_9, [.T (.c false)]⟩, ⟨.not cWt_5 :: cWt_8, cWt_11⟩, ⟨.not cWt_6 :: cWt_7, cWt_11⟩] := by kernel_rfl
theorem cWt_ok : cWt.ok Φ Try.prog := by
  refine call_rule (fun ρ => t7_ok ρ) cWt_obs ?_
  simp only [cWt_1, cWt_2, cWt_3, cWt_4, cWt_5, cWt_6, cWt_7, cWt_8, cWt_9, cWt_10, cWt_11, and_imp, List.forall_mem_cons, List.not_mem_nil, false_implies, implies_true, and_true, Ob.ok, holds, Eqn.ok, evB_eq, evB_lt, evB_le, evB_not, evB_and, evB_or, evB_eqL, evB_app, evB_v, evB_c, ev_sel, ev_len, ev_v, ev_c, ev_add, ev_sub, ev_mul, ev_quo, ev_rem, ev_bits, ev_wrap, evL_v, evL_lit, evL_app, ev_app, evA_l, evA_i, evA_nil, std_min, std_max, std_cat, std_take, std_drop, std_row, std_set, std_rep, std_find, std_put, std_del, std_flag, std_unflag, std_clr, std_left, std_copy, std_cnt, std_catS, std_lenS, std_atS, std_subS, std_ofB, std_snd, std_rcv, ints_cons, ints_nil, ofNat_lit, negSucc_lit, decide_eq_true_eq, Bool.and_eq_true, Bool.or_eq_true, Bool.not_eq_true', Bool.and_eq_false_iff, Bool.or_eq_false_iff, decide_eq_false_iff_not, aI100, aI101, aL110, aL111, aL112, aL113, aL114, aL115, aL116, aL117, aL118, aB130, aB131, aB132, aB133, aB134, aB135, aB136, aB137, aB138, aB199, Bool.not_eq_false', aI102, aL119, aL120, aB139, aB140, aB141, aB142, aB143, aB144, aB145, std_rowN, std_setN, nat3]
  repeat' apply And.intro
  all_goals intro ρ hR
  all_goals intros
  all_goals first
    | (have q0 : ρ.i 0 < 0 ∨ ((ρ.l 1).length : Int) ≤ ρ.i 0 := by omega
       exact if_neg (by omega))
    | (have hB : okB (ρ.l 0) = true := by with_reducible assumption
       have hs : stQ (ρ.l 1) (ρ.l 2) = true := by with_reducible assumption
       have hl : (ρ.l 1).length = (ρ.l 0).length := by omega
       have h := (st_lay hB hl).2 hs
       have hlM := lay_len hl
       have q0 : 0 ≤ ρ.i 0 := by omega
       have q1 : ρ.i 0 < (ρ.l 1).length := by omega
       rw [if_pos ⟨q0, q1⟩]
       have hc := cnt_at h (c := ρ.i 0) (by omega) (by omega)
       rw [lay_qlen hl (by omega) (by omega)] at hc
       exact hc.symm)
    | (have hB : okB (ρ.l 0) = true := by with_reducible assumption
       have hs : stQ (ρ.l 1) (ρ.l 2) = true := by with_reducible assumption
       have hl : (ρ.l 1).length = (ρ.l 0).length := by omega
       have h := (st_lay hB hl).2 hs
       have hlM := lay_len hl
       have hf := found h (c := ρ.i 0) (by omega) (by omega)
       exfalso
       omega)
def cDn_1 : SI := .len (.v 2)
def cDn_2 : SB := .le (.v 0) cDn_1
def cDn_3 : SB := .le (.c 1) (.v 0)
def cDn_4 : SI := .len (.v 0)
def cDn_5 : List SB := [.le (.c 1) cDn_4, .le cDn_4 (.c 8), .le cDn_1 (.c 1000), .eq (.len (.v 1)) cDn_4, .c true, .app 136 (.l (.v 0) .nil), .app 130 (.l (.v 1) (.l (.v 2) .nil))]
def cDn_6 : List SB := cDn_3 :: cDn_5
def cDn_7 : SB := .app 144 (.l (.v 1) (.i cDn_1 (.i (.v 0) .nil)))
def cDn_8 : List Eqn := [.B cDn_7 (.c false)]
set_option maxRecDepth 100000 in
theorem cDn_obs : callObs Φ Try.prog t7 1000 cDn.f cDn.vs cDn.o cDn.pc cDn.outs = some
  [⟨cDn_2 :: cDn_6, [.B cDn_7 (.eq (.sel (.v 2) (.sub (.v 0) (.c 1)) 0) (.c 0))]⟩, ⟨.not cDn_2 :: cDn_6, cDn_8⟩, ⟨.not cDn_3 :: cDn_5, cDn_8⟩] := by kernel_rfl
theorem cDn_ok : cDn.ok Φ Try.prog := by
  refine call_rule (fun ρ => t7_ok ρ) cDn_obs ?_
  simp only [cDn_1, cDn_2, cDn_3, cDn_4, cDn_5, cDn_6, cDn_7, cDn_8, and_imp, List.forall_mem_cons, List.not_mem_nil, false_implies, implies_true, and_true, Ob.ok, holds, Eqn.ok, evB_eq, evB_lt, evB_le, evB_not, evB_and, evB_or, evB_eqL, evB_app, evB_v, evB_c, ev_sel, ev_len, ev_v, ev_c, ev_add, ev_sub, ev_mul, ev_quo, ev_rem, ev_bits, ev_wrap, evL_v, evL_lit, evL_app, ev_app, evA_l, evA_i, evA_nil, std_min, std_max, std_cat, std_take, std_drop, std_row, std_set, std_rep, std_find, std_put, std_del, std_flag, std_unflag, std_clr, std_left, std_copy, std_cnt, std_catS, std_lenS, std_atS, std_subS, std_ofB, std_snd, std_rcv, ints_cons, ints_nil, ofNat_lit, negSucc_lit, decide_eq_true_eq, Bool.and_eq_true, Bool.or_eq_true, Bool.not_eq_true', Bool.and_eq_false_iff, Bool.or_eq_false_iff, decide_eq_false_iff_not, aI100, aI101, aL110, aL111, aL112, aL113, aL114, aL115, aL116, aL117, aL118, aB130, aB131, aB132, aB133, aB134, aB135, aB136, aB137, aB138, aB199, Bool.not_eq_false', aI102, aL119, aL120, aB139, aB140, aB141, aB142, aB143, aB144, aB145, std_rowN, std_setN, nat3]
  repeat' apply And.intro
  all_goals intro ρ hR
  all_goals intros
  all_goals first
    | (have hs : stQ (ρ.l 1) (ρ.l 2) = true := by with_reducible assumption
       rw [← done_eq hs]
       unfold doneB
       have a : 1 ≤ ρ.i 0 := by omega
       have b : ρ.i 0 ≤ (ρ.l 2).length := by omega
       rw [decide_eq_true a, decide_eq_true b]
       rfl)
    | (have hs : stQ (ρ.l 1) (ρ.l 2) = true := by with_reducible assumption
       rw [← done_eq hs]
       unfold doneB
       have b : ¬ ρ.i 0 ≤ (ρ.l 2).length := by omega
       rw [decide_eq_false b]
       simp)
    | (have hs : stQ (ρ.l 1) (ρ.l 2) = true := by with_reducible assumption
       rw [← done_eq hs]
       unfold doneB
       have a : ¬ 1 ≤ ρ.i 0 := by omega
       rw [decide_eq_false a]
       rfl)
def cOp_1 : SL := .app 113 (.l (.v 2) (.i (.c 0) .nil))
def cOp_2 : SI := .len cOp_1
def cOp_3 : SI := .len (.v 2)
def cOp_4 : SI := .len (.v 0)
def cOp_5 : SL := .app 120 (.l (.v 1) (.i cOp_3 (.i (.c 1) .nil)))
def cOp_6 : SI := .len cOp_5
set_option maxRecDepth 100000 in
theorem cOp_obs : callObs Φ Try.prog t7 1000 cOp.f cOp.vs cOp.o cOp.pc cOp.outs = some
  [⟨[.le cOp_2 cOp_3, .le (.c 1) cOp_4, .le cOp_4 (.c 8), .le cOp_3 (.c 1000), .eq (.len (.v 1)) cOp_4, .c true, .app 136 (.l (.v 0) .nil), .app 130 (.l (.v 1) (.l (.v 2) .nil))], [.T (.le cOp_6 (.c 1000)), .I cOp_6 cOp_2, .L cOp_5 cOp_1]⟩] := by kernel_rfl
theorem cOp_ok : cOp.ok Φ Try.prog := by
  refine call_rule (fun ρ => t7_ok ρ) cOp_obs ?_
  simp only [cOp_1, cOp_2, cOp_3, cOp_4, cOp_5, cOp_6, and_imp, List.forall_mem_cons, List.not_mem_nil, false_implies, implies_true, and_true, Ob.ok, holds, Eqn.ok, evB_eq, evB_lt, evB_le, evB_not, evB_and, evB_or, evB_eqL, evB_app, evB_v, evB_c, ev_sel, ev_len, ev_v, ev_c, ev_add, ev_sub, ev_mul, ev_quo, ev_rem, ev_bits, ev_wrap, evL_v, evL_lit, evL_app, ev_app, evA_l, evA_i, evA_nil, std_min, std_max, std_cat, std_take, std_drop, std_row, std_set, std_rep, std_find, std_put, std_del, std_flag, std_unflag, std_clr, std_left, std_copy, std_cnt, std_catS, std_lenS, std_atS, std_subS, std_ofB, std_snd, std_rcv, ints_cons, ints_nil, ofNat_lit, negSucc_lit, decide_eq_true_eq, Bool.and_eq_true, Bool.or_eq_true, Bool.not_eq_true', Bool.and_eq_false_iff, Bool.or_eq_false_iff, decide_eq_false_iff_not, aI100, aI101, aL110, aL111, aL112, aL113, aL114, aL115, aL116, aL117, aL118, aB130, aB131, aB132, aB133, aB134, aB135, aB136, aB137, aB138, aB199, Bool.not_eq_false', aI102, aL119, aL120, aB139, aB140, aB141, aB142, aB143, aB144, aB145, std_rowN, std_setN, nat3]
  repeat' apply And.intro
  all_goals intro ρ hR
  all_goals intros
  all_goals first
    | (have hs : stQ (ρ.l 1) (ρ.l 2) = true := by with_reducible assumption
       rw [← open_eq hs]
       repeat' apply And.intro
       all_goals first
         | rfl
         | omega
         | with_reducible assumption
         | (rw [postG_len]; done)
         | (rw [takeQ_len]; done))
theorem v8_ok (ρ : Env) : TblOK Φ ρ Try.prog v8 := addFn_ok (addFn_ok (addFn_ok (addFn_ok (addFn_ok (addFn_ok (addFn_ok (addFn_ok (addFn_ok (t7_ok ρ) rPost_ok) rTake_ok) rWt_ok) rDone_ok) rOpen_ok) cInts_ok) cWt_ok) cDn_ok) cOp_ok
def pyC_1 : SB := .or (.lt (.v 12) (.c 1)) (.lt (.c 16) (.v 12))
def pyC_2 : SB := .or (.lt (.v 13) (.c (.negSucc 0))) (.le (.c 65536) (.v 13))
def pyC_3 : SI := .len (.v 1)
def pyC_4 : SB := .lt (.v 11) pyC_3
def pyC_5 : SB := .le (.c 0) (.v 11)
def pyC_6 : SI := .len (.v 0)
def pyC_7 : SB := .lt (.v 11) pyC_6
def pyC_8 : SB := .not (.and pyC_5 pyC_7)
def pyC_9 : SI := .len (.v 2)
def pyC_10 : SA := .i (.c 0) .nil
def pyC_11 : List SB := [.le (.c 1) pyC_6, .le pyC_6 (.c 8), .le pyC_9 (.c 1000), .eq pyC_3 pyC_6, .le (.c 0) (.v 1), .lt (.v 1) (.c 120), .le pyC_9 (.v 1), .c true, .app 136 (.l (.v 0) .nil), .app 130 (.l (.v 1) (.l (.v 2) .nil)), .app 139 (.l (.v 1) (.i pyC_9 .nil)), .app 145 (.l (.v 1) pyC_10)]
def pyC_12 : List SB := .v 0 :: pyC_11
def pyC_13 : List SB := pyC_4 :: pyC_5 :: pyC_8 :: pyC_12
def pyC_14 : List Eqn := [.T (.app 199 .nil)]
def pyC_15 : SA := .l (.v 1) (.i (.v 11) .nil)
def pyC_16 : SB := .app 131 pyC_15
def pyC_17 : SB := .not pyC_2
def pyC_18 : SB := .not pyC_1
def pyC_19 : List SB := pyC_17 :: pyC_18 :: pyC_13
def pyC_20 : SI := .add pyC_9 (.c 1)
def pyC_21 : SL := .app 110 (.l (.v 1) (.i (.v 11) (.i pyC_20 (.i (.v 12) (.i (.v 13) .nil)))))
def pyC_22 : SI := .len pyC_21
def pyC_23 : SB := .not pyC_16
def pyC_24 : SB := .eq (.app 101 (.l (.v 1) (.i (.v 11) (.i (.c 2) .nil)))) (.c 0)
def pyC_25 : SB := .eq (.app 101 (.l (.v 1) (.i (.v 11) (.i (.c 1) .nil)))) (.c 0)
def pyC_26 : SI := .app 101 (.l (.v 1) (.i (.v 11) pyC_10))
def pyC_27 : SB := .eq pyC_26 (.c 0)
def pyC_28 : SL := .app 111 pyC_15
def pyC_29 : SI := .len pyC_28
def pyC_30 : SB := .lt (.c 0) (.app 100 pyC_15)
def pyC_31 : List SB := .not (.v 0) :: pyC_11
def pyC_32 : List SB := .eq pyC_29 pyC_3 :: pyC_30 :: pyC_4 :: pyC_5 :: pyC_8 :: pyC_31
def pyC_33 : List SB := pyC_27 :: pyC_32
def pyC_34 : List SB := pyC_25 :: pyC_33
def pyC_35 : SL := .app 112 (.l (.v 2) (.i pyC_26 .nil))
def pyC_36 : SI := .len pyC_35
set_option maxRecDepth 100000 in
theorem pyC_obs : partObs Φ Try.prog v8 1000 pyC.f (loopAt Try.prog pyC.f pyC.id) pyC.n pyC.T pyC.outs = some
  [⟨.or pyC_1 pyC_2 :: pyC_13, pyC_14⟩, ⟨pyC_16 :: pyC_19, pyC_14⟩, ⟨.eq pyC_22 pyC_3 :: pyC_23 :: pyC_19, pyC_14⟩, ⟨.app 130 (.l pyC_21 (.l (.app 0 (.l (.v 2) (.l (.app 3 (.i (.sub pyC_3 (.c 1)) .nil)) .nil))) .nil)) :: .eq pyC_22 pyC_6 :: pyC_23 :: pyC_17 :: pyC_18 :: pyC_7 :: pyC_5 :: pyC_12, [.T (.app 139 (.l pyC_21 (.i pyC_20 .nil))), .T (.app 145 (.l pyC_21 pyC_10))]⟩, ⟨pyC_24 :: pyC_34, pyC_14⟩, ⟨.not pyC_24 :: pyC_34, pyC_14⟩, ⟨.not pyC_25 :: pyC_33, pyC_14⟩, ⟨.not pyC_27 :: pyC_32, pyC_14⟩, ⟨.app 130 (.l pyC_28 (.l pyC_35 .nil)) :: .eq pyC_36 pyC_9 :: .eq pyC_29 pyC_6 :: .le pyC_26 pyC_9 :: .le (.c 1) pyC_26 :: pyC_30 :: pyC_7 :: pyC_5 :: pyC_31, [.T (.app 139 (.l pyC_28 (.i pyC_36 .nil))), .T (.app 145 (.l pyC_28 pyC_10)), .I pyC_36 pyC_9]⟩] := by kernel_rfl
theorem pyC_ok : pyC.ok Φ Try.prog := by
  refine ⟨by kernel_rfl, part_rule (fun ρ => v8_ok ρ) (loopAt_sub (by kernel_rfl)) pyC_obs ?_⟩
  simp only [pyC_1, pyC_2, pyC_3, pyC_4, pyC_5, pyC_6, pyC_7, pyC_8, pyC_9, pyC_10, pyC_11, pyC_12, pyC_13, pyC_14, pyC_15, pyC_16, pyC_17, pyC_18, pyC_19, pyC_20, pyC_21, pyC_22, pyC_23, pyC_24, pyC_25, pyC_26, pyC_27, pyC_28, pyC_29, pyC_30, pyC_31, pyC_32, pyC_33, pyC_34, pyC_35, pyC_36, and_imp, List.forall_mem_cons, List.not_mem_nil, false_implies, implies_true, and_true, Ob.ok, holds, Eqn.ok, evB_eq, evB_lt, evB_le, evB_not, evB_and, evB_or, evB_eqL, evB_app, evB_v, evB_c, ev_sel, ev_len, ev_v, ev_c, ev_add, ev_sub, ev_mul, ev_quo, ev_rem, ev_bits, ev_wrap, evL_v, evL_lit, evL_app, ev_app, evA_l, evA_i, evA_nil, std_min, std_max, std_cat, std_take, std_drop, std_row, std_set, std_rep, std_find, std_put, std_del, std_flag, std_unflag, std_clr, std_left, std_copy, std_cnt, std_catS, std_lenS, std_atS, std_subS, std_ofB, std_snd, std_rcv, ints_cons, ints_nil, ofNat_lit, negSucc_lit, decide_eq_true_eq, Bool.and_eq_true, Bool.or_eq_true, Bool.not_eq_true', Bool.and_eq_false_iff, Bool.or_eq_false_iff, decide_eq_false_iff_not, aI100, aI101, aL110, aL111, aL112, aL113, aL114, aL115, aL116, aL117, aL118, aB130, aB131, aB132, aB133, aB134, aB135, aB136, aB137, aB138, aB199, Bool.not_eq_false', aI102, aL119, aL120, aB139, aB140, aB141, aB142, aB143, aB144, aB145, std_rowN, std_setN, nat3]
  repeat' apply And.intro
  all_goals intro ρ hR
  all_goals intros
  all_goals first
    | (exfalso
       omega)
    | (have hs : stQ (postQ (ρ.l 1) (ρ.i 11) (((ρ.l 2).length : Int) + 1) (ρ.i 12) (ρ.i 13)) (ρ.l 2 ++ [[((ρ.l 1).length : Int) - 1]]) = true := by with_reducible assumption
       have h := st_rq hs
       rw [List.length_append] at h
       exact ⟨h, rq_low h⟩)
    | (have hs : stQ (takeQ (ρ.l 1) (ρ.i 11)) (decT (ρ.l 2) (msgQ (ρ.l 1) (ρ.i 11) 0)) = true := by with_reducible assumption
       have h := st_rq hs
       exact ⟨h, rq_low h, by with_reducible assumption⟩)
theorem v8a_ok (ρ : Env) : TblOK Φ ρ Try.prog v8a := addLp_ok (v8_ok ρ) pyC_ok
def py6_1 : SI := .len (.v 1002)
def py6_2 : SI := .len (.app 120 (.l (.v 1001) (.i py6_1 (.i (.c 1) .nil))))
def py6_3 : SA := .i (.c 0) .nil
def py6_4 : SI := .add (.v 1) (.c 1)
def py6_5 : SI := .len (.v 0)
def py6_6 : SI := .len (.v 2)
set_option maxRecDepth 100000 in
theorem py6_obs : loopObs Φ Try.prog v8a 1000 py6.f (loopAt Try.prog py6.f py6.id) py6.n py6.T kp6 py6.outs = some
  [⟨[.le py6_2 (.add py6_1 (.c 1)), .le py6_2 (.c 1000), .app 145 (.l (.v 1001) py6_3), .app 139 (.l (.v 1001) (.i py6_1 .nil)), .app 130 (.l (.v 1001) (.l (.v 1002) .nil)), .le py6_1 py6_4, .eq (.len (.v 1001)) py6_5, .lt (.v 1) (.c 120), .lt (.v 1) (.len (.v 9)), .le (.c 1) py6_5, .le py6_5 (.c 8), .le py6_6 (.c 1000), .eq (.len (.v 1)) py6_5, .le (.c 0) (.v 1), .le (.v 1) (.c 120), .le py6_6 (.v 1), .c true, .app 136 (.l (.v 0) .nil), .app 130 (.l (.v 1) (.l (.v 2) .nil)), .app 139 (.l (.v 1) (.i py6_6 .nil)), .app 145 (.l (.v 1) py6_3)], [.T (.lt (.sub (.c 120) py6_4) (.sub (.c 120) (.v 1)))]⟩] := by kernel_rfl
theorem py6_ok : py6.ok Φ Try.prog := by
  refine ⟨by kernel_rfl, loop_rule (fun ρ => v8a_ok ρ) (loopAt_sub (by kernel_rfl)) py6_obs ?_⟩
  simp only [py6_1, py6_2, py6_3, py6_4, py6_5, py6_6, and_imp, List.forall_mem_cons, List.not_mem_nil, false_implies, implies_true, and_true, Ob.ok, holds, Eqn.ok, evB_eq, evB_lt, evB_le, evB_not, evB_and, evB_or, evB_eqL, evB_app, evB_v, evB_c, ev_sel, ev_len, ev_v, ev_c, ev_add, ev_sub, ev_mul, ev_quo, ev_rem, ev_bits, ev_wrap, evL_v, evL_lit, evL_app, ev_app, evA_l, evA_i, evA_nil, std_min, std_max, std_cat, std_take, std_drop, std_row, std_set, std_rep, std_find, std_put, std_del, std_flag, std_unflag, std_clr, std_left, std_copy, std_cnt, std_catS, std_lenS, std_atS, std_subS, std_ofB, std_snd, std_rcv, ints_cons, ints_nil, ofNat_lit, negSucc_lit, decide_eq_true_eq, Bool.and_eq_true, Bool.or_eq_true, Bool.not_eq_true', Bool.and_eq_false_iff, Bool.or_eq_false_iff, decide_eq_false_iff_not, aI100, aI101, aL110, aL111, aL112, aL113, aL114, aL115, aL116, aL117, aL118, aB130, aB131, aB132, aB133, aB134, aB135, aB136, aB137, aB138, aB199, Bool.not_eq_false', aI102, aL119, aL120, aB139, aB140, aB141, aB142, aB143, aB144, aB145, std_rowN, std_setN, nat3]
  repeat' apply And.intro
  all_goals intro ρ hR
  all_goals intros
  all_goals first
    | (omega)
    | (exact ⟨by omega, by omega⟩)
theorem v9_ok (ρ : Env) : TblOK Φ ρ Try.prog v9 := addLp_ok (addFn_ok (t7_ok ρ) rNew_ok) py6_ok
def lPlays0_1 : SL := .app 5 (.i (.v 0) .nil)
def lPlays0_2 : SB := .eq (.len lPlays0_1) (.v 0)
def lPlays0_3 : SB := .le (.v 0) (.c 8)
def lPlays0_4 : SB := .le (.c 1) (.v 0)
def lPlays0_5 : SA := .l lPlays0_1 (.i (.c 0) .nil)
def lPlays0_6 : List SB := [.app 130 (.l lPlays0_1 (.l (.lit []) .nil)), .app 136 (.l (.v 1000) .nil), lPlays0_2, .eq (.len (.v 1000)) (.v 0), lPlays0_3, lPlays0_4]
def lPlays0_7 : List Eqn := [.T (.c false)]
set_option maxRecDepth 100000 in
theorem lPlays0_obs : callObs Φ Try.prog v9 1000 lPlays0.f lPlays0.vs lPlays0.o lPlays0.pc lPlays0.outs = some
  [⟨[lPlays0_2, lPlays0_3, lPlays0_4, .or (.lt (.v 0) (.c 1)) (.lt (.c 8) (.v 0))], [.T (.app 199 .nil)]⟩, ⟨.not (.app 139 lPlays0_5) :: lPlays0_6, lPlays0_7⟩, ⟨.not (.app 145 lPlays0_5) :: lPlays0_6, lPlays0_7⟩] := by kernel_rfl
theorem lPlays0_ok : lPlays0.ok Φ Try.prog := by
  refine call_rule (fun ρ => v9_ok ρ) lPlays0_obs ?_
  simp only [lPlays0_1, lPlays0_2, lPlays0_3, lPlays0_4, lPlays0_5, lPlays0_6, lPlays0_7, and_imp, List.forall_mem_cons, List.not_mem_nil, false_implies, implies_true, and_true, Ob.ok, holds, Eqn.ok, evB_eq, evB_lt, evB_le, evB_not, evB_and, evB_or, evB_eqL, evB_app, evB_v, evB_c, ev_sel, ev_len, ev_v, ev_c, ev_add, ev_sub, ev_mul, ev_quo, ev_rem, ev_bits, ev_wrap, evL_v, evL_lit, evL_app, ev_app, evA_l, evA_i, evA_nil, std_min, std_max, std_cat, std_take, std_drop, std_row, std_set, std_rep, std_find, std_put, std_del, std_flag, std_unflag, std_clr, std_left, std_copy, std_cnt, std_catS, std_lenS, std_atS, std_subS, std_ofB, std_snd, std_rcv, ints_cons, ints_nil, ofNat_lit, negSucc_lit, decide_eq_true_eq, Bool.and_eq_true, Bool.or_eq_true, Bool.not_eq_true', Bool.and_eq_false_iff, Bool.or_eq_false_iff, decide_eq_false_iff_not, aI100, aI101, aL110, aL111, aL112, aL113, aL114, aL115, aL116, aL117, aL118, aB130, aB131, aB132, aB133, aB134, aB135, aB136, aB137, aB138, aB199, Bool.not_eq_false', aI102, aL119, aL120, aB139, aB140, aB141, aB142, aB143, aB144, aB145, std_rowN, std_setN, nat3]
  repeat' apply And.intro
  all_goals intro ρ hR
  all_goals intros
  all_goals first
    | (exfalso
       omega)
    | (exfalso
       have h : rqB (List.replicate (Int.toNat (ρ.i 0)) []) 0 = false := by with_reducible assumption
       rw [rq_nil] at h
       cases h)
    | (exfalso
       have h : lowB (List.replicate (Int.toNat (ρ.i 0)) []) 0 = false := by with_reducible assumption
       rw [rq_low (rq_nil _ 0)] at h
       cases h)
theorem lPlays_ok : lPlays.ok Φ Try.prog := never_drop rfl rfl lPlays0_ok
end Go.SF.C15
