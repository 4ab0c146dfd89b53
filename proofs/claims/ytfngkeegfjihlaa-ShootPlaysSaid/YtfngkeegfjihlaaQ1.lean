/- Chapter 15: the package shoot does what its contracts say. -/
import Derived.Test.YtfngkeegfjihlaaC1
import Derived.Test.YtfngkeegfjihlaaP4
import Derived.KernelRfl
namespace Go.SF.C15
open Go Go.SF Go.Proofs
set_option linter.unusedVariables false
set_option linter.unusedSimpArgs false

set_option maxRecDepth 100000 in
theorem nw0_obs : loopObs Φ Try.prog noTbl 1000 nw0.f (loopAt Try.prog nw0.f nw0.id) nw0.n nw0.T k0 nw0.outs = some
  [{pc := [.eq (.len (.app 6 (.l (.v 0) (.i (.v 1000) .nil)))) (.c 0), .le (.c 1) (.v 1000), .lt (.v 1) (.v 0), .le (.v 0) (.c 8), .le (.c 0) (.v 1), .le (.v 1) (.v 0), .eq (.len (.v 0)) (.v 1), .c true, .app 136 (.l (.v 0) .nil)], eqs := [.T (.lt (.sub (.v 0) (.add (.v 1) (.c 1))) (.sub (.v 0) (.v 1))), .T (.lt (.c 0) (.sub (.v 0) (.v 1))), .T (.app 136 (.l (.app 0 (.l (.v 0) (.l (.app 3 (.i (.v 1000) .nil)) .nil))) .nil))]}] := by kernel_rfl
theorem nw0_ok : nw0.ok Φ Try.prog := by
  refine ⟨by kernel_rfl, loop_rule (fun ρ => noTbl_ok) (loopAt_sub (by kernel_rfl)) nw0_obs ?_⟩
  simp only [and_imp, List.forall_mem_cons, List.not_mem_nil, false_implies, implies_true, and_true, Ob.ok, holds, Eqn.ok, evB_eq, evB_lt, evB_le, evB_not, evB_and, evB_or, evB_eqL, evB_app, evB_v, evB_c, ev_sel, ev_len, ev_v, ev_c, ev_add, ev_sub, ev_mul, ev_quo, ev_rem, ev_bits, ev_wrap, evL_v, evL_lit, evL_app, ev_app, evA_l, evA_i, evA_nil, std_min, std_max, std_cat, std_take, std_drop, std_row, std_set, std_rep, std_find, std_put, std_del, std_flag, std_unflag, std_clr, std_left, std_copy, std_cnt, std_catS, std_lenS, std_atS, std_subS, std_ofB, std_snd, std_rcv, ints_cons, ints_nil, ofNat_lit, negSucc_lit, decide_eq_true_eq, Bool.and_eq_true, Bool.or_eq_true, Bool.not_eq_true', Bool.and_eq_false_iff, Bool.or_eq_false_iff, decide_eq_false_iff_not, aI100, aI101, aL110, aL111, aL112, aL113, aL114, aL115, aL116, aL117, aL118, aB130, aB131, aB132, aB133, aB134, aB135, aB136, aB137, aB138, aB199, Bool.not_eq_false']
  repeat' apply And.intro
  all_goals intro ρ hR
  all_goals intros
  all_goals first
    | (omega)
    | (have hn : okB (ρ.l 0) = true := by with_reducible assumption
       exact ⟨by omega, by omega, ok_more hn rfl (by omega) (by with_reducible assumption)⟩)
theorem t1_ok (ρ : Env) : TblOK Φ ρ Try.prog t1 := addLp_ok noTbl_ok nw0_ok
def cNew_1 : SB := .app 136 (.l (.app 3 (.i (.v 1000) .nil)) .nil)
def cNew_2 : List SB := [.le (.c 1) (.v 1000), .not (.lt (.c 8) (.v 0)), .not (.lt (.v 0) (.c 1))]
def cNew_3 : SL := .app 5 (.i (.v 0) .nil)
set_option maxRecDepth 100000 in
theorem cNew_obs : callObs Φ Try.prog t1 1000 cNew.f cNew.vs cNew.o cNew.pc cNew.outs = some
  [⟨.app 136 (.l (.v 1001) .nil) :: .eq (.len (.v 1001)) (.v 0) :: cNew_1 :: cNew_2, [.T (.eq (.len cNew_3) (.v 0)), .T (.app 130 (.l cNew_3 (.l (.lit []) .nil))), .L (.app 115 (.l (.v 1001) (.l cNew_3 .nil))) (.v 1001)]⟩, ⟨.not cNew_1 :: cNew_2, [.T (.c false)]⟩] := by kernel_rfl
theorem cNew_ok : cNew.ok Φ Try.prog := by
  refine call_rule (fun ρ => t1_ok ρ) cNew_obs ?_
  simp only [cNew_1, cNew_2, cNew_3, and_imp, List.forall_mem_cons, List.not_mem_nil, false_implies, implies_true, and_true, Ob.ok, holds, Eqn.ok, evB_eq, evB_lt, evB_le, evB_not, evB_and, evB_or, evB_eqL, evB_app, evB_v, evB_c, ev_sel, ev_len, ev_v, ev_c, ev_add, ev_sub, ev_mul, ev_quo, ev_rem, ev_bits, ev_wrap, evL_v, evL_lit, evL_app, ev_app, evA_l, evA_i, evA_nil, std_min, std_max, std_cat, std_take, std_drop, std_row, std_set, std_rep, std_find, std_put, std_del, std_flag, std_unflag, std_clr, std_left, std_copy, std_cnt, std_catS, std_lenS, std_atS, std_subS, std_ofB, std_snd, std_rcv, ints_cons, ints_nil, ofNat_lit, negSucc_lit, decide_eq_true_eq, Bool.and_eq_true, Bool.or_eq_true, Bool.not_eq_true', Bool.and_eq_false_iff, Bool.or_eq_false_iff, decide_eq_false_iff_not, aI100, aI101, aL110, aL111, aL112, aL113, aL114, aL115, aL116, aL117, aL118, aB130, aB131, aB132, aB133, aB134, aB135, aB136, aB137, aB138, aB199, Bool.not_eq_false']
  repeat' apply And.intro
  all_goals intro ρ hR
  all_goals intros
  all_goals first
    | (exfalso
       exact Bool.false_ne_true (‹okB _ = false›.symm.trans (ok_one _)))
    | (exact ⟨nilQ_len (by omega), stQ_nil _, lay_nil (by with_reducible assumption) (by omega)⟩)
def cHas_1 : SB := .le (.c 0) (.v 0)
def cHas_2 : SI := .len (.v 0)
def cHas_3 : List SB := [.le (.c 1) cHas_2, .le cHas_2 (.c 8), .le (.len (.v 2)) (.c 1000)]
def cHas_4 : SB := .lt (.v 0) cHas_2
def cHas_5 : SB := .and cHas_1 cHas_4
set_option maxRecDepth 100000 in
theorem cHas_obs : callObs Φ Try.prog t1 1000 cHas.f cHas.vs cHas.o cHas.pc cHas.outs = some
  [⟨cHas_1 :: cHas_3, [.B cHas_5 cHas_4]⟩, ⟨.not cHas_1 :: cHas_3, [.B cHas_5 (.c false)]⟩] := by kernel_rfl
theorem cHas_ok : cHas.ok Φ Try.prog := by
  refine call_rule (fun ρ => t1_ok ρ) cHas_obs ?_
  simp only [cHas_1, cHas_2, cHas_3, cHas_4, cHas_5, and_imp, List.forall_mem_cons, List.not_mem_nil, false_implies, implies_true, and_true, Ob.ok, holds, Eqn.ok, evB_eq, evB_lt, evB_le, evB_not, evB_and, evB_or, evB_eqL, evB_app, evB_v, evB_c, ev_sel, ev_len, ev_v, ev_c, ev_add, ev_sub, ev_mul, ev_quo, ev_rem, ev_bits, ev_wrap, evL_v, evL_lit, evL_app, ev_app, evA_l, evA_i, evA_nil, std_min, std_max, std_cat, std_take, std_drop, std_row, std_set, std_rep, std_find, std_put, std_del, std_flag, std_unflag, std_clr, std_left, std_copy, std_cnt, std_catS, std_lenS, std_atS, std_subS, std_ofB, std_snd, std_rcv, ints_cons, ints_nil, ofNat_lit, negSucc_lit, decide_eq_true_eq, Bool.and_eq_true, Bool.or_eq_true, Bool.not_eq_true', Bool.and_eq_false_iff, Bool.or_eq_false_iff, decide_eq_false_iff_not, aI100, aI101, aL110, aL111, aL112, aL113, aL114, aL115, aL116, aL117, aL118, aB130, aB131, aB132, aB133, aB134, aB135, aB136, aB137, aB138, aB199, Bool.not_eq_false']
  repeat' apply And.intro
  all_goals intro ρ hR
  all_goals intros
  all_goals first
    | (rw [Bool.eq_iff_iff]
       simp only [Bool.and_eq_true, decide_eq_true_eq]
       omega)
    | (omega)
theorem t2_ok (ρ : Env) : TblOK Φ ρ Try.prog t2 := addFn_ok (t1_ok ρ) cHas_ok
def cOth_1 : SI := .len (.v 0)
def cOth_2 : SL := .app 1 (.l (.v 0) (.i (.v 0) .nil))
def cOth_3 : SL := .app 2 (.l (.v 0) (.i (.add (.v 0) (.c 1)) .nil))
def cOth_4 : SI := .len (.app 0 (.l cOth_2 (.l cOth_3 .nil)))
set_option maxRecDepth 100000 in
theorem cOth_obs : callObs Φ Try.prog t2 1000 cOth.f cOth.vs cOth.o cOth.pc cOth.outs = some
  [⟨[.le (.c 1) cOth_1, .le cOth_1 (.c 8), .le (.len (.v 2)) (.c 1000), .le (.c 0) (.v 0), .lt (.v 0) cOth_1], [.T (.eq cOth_4 (.sub cOth_1 (.c 1))), .I cOth_4 (.add (.len cOth_2) (.len cOth_3))]⟩] := by kernel_rfl
theorem cOth_ok : cOth.ok Φ Try.prog := by
  refine call_rule (fun ρ => t2_ok ρ) cOth_obs ?_
  simp only [cOth_1, cOth_2, cOth_3, cOth_4, and_imp, List.forall_mem_cons, List.not_mem_nil, false_implies, implies_true, and_true, Ob.ok, holds, Eqn.ok, evB_eq, evB_lt, evB_le, evB_not, evB_and, evB_or, evB_eqL, evB_app, evB_v, evB_c, ev_sel, ev_len, ev_v, ev_c, ev_add, ev_sub, ev_mul, ev_quo, ev_rem, ev_bits, ev_wrap, evL_v, evL_lit, evL_app, ev_app, evA_l, evA_i, evA_nil, std_min, std_max, std_cat, std_take, std_drop, std_row, std_set, std_rep, std_find, std_put, std_del, std_flag, std_unflag, std_clr, std_left, std_copy, std_cnt, std_catS, std_lenS, std_atS, std_subS, std_ofB, std_snd, std_rcv, ints_cons, ints_nil, ofNat_lit, negSucc_lit, decide_eq_true_eq, Bool.and_eq_true, Bool.or_eq_true, Bool.not_eq_true', Bool.and_eq_false_iff, Bool.or_eq_false_iff, decide_eq_false_iff_not, aI100, aI101, aL110, aL111, aL112, aL113, aL114, aL115, aL116, aL117, aL118, aB130, aB131, aB132, aB133, aB134, aB135, aB136, aB137, aB138, aB199, Bool.not_eq_false']
  repeat' apply And.intro
  all_goals intro ρ hR
  all_goals intros
  all_goals first
    | (have e := oth_len (B := ρ.l 0) (c := ρ.i 0) (by omega) (by omega)
       unfold othT at e
       rw [List.length_append] at *
       exact ⟨by omega, by omega⟩)
theorem t3_ok (ρ : Env) : TblOK Φ ρ Try.prog t3 := addFn_ok (t2_ok ρ) cOth_ok
def po1_1 : SI := .sel (.v 4) (.v 3) 0
def po1_2 : SB := .eq (.app 2 (.l (.v 1) (.i po1_1 (.i (.c 3) .nil)))) (.c 16)
def po1_3 : SB := .lt (.c 0) (.len (.app 6 (.l (.v 1) (.i po1_1 .nil))))
def po1_4 : SI := .len (.v 4)
def po1_5 : SB := .lt (.v 3) po1_4
def po1_6 : SI := .len (.v 0)
def po1_7 : List SB := [.le (.c 1) po1_6, .le po1_6 (.c 8), .le (.len (.v 2)) (.c 1000), .le po1_4 (.c 8), .le (.c 0) (.v 3), .le (.v 3) po1_4, .c true, .app 132 (.l (.v 4) (.l (.v 1) .nil))]
def po1_8 : List SB := .le (.c 0) po1_1 :: po1_5 :: po1_7
def po1_9 : List SB := po1_3 :: po1_8
def po1_10 : SB := .app 133 (.l (.v 4) (.l (.v 1) (.i (.v 3) .nil)))
def po1_11 : List Eqn := [.T po1_10]
def po1_12 : List SB := .not po1_2 :: po1_9
def po1_13 : SI := .add (.v 3) (.c 1)
def po1_14 : SI := .sub po1_4 (.v 3)
def po1_15 : SB := .app 133 (.l (.v 4) (.l (.v 1) (.i po1_13 .nil)))
def po1_16 : List Eqn := [.T (.not po1_10)]
set_option maxRecDepth 100000 in
theorem po1_obs : loopObs Φ Try.prog t3 1000 po1.f (loopAt Try.prog po1.f po1.id) po1.n po1.T k1 po1.outs = some
  [⟨po1_2 :: po1_9, po1_11⟩, ⟨po1_12, [.T (.lt (.sub po1_4 po1_13) po1_14), .T (.lt (.c 0) po1_14)]⟩, ⟨.not po1_15 :: po1_12, po1_16⟩, ⟨po1_15 :: po1_12, po1_11⟩, ⟨.not po1_3 :: po1_8, [.T (.c false)]⟩, ⟨.not po1_5 :: po1_7, po1_16⟩] := by kernel_rfl
theorem po1_ok : po1.ok Φ Try.prog := by
  refine ⟨by kernel_rfl, loop_rule (fun ρ => t3_ok ρ) (loopAt_sub (by kernel_rfl)) po1_obs ?_⟩
  simp only [po1_1, po1_2, po1_3, po1_4, po1_5, po1_6, po1_7, po1_8, po1_9, po1_10, po1_11, po1_12, po1_13, po1_14, po1_15, po1_16, and_imp, List.forall_mem_cons, List.not_mem_nil, false_implies, implies_true, and_true, Ob.ok, holds, Eqn.ok, evB_eq, evB_lt, evB_le, evB_not, evB_and, evB_or, evB_eqL, evB_app, evB_v, evB_c, ev_sel, ev_len, ev_v, ev_c, ev_add, ev_sub, ev_mul, ev_quo, ev_rem, ev_bits, ev_wrap, evL_v, evL_lit, evL_app, ev_app, evA_l, evA_i, evA_nil, std_min, std_max, std_cat, std_take, std_drop, std_row, std_set, std_rep, std_find, std_put, std_del, std_flag, std_unflag, std_clr, std_left, std_copy, std_cnt, std_catS, std_lenS, std_atS, std_subS, std_ofB, std_snd, std_rcv, ints_cons, ints_nil, ofNat_lit, negSucc_lit, decide_eq_true_eq, Bool.and_eq_true, Bool.or_eq_true, Bool.not_eq_true', Bool.and_eq_false_iff, Bool.or_eq_false_iff, decide_eq_false_iff_not, aI100, aI101, aL110, aL111, aL112, aL113, aL114, aL115, aL116, aL117, aL118, aB130, aB131, aB132, aB133, aB134, aB135, aB136, aB137, aB138, aB199, Bool.not_eq_false']
  repeat' apply And.intro
  all_goals intro ρ hR
  all_goals intros
  all_goals first
    | (exact ⟨by omega, by omega⟩)
    | (exact any_hit (by omega) (by omega) (by omega))
    | (rw [any_step (by omega) (by omega) (by omega)]
       with_reducible assumption)
    | (exact any_end (by omega))
    | (have e := sub_at (L := ρ.l 4) (M := ρ.l 1) (i := ρ.i 3) (by with_reducible assumption) (by omega) (by omega)
       exfalso
       omega)
def po2_1 : SI := .sel (.v 4) (.v 3) 0
def po2_2 : SB := .lt (.app 2 (.l (.v 1) (.i po2_1 (.i (.c 3) .nil)))) (.c 16)
def po2_3 : SB := .lt (.c 0) (.len (.app 6 (.l (.v 1) (.i po2_1 .nil))))
def po2_4 : SI := .len (.v 4)
def po2_5 : SB := .lt (.v 3) po2_4
def po2_6 : List SB := [.le po2_4 (.c 8), .le (.c 0) (.v 3), .le (.v 3) po2_4, .c true, .app 134 (.l (.v 4) (.l (.v 1) (.i (.v 3) .nil)))]
def po2_7 : List SB := .le (.c 0) po2_1 :: po2_5 :: po2_6
def po2_8 : List SB := po2_3 :: po2_7
def po2_9 : List SB := po2_2 :: po2_8
def po2_10 : SI := .add (.v 3) (.c 1)
def po2_11 : SI := .sub po2_4 (.v 3)
def po2_12 : SA := .i (.v 5) (.i (.v 1) (.i (.v 2) .nil))
def po2_13 : SL := .app 16 (.l (.v 1) (.i po2_1 po2_12))
def po2_14 : SL := .app 114 (.l (.v 4) (.l (.v 1) (.i (.v 3) po2_12)))
def po2_15 : List Eqn := [.T (.c false)]
set_option maxRecDepth 100000 in
theorem po2_obs : loopObs Φ Try.prog t3 1000 po2.f (loopAt Try.prog po2.f po2.id) po2.n po2.T k1 po2.outs = some
  [⟨po2_9, [.T (.lt (.sub po2_4 po2_10) po2_11), .T (.lt (.c 0) po2_11), .T (.app 134 (.l (.v 4) (.l po2_13 (.i po2_10 .nil))))]⟩, ⟨po2_9, [.L po2_14 (.app 114 (.l (.v 4) (.l po2_13 (.i po2_10 po2_12))))]⟩, ⟨.not po2_2 :: po2_8, po2_15⟩, ⟨.not po2_3 :: po2_7, po2_15⟩, ⟨.not po2_5 :: po2_6, [.L po2_14 (.v 1)]⟩] := by kernel_rfl
theorem po2_ok : po2.ok Φ Try.prog := by
  refine ⟨by kernel_rfl, loop_rule (fun ρ => t3_ok ρ) (loopAt_sub (by kernel_rfl)) po2_obs ?_⟩
  simp only [po2_1, po2_2, po2_3, po2_4, po2_5, po2_6, po2_7, po2_8, po2_9, po2_10, po2_11, po2_12, po2_13, po2_14, po2_15, and_imp, List.forall_mem_cons, List.not_mem_nil, false_implies, implies_true, and_true, Ob.ok, holds, Eqn.ok, evB_eq, evB_lt, evB_le, evB_not, evB_and, evB_or, evB_eqL, evB_app, evB_v, evB_c, ev_sel, ev_len, ev_v, ev_c, ev_add, ev_sub, ev_mul, ev_quo, ev_rem, ev_bits, ev_wrap, evL_v, evL_lit, evL_app, ev_app, evA_l, evA_i, evA_nil, std_min, std_max, std_cat, std_take, std_drop, std_row, std_set, std_rep, std_find, std_put, std_del, std_flag, std_unflag, std_clr, std_left, std_copy, std_cnt, std_catS, std_lenS, std_atS, std_subS, std_ofB, std_snd, std_rcv, ints_cons, ints_nil, ofNat_lit, negSucc_lit, decide_eq_true_eq, Bool.and_eq_true, Bool.or_eq_true, Bool.not_eq_true', Bool.and_eq_false_iff, Bool.or_eq_false_iff, decide_eq_false_iff_not, aI100, aI101, aL110, aL111, aL112, aL113, aL114, aL115, aL116, aL117, aL118, aB130, aB131, aB132, aB133, aB134, aB135, aB136, aB137, aB138, aB199, Bool.not_eq_false']
  repeat' apply And.intro
  all_goals intro ρ hR
  all_goals intros
  all_goals first
    | (have hb : sendB (ρ.l 4) (ρ.l 1) (ρ.i 3) = true := by with_reducible assumption
       have e := send_on (cs := [ρ.i 5, ρ.i 1, ρ.i 2]) hb (by omega) (by omega)
       exact ⟨by omega, by omega, e⟩)
    | (exact send_step (by omega) (by omega))
    | (exact send_end (by omega))
    | (have hb : sendB (ρ.l 4) (ρ.l 1) (ρ.i 3) = true := by with_reducible assumption
       have e := send_at hb (by omega) (by omega)
       exfalso
       omega)
theorem t4_ok (ρ : Env) : TblOK Φ ρ Try.prog t4 := addLp_ok (addLp_ok (t3_ok ρ) po1_ok) po2_ok
def cPost_1 : SA := .i (.v 0) .nil
def cPost_2 : SL := .app 1 (.l (.v 0) cPost_1)
def cPost_3 : SL := .app 2 (.l (.v 0) (.i (.add (.v 0) (.c 1)) .nil))
def cPost_4 : SL := .app 0 (.l cPost_2 (.l cPost_3 .nil))
def cPost_5 : SL := .app 115 (.l (.v 0) (.l (.v 1) .nil))
def cPost_6 : SA := .l cPost_4 (.l cPost_5 (.i (.c 0) .nil))
def cPost_7 : SB := .app 134 cPost_6
def cPost_8 : SB := .app 133 cPost_6
def cPost_9 : SB := .app 132 (.l cPost_4 (.l cPost_5 .nil))
def cPost_10 : SI := .add (.len cPost_2) (.len cPost_3)
def cPost_11 : SI := .len (.v 0)
def cPost_12 : SI := .len (.v 2)
def cPost_13 : SI := .len (.v 1)
def cPost_14 : List SB := [.eq cPost_10 (.sub cPost_11 (.c 1)), .not (.le (.c 65536) (.v 2)), .not (.lt (.v 2) (.c (.negSucc 0))), .not (.lt (.c 16) (.v 1)), .not (.lt (.v 1) (.c 1)), .lt (.v 0) cPost_11, .le (.c 0) (.v 0), .le (.c 1) cPost_11, .le cPost_11 (.c 8), .le cPost_12 (.c 1000), .eq cPost_13 cPost_11, .c true, .app 136 (.l (.v 0) .nil), .app 130 (.l (.v 1) (.l (.v 2) .nil))]
def cPost_15 : List SB := cPost_9 :: cPost_14
def cPost_16 : List SB := .not cPost_8 :: cPost_15
def cPost_17 : SB := .app 131 (.l (.v 1) cPost_1)
def cPost_18 : SI := .add cPost_12 (.c 1)
def cPost_19 : SA := .i cPost_18 (.i (.v 1) (.i (.v 2) .nil))
def cPost_20 : SL := .app 110 (.l (.v 1) (.i (.v 0) cPost_19))
def cPost_21 : SL := .app 0 (.l (.v 2) (.l (.app 3 (.i (.sub cPost_13 (.c 1)) .nil)) .nil))
def cPost_22 : List Eqn := [.T (.c false)]
set_option maxRecDepth 100000 in
theorem cPost_obs : callObs Φ Try.prog t4 1000 cPost.f cPost.vs cPost.o cPost.pc cPost.outs = some
  [⟨cPost_7 :: cPost_16, [.T (.not cPost_17), .T (.eq (.len cPost_20) cPost_11), .T (.app 130 (.l cPost_20 (.l cPost_21 .nil))), .I (.len cPost_21) cPost_18, .L (.app 115 (.l (.v 0) (.l cPost_20 .nil))) (.app 114 (.l cPost_4 (.l cPost_5 (.i (.c 0) cPost_19)))), .L cPost_21 (.app 0 (.l (.v 2) (.l (.app 3 (.i cPost_10 .nil)) .nil)))]⟩, ⟨.not cPost_7 :: cPost_16, cPost_22⟩, ⟨cPost_8 :: cPost_15, [.T cPost_17]⟩, ⟨.not cPost_9 :: cPost_14, cPost_22⟩] := by kernel_rfl
theorem cPost_ok : cPost.ok Φ Try.prog := by
  refine call_rule (fun ρ => t4_ok ρ) cPost_obs ?_
  simp only [cPost_1, cPost_2, cPost_3, cPost_4, cPost_5, cPost_6, cPost_7, cPost_8, cPost_9, cPost_10, cPost_11, cPost_12, cPost_13, cPost_14, cPost_15, cPost_16, cPost_17, cPost_18, cPost_19, cPost_20, cPost_21, cPost_22, and_imp, List.forall_mem_cons, List.not_mem_nil, false_implies, implies_true, and_true, Ob.ok, holds, Eqn.ok, evB_eq, evB_lt, evB_le, evB_not, evB_and, evB_or, evB_eqL, evB_app, evB_v, evB_c, ev_sel, ev_len, ev_v, ev_c, ev_add, ev_sub, ev_mul, ev_quo, ev_rem, ev_bits, ev_wrap, evL_v, evL_lit, evL_app, ev_app, evA_l, evA_i, evA_nil, std_min, std_max, std_cat, std_take, std_drop, std_row, std_set, std_rep, std_find, std_put, std_del, std_flag, std_unflag, std_clr, std_left, std_copy, std_cnt, std_catS, std_lenS, std_atS, std_subS, std_ofB, std_snd, std_rcv, ints_cons, ints_nil, ofNat_lit, negSucc_lit, decide_eq_true_eq, Bool.and_eq_true, Bool.or_eq_true, Bool.not_eq_true', Bool.and_eq_false_iff, Bool.or_eq_false_iff, decide_eq_false_iff_not, aI100, aI101, aL110, aL111, aL112, aL113, aL114, aL115, aL116, aL117, aL118, aB130, aB131, aB132, aB133, aB134, aB135, aB136, aB137, aB138, aB199, Bool.not_eq_false']
  repeat' apply And.intro
  all_goals intro ρ hR
  all_goals intros
  all_goals first
    | (have hB : okB (ρ.l 0) = true := by with_reducible assumption
       have hs : stQ (ρ.l 1) (ρ.l 2) = true := by with_reducible assumption
       have hl : (ρ.l 1).length = (ρ.l 0).length := by omega
       have h := (st_lay hB hl).2 hs
       have hlM := lay_len hl
       have ea0 : anyF ((ρ.l 0).take (ρ.i 0).toNat ++ (ρ.l 0).drop (ρ.i 0 + 1).toNat) (layT (ρ.l 0) (ρ.l 1)) 0 = false := by with_reducible assumption
       have ea : anyF (othT (ρ.l 0) (ρ.i 0)) (layT (ρ.l 0) (ρ.l 1)) 0 = false := ea0
       rw [oth_any h (c := ρ.i 0) (by omega) (by omega), lay_full hB hl (by omega) (by omega)] at ea
       have eb : (((ρ.l 0).take (ρ.i 0).toNat).length : Int) + ((ρ.l 0).drop (ρ.i 0 + 1).toNat).length = (ρ.l 1).length - 1 := by omega
       have ef : fullB (layT (ρ.l 0) (ρ.l 1)) (ρ.i 0) = false := by rw [lay_full hB hl (by omega) (by omega)]; exact ea
       have ep := st_post h (t := ρ.i 1) (p := ρ.i 2) (c := ρ.i 0) (by omega) (by omega) ef (k := ((ρ.l 1).length : Int) - 1) (by omega)
       rw [lay_post hB hl (by omega) (by omega)] at ep
       have ep := (st_lay hB (by rw [postQ_len, hl])).1 (st_iff.1 ep)
       have eq := (oth_post h (id := ((ρ.l 2).length : Int) + 1) (t := ρ.i 1) (p := ρ.i 2) (c := ρ.i 0) (by omega) (by omega)).symm
       rw [lay_post hB hl (by omega) (by omega)] at eq
       rw [eb]
       exact ⟨ea, by rw [postQ_len]; omega, ep, by simp, eq, rfl⟩)
    | (have hB : okB (ρ.l 0) = true := by with_reducible assumption
       have hs : stQ (ρ.l 1) (ρ.l 2) = true := by with_reducible assumption
       have hl : (ρ.l 1).length = (ρ.l 0).length := by omega
       have h := (st_lay hB hl).2 hs
       have hlM := lay_len hl
       have ea0 : anyF ((ρ.l 0).take (ρ.i 0).toNat ++ (ρ.l 0).drop (ρ.i 0 + 1).toNat) (layT (ρ.l 0) (ρ.l 1)) 0 = false := by with_reducible assumption
       have ea : anyF (othT (ρ.l 0) (ρ.i 0)) (layT (ρ.l 0) (ρ.l 1)) 0 = false := ea0
       rw [oth_any h (c := ρ.i 0) (by omega) (by omega), lay_full hB hl (by omega) (by omega)] at ea
       exfalso
       have ef : fullB (layT (ρ.l 0) (ρ.l 1)) (ρ.i 0) = false := by rw [lay_full hB hl (by omega) (by omega)]; exact ea
       have e2 : sendB ((ρ.l 0).take (ρ.i 0).toNat ++ (ρ.l 0).drop (ρ.i 0 + 1).toNat) (layT (ρ.l 0) (ρ.l 1)) 0 = false := by with_reducible assumption
       exact Bool.false_ne_true (e2.symm.trans (oth_send h (by omega) (by omega) ef)))
    | (have hB : okB (ρ.l 0) = true := by with_reducible assumption
       have hs : stQ (ρ.l 1) (ρ.l 2) = true := by with_reducible assumption
       have hl : (ρ.l 1).length = (ρ.l 0).length := by omega
       have h := (st_lay hB hl).2 hs
       have hlM := lay_len hl
       have ea0 : anyF ((ρ.l 0).take (ρ.i 0).toNat ++ (ρ.l 0).drop (ρ.i 0 + 1).toNat) (layT (ρ.l 0) (ρ.l 1)) 0 = true := by with_reducible assumption
       have ea : anyF (othT (ρ.l 0) (ρ.i 0)) (layT (ρ.l 0) (ρ.l 1)) 0 = true := ea0
       rw [oth_any h (c := ρ.i 0) (by omega) (by omega), lay_full hB hl (by omega) (by omega)] at ea
       exact ea)
    | (have hB : okB (ρ.l 0) = true := by with_reducible assumption
       have hs : stQ (ρ.l 1) (ρ.l 2) = true := by with_reducible assumption
       have hl : (ρ.l 1).length = (ρ.l 0).length := by omega
       have h := (st_lay hB hl).2 hs
       have hlM := lay_len hl
       exfalso
       have e2 : subB ((ρ.l 0).take (ρ.i 0).toNat ++ (ρ.l 0).drop (ρ.i 0 + 1).toNat) (layT (ρ.l 0) (ρ.l 1)) = false := by with_reducible assumption
       exact Bool.false_ne_true (e2.symm.trans (oth_sub h (by omega) (by omega))))
def op0_1 : SB := .lt (.c 0) (.sel (.v 2) (.v 1) 0)
def op0_2 : SI := .len (.v 2)
def op0_3 : SB := .lt (.v 1) op0_2
def op0_4 : SI := .len (.v 4)
def op0_5 : List SB := [.le op0_2 (.c 1000), .le (.c 0) (.v 1), .le (.v 1) op0_2, .le op0_4 (.v 1)]
def op0_6 : List SB := op0_3 :: op0_5
def op0_7 : List SB := op0_1 :: op0_6
def op0_8 : SI := .add (.v 1) (.c 1)
def op0_9 : SI := .sub op0_2 (.v 1)
def op0_10 : List Eqn := [.T (.lt (.sub op0_2 op0_8) op0_9), .T (.lt (.c 0) op0_9)]
def op0_11 : SA := .i op0_8 .nil
def op0_12 : SL := .app 113 (.l (.v 2) op0_11)
def op0_13 : SI := .len op0_12
def op0_14 : SI := .add (.add op0_4 (.c 1)) op0_13
def op0_15 : SL := .app 0 (.l (.v 4) (.l (.app 113 (.l (.v 2) (.i (.v 1) .nil))) .nil))
def op0_16 : SI := .len op0_15
def op0_17 : Eqn := .T (.le op0_16 op0_2)
def op0_18 : SA := .l op0_12 .nil
def op0_19 : List SB := .not op0_1 :: op0_6
def op0_20 : SI := .add op0_4 op0_13
set_option maxRecDepth 100000 in
theorem op0_obs : loopObs Φ Try.prog t4 1000 op0.f (loopAt Try.prog op0.f op0.id) op0.n op0.T k2 op0.outs = some
  [⟨op0_7, op0_10⟩, ⟨.le op0_14 op0_2 :: op0_7, [op0_17, .I op0_16 op0_14, .L op0_15 (.app 0 (.l (.app 0 (.l (.v 4) (.l (.app 3 op0_11) .nil))) op0_18))]⟩, ⟨op0_19, op0_10⟩, ⟨.le op0_20 op0_2 :: op0_19, [op0_17, .I op0_16 op0_20, .L op0_15 (.app 0 (.l (.v 4) op0_18))]⟩, ⟨.not op0_3 :: op0_5, [op0_17, .I op0_16 op0_4, .L op0_15 (.v 4)]⟩] := by kernel_rfl
theorem op0_ok : op0.ok Φ Try.prog := by
  refine ⟨by kernel_rfl, loop_rule (fun ρ => t4_ok ρ) (loopAt_sub (by kernel_rfl)) op0_obs ?_⟩
  simp only [op0_1, op0_2, op0_3, op0_4, op0_5, op0_6, op0_7, op0_8, op0_9, op0_10, op0_11, op0_12, op0_13, op0_14, op0_15, op0_16, op0_17, op0_18, op0_19, op0_20, and_imp, List.forall_mem_cons, List.not_mem_nil, false_implies, implies_true, and_true, Ob.ok, holds, Eqn.ok, evB_eq, evB_lt, evB_le, evB_not, evB_and, evB_or, evB_eqL, evB_app, evB_v, evB_c, ev_sel, ev_len, ev_v, ev_c, ev_add, ev_sub, ev_mul, ev_quo, ev_rem, ev_bits, ev_wrap, evL_v, evL_lit, evL_app, ev_app, evA_l, evA_i, evA_nil, std_min, std_max, std_cat, std_take, std_drop, std_row, std_set, std_rep, std_find, std_put, std_del, std_flag, std_unflag, std_clr, std_left, std_copy, std_cnt, std_catS, std_lenS, std_atS, std_subS, std_ofB, std_snd, std_rcv, ints_cons, ints_nil, ofNat_lit, negSucc_lit, decide_eq_true_eq, Bool.and_eq_true, Bool.or_eq_true, Bool.not_eq_true', Bool.and_eq_false_iff, Bool.or_eq_false_iff, decide_eq_false_iff_not, aI100, aI101, aL110, aL111, aL112, aL113, aL114, aL115, aL116, aL117, aL118, aB130, aB131, aB132, aB133, aB134, aB135, aB136, aB137, aB138, aB199, Bool.not_eq_false']
  repeat' apply And.intro
  all_goals intro ρ hR
  all_goals intros
  all_goals first
    | (exact ⟨by omega, by omega⟩)
    | (have e := open_step (O := ρ.l 2) (i := ρ.i 1) (by omega) (by omega)
       rw [if_pos (by omega)] at e
       rw [e]
       simp only [List.length_append, List.length_cons, List.length_nil, List.append_assoc, List.cons_append, List.nil_append]
       exact ⟨by omega, by omega, trivial⟩)
    | (have e := open_step (O := ρ.l 2) (i := ρ.i 1) (by omega) (by omega)
       rw [if_neg (by omega)] at e
       rw [e]
       simp only [List.length_append, List.nil_append]
       exact ⟨by omega, by omega, trivial⟩)
    | (have e := open_end (O := ρ.l 2) (i := ρ.i 1) (by omega)
       rw [e, List.append_nil]
       exact ⟨by omega, rfl, rfl⟩)
theorem t5_ok (ρ : Env) : TblOK Φ ρ Try.prog t5 := addLp_ok (t4_ok ρ) op0_ok
def cTake_1 : SL := .app 115 (.l (.v 0) (.l (.v 1) .nil))
def cTake_2 : SI := .sel (.v 0) (.v 0) 0
def cTake_3 : SL := .app 6 (.l cTake_1 (.i cTake_2 .nil))
def cTake_4 : SI := .sel cTake_3 (.c 0) 1
def cTake_5 : SI := .wrap IntKind.i64 (.sub cTake_4 (.c 1))
def cTake_6 : SI := .len (.v 2)
def cTake_7 : SB := .lt cTake_5 cTake_6
def cTake_8 : SB := .le (.c 0) cTake_5
def cTake_9 : SA := .l cTake_1 (.i cTake_2 (.i (.c 3) .nil))
def cTake_10 : SB := .lt (.c 0) (.app 2 cTake_9)
def cTake_11 : SB := .lt (.c 0) (.len cTake_3)
def cTake_12 : SI := .len (.v 0)
def cTake_13 : List SB := [.le (.c 0) cTake_2, .lt (.v 0) cTake_12, .le (.c 0) (.v 0), .le (.c 1) cTake_12, .le cTake_12 (.c 8), .le cTake_6 (.c 1000), .eq (.len (.v 1)) cTake_12, .c true, .app 136 (.l (.v 0) .nil), .app 130 (.l (.v 1) (.l (.v 2) .nil))]
def cTake_14 : List SB := cTake_11 :: cTake_13
def cTake_15 : List SB := cTake_10 :: cTake_14
def cTake_16 : List SB := cTake_8 :: cTake_15
def cTake_17 : SA := .l (.v 1) (.i (.v 0) .nil)
def cTake_18 : SI := .app 100 cTake_17
def cTake_19 : SI := .app 101 (.l (.v 1) (.i (.v 0) (.i (.c 0) .nil)))
def cTake_20 : SL := .app 111 cTake_17
def cTake_21 : SL := .app 112 (.l (.v 2) (.i cTake_19 .nil))
def cTake_22 : SI := .len cTake_21
def cTake_23 : List Eqn := [.T (.c false)]
set_option maxRecDepth 100000 in
theorem cTake_obs : callObs Φ Try.prog t5 1000 cTake.f cTake.vs cTake.o cTake.pc cTake.outs = some
  [⟨cTake_7 :: cTake_16, [.T (.lt (.c 0) cTake_18), .T (.le (.c 1) cTake_19), .T (.le cTake_19 cTake_6), .T (.eq (.len cTake_20) cTake_12), .T (.eq cTake_22 cTake_6), .T (.app 130 (.l cTake_20 (.l cTake_21 .nil))), .I cTake_19 cTake_4, .I (.app 101 (.l (.v 1) (.i (.v 0) (.i (.c 1) .nil)))) (.sel cTake_3 (.c 0) 2), .I (.app 101 (.l (.v 1) (.i (.v 0) (.i (.c 2) .nil)))) (.sel cTake_3 (.c 0) 3), .I cTake_22 cTake_6, .L cTake_21 (.app 4 (.l (.v 2) (.i cTake_5 (.i (.c 0) (.i (.wrap IntKind.i64 (.sub (.sel (.v 2) cTake_5 0) (.c 1))) .nil))))), .L (.app 115 (.l (.v 0) (.l cTake_20 .nil))) (.app 17 cTake_9)]⟩, ⟨.not cTake_7 :: cTake_16, cTake_23⟩, ⟨.not cTake_8 :: cTake_15, cTake_23⟩, ⟨.not cTake_10 :: cTake_14, [.T (.eq cTake_18 (.c 0))]⟩, ⟨.not cTake_11 :: cTake_13, cTake_23⟩] := by kernel_rfl
theorem cTake_ok : cTake.ok Φ Try.prog := by
  refine call_rule (fun ρ => t5_ok ρ) cTake_obs ?_
  simp only [cTake_1, cTake_2, cTake_3, cTake_4, cTake_5, cTake_6, cTake_7, cTake_8, cTake_9, cTake_10, cTake_11, cTake_12, cTake_13, cTake_14, cTake_15, cTake_16, cTake_17, cTake_18, cTake_19, cTake_20, cTake_21, cTake_22, cTake_23, and_imp, List.forall_mem_cons, List.not_mem_nil, false_implies, implies_true, and_true, Ob.ok, holds, Eqn.ok, evB_eq, evB_lt, evB_le, evB_not, evB_and, evB_or, evB_eqL, evB_app, evB_v, evB_c, ev_sel, ev_len, ev_v, ev_c, ev_add, ev_sub, ev_mul, ev_quo, ev_rem, ev_bits, ev_wrap, evL_v, evL_lit, evL_app, ev_app, evA_l, evA_i, evA_nil, std_min, std_max, std_cat, std_take, std_drop, std_row, std_set, std_rep, std_find, std_put, std_del, std_flag, std_unflag, std_clr, std_left, std_copy, std_cnt, std_catS, std_lenS, std_atS, std_subS, std_ofB, std_snd, std_rcv, ints_cons, ints_nil, ofNat_lit, negSucc_lit, decide_eq_true_eq, Bool.and_eq_true, Bool.or_eq_true, Bool.not_eq_true', Bool.and_eq_false_iff, Bool.or_eq_false_iff, decide_eq_false_iff_not, aI100, aI101, aL110, aL111, aL112, aL113, aL114, aL115, aL116, aL117, aL118, aB130, aB131, aB132, aB133, aB134, aB135, aB136, aB137, aB138, aB199, Bool.not_eq_false']
  repeat' apply And.intro
  all_goals intro ρ hR
  all_goals intros
  all_goals first
    | (have hB : okB (ρ.l 0) = true := by with_reducible assumption
       have hs : stQ (ρ.l 1) (ρ.l 2) = true := by with_reducible assumption
       have hl : (ρ.l 1).length = (ρ.l 0).length := by omega
       have h := (st_lay hB hl).2 hs
       have hlM := lay_len hl
       have hO : ∀ r ∈ ρ.l 2, r ≠ [] := fun r hr e => by
         have := hR.row 2 rfl rfl r hr
         rw [e] at this
         exact this
       have hc := cnt_at h (c := ρ.i 0) (by omega) (by omega)
       have hm := fun j => msg_find h (c := ρ.i 0) (by omega) (by omega) j
       have hq : 0 < qLen (layT (ρ.l 0) (ρ.l 1)) (ρ.i 0) := by omega
       obtain ⟨t1, t2, t3⟩ := st_take h hO (c := ρ.i 0) (by omega) (by omega) hq
       have hme := lay_msg hl (c := ρ.i 0) (by omega) (by omega) 0
       have hme : msgI (layT (ρ.l 0) (ρ.l 1)) (ρ.i 0) 0 = (msgQ (ρ.l 1) (ρ.i 0) 0) := hme
       rw [lay_qlen hl (by omega) (by omega)] at hq
       rw [hme] at t1 t2 t3
       rw [lay_take hB hl (by omega) (by omega)] at t3
       have t3 := (st_lay hB (by rw [takeQ_len, hl])).1 (st_iff.1 t3)
       have hm0 : ((findK (layT (ρ.l 0) (ρ.l 1)) (((ρ.l 0).getD (ρ.i 0).toNat []).getD 0 0)).getD (0 : Int).toNat []).getD 1 0 = (msgQ (ρ.l 1) (ρ.i 0) 0) := (hm 0).trans hme
       have hw : IntKind.wrap .i64 (((findK (layT (ρ.l 0) (ρ.l 1)) (((ρ.l 0).getD (ρ.i 0).toNat []).getD 0 0)).getD (0 : Int).toNat []).getD 1 0 - 1) = (msgQ (ρ.l 1) (ρ.i 0) 0) - 1 := by rw [hm0]; exact wrap_id (by omega) (by omega)
       have hw2 : IntKind.wrap .i64 (((ρ.l 2).getD ((msgQ (ρ.l 1) (ρ.i 0) 0) - 1).toNat []).getD 0 0 - 1) = ((ρ.l 2).getD ((msgQ (ρ.l 1) (ρ.i 0) 0) - 1).toNat []).getD 0 0 - 1 := by
         have := cnt_le h (i := ((msgQ (ρ.l 1) (ρ.i 0) 0) - 1).toNat) (by omega)
         exact wrap_id (by omega) (by omega)
       rw [hw, hm0, hw2]
       refine ⟨hq, t1, t2, by rw [takeQ_len]; omega, by rw [dec_len], t3, rfl, ((hm 1).trans (lay_msg hl (by omega) (by omega) 1)).symm, ((hm 2).trans (lay_msg hl (by omega) (by omega) 2)).symm, by rw [dec_len], ?_, ?_⟩
       · unfold decT
         refine modify_same rfl fun x hx => ?_
         rw [List.getD_eq_getElem?_getD (l := ρ.l 2), hx]
         rfl
       · rw [← lay_take hB hl (by omega) (by omega), key_at h (by omega) (by omega)]; rfl)
    | (have hB : okB (ρ.l 0) = true := by with_reducible assumption
       have hs : stQ (ρ.l 1) (ρ.l 2) = true := by with_reducible assumption
       have hl : (ρ.l 1).length = (ρ.l 0).length := by omega
       have h := (st_lay hB hl).2 hs
       have hlM := lay_len hl
       have hO : ∀ r ∈ ρ.l 2, r ≠ [] := fun r hr e => by
         have := hR.row 2 rfl rfl r hr
         rw [e] at this
         exact this
       have hc := cnt_at h (c := ρ.i 0) (by omega) (by omega)
       have hm := fun j => msg_find h (c := ρ.i 0) (by omega) (by omega) j
       have hq : 0 < qLen (layT (ρ.l 0) (ρ.l 1)) (ρ.i 0) := by omega
       obtain ⟨t1, t2, t3⟩ := st_take h hO (c := ρ.i 0) (by omega) (by omega) hq
       have hme := lay_msg hl (c := ρ.i 0) (by omega) (by omega) 0
       have hme : msgI (layT (ρ.l 0) (ρ.l 1)) (ρ.i 0) 0 = (msgQ (ρ.l 1) (ρ.i 0) 0) := hme
       rw [lay_qlen hl (by omega) (by omega)] at hq
       rw [hme] at t1 t2 t3
       rw [lay_take hB hl (by omega) (by omega)] at t3
       have t3 := (st_lay hB (by rw [takeQ_len, hl])).1 (st_iff.1 t3)
       have hm0 : ((findK (layT (ρ.l 0) (ρ.l 1)) (((ρ.l 0).getD (ρ.i 0).toNat []).getD 0 0)).getD (0 : Int).toNat []).getD 1 0 = (msgQ (ρ.l 1) (ρ.i 0) 0) := (hm 0).trans hme
       have hw : IntKind.wrap .i64 (((findK (layT (ρ.l 0) (ρ.l 1)) (((ρ.l 0).getD (ρ.i 0).toNat []).getD 0 0)).getD (0 : Int).toNat []).getD 1 0 - 1) = (msgQ (ρ.l 1) (ρ.i 0) 0) - 1 := by rw [hm0]; exact wrap_id (by omega) (by omega)
       exfalso
       omega)
    | (have hB : okB (ρ.l 0) = true := by with_reducible assumption
       have hs : stQ (ρ.l 1) (ρ.l 2) = true := by with_reducible assumption
       have hl : (ρ.l 1).length = (ρ.l 0).length := by omega
       have h := (st_lay hB hl).2 hs
       have hlM := lay_len hl
       have hO : ∀ r ∈ ρ.l 2, r ≠ [] := fun r hr e => by
         have := hR.row 2 rfl rfl r hr
         rw [e] at this
         exact this
       have hc := cnt_at h (c := ρ.i 0) (by omega) (by omega)
       have hm := fun j => msg_find h (c := ρ.i 0) (by omega) (by omega) j
       have hq := (qlen_of (h.row _ (row_mem (c := ρ.i 0) (by omega) (by omega)))).2
       rw [lay_qlen hl (by omega) (by omega)] at hc hq
       omega)
    | (have hB : okB (ρ.l 0) = true := by with_reducible assumption
       have hs : stQ (ρ.l 1) (ρ.l 2) = true := by with_reducible assumption
       have hl : (ρ.l 1).length = (ρ.l 0).length := by omega
       have h := (st_lay hB hl).2 hs
       have hlM := lay_len hl
       have e := found h (c := ρ.i 0) (by omega) (by omega)
       exfalso
       omega)
def cWaits_1 : SL := .app 115 (.l (.v 0) (.l (.v 1) .nil))
def cWaits_2 : SI := .sel (.v 0) (.v 0) 0
def cWaits_3 : SB := .lt (.c 0) (.len (.app 6 (.l cWaits_1 (.i cWaits_2 .nil))))
def cWaits_4 : SI := .len (.v 0)
def cWaits_5 : List SB := [.le (.c 0) cWaits_2, .lt (.v 0) cWaits_4, .le (.c 0) (.v 0), .le (.c 1) cWaits_4, .le cWaits_4 (.c 8), .le (.len (.v 2)) (.c 1000), .eq (.len (.v 1)) cWaits_4, .c true, .app 136 (.l (.v 0) .nil), .app 130 (.l (.v 1) (.l (.v 2) .nil))]
def cWaits_6 : SI := .app 100 (.l (.v 1) (.i (.v 0) .nil))
set_option maxRecDepth 100000 in
theorem cWaits_obs : callObs Φ Try.prog t5 1000 cWaits.f cWaits.vs cWaits.o cWaits.pc cWaits.outs = some
  [⟨cWaits_3 :: cWaits_5, [.T (.le (.c 0) cWaits_6), .T (.le cWaits_6 (.c 16)), .I cWaits_6 (.app 2 (.l cWaits_1 (.i cWaits_2 (.i (.c 3) .nil))))]⟩, ⟨.not cWaits_3 :: cWaits_5, [.T (.c false)]⟩] := by kernel_rfl
theorem cWaits_ok : cWaits.ok Φ Try.prog := by
  refine call_rule (fun ρ => t5_ok ρ) cWaits_obs ?_
  simp only [cWaits_1, cWaits_2, cWaits_3, cWaits_4, cWaits_5, cWaits_6, and_imp, List.forall_mem_cons, List.not_mem_nil, false_implies, implies_true, and_true, Ob.ok, holds, Eqn.ok, evB_eq, evB_lt, evB_le, evB_not, evB_and, evB_or, evB_eqL, evB_app, evB_v, evB_c, ev_sel, ev_len, ev_v, ev_c, ev_add, ev_sub, ev_mul, ev_quo, ev_rem, ev_bits, ev_wrap, evL_v, evL_lit, evL_app, ev_app, evA_l, evA_i, evA_nil, std_min, std_max, std_cat, std_take, std_drop, std_row, std_set, std_rep, std_find, std_put, std_del, std_flag, std_unflag, std_clr, std_left, std_copy, std_cnt, std_catS, std_lenS, std_atS, std_subS, std_ofB, std_snd, std_rcv, ints_cons, ints_nil, ofNat_lit, negSucc_lit, decide_eq_true_eq, Bool.and_eq_true, Bool.or_eq_true, Bool.not_eq_true', Bool.and_eq_false_iff, Bool.or_eq_false_iff, decide_eq_false_iff_not, aI100, aI101, aL110, aL111, aL112, aL113, aL114, aL115, aL116, aL117, aL118, aB130, aB131, aB132, aB133, aB134, aB135, aB136, aB137, aB138, aB199, Bool.not_eq_false']
  repeat' apply And.intro
  all_goals intro ρ hR
  all_goals intros
  all_goals first
    | (have hB : okB (ρ.l 0) = true := by with_reducible assumption
       have hs : stQ (ρ.l 1) (ρ.l 2) = true := by with_reducible assumption
       have hl : (ρ.l 1).length = (ρ.l 0).length := by omega
       have h := (st_lay hB hl).2 hs
       have hlM := lay_len hl
       have hc := cnt_at h (c := ρ.i 0) (by omega) (by omega)
       have hq := (qlen_of (h.row _ (row_mem (c := ρ.i 0) (by omega) (by omega)))).2
       rw [lay_qlen hl (by omega) (by omega)] at hc hq
       exact ⟨by omega, by omega, by omega⟩)
    | (have hB : okB (ρ.l 0) = true := by with_reducible assumption
       have hs : stQ (ρ.l 1) (ρ.l 2) = true := by with_reducible assumption
       have hl : (ρ.l 1).length = (ρ.l 0).length := by omega
       have h := (st_lay hB hl).2 hs
       have hlM := lay_len hl
       have e := found h (c := ρ.i 0) (by omega) (by omega)
       exfalso
       omega)
def cDone_1 : SI := .len (.v 2)
def cDone_2 : SB := .le (.v 0) cDone_1
def cDone_3 : SB := .le (.c 1) (.v 0)
def cDone_4 : SI := .len (.v 0)
def cDone_5 : List SB := [.le (.c 1) cDone_4, .le cDone_4 (.c 8), .le cDone_1 (.c 1000), .eq (.len (.v 1)) cDone_4]
def cDone_6 : List SB := cDone_3 :: cDone_5
def cDone_7 : SB := .app 135 (.l (.v 2) (.i (.v 0) .nil))
def cDone_8 : List Eqn := [.B cDone_7 (.c false)]
set_option maxRecDepth 100000 in
theorem cDone_obs : callObs Φ Try.prog t5 1000 cDone.f cDone.vs cDone.o cDone.pc cDone.outs = some
  [⟨cDone_2 :: cDone_6, [.B cDone_7 (.eq (.sel (.v 2) (.sub (.v 0) (.c 1)) 0) (.c 0))]⟩, ⟨.not cDone_2 :: cDone_6, cDone_8⟩, ⟨.not cDone_3 :: cDone_5, cDone_8⟩] := by kernel_rfl
theorem cDone_ok : cDone.ok Φ Try.prog := by
  refine call_rule (fun ρ => t5_ok ρ) cDone_obs ?_
  simp only [cDone_1, cDone_2, cDone_3, cDone_4, cDone_5, cDone_6, cDone_7, cDone_8, and_imp, List.forall_mem_cons, List.not_mem_nil, false_implies, implies_true, and_true, Ob.ok, holds, Eqn.ok, evB_eq, evB_lt, evB_le, evB_not, evB_and, evB_or, evB_eqL, evB_app, evB_v, evB_c, ev_sel, ev_len, ev_v, ev_c, ev_add, ev_sub, ev_mul, ev_quo, ev_rem, ev_bits, ev_wrap, evL_v, evL_lit, evL_app, ev_app, evA_l, evA_i, evA_nil, std_min, std_max, std_cat, std_take, std_drop, std_row, std_set, std_rep, std_find, std_put, std_del, std_flag, std_unflag, std_clr, std_left, std_copy, std_cnt, std_catS, std_lenS, std_atS, std_subS, std_ofB, std_snd, std_rcv, ints_cons, ints_nil, ofNat_lit, negSucc_lit, decide_eq_true_eq, Bool.and_eq_true, Bool.or_eq_true, Bool.not_eq_true', Bool.and_eq_false_iff, Bool.or_eq_false_iff, decide_eq_false_iff_not, aI100, aI101, aL110, aL111, aL112, aL113, aL114, aL115, aL116, aL117, aL118, aB130, aB131, aB132, aB133, aB134, aB135, aB136, aB137, aB138, aB199, Bool.not_eq_false']
  repeat' apply And.intro
  all_goals intro ρ hR
  all_goals intros
  all_goals first
    | (unfold doneB
       rw [decide_eq_true (by omega : 1 ≤ ρ.i 0), decide_eq_true (by omega : ρ.i 0 ≤ ((ρ.l 2).length : Int)), Bool.true_and, Bool.true_and])
    | (unfold doneB
       rw [decide_eq_false (by omega : ¬ ρ.i 0 ≤ ((ρ.l 2).length : Int)), Bool.false_and, Bool.and_false])
    | (unfold doneB
       rw [decide_eq_false (by omega : ¬ 1 ≤ ρ.i 0), Bool.false_and])
set_option maxRecDepth 100000 in
theorem cOpen_obs : callObs Φ Try.prog t5 1000 cOpen.f cOpen.vs cOpen.o cOpen.pc cOpen.outs = some
  [] := by kernel_rfl
theorem cOpen_ok : cOpen.ok Φ Try.prog := by
  refine call_rule (fun ρ => t5_ok ρ) cOpen_obs ?_
  intro ob h; cases h
theorem t6_ok (ρ : Env) : TblOK Φ ρ Try.prog t6 := addFn_ok (addFn_ok (addFn_ok (addFn_ok (addFn_ok (addFn_ok (t5_ok ρ) cNew_ok) cPost_ok) cTake_ok) cWaits_ok) cDone_ok) cOpen_ok
end Go.SF.C15
