/- The document's queues, shown, in chapter 21. -/
import Derived.Test.YtnhdohhhgfdhfaaCD
import Derived.Test.YtnhdohhhgfdhfaaPR
import Derived.KernelRfl
namespace Go.SF.C21.Q
open Go Go.SF Go.Proofs
set_option linter.unusedVariables false
set_option linter.unusedSimpArgs false

open Go.SF.C17
set_option maxRecDepth 100000 in
theorem rqNew_obs : callObs Φ Try.prog noTbl 1000 rqNew.f rqNew.vs rqNew.o rqNew.pc rqNew.outs = some
  [⟨[.not (.lt (.c 8) (.v 0)), .not (.lt (.v 0) (.c 1))], [.T (.eq (.len (.app 5 (.i (.v 0) .nil))) (.v 0))]⟩] := by kernel_rfl
theorem rqNew_ok : rqNew.ok Φ Try.prog := by
  refine call_rule (fun ρ => noTbl_ok) rqNew_obs ?_
  simp only [and_imp, List.forall_mem_cons, List.not_mem_nil, false_implies, implies_true, and_true, Ob.ok, holds, Eqn.ok, evB_eq, evB_lt, evB_not, ev_len, ev_v, ev_c, evL_app, evA_i, evA_nil, std_rep, ints_nil, decide_eq_true_eq, Bool.not_eq_true', decide_eq_false_iff_not]
  repeat' apply And.intro
  all_goals intro ρ hR
  all_goals intros
  all_goals first
    | (rw [List.length_replicate]
       omega)
def re4_1 : SA := .i (.v 2) .nil
def re4_2 : SI := .len (.app 14 (.l (.v 0) re4_1))
def re4_3 : SA := .i (.v 1) .nil
def re4_4 : SB := .lt re4_2 (.len (.app 14 (.l (.v 0) re4_3)))
def re4_5 : SA := .i (.v 0) .nil
def re4_6 : SB := .lt (.len (.app 14 (.l (.v 0) re4_5))) re4_2
def re4_7 : SI := .len (.v 0)
def re4_8 : SB := .lt (.v 2) re4_7
def re4_9 : List SB := [.le (.c 1) re4_7, .le re4_7 (.c 8), .le (.c 0) (.v 0), .lt (.v 0) re4_7, .le (.c 0) (.v 1), .lt (.v 1) re4_7, .le (.c 0) (.v 2), .le (.v 2) re4_7]
def re4_10 : List SB := re4_8 :: re4_9
def re4_11 : List SB := re4_6 :: re4_10
def re4_12 : List SB := re4_4 :: re4_11
def re4_13 : SI := .add (.v 2) (.c 1)
def re4_14 : SI := .sub re4_7 (.v 2)
def re4_15 : List Eqn := [.T (.lt (.sub re4_7 re4_13) re4_14), .T (.lt (.c 0) re4_14)]
def re4_16 : SA := .i re4_13 re4_1
def re4_17 : SI := .app 100 (.l (.v 0) (.i (.c 0) re4_16))
def re4_18 : SB := .lt re4_17 re4_7
def re4_19 : SB := .le (.c 0) re4_17
def re4_20 : SI := .app 100 (.l (.v 0) (.i (.c 1) re4_16))
def re4_21 : SB := .lt re4_20 re4_7
def re4_22 : SB := .le (.c 0) re4_20
def re4_23 : SI := .app 100 (.l (.v 0) (.i (.c 1) (.i (.v 2) re4_5)))
def re4_24 : Eqn := .T (.le (.c 0) re4_23)
def re4_25 : Eqn := .T (.lt re4_23 re4_7)
def re4_26 : SI := .app 100 (.l (.v 0) (.i (.c 0) (.i (.v 2) re4_3)))
def re4_27 : Eqn := .T (.le (.c 0) re4_26)
def re4_28 : Eqn := .T (.lt re4_26 re4_7)
def re4_29 : Eqn := .I re4_23 re4_20
def re4_30 : List Eqn := [.I re4_26 re4_17]
def re4_31 : SB := .not re4_4
def re4_32 : List SB := re4_31 :: re4_11
def re4_33 : SI := .app 100 (.l (.v 0) (.i (.c 0) (.i re4_13 re4_3)))
def re4_34 : SB := .lt re4_33 re4_7
def re4_35 : SB := .le (.c 0) re4_33
def re4_36 : List Eqn := [.I re4_26 re4_33]
def re4_37 : List SB := .not re4_6 :: re4_10
def re4_38 : List SB := re4_4 :: re4_37
def re4_39 : SI := .app 100 (.l (.v 0) (.i (.c 1) (.i re4_13 re4_5)))
def re4_40 : SB := .lt re4_39 re4_7
def re4_41 : SB := .le (.c 0) re4_39
def re4_42 : Eqn := .I re4_23 re4_39
def re4_43 : List SB := re4_31 :: re4_37
set_option maxRecDepth 100000 in
theorem re4_obs : loopObs Φ Try.prog noTbl 1000 re4.f (loopAt Try.prog re4.f re4.id) re4.n re4.T ke4 re4.outs = some
  [⟨re4_12, re4_15⟩, ⟨re4_18 :: re4_19 :: re4_21 :: re4_22 :: re4_12, re4_24 :: re4_25 :: re4_27 :: re4_28 :: re4_29 :: re4_30⟩, ⟨re4_32, re4_15⟩, ⟨re4_34 :: re4_35 :: re4_21 :: re4_22 :: re4_32, re4_24 :: re4_25 :: re4_27 :: re4_28 :: re4_29 :: re4_36⟩, ⟨re4_38, re4_15⟩, ⟨re4_18 :: re4_19 :: re4_40 :: re4_41 :: re4_38, re4_24 :: re4_25 :: re4_27 :: re4_28 :: re4_42 :: re4_30⟩, ⟨re4_43, re4_15⟩, ⟨re4_34 :: re4_35 :: re4_40 :: re4_41 :: re4_43, re4_24 :: re4_25 :: re4_27 :: re4_28 :: re4_42 :: re4_36⟩, ⟨.not re4_8 :: re4_9, [re4_24, re4_25, re4_27, re4_28, .I re4_23 (.v 0), .I re4_26 (.v 1)]⟩] := by kernel_rfl
theorem re4_ok : re4.ok Φ Try.prog := by
  refine ⟨by kernel_rfl, loop_rule (fun ρ => noTbl_ok) (loopAt_sub (by kernel_rfl)) re4_obs ?_⟩
  simp only [re4_1, re4_2, re4_3, re4_4, re4_5, re4_6, re4_7, re4_8, re4_9, re4_10, re4_11, re4_12, re4_13, re4_14, re4_15, re4_16, re4_17, re4_18, re4_19, re4_20, re4_21, re4_22, re4_23, re4_24, re4_25, re4_26, re4_27, re4_28, re4_29, re4_30, re4_31, re4_32, re4_33, re4_34, re4_35, re4_36, re4_37, re4_38, re4_39, re4_40, re4_41, re4_42, re4_43, and_imp, List.forall_mem_cons, List.not_mem_nil, false_implies, implies_true, and_true, Ob.ok, holds, Eqn.ok, evB_lt, evB_le, evB_not, ev_len, ev_v, ev_c, ev_add, ev_sub, evL_v, evL_app, ev_app, evA_l, evA_i, evA_nil, decide_eq_true_eq, Bool.not_eq_true', decide_eq_false_iff_not, std_rowT, lenR_rowT, aI100]
  repeat' apply And.intro
  all_goals intro ρ hR
  all_goals intros
  all_goals first
    | (omega)
    | (have c0 : 0 ≤ ρ.i 2 := by omega
       have c1 : ρ.i 2 < (ρ.l 0).length := by omega
       have h1 : lenR (ρ.l 0) (ρ.i 0) < lenR (ρ.l 0) (ρ.i 2) := by omega
       have h2 : lenR (ρ.l 0) (ρ.i 2) < lenR (ρ.l 0) (ρ.i 1) := by omega
       rw [long_yes c0 c1 h1, short_yes c0 c1 h2]
       repeat' apply And.intro
       all_goals first
         | rfl
         | omega
         | with_reducible assumption)
    | (have c0 : 0 ≤ ρ.i 2 := by omega
       have c1 : ρ.i 2 < (ρ.l 0).length := by omega
       have h1 : lenR (ρ.l 0) (ρ.i 0) < lenR (ρ.l 0) (ρ.i 2) := by omega
       have h2 : ¬ lenR (ρ.l 0) (ρ.i 2) < lenR (ρ.l 0) (ρ.i 1) := by omega
       rw [long_yes c0 c1 h1, short_no c0 c1 h2]
       repeat' apply And.intro
       all_goals first
         | rfl
         | omega
         | with_reducible assumption)
    | (have c0 : 0 ≤ ρ.i 2 := by omega
       have c1 : ρ.i 2 < (ρ.l 0).length := by omega
       have h1 : ¬ lenR (ρ.l 0) (ρ.i 0) < lenR (ρ.l 0) (ρ.i 2) := by omega
       have h2 : lenR (ρ.l 0) (ρ.i 2) < lenR (ρ.l 0) (ρ.i 1) := by omega
       rw [long_no c0 c1 h1, short_yes c0 c1 h2]
       repeat' apply And.intro
       all_goals first
         | rfl
         | omega
         | with_reducible assumption)
    | (have c0 : 0 ≤ ρ.i 2 := by omega
       have c1 : ρ.i 2 < (ρ.l 0).length := by omega
       have h1 : ¬ lenR (ρ.l 0) (ρ.i 0) < lenR (ρ.l 0) (ρ.i 2) := by omega
       have h2 : ¬ lenR (ρ.l 0) (ρ.i 2) < lenR (ρ.l 0) (ρ.i 1) := by omega
       rw [long_no c0 c1 h1, short_no c0 c1 h2]
       repeat' apply And.intro
       all_goals first
         | rfl
         | omega
         | with_reducible assumption)
    | (have c1 : ¬ ρ.i 2 < (ρ.l 0).length := by omega
       rw [best_end c1, best_end c1]
       repeat' apply And.intro
       all_goals first
         | rfl
         | omega
         | with_reducible assumption)
theorem e1_ok (ρ : Env) : TblOK Φ ρ Try.prog e1 := addLp_ok noTbl_ok re4_ok
def rEnds_1 : SA := .i (.c 0) .nil
def rEnds_2 : SA := .i (.c 1) rEnds_1
def rEnds_3 : SI := .app 100 (.l (.v 0) (.i (.c 0) rEnds_2))
def rEnds_4 : SI := .len (.v 0)
def rEnds_5 : SI := .app 100 (.l (.v 0) (.i (.c 1) rEnds_2))
def rEnds_6 : SA := .i (.c 0) rEnds_1
def rEnds_7 : SI := .app 100 (.l (.v 0) (.i (.c 1) rEnds_6))
def rEnds_8 : SI := .app 100 (.l (.v 0) (.i (.c 0) rEnds_6))
set_option maxRecDepth 100000 in
theorem rEnds_obs : callObs Φ Try.prog e1 1000 rEnds.f rEnds.vs rEnds.o rEnds.pc rEnds.outs = some
  [⟨[.lt rEnds_3 rEnds_4, .le (.c 0) rEnds_3, .lt rEnds_5 rEnds_4, .le (.c 0) rEnds_5, .le (.c 1) rEnds_4, .le rEnds_4 (.c 8)], [.T (.le (.c 0) rEnds_7), .T (.lt rEnds_7 rEnds_4), .T (.le (.c 0) rEnds_8), .T (.lt rEnds_8 rEnds_4), .I rEnds_7 rEnds_5, .I rEnds_8 rEnds_3]⟩] := by kernel_rfl
theorem rEnds_ok : rEnds.ok Φ Try.prog := by
  refine call_rule (fun ρ => e1_ok ρ) rEnds_obs ?_
  simp only [rEnds_1, rEnds_2, rEnds_3, rEnds_4, rEnds_5, rEnds_6, rEnds_7, rEnds_8, and_imp, List.forall_mem_cons, List.not_mem_nil, false_implies, implies_true, and_true, Ob.ok, holds, Eqn.ok, evB_lt, evB_le, ev_len, ev_c, evL_v, ev_app, evA_l, evA_i, evA_nil, decide_eq_true_eq, aI100]
  repeat' apply And.intro
  all_goals intro ρ hR
  all_goals intros
  all_goals first
    | (have hT : 1 ≤ ((ρ.l 0).length : Int) := by omega
       rw [best_one hT 1, best_one hT 0]
       repeat' apply And.intro
       all_goals first
         | rfl
         | omega
         | with_reducible assumption)
theorem e2_ok (ρ : Env) : TblOK Φ ρ Try.prog e2 := addFn_ok noTbl_ok rEnds_ok
def rPop_1 : SA := .l (.v 0) (.i (.v 0) .nil)
def rPop_2 : SL := .app 14 rPop_1
def rPop_3 : SB := .lt (.c 0) (.len rPop_2)
def rPop_4 : SI := .len (.v 0)
def rPop_5 : SA := .l (.v 0) .nil
def rPop_6 : List SB := [.not (.le rPop_4 (.v 0)), .not (.lt (.v 0) (.c 0)), .le (.c 1) rPop_4, .le rPop_4 (.c 8), .c true, .app 340 rPop_5]
def rPop_7 : SB := .app 132 rPop_5
def rPop_8 : SI := .app 111 rPop_1
def rPop_9 : Eqn := .T (.le (.c 0) rPop_8)
def rPop_10 : Eqn := .T (.lt rPop_8 rPop_4)
def rPop_11 : SL := .app 111 rPop_1
def rPop_12 : SI := .len rPop_11
def rPop_13 : Eqn := .T (.eq rPop_12 rPop_4)
def rPop_14 : SI := .app 112 rPop_1
def rPop_15 : Eqn := .I rPop_12 rPop_4
def rPop_16 : SA := .i (.c 0) (.i (.c 0) .nil)
def rPop_17 : SI := .app 100 (.l (.v 0) (.i (.c 1) rPop_16))
def rPop_18 : SL := .app 14 (.l (.v 0) (.i rPop_17 .nil))
def rPop_19 : SI := .len rPop_18
def rPop_20 : SB := .eq rPop_19 (.c 0)
def rPop_21 : SI := .app 100 (.l (.v 0) (.i (.c 0) rPop_16))
def rPop_22 : List SB := .lt rPop_21 rPop_4 :: .le (.c 0) rPop_21 :: .lt rPop_17 rPop_4 :: .le (.c 0) rPop_17 :: .not rPop_3 :: rPop_6
def rPop_23 : SI := .wrap IntKind.i64 (.sub rPop_19 (.c 1))
def rPop_24 : SB := .lt rPop_23 rPop_19
def rPop_25 : SB := .le (.c 0) rPop_23
def rPop_26 : List SB := .not rPop_20 :: rPop_22
def rPop_27 : List SB := rPop_25 :: rPop_26
def rPop_28 : List Eqn := [.T (.c false)]
set_option maxRecDepth 100000 in
theorem rPop_obs : callObs Φ Try.prog e2 1000 rPop.f rPop.vs rPop.o rPop.pc rPop.outs = some
  [⟨rPop_3 :: rPop_6, [.T rPop_7, rPop_9, rPop_10, rPop_13, .I rPop_14 (.sel rPop_2 (.c 0) 0), .I rPop_8 (.v 0), rPop_15, .L rPop_11 (.app 15 (.l (.v 0) (.i (.v 0) (.l (.app 2 (.l rPop_2 (.i (.c 1) .nil))) .nil))))]⟩, ⟨rPop_20 :: rPop_22, [.T (.not rPop_7)]⟩, ⟨rPop_24 :: rPop_27, [.T rPop_7, rPop_9, rPop_10, rPop_13, .I rPop_14 (.sel rPop_18 rPop_23 0), .I rPop_8 rPop_17, rPop_15, .L rPop_11 (.app 15 (.l (.v 0) (.i rPop_17 (.l (.app 1 (.l rPop_18 (.i rPop_23 .nil))) .nil))))]⟩, ⟨.not rPop_24 :: rPop_27, rPop_28⟩, ⟨.not rPop_25 :: rPop_26, rPop_28⟩] := by kernel_rfl
theorem rPop_ok : rPop.ok Φ Try.prog := by
  refine call_rule (fun ρ => e2_ok ρ) rPop_obs ?_
  simp only [rPop_1, rPop_2, rPop_3, rPop_4, rPop_5, rPop_6, rPop_7, rPop_8, rPop_9, rPop_10, rPop_11, rPop_12, rPop_13, rPop_14, rPop_15, rPop_16, rPop_17, rPop_18, rPop_19, rPop_20, rPop_21, rPop_22, rPop_23, rPop_24, rPop_25, rPop_26, rPop_27, rPop_28, and_imp, List.forall_mem_cons, List.not_mem_nil, false_implies, implies_true, and_true, Ob.ok, holds, Eqn.ok, evB_eq, evB_lt, evB_le, evB_not, evB_app, evB_c, ev_sel, ev_len, ev_v, ev_c, ev_sub, ev_wrap, evL_v, evL_app, ev_app, evA_l, evA_i, evA_nil, std_take, std_drop, decide_eq_true_eq, Bool.not_eq_true', decide_eq_false_iff_not, std_rowT, std_setT, lenR_rowT, rowT_get, aI100, aI111, aI112, aL111, aB132, aB340]
  repeat' apply And.intro
  all_goals intro ρ hR
  all_goals intros
  all_goals first
    | (exfalso
       omega)
    | (have c0 : 0 ≤ ρ.i 0 := by omega
       have c1 : ρ.i 0 < (ρ.l 0).length := by omega
       have q : 0 < lenR (ρ.l 0) (ρ.i 0) := by omega
       obtain ⟨p1, p2, p3⟩ := pop_own q
       have ha := any_of c0 c1 q
       have hc := cutT_len (ρ.l 0) (ρ.i 0) 0
       have hf := cut_first (T := ρ.l 0) c0
       rw [p1, p2, p3, hc, ← hf]
       repeat' apply And.intro
       all_goals first
         | rfl
         | omega
         | exact ha
         | (rw [hf]; exact hc)
         | (rw [hf, hc]; done))
    | (have hT : 1 ≤ ((ρ.l 0).length : Int) := by omega
       have hb := long_in hT
       have b0 : 0 ≤ (bestF 1 (ρ.l 0) 0 0) := hb.1
       have b1 : (bestF 1 (ρ.l 0) 0 0) < (ρ.l 0).length := hb.2
       have q : lenR (ρ.l 0) (bestF 1 (ρ.l 0) 0 0) = 0 := by omega
       exact any_not hT q)
    | (have hT : 1 ≤ ((ρ.l 0).length : Int) := by omega
       have hb := long_in hT
       have b0 : 0 ≤ (bestF 1 (ρ.l 0) 0 0) := hb.1
       have b1 : (bestF 1 (ρ.l 0) 0 0) < (ρ.l 0).length := hb.2
       have hw8 : low8 (ρ.l 0) = true := by with_reducible assumption
       have hl := low_row hw8 b0 b1
       have hp := lenR_pos (ρ.l 0) (bestF 1 (ρ.l 0) 0 0)
       have hw : IntKind.i64.wrap (lenR (ρ.l 0) (bestF 1 (ρ.l 0) 0 0) - 1) = lenR (ρ.l 0) (bestF 1 (ρ.l 0) 0 0) - 1 := wrap_in (by simp only [kmin]; omega) (by simp only [kmax]; omega)
       have q : ¬ 0 < lenR (ρ.l 0) (ρ.i 0) := by omega
       have q1 : 1 ≤ lenR (ρ.l 0) (bestF 1 (ρ.l 0) 0 0) := by omega
       have q2 : 0 < lenR (ρ.l 0) (bestF 1 (ρ.l 0) 0 0) := by omega
       obtain ⟨p1, p2, p3⟩ := pop_long q
       have ha := any_of b0 b1 q2
       have hc := cutT_len (ρ.l 0) (bestF 1 (ρ.l 0) 0 0) (lenR (ρ.l 0) (bestF 1 (ρ.l 0) 0 0) - 1)
       have hf := cut_last q1
       rw [p1, p2, p3, hw, hc, hf]
       repeat' apply And.intro
       all_goals first
         | rfl
         | omega
         | exact ha)
    | (have hT : 1 ≤ ((ρ.l 0).length : Int) := by omega
       have hb := long_in hT
       have b0 : 0 ≤ (bestF 1 (ρ.l 0) 0 0) := hb.1
       have b1 : (bestF 1 (ρ.l 0) 0 0) < (ρ.l 0).length := hb.2
       have hw8 : low8 (ρ.l 0) = true := by with_reducible assumption
       have hl := low_row hw8 b0 b1
       have hp := lenR_pos (ρ.l 0) (bestF 1 (ρ.l 0) 0 0)
       have hw : IntKind.i64.wrap (lenR (ρ.l 0) (bestF 1 (ρ.l 0) 0 0) - 1) = lenR (ρ.l 0) (bestF 1 (ρ.l 0) 0 0) - 1 := wrap_in (by simp only [kmin]; omega) (by simp only [kmax]; omega)
       exfalso
       omega)
def rw5_1 : SL := .app 14 (.l (.v 0) (.i (.v 0) .nil))
def rw5_2 : SB := .eq (.sel rw5_1 (.v 2) 0) (.v 1)
def rw5_3 : SI := .len rw5_1
def rw5_4 : SB := .lt (.v 2) rw5_3
def rw5_5 : SI := .len (.v 0)
def rw5_6 : List SB := [.le (.c 1) rw5_5, .le rw5_5 (.c 8), .le (.c 0) (.v 0), .lt (.v 0) rw5_5, .le (.c 0) (.v 2), .c true, .le (.v 2) rw5_3, .le rw5_3 (.c 64)]
def rw5_7 : List SB := rw5_4 :: rw5_6
def rw5_8 : SI := .app 103 (.l (.v 0) (.i (.v 0) (.i (.v 1) (.i (.v 2) .nil))))
def rw5_9 : Eqn := .T (.le (.c 0) rw5_8)
def rw5_10 : Eqn := .T (.lt rw5_8 rw5_3)
def rw5_11 : Eqn := .T (.eq (.sel rw5_1 rw5_8 0) (.v 1))
def rw5_12 : List SB := .not rw5_2 :: rw5_7
def rw5_13 : SI := .add (.v 2) (.c 1)
def rw5_14 : SI := .sub rw5_3 (.v 2)
def rw5_15 : SI := .app 103 (.l (.v 0) (.i (.v 0) (.i (.v 1) (.i rw5_13 .nil))))
def rw5_16 : List Eqn := [.T (.le rw5_3 rw5_8)]
set_option maxRecDepth 100000 in
theorem rw5_obs : loopObs Φ Try.prog noTbl 1000 rw5.f (loopAt Try.prog rw5.f rw5.id) rw5.n rw5.T kw5 rw5.outs = some
  [⟨rw5_2 :: rw5_7, [rw5_9, rw5_10, rw5_11, .I rw5_8 (.v 2)]⟩, ⟨rw5_12, [.T (.lt (.sub rw5_3 rw5_13) rw5_14), .T (.lt (.c 0) rw5_14)]⟩, ⟨.eq (.sel rw5_1 rw5_15 0) (.v 1) :: .lt rw5_15 rw5_3 :: .le (.c 0) rw5_15 :: rw5_12, [rw5_9, rw5_10, rw5_11, .I rw5_8 rw5_15]⟩, ⟨.le rw5_3 rw5_15 :: rw5_12, rw5_16⟩, ⟨.not rw5_4 :: rw5_6, rw5_16⟩] := by kernel_rfl
theorem rw5_ok : rw5.ok Φ Try.prog := by
  refine ⟨by kernel_rfl, loop_rule (fun ρ => noTbl_ok) (loopAt_sub (by kernel_rfl)) rw5_obs ?_⟩
  simp only [rw5_1, rw5_2, rw5_3, rw5_4, rw5_5, rw5_6, rw5_7, rw5_8, rw5_9, rw5_10, rw5_11, rw5_12, rw5_13, rw5_14, rw5_15, rw5_16, and_imp, List.forall_mem_cons, List.not_mem_nil, false_implies, implies_true, and_true, Ob.ok, holds, Eqn.ok, evB_eq, evB_lt, evB_le, evB_not, evB_c, ev_sel, ev_len, ev_v, ev_c, ev_add, ev_sub, evL_v, evL_app, ev_app, evA_l, evA_i, evA_nil, decide_eq_true_eq, Bool.not_eq_true', decide_eq_false_iff_not, std_rowT, lenR_rowT, rowT_get, aI103]
  repeat' apply And.intro
  all_goals intro ρ hR
  all_goals intros
  all_goals first
    | (exfalso
       omega)
    | (omega)
    | (have c0 : 0 ≤ ρ.i 0 := by omega
       have c1 : ρ.i 0 < (ρ.l 0).length := by omega
       have i0 : 0 ≤ ρ.i 2 := by omega
       have i1 : ρ.i 2 < lenR (ρ.l 0) (ρ.i 0) := by omega
       have h : (rowL (ρ.l 0) (ρ.i 0)).getD (ρ.i 2).toNat 0 = ρ.i 1 := by with_reducible assumption
       rw [atG_stop i0 i1 h]
       repeat' apply And.intro
       all_goals first
         | rfl
         | omega
         | with_reducible assumption)
    | (have c0 : 0 ≤ ρ.i 0 := by omega
       have c1 : ρ.i 0 < (ρ.l 0).length := by omega
       have i0 : 0 ≤ ρ.i 2 := by omega
       have i1 : ρ.i 2 < lenR (ρ.l 0) (ρ.i 0) := by omega
       have h : ¬ (rowL (ρ.l 0) (ρ.i 0)).getD (ρ.i 2).toNat 0 = ρ.i 1 := by with_reducible assumption
       rw [atG_step i0 i1 h]
       repeat' apply And.intro
       all_goals first
         | rfl
         | omega
         | with_reducible assumption)
    | (have h : lenR (ρ.l 0) (ρ.i 0) ≤ ρ.i 2 := by omega
       exact at_end h)
theorem e3_ok (ρ : Env) : TblOK Φ ρ Try.prog e3 := addLp_ok noTbl_ok rw5_ok
def rw2_1 : SA := .i (.v 0) .nil
def rw2_2 : SL := .app 14 (.l (.v 0) rw2_1)
def rw2_3 : SA := .i (.v 1) (.i (.c 0) .nil)
def rw2_4 : SI := .app 103 (.l (.v 0) (.i (.v 0) rw2_3))
def rw2_5 : SI := .len rw2_2
def rw2_6 : SB := .le rw2_5 (.c 64)
def rw2_7 : SI := .len (.v 0)
def rw2_8 : SB := .lt (.v 0) rw2_7
def rw2_9 : List SB := [.le (.c 1) rw2_7, .le rw2_7 (.c 8), .le (.c 0) (.v 0), .le (.v 0) rw2_7, .c true, .app 340 (.l (.v 0) .nil)]
def rw2_10 : List SB := rw2_8 :: rw2_9
def rw2_11 : List SB := rw2_6 :: rw2_10
def rw2_12 : SA := .l (.v 0) (.i (.v 1) rw2_1)
def rw2_13 : SB := .app 341 rw2_12
def rw2_14 : SI := .app 341 rw2_12
def rw2_15 : Eqn := .T (.le (.c 0) rw2_14)
def rw2_16 : Eqn := .T (.lt rw2_14 rw2_7)
def rw2_17 : SI := .app 103 (.l (.v 0) (.i rw2_14 rw2_3))
def rw2_18 : Eqn := .T (.le (.c 0) rw2_17)
def rw2_19 : SL := .app 14 (.l (.v 0) (.i rw2_14 .nil))
def rw2_20 : SI := .len rw2_19
def rw2_21 : Eqn := .T (.lt rw2_17 rw2_20)
def rw2_22 : Eqn := .T (.le rw2_20 (.c 64))
def rw2_23 : Eqn := .T (.eq (.sel rw2_19 rw2_17 0) (.v 1))
def rw2_24 : List SB := .le rw2_5 rw2_4 :: rw2_11
def rw2_25 : SI := .add (.v 0) (.c 1)
def rw2_26 : SI := .sub rw2_7 (.v 0)
def rw2_27 : SA := .l (.v 0) (.i (.v 1) (.i rw2_25 .nil))
def rw2_28 : SI := .app 341 rw2_27
def rw2_29 : SL := .app 14 (.l (.v 0) (.i rw2_28 .nil))
def rw2_30 : SI := .app 103 (.l (.v 0) (.i rw2_28 rw2_3))
def rw2_31 : SI := .len rw2_29
def rw2_32 : SB := .app 341 rw2_27
def rw2_33 : List Eqn := [.T (.not rw2_13)]
set_option maxRecDepth 100000 in
theorem rw2_obs : loopObs Φ Try.prog e3 1000 rw2.f (loopAt Try.prog rw2.f rw2.id) rw2.n rw2.T kw2 rw2.outs = some
  [⟨.eq (.sel rw2_2 rw2_4 0) (.v 1) :: .lt rw2_4 rw2_5 :: .le (.c 0) rw2_4 :: rw2_11, [.T rw2_13, rw2_15, rw2_16, rw2_18, rw2_21, rw2_22, rw2_23, .I rw2_14 (.v 0), .I rw2_17 rw2_4]⟩, ⟨rw2_24, [.T (.lt (.sub rw2_7 rw2_25) rw2_26), .T (.lt (.c 0) rw2_26)]⟩, ⟨.eq (.sel rw2_29 rw2_30 0) (.v 1) :: .le rw2_31 (.c 64) :: .lt rw2_30 rw2_31 :: .le (.c 0) rw2_30 :: .lt rw2_28 rw2_7 :: .le (.c 0) rw2_28 :: rw2_32 :: rw2_24, [.T rw2_13, rw2_15, rw2_16, rw2_18, rw2_21, rw2_22, rw2_23, .I rw2_14 rw2_28, .I rw2_17 rw2_30]⟩, ⟨.not rw2_32 :: rw2_24, rw2_33⟩, ⟨.not rw2_6 :: rw2_10, [.T (.c false)]⟩, ⟨.not rw2_8 :: rw2_9, rw2_33⟩] := by kernel_rfl
theorem rw2_ok : rw2.ok Φ Try.prog := by
  refine ⟨by kernel_rfl, loop_rule (fun ρ => e3_ok ρ) (loopAt_sub (by kernel_rfl)) rw2_obs ?_⟩
  simp only [rw2_1, rw2_2, rw2_3, rw2_4, rw2_5, rw2_6, rw2_7, rw2_8, rw2_9, rw2_10, rw2_11, rw2_12, rw2_13, rw2_14, rw2_15, rw2_16, rw2_17, rw2_18, rw2_19, rw2_20, rw2_21, rw2_22, rw2_23, rw2_24, rw2_25, rw2_26, rw2_27, rw2_28, rw2_29, rw2_30, rw2_31, rw2_32, rw2_33, and_imp, List.forall_mem_cons, List.not_mem_nil, false_implies, implies_true, and_true, Ob.ok, holds, Eqn.ok, evB_eq, evB_lt, evB_le, evB_not, evB_app, evB_c, ev_sel, ev_len, ev_v, ev_c, ev_add, ev_sub, evL_v, evL_app, ev_app, evA_l, evA_i, evA_nil, decide_eq_true_eq, Bool.not_eq_true', decide_eq_false_iff_not, std_rowT, lenR_rowT, rowT_get, aI103, aI341, aB340, aB341]
  repeat' apply And.intro
  all_goals intro ρ hR
  all_goals intros
  all_goals first
    | (omega)
    | (have c0 : 0 ≤ ρ.i 0 := by omega
       have c1 : ρ.i 0 < (ρ.l 0).length := by omega
       have h : atG (ρ.l 0) (ρ.i 0) (ρ.i 1) 0 < lenR (ρ.l 0) (ρ.i 0) := by with_reducible assumption
       have hc := at_has h
       have hs := has_step (id := ρ.i 1) c0 c1
       rw [hc, Bool.true_or] at hs
       rw [cpu_here c0 c1 hc]
       repeat' apply And.intro
       all_goals first
         | exact hs
         | rfl
         | omega
         | with_reducible assumption)
    | (have c0 : 0 ≤ ρ.i 0 := by omega
       have c1 : ρ.i 0 < (ρ.l 0).length := by omega
       have h : lenR (ρ.l 0) (ρ.i 0) ≤ atG (ρ.l 0) (ρ.i 0) (ρ.i 1) 0 := by with_reducible assumption
       have hc := at_not h
       have hs := has_step (id := ρ.i 1) c0 c1
       rw [hc, Bool.false_or] at hs
       rw [cpu_next c0 c1 hc, hs]
       repeat' apply And.intro
       all_goals first
         | rfl
         | omega
         | with_reducible assumption)
    | (have c0 : 0 ≤ ρ.i 0 := by omega
       have c1 : ρ.i 0 < (ρ.l 0).length := by omega
       have h : lenR (ρ.l 0) (ρ.i 0) ≤ atG (ρ.l 0) (ρ.i 0) (ρ.i 1) 0 := by with_reducible assumption
       have hc := at_not h
       have hs := has_step (id := ρ.i 1) c0 c1
       rw [hc, Bool.false_or] at hs
       rw [hs]
       with_reducible assumption)
    | (have hw8 : low8 (ρ.l 0) = true := by with_reducible assumption
       have c0 : 0 ≤ ρ.i 0 := by omega
       have c1 : ρ.i 0 < (ρ.l 0).length := by omega
       have hl := low_row hw8 c0 c1
       exfalso
       omega)
    | (have c1 : ¬ ρ.i 0 < (ρ.l 0).length := by omega
       exact has_end c1)
theorem e4_ok (ρ : Env) : TblOK Φ ρ Try.prog e4 := addLp_ok (e3_ok ρ) rw2_ok
def rWhere_1 : SA := .i (.v 1) (.i (.c 0) .nil)
def rWhere_2 : SA := .l (.v 0) rWhere_1
def rWhere_3 : SI := .app 341 rWhere_2
def rWhere_4 : SL := .app 14 (.l (.v 0) (.i rWhere_3 .nil))
def rWhere_5 : SI := .app 103 (.l (.v 0) (.i rWhere_3 rWhere_1))
def rWhere_6 : SI := .len rWhere_4
def rWhere_7 : SI := .len (.v 0)
def rWhere_8 : SB := .app 341 rWhere_2
def rWhere_9 : List SB := [.le (.c 1) rWhere_7, .le rWhere_7 (.c 8), .c true, .app 340 (.l (.v 0) .nil)]
def rWhere_10 : SA := .l (.v 0) (.i (.v 1) .nil)
def rWhere_11 : SB := .app 131 rWhere_10
def rWhere_12 : SI := .app 101 rWhere_10
def rWhere_13 : SI := .app 102 rWhere_10
def rWhere_14 : SL := .app 14 (.l (.v 0) (.i rWhere_12 .nil))
def rWhere_15 : SI := .len rWhere_14
set_option maxRecDepth 100000 in
theorem rWhere_obs : callObs Φ Try.prog e4 1000 rWhere.f rWhere.vs rWhere.o rWhere.pc rWhere.outs = some
  [⟨.eq (.sel rWhere_4 rWhere_5 0) (.v 1) :: .le rWhere_6 (.c 64) :: .lt rWhere_5 rWhere_6 :: .le (.c 0) rWhere_5 :: .lt rWhere_3 rWhere_7 :: .le (.c 0) rWhere_3 :: rWhere_8 :: rWhere_9, [.T rWhere_11, .T (.le (.c 0) rWhere_12), .T (.lt rWhere_12 rWhere_7), .T (.le (.c 0) rWhere_13), .T (.lt rWhere_13 rWhere_15), .T (.le rWhere_15 (.c 64)), .T (.eq (.sel rWhere_14 rWhere_13 0) (.v 1)), .I rWhere_12 rWhere_3, .I rWhere_13 rWhere_5]⟩, ⟨.not rWhere_8 :: rWhere_9, [.T (.not rWhere_11)]⟩] := by kernel_rfl
theorem rWhere_ok : rWhere.ok Φ Try.prog := by
  refine call_rule (fun ρ => e4_ok ρ) rWhere_obs ?_
  simp only [rWhere_1, rWhere_2, rWhere_3, rWhere_4, rWhere_5, rWhere_6, rWhere_7, rWhere_8, rWhere_9, rWhere_10, rWhere_11, rWhere_12, rWhere_13, rWhere_14, rWhere_15, and_imp, List.forall_mem_cons, List.not_mem_nil, false_implies, implies_true, and_true, Ob.ok, holds, Eqn.ok, evB_eq, evB_lt, evB_le, evB_not, evB_app, evB_c, ev_sel, ev_len, ev_v, ev_c, evL_v, evL_app, ev_app, evA_l, evA_i, evA_nil, decide_eq_true_eq, Bool.not_eq_true', std_rowT, lenR_rowT, rowT_get, aI101, aI102, aI103, aB131, aI341, aB340, aB341]
  repeat' apply And.intro
  all_goals intro ρ hR
  all_goals intros
  all_goals first
    | (simp only [cpuG_0, hasG_0, atG0] at *
       repeat' apply And.intro
       all_goals first
         | rfl
         | omega
         | with_reducible assumption)
theorem e5_ok (ρ : Env) : TblOK Φ ρ Try.prog e5 := addFn_ok noTbl_ok rWhere_ok
def rPush_1 : SB := .lt (.v 0) (.c 0)
def rPush_2 : SI := .len (.v 0)
def rPush_3 : List SB := [.le (.c 1) rPush_2, .le rPush_2 (.c 8), .c true, .app 340 (.l (.v 0) .nil)]
def rPush_4 : SA := .l (.v 0) (.i (.v 0) (.i (.v 1) (.i (.c 64) .nil)))
def rPush_5 : SL := .app 110 rPush_4
def rPush_6 : SI := .len rPush_5
def rPush_7 : Eqn := .T (.eq rPush_6 rPush_2)
def rPush_8 : SI := .app 110 rPush_4
def rPush_9 : Eqn := .I rPush_6 rPush_2
def rPush_10 : List Eqn := [rPush_9, .L rPush_5 (.v 0)]
def rPush_11 : List Eqn := rPush_7 :: .I rPush_8 (.c 2) :: rPush_10
def rPush_12 : SB := .le rPush_2 (.v 0)
def rPush_13 : List SB := .not rPush_1 :: rPush_3
def rPush_14 : SB := .lt (.v 1) (.c 0)
def rPush_15 : List SB := .not rPush_12 :: rPush_13
def rPush_16 : SL := .app 14 (.l (.v 0) (.i (.v 0) .nil))
def rPush_17 : SB := .le (.c 64) (.len rPush_16)
def rPush_18 : SA := .i (.v 1) .nil
def rPush_19 : SA := .l (.v 0) rPush_18
def rPush_20 : SB := .app 131 rPush_19
def rPush_21 : List SB := .not rPush_14 :: rPush_15
def rPush_22 : List SB := .not rPush_20 :: rPush_21
def rPush_23 : SI := .app 101 rPush_19
def rPush_24 : SL := .app 14 (.l (.v 0) (.i rPush_23 .nil))
def rPush_25 : SI := .app 102 rPush_19
def rPush_26 : SI := .len rPush_24
set_option maxRecDepth 100000 in
theorem rPush_obs : callObs Φ Try.prog e5 1000 rPush.f rPush.vs rPush.o rPush.pc rPush.outs = some
  [⟨rPush_1 :: rPush_3, rPush_11⟩, ⟨rPush_12 :: rPush_13, rPush_11⟩, ⟨rPush_14 :: rPush_15, rPush_7 :: .I rPush_8 (.c 1) :: rPush_10⟩, ⟨rPush_17 :: rPush_22, rPush_7 :: .I rPush_8 (.c 3) :: rPush_10⟩, ⟨.not rPush_17 :: rPush_22, [rPush_7, .I rPush_8 (.c 0), rPush_9, .L rPush_5 (.app 15 (.l (.v 0) (.i (.v 0) (.l (.app 0 (.l rPush_16 (.l (.app 3 rPush_18) .nil))) .nil))))]⟩, ⟨.eq (.sel rPush_24 rPush_25 0) (.v 1) :: .le rPush_26 (.c 64) :: .lt rPush_25 rPush_26 :: .le (.c 0) rPush_25 :: .lt rPush_23 rPush_2 :: .le (.c 0) rPush_23 :: rPush_20 :: rPush_21, rPush_7 :: .I rPush_8 (.c 5) :: rPush_10⟩] := by kernel_rfl
theorem rPush_ok : rPush.ok Φ Try.prog := by
  refine call_rule (fun ρ => e5_ok ρ) rPush_obs ?_
  simp only [rPush_1, rPush_2, rPush_3, rPush_4, rPush_5, rPush_6, rPush_7, rPush_8, rPush_9, rPush_10, rPush_11, rPush_12, rPush_13, rPush_14, rPush_15, rPush_16, rPush_17, rPush_18, rPush_19, rPush_20, rPush_21, rPush_22, rPush_23, rPush_24, rPush_25, rPush_26, and_imp, List.forall_mem_cons, List.not_mem_nil, false_implies, implies_true, and_true, Ob.ok, holds, Eqn.ok, evB_eq, evB_lt, evB_le, evB_not, evB_app, evB_c, ev_sel, ev_len, ev_v, ev_c, evL_v, evL_app, ev_app, evA_l, evA_i, evA_nil, std_cat, std_row, ints_cons, ints_nil, decide_eq_true_eq, Bool.not_eq_true', decide_eq_false_iff_not, std_rowT, std_setT, lenR_rowT, rowT_get, aI101, aI102, aI110, aL110, aB131, aB340]
  repeat' apply And.intro
  all_goals intro ρ hR
  all_goals intros
  all_goals first
    | (have q0 : ρ.i 0 < 0 ∨ ((ρ.l 0).length : Int) ≤ ρ.i 0 := by first | omega | with_reducible assumption
       have e := push_range (T := ρ.l 0) (c := ρ.i 0) (id := ρ.i 1) (rm := 64) q0
       rw [push_no e (by decide)]
       exact ⟨rfl, e, rfl, rfl⟩)
    | (have q0 : 0 ≤ ρ.i 0 := by first | omega | with_reducible assumption
       have q1 : ρ.i 0 < (ρ.l 0).length := by first | omega | with_reducible assumption
       have q2 : ρ.i 1 < 0 := by first | omega | with_reducible assumption
       have e := push_arg (T := ρ.l 0) (c := ρ.i 0) (id := ρ.i 1) (rm := 64) q0 q1 q2
       rw [push_no e (by decide)]
       exact ⟨rfl, e, rfl, rfl⟩)
    | (have hw8 : low8 (ρ.l 0) = true := by with_reducible assumption
       have c0 : 0 ≤ ρ.i 0 := by omega
       have c1 : ρ.i 0 < (ρ.l 0).length := by omega
       have hl := low_row hw8 c0 c1
       have q0 : 0 ≤ ρ.i 0 := by first | omega | with_reducible assumption
       have q1 : ρ.i 0 < (ρ.l 0).length := by first | omega | with_reducible assumption
       have q2 : ¬ ρ.i 1 < 0 := by first | omega | with_reducible assumption
       have q3 : hasB (ρ.l 0) (ρ.i 1) = false := by first | omega | with_reducible assumption
       have q4 : lenR (ρ.l 0) (ρ.i 0) = 64 := by first | omega | with_reducible assumption
       have e := push_full (T := ρ.l 0) (c := ρ.i 0) (id := ρ.i 1) (rm := 64) q0 q1 q2 q3 q4
       rw [push_no e (by decide)]
       exact ⟨rfl, e, rfl, rfl⟩)
    | (have c0 : 0 ≤ ρ.i 0 := by omega
       have c1 : ρ.i 0 < (ρ.l 0).length := by omega
       have q2 : ¬ ρ.i 1 < 0 := by omega
       have q3 : hasB (ρ.l 0) (ρ.i 1) = false := by with_reducible assumption
       have q4 : ¬ lenR (ρ.l 0) (ρ.i 0) = 64 := by omega
       obtain ⟨e, e2⟩ := push_ok (rm := 64) c0 c1 q2 q3 q4
       have hl := layT_len (ρ.l 0) (ρ.i 0) (ρ.i 1)
       rw [e2]
       repeat' apply And.intro
       all_goals first
         | exact e
         | omega
         | rfl
         | exact (lay_eq _ _ _).symm)
    | (have q0 : 0 ≤ ρ.i 0 := by first | omega | with_reducible assumption
       have q1 : ρ.i 0 < (ρ.l 0).length := by first | omega | with_reducible assumption
       have q2 : ¬ ρ.i 1 < 0 := by first | omega | with_reducible assumption
       have q3 : hasB (ρ.l 0) (ρ.i 1) = true := by first | omega | with_reducible assumption
       have e := push_twice (T := ρ.l 0) (c := ρ.i 0) (id := ρ.i 1) (rm := 64) q0 q1 q2 q3
       rw [push_no e (by decide)]
       exact ⟨rfl, e, rfl, rfl⟩)
def rDrop_1 : SA := .l (.v 0) (.i (.v 1) .nil)
def rDrop_2 : SB := .app 131 rDrop_1
def rDrop_3 : SI := .len (.v 0)
def rDrop_4 : List SB := [.le (.c 1) rDrop_3, .le rDrop_3 (.c 8), .c true, .app 340 (.l (.v 0) .nil)]
def rDrop_5 : SL := .app 112 rDrop_1
def rDrop_6 : SI := .len rDrop_5
def rDrop_7 : Eqn := .T (.eq rDrop_6 rDrop_3)
def rDrop_8 : Eqn := .I rDrop_6 rDrop_3
def rDrop_9 : SI := .app 101 rDrop_1
def rDrop_10 : SL := .app 14 (.l (.v 0) (.i rDrop_9 .nil))
def rDrop_11 : SI := .app 102 rDrop_1
def rDrop_12 : SI := .len rDrop_10
set_option maxRecDepth 100000 in
theorem rDrop_obs : callObs Φ Try.prog e5 1000 rDrop.f rDrop.vs rDrop.o rDrop.pc rDrop.outs = some
  [⟨.not rDrop_2 :: rDrop_4, [rDrop_7, .B rDrop_2 (.c false), rDrop_8, .L rDrop_5 (.v 0)]⟩, ⟨.eq (.sel rDrop_10 rDrop_11 0) (.v 1) :: .le rDrop_12 (.c 64) :: .lt rDrop_11 rDrop_12 :: .le (.c 0) rDrop_11 :: .lt rDrop_9 rDrop_3 :: .le (.c 0) rDrop_9 :: rDrop_2 :: rDrop_4, [rDrop_7, .B rDrop_2 (.c true), rDrop_8, .L rDrop_5 (.app 15 (.l (.v 0) (.i rDrop_9 (.l (.app 0 (.l (.app 1 (.l rDrop_10 (.i rDrop_11 .nil))) (.l (.app 2 (.l rDrop_10 (.i (.add rDrop_11 (.c 1)) .nil))) .nil))) .nil))))]⟩] := by kernel_rfl
theorem rDrop_ok : rDrop.ok Φ Try.prog := by
  refine call_rule (fun ρ => e5_ok ρ) rDrop_obs ?_
  simp only [rDrop_1, rDrop_2, rDrop_3, rDrop_4, rDrop_5, rDrop_6, rDrop_7, rDrop_8, rDrop_9, rDrop_10, rDrop_11, rDrop_12, and_imp, List.forall_mem_cons, List.not_mem_nil, false_implies, implies_true, and_true, Ob.ok, holds, Eqn.ok, evB_eq, evB_lt, evB_le, evB_not, evB_app, evB_c, ev_sel, ev_len, ev_v, ev_c, ev_add, evL_v, evL_app, ev_app, evA_l, evA_i, evA_nil, std_cat, std_take, std_drop, decide_eq_true_eq, Bool.not_eq_true', std_rowT, std_setT, lenR_rowT, rowT_get, aI101, aI102, aL112, aB131, aB340]
  repeat' apply And.intro
  all_goals intro ρ hR
  all_goals intros
  all_goals first
    | (have hk : hasB (ρ.l 0) (ρ.i 1) = false := by with_reducible assumption
       rw [drop_not hk]
       exact ⟨rfl, hk, rfl, rfl⟩)
    | (have hk : hasB (ρ.l 0) (ρ.i 1) = true := by with_reducible assumption
       have hl := cutT_len (ρ.l 0) (cpuF (ρ.l 0) (ρ.i 1)) (atF (ρ.l 0) (ρ.i 1))
       have h0 : 0 ≤ atF (ρ.l 0) (ρ.i 1) := by omega
       rw [drop_has hk]
       repeat' apply And.intro
       all_goals first
         | exact hk
         | omega
         | rfl
         | exact (cut_eq _ _ _ h0).symm)
theorem e6_ok (ρ : Env) : TblOK Φ ρ Try.prog e6 := addFn_ok (addFn_ok (addFn_ok (addFn_ok noTbl_ok rqNew_ok) rPop_ok) rPush_ok) rDrop_ok
end Go.SF.C21.Q
