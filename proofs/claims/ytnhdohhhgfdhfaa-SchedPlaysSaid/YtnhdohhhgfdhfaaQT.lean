/- The package timer, shown. -/
import Derived.Test.YtnhdohhhgfdhfaaCT
import Derived.Test.YtnhdohhhgfdhfaaPT7
import Derived.KernelRfl
namespace Go.SF.C21.T
open Go Go.SF Go.Proofs
set_option linter.unusedVariables false
set_option linter.unusedSimpArgs false

open Go.SF.C18
def cAhead_1 : SB := .lt (.v 1) (.v 4)
def cAhead_2 : SB := .app 230 (.i (.v 0) (.i (.v 1) (.i (.v 3) (.i (.v 4) .nil))))
def cAhead_3 : SB := .eq (.v 1) (.v 4)
def cAhead_4 : List SB := [.not cAhead_1]
set_option maxRecDepth 100000 in
theorem cAhead_obs : callObs Φ Try.prog noTbl 1000 cAhead.f cAhead.vs cAhead.o cAhead.pc cAhead.outs = some
  [⟨[cAhead_1], [.B cAhead_2 (.c true)]⟩, ⟨cAhead_3 :: cAhead_4, [.B cAhead_2 (.lt (.v 0) (.v 3))]⟩, ⟨.not cAhead_3 :: cAhead_4, [.B cAhead_2 (.c false)]⟩] := by kernel_rfl
theorem cAhead_ok : cAhead.ok Φ Try.prog := by
  refine call_rule (fun ρ => noTbl_ok) cAhead_obs ?_
  simp only [cAhead_1, cAhead_2, cAhead_3, cAhead_4, and_imp, List.forall_mem_cons, List.not_mem_nil, false_implies, implies_true, and_true, Ob.ok, holds, Eqn.ok, evB_eq, evB_lt, evB_not, evB_app, evB_c, ev_v, evA_i, evA_nil, decide_eq_true_eq, Bool.not_eq_true', decide_eq_false_iff_not, aB230]
  repeat' apply And.intro
  all_goals intro ρ hR
  all_goals intros
  all_goals first
    | (rw [Bool.eq_iff_iff]
       simp only [aheadB, Bool.or_eq_true, Bool.and_eq_true, decide_eq_true_eq]
       omega)
    | (rw [Bool.eq_false_iff]
       simp only [aheadB, ne_eq, Bool.or_eq_true, Bool.and_eq_true, decide_eq_true_eq]
       omega)
    | (simp only [aheadB, Bool.or_eq_true, Bool.and_eq_true, decide_eq_true_eq]
       omega)
theorem t2_ok (ρ : Env) : TblOK Φ ρ Try.prog t2 := addFn_ok noTbl_ok cAhead_ok
def in0_1 : SB := .app 230 (.i (.sel (.v 2) (.v 3) 0) (.i (.sel (.v 2) (.v 3) 1) (.i (.v 0) (.i (.v 1) .nil))))
def in0_2 : SI := .len (.v 2)
def in0_3 : SB := .lt (.v 3) in0_2
def in0_4 : List SB := [.lt in0_2 (.c 90000), .le (.c 0) (.v 3), .le (.v 3) in0_2]
def in0_5 : List SB := in0_3 :: in0_4
def in0_6 : List SB := in0_1 :: in0_5
def in0_7 : SI := .add (.v 3) (.c 1)
def in0_8 : SI := .sub in0_2 (.v 3)
def in0_9 : SI := .app 220 (.l (.v 2) (.i (.v 0) (.i (.v 1) (.i in0_7 .nil))))
def in0_10 : SI := .app 220 (.l (.v 2) (.i (.v 0) (.i (.v 1) (.i (.v 3) .nil))))
def in0_11 : Eqn := .T (.le (.c 0) in0_10)
def in0_12 : Eqn := .T (.le in0_10 in0_2)
def in0_13 : List Eqn := [in0_11, in0_12, .I in0_10 (.v 3)]
set_option maxRecDepth 100000 in
theorem in0_obs : loopObs Φ Try.prog t2 1000 in0.f (loopAt Try.prog in0.f in0.id) in0.n in0.T i3 in0.outs = some
  [⟨in0_6, [.T (.lt (.sub in0_2 in0_7) in0_8), .T (.lt (.c 0) in0_8)]⟩, ⟨.le in0_9 in0_2 :: .le (.c 0) in0_9 :: in0_6, [in0_11, in0_12, .I in0_10 in0_9]⟩, ⟨.not in0_1 :: in0_5, in0_13⟩, ⟨.not in0_3 :: in0_4, in0_13⟩] := by kernel_rfl
theorem in0_ok : in0.ok Φ Try.prog := by
  refine ⟨by kernel_rfl, loop_rule (fun ρ => t2_ok ρ) (loopAt_sub (by kernel_rfl)) in0_obs ?_⟩
  simp only [in0_1, in0_2, in0_3, in0_4, in0_5, in0_6, in0_7, in0_8, in0_9, in0_10, in0_11, in0_12, in0_13, and_imp, List.forall_mem_cons, List.not_mem_nil, false_implies, implies_true, and_true, Ob.ok, holds, Eqn.ok, evB_lt, evB_le, evB_not, evB_app, ev_sel, ev_len, ev_v, ev_c, ev_add, ev_sub, evL_v, ev_app, evA_l, evA_i, evA_nil, decide_eq_true_eq, Bool.not_eq_true', decide_eq_false_iff_not, aI220, aB230]
  repeat' apply And.intro
  all_goals intro ρ hR
  all_goals intros
  all_goals first
    | (omega)
    | (have e := rank_step (L := ρ.l 2) (id := ρ.i 0) (a := ρ.i 1) (i := ρ.i 3) (by omega) (by omega) (by with_reducible assumption)
       rw [e]
       exact ⟨by omega, by omega, rfl⟩)
    | (have e := rank_stop (L := ρ.l 2) (id := ρ.i 0) (a := ρ.i 1) (i := ρ.i 3) (by omega) (by first | exact .inl (by omega) | exact .inr (by with_reducible assumption))
       rw [e]
       exact ⟨by omega, by omega, rfl⟩)
theorem t3_ok (ρ : Env) : TblOK Φ ρ Try.prog t3 := addLp_ok (t2_ok ρ) in0_ok
def cIns_1 : SI := .app 220 (.l (.v 2) (.i (.v 0) (.i (.v 1) (.i (.c 0) .nil))))
def cIns_2 : SI := .len (.v 2)
def cIns_3 : SA := .i (.v 2) .nil
def cIns_4 : SA := .i (.v 0) (.i (.v 1) cIns_3)
def cIns_5 : SL := .app 220 (.l (.v 2) cIns_4)
def cIns_6 : SI := .len cIns_5
def cIns_7 : SI := .add cIns_2 (.c 1)
def cIns_8 : SL := .app 0 (.l (.v 2) (.l (.app 3 cIns_4) .nil))
def cIns_9 : SI := .add cIns_1 (.c 1)
set_option maxRecDepth 100000 in
theorem cIns_obs : callObs Φ Try.prog t3 1000 cIns.f cIns.vs cIns.o cIns.pc cIns.outs = some
  [⟨[.le cIns_1 cIns_2, .le (.c 0) cIns_1, .lt cIns_2 (.c 90000)], [.T (.eq cIns_6 cIns_7), .I cIns_6 cIns_7, .L cIns_5 (.app 4 (.l (.app 4 (.l (.app 4 (.l (.app 13 (.l cIns_8 (.i cIns_9 (.l (.app 1 (.l (.app 2 (.l cIns_8 (.i cIns_1 .nil))) (.i (.sub cIns_7 cIns_9) .nil))) .nil)))) (.i cIns_1 (.i (.c 0) (.i (.v 0) .nil))))) (.i cIns_1 (.i (.c 1) (.i (.v 1) .nil))))) (.i cIns_1 (.i (.c 2) cIns_3))))]⟩] := by kernel_rfl
theorem cIns_ok : cIns.ok Φ Try.prog := by
  refine call_rule (fun ρ => t3_ok ρ) cIns_obs ?_
  simp only [cIns_1, cIns_2, cIns_3, cIns_4, cIns_5, cIns_6, cIns_7, cIns_8, cIns_9, and_imp, List.forall_mem_cons, List.not_mem_nil, false_implies, implies_true, and_true, Ob.ok, holds, Eqn.ok, evB_eq, evB_lt, evB_le, ev_len, ev_v, ev_c, ev_add, ev_sub, evL_v, evL_app, ev_app, evA_l, evA_i, evA_nil, std_cat, std_take, std_drop, std_row, std_set, std_copy, ints_cons, ints_nil, decide_eq_true_eq, aI220, aL220]
  repeat' apply And.intro
  all_goals intro ρ hR
  all_goals intros
  all_goals first
    | (have hl := insF_len (ρ.i 0) (ρ.i 1) (ρ.i 2) (ρ.l 2)
       refine ⟨by omega, by omega, ?_⟩
       rw [insF_eq]
       exact (ins_copy (L := ρ.l 2) (hR.row 0 rfl rfl) (by omega) (by omega)).symm)
def cFire_1 : SA := .i (.v 0) (.i (.v 1) (.i (.v 9) .nil))
def cFire_2 : SI := .wrap IntKind.i64 (.add (.wrap IntKind.i64 (.quo (.wrap IntKind.i64 (.sub (.v 9) (.v 0))) (.v 1))) (.c 1))
set_option maxRecDepth 100000 in
theorem cFire_obs : callObs Φ Try.prog noTbl 1000 cFire.f cFire.vs cFire.o cFire.pc cFire.outs = some
  [⟨[.not (.eq (.v 1) (.c 0))], [.I (.app 221 cFire_1) cFire_2, .I (.app 222 cFire_1) (.wrap IntKind.i64 (.add (.v 0) (.wrap IntKind.i64 (.mul cFire_2 (.v 1)))))]⟩] := by kernel_rfl
theorem cFire_ok : cFire.ok Φ Try.prog := by
  refine call_rule (fun ρ => noTbl_ok) cFire_obs ?_
  simp only [cFire_1, cFire_2, List.forall_mem_cons, List.not_mem_nil, false_implies, implies_true, and_true, Ob.ok, holds, Eqn.ok, evB_eq, evB_not, ev_v, ev_c, ev_add, ev_sub, ev_mul, ev_quo, ev_wrap, ev_app, evA_i, evA_nil, Bool.not_eq_true', decide_eq_false_iff_not, aI221, aI222]
  repeat' apply And.intro
  all_goals intro ρ hR
  all_goals intros
  all_goals first
    | (exact ⟨rfl, rfl⟩)
theorem t4_ok (ρ : Env) : TblOK Φ ρ Try.prog t4 := addFn_ok (addFn_ok (t3_ok ρ) cIns_ok) cFire_ok
def ti0_1 : SI := .len (.app 12 (.l (.v 0) .nil))
def ti0_2 : SB := .lt (.c 0) ti0_1
def ti0_3 : SI := .len (.v 2)
def ti0_4 : List SB := [.lt ti0_3 (.c 80000), .c true, .lt (.add ti0_3 ti0_1) (.c 80000)]
def ti0_5 : SA := .i (.v 0) .nil
def ti0_6 : SA := .l (.v 0) ti0_5
def ti0_7 : SL := .app 222 (.l (.v 2) ti0_6)
def ti0_8 : SI := .len ti0_7
def ti0_9 : Eqn := .T (.lt ti0_8 (.c 80000))
def ti0_10 : SL := .app 223 ti0_6
def ti0_11 : SA := .i (.v 1000) .nil
def ti0_12 : SA := .l (.v 0) ti0_11
def ti0_13 : SL := .app 11 ti0_12
def ti0_14 : SL := .app 6 (.l ti0_13 ti0_11)
def ti0_15 : SI := .sel ti0_14 (.c 0) 1
def ti0_16 : SB := .lt (.v 0) ti0_15
def ti0_17 : SL := .app 6 ti0_12
def ti0_18 : List SB := .eq (.sel ti0_17 (.c 0) 3) (.c 1) :: .eq (.len ti0_17) (.c 1) :: .eq (.len ti0_14) (.c 1) :: ti0_2 :: ti0_4
def ti0_19 : List SB := ti0_16 :: ti0_18
def ti0_20 : SI := .len (.app 12 (.l ti0_13 .nil))
def ti0_21 : SI := .add ti0_1 (.c 1)
def ti0_22 : SA := .l ti0_13 ti0_5
def ti0_23 : SL := .app 222 (.l (.v 2) ti0_22)
def ti0_24 : SI := .len ti0_23
def ti0_25 : SL := .app 220 (.l (.v 2) (.i (.v 1000) (.i ti0_15 (.i (.c 1) .nil))))
def ti0_26 : SI := .len ti0_25
def ti0_27 : SI := .add ti0_3 (.c 1)
def ti0_28 : SI := .sel ti0_14 (.c 0) 2
def ti0_29 : SB := .eq ti0_28 (.c 0)
def ti0_30 : List SB := .not ti0_16 :: ti0_18
def ti0_31 : List SB := .eq ti0_26 ti0_27 :: ti0_29 :: ti0_30
def ti0_32 : SA := .i (.sel ti0_14 (.c 0) 3) .nil
def ti0_33 : SL := .app 8 (.l (.app 7 (.l ti0_13 (.i (.v 1000) (.i (.c 0) (.i (.c 0) ti0_32))))) ti0_11)
def ti0_34 : SI := .len (.app 12 (.l ti0_33 .nil))
def ti0_35 : SA := .l ti0_33 ti0_5
def ti0_36 : SL := .app 222 (.l ti0_25 ti0_35)
def ti0_37 : SI := .len ti0_36
def ti0_38 : SA := .i ti0_15 (.i ti0_28 ti0_5)
def ti0_39 : SL := .app 220 (.l (.v 2) (.i (.v 1000) (.i ti0_15 (.i (.app 221 ti0_38) .nil))))
def ti0_40 : SI := .len ti0_39
def ti0_41 : List SB := .eq ti0_40 ti0_27 :: .not ti0_29 :: ti0_30
def ti0_42 : SL := .app 7 (.l ti0_13 (.i (.v 1000) (.i (.app 222 ti0_38) (.i ti0_28 ti0_32))))
def ti0_43 : SI := .len (.app 12 (.l ti0_42 .nil))
def ti0_44 : SA := .l ti0_42 ti0_5
def ti0_45 : SL := .app 222 (.l ti0_39 ti0_44)
def ti0_46 : SI := .len ti0_45
set_option maxRecDepth 100000 in
theorem ti0_obs : loopObs Φ Try.prog t4 1000 ti0.f (loopAt Try.prog ti0.f ti0.id) ti0.n ti0.T left ti0.outs = some
  [⟨.not ti0_2 :: ti0_4, [ti0_9, .I ti0_8 ti0_3, .L ti0_10 (.v 0), .L ti0_7 (.v 2)]⟩, ⟨ti0_19, [.T (.lt (.add ti0_20 (.c 1)) ti0_21), .T (.lt (.add ti0_3 ti0_20) (.c 80000))]⟩, ⟨.lt ti0_24 (.c 80000) :: ti0_19, [ti0_9, .I ti0_8 ti0_24, .L ti0_10 (.app 223 ti0_22), .L ti0_7 ti0_23]⟩, ⟨ti0_31, [.T (.lt (.add ti0_34 (.c 1)) ti0_21), .T (.lt ti0_26 (.c 80000)), .T (.lt (.add ti0_26 ti0_34) (.c 80000))]⟩, ⟨.lt ti0_37 (.c 80000) :: ti0_31, [ti0_9, .I ti0_8 ti0_37, .L ti0_10 (.app 223 ti0_35), .L ti0_7 ti0_36]⟩, ⟨ti0_41, [.T (.lt (.add ti0_43 (.c 1)) ti0_21), .T (.lt ti0_40 (.c 80000)), .T (.lt (.add ti0_40 ti0_43) (.c 80000))]⟩, ⟨.lt ti0_46 (.c 80000) :: ti0_41, [ti0_9, .I ti0_8 ti0_46, .L ti0_10 (.app 223 ti0_44), .L ti0_7 ti0_45]⟩] := by kernel_rfl
theorem ti0_ok : ti0.ok Φ Try.prog := by
  refine ⟨by kernel_rfl, loop_rule (fun ρ => t4_ok ρ) (loopAt_sub (by kernel_rfl)) ti0_obs ?_⟩
  simp only [ti0_1, ti0_2, ti0_3, ti0_4, ti0_5, ti0_6, ti0_7, ti0_8, ti0_9, ti0_10, ti0_11, ti0_12, ti0_13, ti0_14, ti0_15, ti0_16, ti0_17, ti0_18, ti0_19, ti0_20, ti0_21, ti0_22, ti0_23, ti0_24, ti0_25, ti0_26, ti0_27, ti0_28, ti0_29, ti0_30, ti0_31, ti0_32, ti0_33, ti0_34, ti0_35, ti0_36, ti0_37, ti0_38, ti0_39, ti0_40, ti0_41, ti0_42, ti0_43, ti0_44, ti0_45, ti0_46, and_imp, List.forall_mem_cons, List.not_mem_nil, false_implies, implies_true, and_true, Ob.ok, holds, Eqn.ok, evB_eq, evB_lt, evB_not, evB_c, ev_sel, ev_len, ev_v, ev_c, ev_add, evL_v, evL_app, ev_app, evA_l, evA_i, evA_nil, std_find, std_put, std_del, std_clr, std_left, ints_cons, ints_nil, decide_eq_true_eq, Bool.not_eq_true', decide_eq_false_iff_not, aI221, aI222, aL220, aL222, aL223]
  repeat' apply And.intro
  all_goals intro ρ hR
  all_goals intros
  all_goals first
    | (obtain ⟨h0, hz⟩ := rem_none (M := ρ.l 0) (hR.row 3 rfl rfl) (by with_reducible assumption)
       rw [tickO_id h0]
       exact ⟨by omega, rfl, tickM_id hz, rfl⟩)
    | (obtain ⟨A, a, e, B, hM, hA, hB, hc, hf⟩ := at_key (M := ρ.l 0) (x := ρ.i 1000) (hR.keys 3 rfl rfl) (hR.row 3 rfl rfl) (by with_reducible assumption) (by with_reducible assumption)
       have l1 := rem_1 (A := A) (B := B) (x := ρ.i 1000) (a := a) (e := e)
       have l0 := rem_0 (A := A) (B := B) (x := ρ.i 1000) (a := a) (e := e)
       have n1 : (remT (ρ.l 0)).length = (remT A).length + (remT B).length + 1 := by rw [hM, l1]; simp; omega
       have n0 : (remT (clrT (ρ.l 0) (ρ.i 1000))).length = (remT A).length + (remT B).length := by rw [hc, l0]; simp
       have hi := insF_len (ρ.i 1000) a 1 (ρ.l 2)
       have hi2 := insF_len (ρ.i 1000) a (timesI a e (ρ.i 0)) (ρ.l 2)
       have g1 : (List.getD (findK (clrT (ρ.l 0) (ρ.i 1000)) (ρ.i 1000)) (Int.toNat 0) []).getD 1 0 = a := by rw [hf]; rfl
       have g2 : (List.getD (findK (clrT (ρ.l 0) (ρ.i 1000)) (ρ.i 1000)) (Int.toNat 0) []).getD 2 0 = e := by rw [hf]; rfl
       have g3 : (List.getD (findK (clrT (ρ.l 0) (ρ.i 1000)) (ρ.i 1000)) (Int.toNat 0) []).getD 3 0 = 0 := by rw [hf]; rfl
       have p : ∀ row, hdK row = ρ.i 1000 → putK (clrT (ρ.l 0) (ρ.i 1000)) row = A ++ row :: B := fun row h => by rw [hc]; exact put_mid h hA hB
       have d : ∀ row, hdK row = ρ.i 1000 → delK (A ++ row :: B) (ρ.i 1000) = A ++ B := fun row h => del_mid h hA hB
       simp only [g1, g2, g3] at *
       constructor <;> omega)
    | (obtain ⟨A, a, e, B, hM, hA, hB, hc, hf⟩ := at_key (M := ρ.l 0) (x := ρ.i 1000) (hR.keys 3 rfl rfl) (hR.row 3 rfl rfl) (by with_reducible assumption) (by with_reducible assumption)
       have l1 := rem_1 (A := A) (B := B) (x := ρ.i 1000) (a := a) (e := e)
       have l0 := rem_0 (A := A) (B := B) (x := ρ.i 1000) (a := a) (e := e)
       have n1 : (remT (ρ.l 0)).length = (remT A).length + (remT B).length + 1 := by rw [hM, l1]; simp; omega
       have n0 : (remT (clrT (ρ.l 0) (ρ.i 1000))).length = (remT A).length + (remT B).length := by rw [hc, l0]; simp
       have hi := insF_len (ρ.i 1000) a 1 (ρ.l 2)
       have hi2 := insF_len (ρ.i 1000) a (timesI a e (ρ.i 0)) (ρ.l 2)
       have g1 : (List.getD (findK (clrT (ρ.l 0) (ρ.i 1000)) (ρ.i 1000)) (Int.toNat 0) []).getD 1 0 = a := by rw [hf]; rfl
       have g2 : (List.getD (findK (clrT (ρ.l 0) (ρ.i 1000)) (ρ.i 1000)) (Int.toNat 0) []).getD 2 0 = e := by rw [hf]; rfl
       have g3 : (List.getD (findK (clrT (ρ.l 0) (ρ.i 1000)) (ρ.i 1000)) (Int.toNat 0) []).getD 3 0 = 0 := by rw [hf]; rfl
       have p : ∀ row, hdK row = ρ.i 1000 → putK (clrT (ρ.l 0) (ρ.i 1000)) row = A ++ row :: B := fun row h => by rw [hc]; exact put_mid h hA hB
       have d : ∀ row, hdK row = ρ.i 1000 → delK (A ++ row :: B) (ρ.i 1000) = A ++ B := fun row h => del_mid h hA hB
       simp only [g1, g2, g3] at *
       have E1 : tickO (ρ.i 0) (ρ.l 2) (ρ.l 0) = tickO (ρ.i 0) (ρ.l 2) (clrT (ρ.l 0) (ρ.i 1000)) := by rw [hc, hM]; exact tick_not (by omega)
       have E2 : tickM (ρ.i 0) (ρ.l 0) = tickM (ρ.i 0) (clrT (ρ.l 0) (ρ.i 1000)) := by rw [hc, hM]; exact tickM_not (by omega)
       rw [E1, E2]
       exact ⟨by with_reducible assumption, rfl, rfl, rfl⟩)
    | (obtain ⟨A, a, e, B, hM, hA, hB, hc, hf⟩ := at_key (M := ρ.l 0) (x := ρ.i 1000) (hR.keys 3 rfl rfl) (hR.row 3 rfl rfl) (by with_reducible assumption) (by with_reducible assumption)
       have l1 := rem_1 (A := A) (B := B) (x := ρ.i 1000) (a := a) (e := e)
       have l0 := rem_0 (A := A) (B := B) (x := ρ.i 1000) (a := a) (e := e)
       have n1 : (remT (ρ.l 0)).length = (remT A).length + (remT B).length + 1 := by rw [hM, l1]; simp; omega
       have n0 : (remT (clrT (ρ.l 0) (ρ.i 1000))).length = (remT A).length + (remT B).length := by rw [hc, l0]; simp
       have hi := insF_len (ρ.i 1000) a 1 (ρ.l 2)
       have hi2 := insF_len (ρ.i 1000) a (timesI a e (ρ.i 0)) (ρ.l 2)
       have g1 : (List.getD (findK (clrT (ρ.l 0) (ρ.i 1000)) (ρ.i 1000)) (Int.toNat 0) []).getD 1 0 = a := by rw [hf]; rfl
       have g2 : (List.getD (findK (clrT (ρ.l 0) (ρ.i 1000)) (ρ.i 1000)) (Int.toNat 0) []).getD 2 0 = e := by rw [hf]; rfl
       have g3 : (List.getD (findK (clrT (ρ.l 0) (ρ.i 1000)) (ρ.i 1000)) (Int.toNat 0) []).getD 3 0 = 0 := by rw [hf]; rfl
       have p : ∀ row, hdK row = ρ.i 1000 → putK (clrT (ρ.l 0) (ρ.i 1000)) row = A ++ row :: B := fun row h => by rw [hc]; exact put_mid h hA hB
       have d : ∀ row, hdK row = ρ.i 1000 → delK (A ++ row :: B) (ρ.i 1000) = A ++ B := fun row h => del_mid h hA hB
       simp only [g1, g2, g3] at *
       have he : e = 0 := (by with_reducible assumption)
       subst he
       have q1 := p [ρ.i 1000, 0, 0, 0] rfl
       have q2 := d [ρ.i 1000, 0, 0, 0] rfl
       have n3 : (remT (delK (putK (clrT (ρ.l 0) (ρ.i 1000)) [ρ.i 1000, 0, 0, 0]) (ρ.i 1000))).length = (remT A).length + (remT B).length := by rw [q1, q2, rem_2]; simp
       exact ⟨by omega, by omega, by omega⟩)
    | (obtain ⟨A, a, e, B, hM, hA, hB, hc, hf⟩ := at_key (M := ρ.l 0) (x := ρ.i 1000) (hR.keys 3 rfl rfl) (hR.row 3 rfl rfl) (by with_reducible assumption) (by with_reducible assumption)
       have l1 := rem_1 (A := A) (B := B) (x := ρ.i 1000) (a := a) (e := e)
       have l0 := rem_0 (A := A) (B := B) (x := ρ.i 1000) (a := a) (e := e)
       have n1 : (remT (ρ.l 0)).length = (remT A).length + (remT B).length + 1 := by rw [hM, l1]; simp; omega
       have n0 : (remT (clrT (ρ.l 0) (ρ.i 1000))).length = (remT A).length + (remT B).length := by rw [hc, l0]; simp
       have hi := insF_len (ρ.i 1000) a 1 (ρ.l 2)
       have hi2 := insF_len (ρ.i 1000) a (timesI a e (ρ.i 0)) (ρ.l 2)
       have g1 : (List.getD (findK (clrT (ρ.l 0) (ρ.i 1000)) (ρ.i 1000)) (Int.toNat 0) []).getD 1 0 = a := by rw [hf]; rfl
       have g2 : (List.getD (findK (clrT (ρ.l 0) (ρ.i 1000)) (ρ.i 1000)) (Int.toNat 0) []).getD 2 0 = e := by rw [hf]; rfl
       have g3 : (List.getD (findK (clrT (ρ.l 0) (ρ.i 1000)) (ρ.i 1000)) (Int.toNat 0) []).getD 3 0 = 0 := by rw [hf]; rfl
       have p : ∀ row, hdK row = ρ.i 1000 → putK (clrT (ρ.l 0) (ρ.i 1000)) row = A ++ row :: B := fun row h => by rw [hc]; exact put_mid h hA hB
       have d : ∀ row, hdK row = ρ.i 1000 → delK (A ++ row :: B) (ρ.i 1000) = A ++ B := fun row h => del_mid h hA hB
       simp only [g1, g2, g3] at *
       have he : ¬ e = 0 := (by with_reducible assumption)
       have q1 := p [ρ.i 1000, nextI a e (ρ.i 0), e, 0] rfl
       have n3 : (remT (putK (clrT (ρ.l 0) (ρ.i 1000)) [ρ.i 1000, nextI a e (ρ.i 0), e, 0])).length = (remT A).length + (remT B).length := by rw [q1, rem_0]; simp
       exact ⟨by omega, by omega, by omega⟩)
    | (obtain ⟨A, a, e, B, hM, hA, hB, hc, hf⟩ := at_key (M := ρ.l 0) (x := ρ.i 1000) (hR.keys 3 rfl rfl) (hR.row 3 rfl rfl) (by with_reducible assumption) (by with_reducible assumption)
       have l1 := rem_1 (A := A) (B := B) (x := ρ.i 1000) (a := a) (e := e)
       have l0 := rem_0 (A := A) (B := B) (x := ρ.i 1000) (a := a) (e := e)
       have n1 : (remT (ρ.l 0)).length = (remT A).length + (remT B).length + 1 := by rw [hM, l1]; simp; omega
       have n0 : (remT (clrT (ρ.l 0) (ρ.i 1000))).length = (remT A).length + (remT B).length := by rw [hc, l0]; simp
       have hi := insF_len (ρ.i 1000) a 1 (ρ.l 2)
       have hi2 := insF_len (ρ.i 1000) a (timesI a e (ρ.i 0)) (ρ.l 2)
       have g1 : (List.getD (findK (clrT (ρ.l 0) (ρ.i 1000)) (ρ.i 1000)) (Int.toNat 0) []).getD 1 0 = a := by rw [hf]; rfl
       have g2 : (List.getD (findK (clrT (ρ.l 0) (ρ.i 1000)) (ρ.i 1000)) (Int.toNat 0) []).getD 2 0 = e := by rw [hf]; rfl
       have g3 : (List.getD (findK (clrT (ρ.l 0) (ρ.i 1000)) (ρ.i 1000)) (Int.toNat 0) []).getD 3 0 = 0 := by rw [hf]; rfl
       have p : ∀ row, hdK row = ρ.i 1000 → putK (clrT (ρ.l 0) (ρ.i 1000)) row = A ++ row :: B := fun row h => by rw [hc]; exact put_mid h hA hB
       have d : ∀ row, hdK row = ρ.i 1000 → delK (A ++ row :: B) (ρ.i 1000) = A ++ B := fun row h => del_mid h hA hB
       simp only [g1, g2, g3] at *
       have he : e = 0 := (by with_reducible assumption)
       subst he
       have q1 := p [ρ.i 1000, 0, 0, 0] rfl
       have q2 := d [ρ.i 1000, 0, 0, 0] rfl
       have n3 : (remT (delK (putK (clrT (ρ.l 0) (ρ.i 1000)) [ρ.i 1000, 0, 0, 0]) (ρ.i 1000))).length = (remT A).length + (remT B).length := by rw [q1, q2, rem_2]; simp
       have E1 : tickO (ρ.i 0) (ρ.l 2) (ρ.l 0) = tickO (ρ.i 0) (insF (ρ.i 1000) a 1 (ρ.l 2)) (delK (putK (clrT (ρ.l 0) (ρ.i 1000)) [ρ.i 1000, 0, 0, 0]) (ρ.i 1000)) := by rw [q1, q2, hM]; exact tick_one (by omega) hB (by simp)
       have E2 : tickM (ρ.i 0) (ρ.l 0) = tickM (ρ.i 0) (delK (putK (clrT (ρ.l 0) (ρ.i 1000)) [ρ.i 1000, 0, 0, 0]) (ρ.i 1000)) := by rw [q1, q2, hM]; exact tickM_gone (by omega)
       rw [E1, E2]
       exact ⟨by with_reducible assumption, rfl, rfl, rfl⟩)
    | (obtain ⟨A, a, e, B, hM, hA, hB, hc, hf⟩ := at_key (M := ρ.l 0) (x := ρ.i 1000) (hR.keys 3 rfl rfl) (hR.row 3 rfl rfl) (by with_reducible assumption) (by with_reducible assumption)
       have l1 := rem_1 (A := A) (B := B) (x := ρ.i 1000) (a := a) (e := e)
       have l0 := rem_0 (A := A) (B := B) (x := ρ.i 1000) (a := a) (e := e)
       have n1 : (remT (ρ.l 0)).length = (remT A).length + (remT B).length + 1 := by rw [hM, l1]; simp; omega
       have n0 : (remT (clrT (ρ.l 0) (ρ.i 1000))).length = (remT A).length + (remT B).length := by rw [hc, l0]; simp
       have hi := insF_len (ρ.i 1000) a 1 (ρ.l 2)
       have hi2 := insF_len (ρ.i 1000) a (timesI a e (ρ.i 0)) (ρ.l 2)
       have g1 : (List.getD (findK (clrT (ρ.l 0) (ρ.i 1000)) (ρ.i 1000)) (Int.toNat 0) []).getD 1 0 = a := by rw [hf]; rfl
       have g2 : (List.getD (findK (clrT (ρ.l 0) (ρ.i 1000)) (ρ.i 1000)) (Int.toNat 0) []).getD 2 0 = e := by rw [hf]; rfl
       have g3 : (List.getD (findK (clrT (ρ.l 0) (ρ.i 1000)) (ρ.i 1000)) (Int.toNat 0) []).getD 3 0 = 0 := by rw [hf]; rfl
       have p : ∀ row, hdK row = ρ.i 1000 → putK (clrT (ρ.l 0) (ρ.i 1000)) row = A ++ row :: B := fun row h => by rw [hc]; exact put_mid h hA hB
       have d : ∀ row, hdK row = ρ.i 1000 → delK (A ++ row :: B) (ρ.i 1000) = A ++ B := fun row h => del_mid h hA hB
       simp only [g1, g2, g3] at *
       have he : ¬ e = 0 := (by with_reducible assumption)
       have q1 := p [ρ.i 1000, nextI a e (ρ.i 0), e, 0] rfl
       have n3 : (remT (putK (clrT (ρ.l 0) (ρ.i 1000)) [ρ.i 1000, nextI a e (ρ.i 0), e, 0])).length = (remT A).length + (remT B).length := by rw [q1, rem_0]; simp
       have E1 : tickO (ρ.i 0) (ρ.l 2) (ρ.l 0) = tickO (ρ.i 0) (insF (ρ.i 1000) a (timesI a e (ρ.i 0)) (ρ.l 2)) (putK (clrT (ρ.l 0) (ρ.i 1000)) [ρ.i 1000, nextI a e (ρ.i 0), e, 0]) := by rw [q1, hM, tick_mid]; exact tick_one (by omega) hB (by rw [if_neg he])
       have E2 : tickM (ρ.i 0) (ρ.l 0) = tickM (ρ.i 0) (putK (clrT (ρ.l 0) (ρ.i 1000)) [ρ.i 1000, nextI a e (ρ.i 0), e, 0]) := by rw [q1, hM]; exact tickM_next (by omega) he
       rw [E1, E2]
       exact ⟨by with_reducible assumption, rfl, rfl, rfl⟩)
theorem t5_ok (ρ : Env) : TblOK Φ ρ Try.prog t5 := addLp_ok (t4_ok ρ) ti0_ok
def cTick_1 : SL := .app 9 (.l (.v 0) .nil)
def cTick_2 : SA := .i (.v 0) .nil
def cTick_3 : SA := .l cTick_1 cTick_2
def cTick_4 : SL := .app 222 (.l (.lit []) cTick_3)
def cTick_5 : SI := .len cTick_4
def cTick_6 : SB := .lt (.len (.app 12 (.l cTick_1 .nil))) (.c 80000)
def cTick_7 : SI := .len (.v 0)
def cTick_8 : List SB := [.not (.lt (.c 549755813888) (.v 0)), .not (.lt (.v 0) (.v 9)), .le (.c 1) (.v 8), .le (.v 8) (.c 10000), .lt cTick_7 (.c 80000)]
def cTick_9 : SA := .l (.v 0) cTick_2
def cTick_10 : SL := .app 224 cTick_9
def cTick_11 : SI := .len cTick_10
def cTick_12 : SL := .app 225 cTick_9
set_option maxRecDepth 100000 in
theorem cTick_obs : callObs Φ Try.prog t5 1000 cTick.f cTick.vs cTick.o cTick.pc cTick.outs = some
  [⟨.lt cTick_5 (.c 80000) :: cTick_6 :: cTick_8, [.T (.lt cTick_11 (.c 80000)), .T (.le (.len cTick_12) cTick_7), .I cTick_11 cTick_5, .L cTick_12 (.app 10 (.l (.app 223 cTick_3) .nil)), .L cTick_10 cTick_4]⟩, ⟨.not cTick_6 :: cTick_8, [.T (.c false)]⟩] := by kernel_rfl
theorem cTick_ok : cTick.ok Φ Try.prog := by
  refine call_rule (fun ρ => t5_ok ρ) cTick_obs ?_
  simp only [cTick_1, cTick_2, cTick_3, cTick_4, cTick_5, cTick_6, cTick_7, cTick_8, cTick_9, cTick_10, cTick_11, cTick_12, and_imp, List.forall_mem_cons, List.not_mem_nil, false_implies, implies_true, and_true, Ob.ok, holds, Eqn.ok, evB_lt, evB_le, evB_not, evB_c, ev_len, ev_v, ev_c, evL_v, evL_lit, evL_app, evA_l, evA_i, evA_nil, std_flag, std_unflag, std_left, decide_eq_true_eq, Bool.not_eq_true', decide_eq_false_iff_not, aL222, aL223, aL224, aL225]
  repeat' apply And.intro
  all_goals intro ρ hR
  all_goals intros
  all_goals first
    | (have e := tickL_flag (A := ρ.l 0) (hR.row 1 rfl rfl) (ρ.i 0)
       have e2 := tickT_flag (A := ρ.l 0) (hR.row 1 rfl rfl) (ρ.i 0)
       have hl := tickT_len (ρ.l 0) (ρ.i 0)
       rw [e]
       exact ⟨by omega, by omega, rfl, e2, rfl⟩)
    | (have h1 := remT_len (flagT (ρ.l 0))
       have h2 := flagT_len (ρ.l 0)
       omega)
set_option maxRecDepth 100000 in
theorem cNew_obs : callObs Φ Try.prog noTbl 1000 cNew.f cNew.vs cNew.o cNew.pc cNew.outs = some
  [] := by kernel_rfl
theorem cNew_ok : cNew.ok Φ Try.prog := by
  refine call_rule (fun ρ => noTbl_ok) cNew_obs ?_
  intro ob h; cases h
def cArm_1 : SB := .lt (.v 0) (.c 0)
def cArm_2 : List SB := [.le (.c 1) (.v 8), .le (.v 8) (.c 10000)]
def cArm_3 : SA := .i (.v 0) (.i (.v 1) (.i (.v 2) (.i (.v 9) .nil)))
def cArm_4 : SL := .app 210 (.l (.v 0) cArm_3)
def cArm_5 : Eqn := .T (.le (.len cArm_4) (.add (.len (.v 0)) (.c 1)))
def cArm_6 : SI := .app 210 cArm_3
def cArm_7 : List Eqn := [cArm_5, .I cArm_6 (.c 1), .L cArm_4 (.v 0)]
def cArm_8 : SB := .lt (.v 2) (.c 0)
def cArm_9 : List SB := .not cArm_1 :: cArm_2
def cArm_10 : SB := .lt (.c 1073741824) (.v 2)
def cArm_11 : List SB := .not cArm_8 :: cArm_9
def cArm_12 : SB := .le (.v 1) (.v 9)
def cArm_13 : List SB := .not cArm_10 :: cArm_11
def cArm_14 : SB := .lt (.c 1099511627776) (.v 1)
def cArm_15 : List SB := .not cArm_12 :: cArm_13
set_option maxRecDepth 100000 in
theorem cArm_obs : callObs Φ Try.prog noTbl 1000 cArm.f cArm.vs cArm.o cArm.pc cArm.outs = some
  [⟨cArm_1 :: cArm_2, cArm_7⟩, ⟨cArm_8 :: cArm_9, cArm_7⟩, ⟨cArm_10 :: cArm_11, cArm_7⟩, ⟨cArm_12 :: cArm_13, cArm_7⟩, ⟨cArm_14 :: cArm_15, cArm_7⟩, ⟨.not cArm_14 :: cArm_15, [cArm_5, .I cArm_6 (.c 0), .L cArm_4 (.app 7 (.l (.v 0) (.i (.v 0) (.i (.v 1) (.i (.v 2) .nil)))))]⟩] := by kernel_rfl
theorem cArm_ok : cArm.ok Φ Try.prog := by
  refine call_rule (fun ρ => noTbl_ok) cArm_obs ?_
  simp only [cArm_1, cArm_2, cArm_3, cArm_4, cArm_5, cArm_6, cArm_7, cArm_8, cArm_9, cArm_10, cArm_11, cArm_12, cArm_13, cArm_14, cArm_15, and_imp, List.forall_mem_cons, List.not_mem_nil, false_implies, implies_true, and_true, Ob.ok, holds, Eqn.ok, evB_lt, evB_le, evB_not, ev_len, ev_v, ev_c, ev_add, evL_v, evL_app, ev_app, evA_l, evA_i, evA_nil, std_put, ints_cons, ints_nil, decide_eq_true_eq, Bool.not_eq_true', decide_eq_false_iff_not, aI210, aL210]
  repeat' apply And.intro
  all_goals intro ρ hR
  all_goals intros
  all_goals first
    | (have hl := armT_len (ρ.l 0) (ρ.i 0) (ρ.i 1) (ρ.i 2) (ρ.i 9)
       have e := arm_no (T := ρ.l 0) (id := ρ.i 0) (at' := ρ.i 1) (every := ρ.i 2) (now := ρ.i 9) (by omega)
       exact ⟨by omega, e.1, e.2⟩)
    | (have hl := armT_len (ρ.l 0) (ρ.i 0) (ρ.i 1) (ρ.i 2) (ρ.i 9)
       have e := arm_yes (T := ρ.l 0) (id := ρ.i 0) (at' := ρ.i 1) (every := ρ.i 2) (now := ρ.i 9) (by omega)
       exact ⟨by omega, e.1, e.2⟩)
set_option maxRecDepth 100000 in
theorem cDisarm_obs : callObs Φ Try.prog noTbl 1000 cDisarm.f cDisarm.vs cDisarm.o cDisarm.pc cDisarm.outs = some
  [] := by kernel_rfl
theorem cDisarm_ok : cDisarm.ok Φ Try.prog := by
  refine call_rule (fun ρ => noTbl_ok) cDisarm_obs ?_
  intro ob h; cases h
set_option maxRecDepth 100000 in
theorem cNow_obs : callObs Φ Try.prog noTbl 1000 cNow.f cNow.vs cNow.o cNow.pc cNow.outs = some
  [] := by kernel_rfl
theorem cNow_ok : cNow.ok Φ Try.prog := by
  refine call_rule (fun ρ => noTbl_ok) cNow_obs ?_
  intro ob h; cases h
set_option maxRecDepth 100000 in
theorem cCredit_obs : callObs Φ Try.prog noTbl 1000 cCredit.f cCredit.vs cCredit.o cCredit.pc cCredit.outs = some
  [] := by kernel_rfl
theorem cCredit_ok : cCredit.ok Φ Try.prog := by
  refine call_rule (fun ρ => noTbl_ok) cCredit_obs ?_
  intro ob h; cases h
def cCharge_1 : SI := .app 213 (.l (.v 1) (.i (.v 0) (.i (.v 1) .nil)))
def cCharge_2 : SI := .app 1 (.i (.c (.negSucc 1073741823)) (.i (.wrap IntKind.i64 (.sub (.sel (.app 6 (.l (.v 1) (.i (.v 0) .nil))) (.c 0) 1) (.app 1 (.i (.c 0) (.i (.app 0 (.i (.v 1) (.i (.c 1073741824) .nil))) .nil))))) .nil))
set_option maxRecDepth 100000 in
theorem cCharge_obs : callObs Φ Try.prog noTbl 1000 cCharge.f cCharge.vs cCharge.o cCharge.pc cCharge.outs = some
  [⟨[.le (.c 1) (.v 8), .le (.v 8) (.c 10000)], [.I cCharge_1 cCharge_2, .B (.lt cCharge_1 (.c 1)) (.lt cCharge_2 (.c 1)), .L (.app 7 (.l (.v 1) (.i (.v 0) (.i cCharge_1 .nil)))) (.app 7 (.l (.v 1) (.i (.v 0) (.i cCharge_2 .nil))))]⟩] := by kernel_rfl
theorem cCharge_ok : cCharge.ok Φ Try.prog := by
  refine call_rule (fun ρ => noTbl_ok) cCharge_obs ?_
  simp only [cCharge_1, cCharge_2, and_imp, List.forall_mem_cons, List.not_mem_nil, false_implies, implies_true, and_true, Ob.ok, holds, Eqn.ok, evB_lt, evB_le, ev_sel, ev_v, ev_c, ev_sub, ev_wrap, evL_v, evL_app, ev_app, evA_l, evA_i, evA_nil, std_min, std_max, std_find, std_put, ints_cons, ints_nil, negSucc_lit, decide_eq_true_eq, aI213]
  repeat' apply And.intro
  all_goals intro ρ hR
  all_goals intros
  all_goals first
    | (exact ⟨rfl, rfl, rfl⟩)
def cRefill_1 : SI := .app 214 (.l (.v 1) (.i (.v 0) (.i (.v 8) (.i (.v 1) .nil))))
def cRefill_2 : SI := .wrap IntKind.i64 (.mul (.v 8) (.app 1 (.i (.c 1) (.i (.app 0 (.i (.v 1) (.i (.c 1000) .nil))) .nil))))
def cRefill_3 : SI := .app 0 (.i cRefill_2 (.i (.wrap IntKind.i64 (.add (.sel (.app 6 (.l (.v 1) (.i (.v 0) .nil))) (.c 0) 1) cRefill_2)) .nil))
set_option maxRecDepth 100000 in
theorem cRefill_obs : callObs Φ Try.prog noTbl 1000 cRefill.f cRefill.vs cRefill.o cRefill.pc cRefill.outs = some
  [⟨[.le (.c 1) (.v 8), .le (.v 8) (.c 10000)], [.I cRefill_1 cRefill_3, .L (.app 7 (.l (.v 1) (.i (.v 0) (.i cRefill_1 .nil)))) (.app 7 (.l (.v 1) (.i (.v 0) (.i cRefill_3 .nil))))]⟩] := by kernel_rfl
theorem cRefill_ok : cRefill.ok Φ Try.prog := by
  refine call_rule (fun ρ => noTbl_ok) cRefill_obs ?_
  simp only [cRefill_1, cRefill_2, cRefill_3, and_imp, List.forall_mem_cons, List.not_mem_nil, false_implies, implies_true, and_true, Ob.ok, holds, Eqn.ok, evB_le, ev_sel, ev_v, ev_c, ev_add, ev_mul, ev_wrap, evL_v, evL_app, ev_app, evA_l, evA_i, evA_nil, std_min, std_max, std_find, std_put, ints_cons, ints_nil, decide_eq_true_eq, aI214]
  repeat' apply And.intro
  all_goals intro ρ hR
  all_goals intros
  all_goals first
    | (exact ⟨rfl, rfl⟩)
theorem t6_ok (ρ : Env) : TblOK Φ ρ Try.prog t6 := addFn_ok (addFn_ok (addFn_ok (addFn_ok (addFn_ok (addFn_ok (addFn_ok (addFn_ok (t5_ok ρ) cTick_ok) cNew_ok) cArm_ok) cDisarm_ok) cNow_ok) cCredit_ok) cCharge_ok) cRefill_ok
end Go.SF.C21.T
