/- THE LAW 'CallBack': a right call's text and words are read as it; what is read is shown, and encoded, as it was; the law returns true, and nothing that was there is written. -/
import Derived.Test.YtkkofhgdeapmbaaRows
import Derived.Test.YtkkofhgdeapmbaaQ8
import Derived.Test.YtkkofhgdeapmbaaSFOpen
import Derived.WalkKit
import Derived.ProofKit
import Derived.OpenShut
import Derived.ShutString
import Derived.ChangeOld
import Derived.Below
import Derived.KernelRfl
namespace Go.Proofs.Ytkkofhgdeapmbaa.callBack
open Go.ChangeShapes Go.WideShapes Go.ChangeAt Go.RowKit Go.SF Go.SF.C22
set_option linter.unusedVariables false
set_option linter.unusedSimpArgs false

theorem row4 {row : List Int} (h : row.length = 4) : ∃ a0 a1 a2 a3, row = [a0, a1, a2, a3] := by
  match row, h with
  | [a0, a1, a2, a3], _ => exact ⟨a0, a1, a2, a3, rfl⟩
theorem str_val (b : ByteArray) : qVal .str ((encL b.data.toList : Nat) : Int) = Value.string b := by
  simp [qVal, strB_enc]
theorem open_str {P : Program} {t : TypeId} {w : World} {r : Reach} {b0 : Nat} {v : Value} (ht : P.underlying t = some .string) (hw : Value.okWide P w r b0 t v) : ∃ b, v = .string b := by
  simp only [Value.okWide, ht, Cell.okWide] at hw
  cases v <;> simp_all [Cell.ok]
theorem own : ownKnob Try.prog.godebug = none := by kernel_rfl
theorem laidOut : laidOutB Try.prog = true := by kernel_rfl

theorem walk (w : World) (n0_0 : Int) (n0_1 : Int) (n0_2 : Int) (n0_3 : Int) (n1 : ByteArray) (n2_0 : Int) (n2_1 : Int) (n2_2 : Int) (n2_3 : Int) (b0 : fullRow [.i .i64, .i .u64, .i .u64, .i .u64] [n0_0, n0_1, n0_2, n0_3]) (b2 : fullRow [.i .u64, .i .u64, .i .u64, .i .u64] [n2_0, n2_1, n2_2, n2_3]) :
    Calls Try.prog 5 #[.agg #[.int .i64 n0_0, .int .u64 n0_1, .int .u64 n0_2, .int .u64 n0_3], .string n1, .agg #[.int .u64 n2_0, .int .u64 n2_1, .int .u64 n2_2, .int .u64 n2_3]] w fun e w' => e = .returned (.bool true) ∧ Below w.heap.size w w' :=
  top_rule (Φ := Φ) (ρ := ⟨fun k => match k with | 0 => n0_0 | 1 => n0_1 | 2 => n0_2 | 3 => n0_3 | 8 => ((encL n1.data.toList : Nat) : Int) | 4 => n2_0 | 5 => n2_1 | 6 => n2_2 | 7 => n2_3 | _ => 0, fun _ => false, fun _ => []⟩) (μ := []) (xs := [.agg #[.int .i64 n0_0, .int .u64 n0_1, .int .u64 n0_2, .int .u64 n0_3], .string n1, .agg #[.int .u64 n2_0, .int .u64 n2_1, .int .u64 n2_2, .int .u64 n2_3]])
    lBackY_ok (DenAll.cons (rfl) (.cons (congrArg some (str_val n1)) (.cons (rfl) .nil))) (mrel_ins (Ins.nil))
    (holds_list (by
      simp only [lBackY, lBack, x0, x1, x2, x3, y0, y1, y2, y3, u64, callF, List.all_cons, List.all_nil, List.cons_append, List.nil_append, Bool.and_true, Bool.and_eq_true, evB_le, evB_lt, ev_c, ev_v, decide_eq_true_eq]
      first | done | (simp only [fullRow, fullC, kmin, kmax] at *; omega)))

/-! ### THE ROW's STEP: WRITTEN OUT: LEAVE IT -/
set_option maxRecDepth 100000 in
theorem lifted (os : Os) (started : os.Started) (H : Type) (enc : TypeId × Value → H) :
    ReturnsInHanded {} Try.checked os 5 .any (Rows.callBackSpec.pre6 enc Try.prog Try.f5 Rows.callBackRow.domain false) (Rows.callBackSpec.post enc Try.prog Try.f5 false true false false) := by
  refine returnsInHanded_of_change (C := Try.checked) own started (by kernel_rfl) Try.func5
    (ChangeSpec.witness6 (enc := enc) (C := Try.checked) false ⟨#[], #[.agg #[.int .i64 0, .int .u64 0, .int .u64 0, .int .u64 0], .string ⟨#[]⟩, .agg #[.int .u64 0, .int .u64 0, .int .u64 0, .int .u64 0]], []⟩ 8 (by kernel_rfl) (by kernel_rfl) (by kernel_rfl) (by kernel_rfl)) ?_
  intro W base args ds gs before hval0 hW hcnd _
  have hval : ∀ (j : Nat) t v, Try.f5.params[j]? = some t → args[j]? = some v → Value.okWide Try.prog W .any base t v := hval0
  have hW' := hW
  obtain ⟨p, q, hA0, hV, rfl, hfz, hnd⟩ := hW
  have hA : DataW.TrodAll enc Try.prog W 0 (fun _ => true) true Try.f5.params.toList args.toList ds p := hA0
  rw [Try.params5] at hA hval
  obtain ⟨v0, vs0, d0, ds0, p0, q0, hargs, rfl, rfl, h0, r0⟩ := trodAll_cons hA
  obtain ⟨v1, vs1, d1, ds1, p1, q1, rfl, rfl, rfl, h1, r1⟩ := trodAll_cons r0
  obtain ⟨v2, vs2, d2, ds2, p2, q2, rfl, rfl, rfl, h2, r2⟩ := trodAll_cons r1
  obtain ⟨rfl, rfl, rfl⟩ := trodAll_nil r2
  obtain rfl : args = #[v0, v1, v2] := by cases args; simp_all
  obtain ⟨rfl, rfl⟩ := trodVars_none hV
  obtain ⟨row0, g0, e0⟩ := open_flat (ks := [.i .i64, .i .u64, .i .u64, .i .u64]) (by kernel_rfl) h0
  have hv0 := flat_whole e0 (wide_agg (.inl ⟨_, Try.underlying24⟩) (hval 0 24 v0 rfl rfl))
  obtain ⟨n0_0, n0_1, n0_2, n0_3, rfl⟩ := row4 g0.len
  have hv0 : v0 = .agg #[.int .i64 n0_0, .int .u64 n0_1, .int .u64 n0_2, .int .u64 n0_3] := hv0
  subst hv0
  obtain ⟨n1, rfl⟩ := open_str Try.underlying9 (hval 1 9 v1 rfl rfl)
  obtain ⟨row2, g2, e2⟩ := open_flat (ks := [.i .u64, .i .u64, .i .u64, .i .u64]) (by kernel_rfl) h2
  have hv2 := flat_whole e2 (wide_agg (.inr ⟨_, _, Try.underlying48⟩) (hval 2 48 v2 rfl rfl))
  obtain ⟨n2_0, n2_1, n2_2, n2_3, rfl⟩ := row4 g2.len
  have hv2 : v2 = .agg #[.int .u64 n2_0, .int .u64 n2_1, .int .u64 n2_2, .int .u64 n2_3] := hv2
  subst hv2
  have k0 := h0
  have lt0 : ∀ x ∈ p0, x.block < W.heap.size := by obtain ⟨m, hm⟩ := k0; exact DataW.trod_lt m _ _ _ hm
  have k1 := h1
  have lt1 : ∀ x ∈ p1, x.block < W.heap.size := by obtain ⟨m, hm⟩ := k1; exact DataW.trod_lt m _ _ _ hm
  have k2 := h2
  have lt2 : ∀ x ∈ p2, x.block < W.heap.size := by obtain ⟨m, hm⟩ := k2; exact DataW.trod_lt m _ _ _ hm
  clear hA0 hval0
  refine (walk W n0_0 n0_1 n0_2 n0_3 n1 n2_0 n2_1 n2_2 n2_3 g0 g2).mono fun e W' ⟨he, bel⟩ => ?_
  subst he
  exact ⟨_, rfl, _, _, _, [], _, [], hW', trodAll_mk1 (shut_bool Try.underlying4 _), (trodAll_cons_mk (Below.trod laidOut (by kernel_rfl) (of_decide_eq_true (by kernel_rfl)) k0 bel lt0) (trodAll_cons_mk (Below.trod laidOut (by kernel_rfl) (of_decide_eq_true (by kernel_rfl)) k1 bel lt1) (trodAll_cons_mk (Below.trod laidOut (by kernel_rfl) (of_decide_eq_true (by kernel_rfl)) k2 bel lt2) trodAll_mk0))), rfl, bel.frame _, fun h => by cases h⟩

theorem over : Rows.callBackRow.holds Try.pinned (OpenSpec.ofChange Rows.callBackSpec) :=
  OpenClaim.holds_of_wide 5 Try.f5 rfl rfl rfl rfl rfl rfl rfl ⟨rfl, rfl, rfl, rfl, rfl⟩ rfl rfl rfl rfl rfl (by kernel_rfl) Try.func5 (by kernel_rfl)
    (of_decide_eq_true (by kernel_rfl)) (by unfold Func.isWrapper; first | (rw [if_pos (by decide +kernel)]; kernel_rfl) | (rw [if_neg (by decide +kernel)]; exact ⟨rfl, rfl⟩))
    (fun os started H enc _ => lifted os started H enc)

/-- THE STATEMENT -/
theorem proved : Rows.CallBackSaid := over
#print axioms proved
end Go.Proofs.Ytkkofhgdeapmbaa.callBack
