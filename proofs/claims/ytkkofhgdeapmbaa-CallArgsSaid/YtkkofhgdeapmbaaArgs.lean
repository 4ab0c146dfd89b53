/- THE LAW 'CallArgs': a call is right just if its kind is one, and it has nothing behind its last argument; so many numbers does its text have; the law returns true, and nothing that was there is written. -/
import Derived.Test.YtkkofhgdeapmbaaRows
import Derived.Test.YtkkofhgdeapmbaaQ8
import Derived.Test.YtkkofhgdeapmbaaSFOpen
import Derived.WalkKit
import Derived.ProofKit
import Derived.OpenShut
import Derived.ShutString
import Derived.ChangeOld
import Derived.Below
import Derived.KernelRfl
namespace Go.Proofs.Ytkkofhgdeapmbaa.callArgs
open Go.ChangeShapes Go.WideShapes Go.ChangeAt Go.RowKit Go.SF Go.SF.C22
set_option linter.unusedVariables false
set_option linter.unusedSimpArgs false

theorem row3 {row : List Int} (h : row.length = 3) : ∃ a0 a1 a2, row = [a0, a1, a2] := by
  match row, h with
  | [a0, a1, a2], _ => exact ⟨a0, a1, a2, rfl⟩
theorem own : ownKnob Try.prog.godebug = none := by kernel_rfl
theorem laidOut : laidOutB Try.prog = true := by kernel_rfl

theorem walk (w : World) (n0 : Int) (n1_0 : Int) (n1_1 : Int) (n1_2 : Int) (b0 : kmin .u8 ≤ n0 ∧ n0 ≤ kmax .u8) (b1 : fullRow [.i .u64, .i .u64, .i .u64] [n1_0, n1_1, n1_2]) :
    Calls Try.prog 6 #[.int .u8 n0, .agg #[.int .u64 n1_0, .int .u64 n1_1, .int .u64 n1_2]] w fun e w' => e = .returned (.bool true) ∧ Below w.heap.size w w' :=
  top_rule (Φ := Φ) (ρ := ⟨fun k => match k with | 0 => n0 | 1 => n1_0 | 2 => n1_1 | 3 => n1_2 | _ => 0, fun _ => false, fun _ => []⟩) (μ := []) (xs := [.int .u8 n0, .agg #[.int .u64 n1_0, .int .u64 n1_1, .int .u64 n1_2]])
    lArgsY_ok (DenAll.cons (rfl) (.cons (rfl) .nil)) (mrel_ins (Ins.nil))
    (holds_list (by
      simp only [lArgsY, lArgs, x0, x1, x2, x3, y0, y1, y2, y3, u64, callF, List.all_cons, List.all_nil, List.cons_append, List.nil_append, Bool.and_true, Bool.and_eq_true, evB_le, evB_lt, ev_c, ev_v, decide_eq_true_eq]
      first | done | (simp only [fullRow, fullC, kmin, kmax] at *; omega)))

/-! ### THE ROW's STEP: WRITTEN OUT: LEAVE IT -/
set_option maxRecDepth 100000 in
theorem lifted (os : Os) (started : os.Started) (H : Type) (enc : TypeId × Value → H) :
    ReturnsInHanded {} Try.checked os 6 .any (Rows.callArgsSpec.pre6 enc Try.prog Try.f6 Rows.callArgsRow.domain false) (Rows.callArgsSpec.post enc Try.prog Try.f6 false true false false) := by
  refine returnsInHanded_of_change (C := Try.checked) own started (by kernel_rfl) Try.func6
    (ChangeSpec.witness6 (enc := enc) (C := Try.checked) false ⟨#[], #[.int .u8 0, .agg #[.int .u64 0, .int .u64 0, .int .u64 0]], []⟩ 8 (by kernel_rfl) (by kernel_rfl) (by kernel_rfl) (by kernel_rfl)) ?_
  intro W base args ds gs before hval0 hW hcnd _
  have hval : ∀ (j : Nat) t v, Try.f6.params[j]? = some t → args[j]? = some v → Value.okWide Try.prog W .any base t v := hval0
  have hW' := hW
  obtain ⟨p, q, hA0, hV, rfl, hfz, hnd⟩ := hW
  have hA : DataW.TrodAll enc Try.prog W 0 (fun _ => true) true Try.f6.params.toList args.toList ds p := hA0
  rw [Try.params6] at hA hval
  obtain ⟨v0, vs0, d0, ds0, p0, q0, hargs, rfl, rfl, h0, r0⟩ := trodAll_cons hA
  obtain ⟨v1, vs1, d1, ds1, p1, q1, rfl, rfl, rfl, h1, r1⟩ := trodAll_cons r0
  obtain ⟨rfl, rfl, rfl⟩ := trodAll_nil r1
  obtain rfl : args = #[v0, v1] := by cases args; simp_all
  obtain ⟨rfl, rfl⟩ := trodVars_none hV
  obtain ⟨row0, g0, e0⟩ := open_flat (ks := [.i .u8]) (by kernel_rfl) h0
  obtain ⟨n0, rfl, rfl⟩ := flat_cell e0 g0 (.inl ⟨_, Try.underlying5⟩) (hval 0 5 v0 rfl rfl)
  obtain ⟨row1, g1, e1⟩ := open_flat (ks := [.i .u64, .i .u64, .i .u64]) (by kernel_rfl) h1
  have hv1 := flat_whole e1 (wide_agg (.inr ⟨_, _, Try.underlying50⟩) (hval 1 50 v1 rfl rfl))
  obtain ⟨n1_0, n1_1, n1_2, rfl⟩ := row3 g1.len
  have hv1 : v1 = .agg #[.int .u64 n1_0, .int .u64 n1_1, .int .u64 n1_2] := hv1
  subst hv1
  have k0 := h0
  have lt0 : ∀ x ∈ p0, x.block < W.heap.size := by obtain ⟨m, hm⟩ := k0; exact DataW.trod_lt m _ _ _ hm
  have k1 := h1
  have lt1 : ∀ x ∈ p1, x.block < W.heap.size := by obtain ⟨m, hm⟩ := k1; exact DataW.trod_lt m _ _ _ hm
  clear hA0 hval0
  refine (walk W n0 n1_0 n1_1 n1_2 g0.1 g1).mono fun e W' ⟨he, bel⟩ => ?_
  subst he
  exact ⟨_, rfl, _, _, _, [], _, [], hW', trodAll_mk1 (shut_bool Try.underlying4 _), (trodAll_cons_mk (Below.trod laidOut (by kernel_rfl) (of_decide_eq_true (by kernel_rfl)) k0 bel lt0) (trodAll_cons_mk (Below.trod laidOut (by kernel_rfl) (of_decide_eq_true (by kernel_rfl)) k1 bel lt1) trodAll_mk0)), rfl, bel.frame _, fun h => by cases h⟩

theorem over : Rows.callArgsRow.holds Try.pinned (OpenSpec.ofChange Rows.callArgsSpec) :=
  OpenClaim.holds_of_wide 6 Try.f6 rfl rfl rfl rfl rfl rfl rfl ⟨rfl, rfl, rfl, rfl, rfl⟩ rfl rfl rfl rfl rfl (by kernel_rfl) Try.func6 (by kernel_rfl)
    (of_decide_eq_true (by kernel_rfl)) (by unfold Func.isWrapper; first | (rw [if_pos (by decide +kernel)]; kernel_rfl) | (rw [if_neg (by decide +kernel)]; exact ⟨rfl, rfl⟩))
    (fun os started H enc _ => lifted os started H enc)

/-- THE STATEMENT -/
theorem proved : Rows.CallArgsSaid := over
#print axioms proved
end Go.Proofs.Ytkkofhgdeapmbaa.callArgs
