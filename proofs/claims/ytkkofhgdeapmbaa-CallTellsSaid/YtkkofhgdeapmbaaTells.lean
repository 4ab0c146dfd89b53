/- THE LAW 'CallTells': whether any call is right, its text and words, and how many arguments its kind has, is as the document says; the law returns true, and nothing that was there is written. -/
import Derived.Test.YtkkofhgdeapmbaaRows
import Derived.Test.YtkkofhgdeapmbaaQ7
import Derived.Test.YtkkofhgdeapmbaaSFOpen
import Derived.WalkKit
import Derived.ProofKit
import Derived.OpenShut
import Derived.ShutString
import Derived.ChangeOld
import Derived.Below
import Derived.KernelRfl
namespace Go.Proofs.Ytkkofhgdeapmbaa.callTells
open Go.ChangeShapes Go.WideShapes Go.ChangeAt Go.RowKit Go.SF Go.SF.C22
set_option linter.unusedVariables false
set_option linter.unusedSimpArgs false

theorem row4 {row : List Int} (h : row.length = 4) : ∃ a0 a1 a2 a3, row = [a0, a1, a2, a3] := by
  match row, h with
  | [a0, a1, a2, a3], _ => exact ⟨a0, a1, a2, a3, rfl⟩
theorem own : ownKnob Try.prog.godebug = none := by kernel_rfl
theorem laidOut : laidOutB Try.prog = true := by kernel_rfl

theorem walk (w : World) (n0_0 : Int) (n0_1 : Int) (n0_2 : Int) (n0_3 : Int) (b0 : fullRow [.i .i64, .i .u64, .i .u64, .i .u64] [n0_0, n0_1, n0_2, n0_3]) :
    Calls Try.prog 3 #[.agg #[.int .i64 n0_0, .int .u64 n0_1, .int .u64 n0_2, .int .u64 n0_3]] w fun e w' => e = .returned (.bool true) ∧ Below w.heap.size w w' :=
  top_rule (Φ := Φ) (ρ := ⟨fun k => match k with | 0 => n0_0 | 1 => n0_1 | 2 => n0_2 | 3 => n0_3 | _ => 0, fun _ => false, fun _ => []⟩) (μ := []) (xs := [.agg #[.int .i64 n0_0, .int .u64 n0_1, .int .u64 n0_2, .int .u64 n0_3]])
    lTellsY_ok (DenAll.cons (rfl) .nil) (mrel_ins (Ins.nil))
    (holds_list (by
      simp only [lTellsY, lTells, x0, x1, x2, x3, y0, y1, y2, y3, u64, callF, List.all_cons, List.all_nil, List.cons_append, List.nil_append, Bool.and_true, Bool.and_eq_true, evB_le, evB_lt, ev_c, ev_v, decide_eq_true_eq]
      first | done | (simp only [fullRow, fullC, kmin, kmax] at *; omega)))

/-! ### THE ROW's STEP: WRITTEN OUT: LEAVE IT -/
set_option maxRecDepth 100000 in
theorem lifted (os : Os) (started : os.Started) (H : Type) (enc : TypeId × Value → H) :
    ReturnsInHanded {} Try.checked os 3 .any (Rows.callTellsSpec.pre6 enc Try.prog Try.f3 Rows.callTellsRow.domain false) (Rows.callTellsSpec.post enc Try.prog Try.f3 false true false false) := by
  refine returnsInHanded_of_change (C := Try.checked) own started (by kernel_rfl) Try.func3
    (ChangeSpec.witness6 (enc := enc) (C := Try.checked) false ⟨#[], #[.agg #[.int .i64 0, .int .u64 0, .int .u64 0, .int .u64 0]], []⟩ 8 (by kernel_rfl) (by kernel_rfl) (by kernel_rfl) (by kernel_rfl)) ?_
  intro W base args ds gs before hval0 hW hcnd _
  have hval : ∀ (j : Nat) t v, Try.f3.params[j]? = some t → args[j]? = some v → Value.okWide Try.prog W .any base t v := hval0
  have hW' := hW
  obtain ⟨p, q, hA0, hV, rfl, hfz, hnd⟩ := hW
  have hA : DataW.TrodAll enc Try.prog W 0 (fun _ => true) true Try.f3.params.toList args.toList ds p := hA0
  rw [Try.params3] at hA hval
  obtain ⟨v0, vs0, d0, ds0, p0, q0, hargs, rfl, rfl, h0, r0⟩ := trodAll_cons hA
  obtain ⟨rfl, rfl, rfl⟩ := trodAll_nil r0
  obtain rfl : args = #[v0] := by cases args; simp_all
  obtain ⟨rfl, rfl⟩ := trodVars_none hV
  obtain ⟨row0, g0, e0⟩ := open_flat (ks := [.i .i64, .i .u64, .i .u64, .i .u64]) (by kernel_rfl) h0
  have hv0 := flat_whole e0 (wide_agg (.inl ⟨_, Try.underlying24⟩) (hval 0 24 v0 rfl rfl))
  obtain ⟨n0_0, n0_1, n0_2, n0_3, rfl⟩ := row4 g0.len
  have hv0 : v0 = .agg #[.int .i64 n0_0, .int .u64 n0_1, .int .u64 n0_2, .int .u64 n0_3] := hv0
  subst hv0
  have k0 := h0
  have lt0 : ∀ x ∈ p0, x.block < W.heap.size := by obtain ⟨m, hm⟩ := k0; exact DataW.trod_lt m _ _ _ hm
  clear hA0 hval0
  refine (walk W n0_0 n0_1 n0_2 n0_3 g0).mono fun e W' ⟨he, bel⟩ => ?_
  subst he
  exact ⟨_, rfl, _, _, _, [], _, [], hW', trodAll_mk1 (shut_bool Try.underlying4 _), (trodAll_cons_mk (Below.trod laidOut (by kernel_rfl) (of_decide_eq_true (by kernel_rfl)) k0 bel lt0) trodAll_mk0), rfl, bel.frame _, fun h => by cases h⟩

theorem over : Rows.callTellsRow.holds Try.pinned (OpenSpec.ofChange Rows.callTellsSpec) :=
  OpenClaim.holds_of_wide 3 Try.f3 rfl rfl rfl rfl rfl rfl rfl ⟨rfl, rfl, rfl, rfl, rfl⟩ rfl rfl rfl rfl rfl (by kernel_rfl) Try.func3 (by kernel_rfl)
    (of_decide_eq_true (by kernel_rfl)) (by unfold Func.isWrapper; first | (rw [if_pos (by decide +kernel)]; kernel_rfl) | (rw [if_neg (by decide +kernel)]; exact ⟨rfl, rfl⟩))
    (fun os started H enc _ => lifted os started H enc)

/-- THE STATEMENT -/
theorem proved : Rows.CallTellsSaid := over
#print axioms proved
end Go.Proofs.Ytkkofhgdeapmbaa.callTells
