/- THE LAW 'TlbNil': whatever the line, the law returns true, and nothing that was there is written. -/
import Derived.Test.YtlbppnfmahnnaaaRows
import Derived.Test.YtlbppnfmahnnaaaQ4
import Derived.Test.YtlbppnfmahnnaaaSFOpen
import Derived.WalkKit
import Derived.ProofKit
import Derived.OpenShut
import Derived.ShutString
import Derived.ChangeOld
import Derived.Below
import Derived.KernelRfl
namespace Go.Proofs.Ytlbppnfmahnnaaa.tlbNil
open Go.ChangeShapes Go.WideShapes Go.ChangeAt Go.RowKit Go.SF Go.SF.C14
set_option linter.unusedVariables false

theorem row4E {row : List Int} (h : fullRow K4 row) : ∃ a b c d, row = [a, b, c, d] := by
  match row, h with
  | [a, b, c, d], _ => exact ⟨a, b, c, d, rfl⟩

theorem own : ownKnob Try.prog.godebug = none := by kernel_rfl
theorem laidOut : laidOutB Try.prog = true := by kernel_rfl

theorem walk (w : World) (a b c d : Int) :
    Calls Try.prog 8 #[.agg #[.int .i64 a, .int .i64 b, .int .i64 c, .int .i64 d]] w fun e w' => e = .returned (.bool true) ∧ Below w.heap.size w w' :=
  top_rule (Φ := Φ) (ρ := ⟨fun k => [a, b, c, d].getD k 0, fun _ => false, fun _ => []⟩) (μ := []) (xs := [.agg #[.int .i64 a, .int .i64 b, .int .i64 c, .int .i64 d]])
    lNil_ok ⟨rfl, fun i v x hv hx => by
      match i with
      | 0 => simp [lNil] at hv hx; subst hv; subst hx; rfl
      | i + 1 => simp [lNil] at hv⟩ (mrel_exts rfl (by simp [lNil])) (by intro x hx; cases hx)

/-! ### THE ROW's STEP: WRITTEN OUT: LEAVE IT -/
set_option maxRecDepth 100000 in
theorem lifted (os : Os) (started : os.Started) (H : Type) (enc : TypeId × Value → H) :
    ReturnsInHanded {} Try.checked os 8 .any (Rows.tlbNilSpec.pre6 enc Try.prog Try.f8 Rows.tlbNilRow.domain false) (Rows.tlbNilSpec.post enc Try.prog Try.f8 false true false false) := by
  refine returnsInHanded_of_change (C := Try.checked) own started (by kernel_rfl) Try.func8
    (ChangeSpec.witness6 (enc := enc) (C := Try.checked) false ⟨#[], #[.agg #[.int .i64 0, .int .i64 0, .int .i64 0, .int .i64 0]], []⟩ 8 (by kernel_rfl) (by kernel_rfl) (by kernel_rfl) (by kernel_rfl)) ?_
  intro W base args ds gs before hval0 hW hcnd _
  have hval : ∀ (j : Nat) t v, Try.f8.params[j]? = some t → args[j]? = some v → Value.okWide Try.prog W .any base t v := hval0
  have hW' := hW
  obtain ⟨p, q, hA0, hV, rfl, hfz, hnd⟩ := hW
  have hA : DataW.TrodAll enc Try.prog W 0 (fun _ => true) true Try.f8.params.toList args.toList ds p := hA0
  rw [Try.params8] at hA hval
  obtain ⟨v0, vs0, d0, ds0, p0, q0, hargs, rfl, rfl, h0, r0⟩ := trodAll_cons hA
  obtain ⟨rfl, rfl, rfl⟩ := trodAll_nil r0
  obtain rfl : args = #[v0] := by cases args; simp_all
  obtain ⟨rfl, rfl⟩ := trodVars_none hV
  obtain ⟨row0, g0, e0⟩ := open_flat (ks := K4) (by kernel_rfl) h0
  have hv0 := flat_whole e0 (wide_agg (.inl ⟨_, Try.underlying28⟩) (hval 0 28 v0 rfl rfl))
  obtain ⟨a, b, c, d, rfl⟩ := row4E g0
  have hv0 : v0 = .agg #[.int .i64 a, .int .i64 b, .int .i64 c, .int .i64 d] := hv0
  subst hv0
  have k0 := h0
  have lt0 : ∀ x ∈ p0, x.block < W.heap.size := by obtain ⟨m, hm⟩ := k0; exact DataW.trod_lt m _ _ _ hm
  clear hA0 hval0
  refine (walk W a b c d).mono fun e W' ⟨he, bel⟩ => ?_
  subst he
  exact ⟨_, rfl, _, _, _, [], _, [], hW', trodAll_mk1 (shut_bool Try.underlying4 _), (trodAll_cons_mk (Below.trod laidOut (by kernel_rfl) (of_decide_eq_true (by kernel_rfl)) k0 bel lt0) trodAll_mk0), rfl, bel.frame _, fun h => by cases h⟩

theorem over : Rows.tlbNilRow.holds Try.pinned (OpenSpec.ofChange Rows.tlbNilSpec) :=
  OpenClaim.holds_of_wide 8 Try.f8 rfl rfl rfl rfl rfl rfl rfl ⟨rfl, rfl, rfl, rfl, rfl⟩ rfl rfl rfl rfl rfl (by kernel_rfl) Try.func8 (by kernel_rfl)
    (of_decide_eq_true (by kernel_rfl)) (by unfold Func.isWrapper; first | (rw [if_pos (by decide +kernel)]; kernel_rfl) | (rw [if_neg (by decide +kernel)]; exact ⟨rfl, rfl⟩))
    (fun os started H enc _ => lifted os started H enc)

/-- ████ THE STATEMENT ████ -/
theorem proved : Rows.TlbNilSaid := over
#print axioms proved
end Go.Proofs.Ytlbppnfmahnnaaa.tlbNil
