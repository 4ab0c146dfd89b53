/- THE LAW 'SchedPlays': whatever is added, dispatched and left, whatever happens to whom, however time goes on: what is told, and how each one, each CPU and each queue stands, is as the document says; the law returns true, and nothing that was there is written. -/
import Derived.Test.YtnhdohhhgfdhfaaRows
import Derived.Test.YtnhdohhhgfdhfaaQX
import Derived.Test.YtnhdohhhgfdhfaaSFOpen
import Derived.WalkKit
import Derived.ProofKit
import Derived.OpenShut
import Derived.ShutString
import Derived.ChangeOld
import Derived.Below
import Derived.KernelRfl
namespace Go.Proofs.Ytnhdohhhgfdhfaa.schedPlays
open Go.ChangeShapes Go.WideShapes Go.ChangeAt Go.RowKit Go.SF Go.SF.C21
set_option linter.unusedVariables false
set_option linter.unusedSimpArgs false

theorem own : ownKnob Try.prog.godebug = none := by kernel_rfl
theorem laidOut : laidOutB Try.prog = true := by kernel_rfl

theorem walk (w : World) (n0 : Int) (n1 : Int) (v2 : Value) (l2 : SF.Loc) (T2 : Tab) (b0 : kmin .i64 ≤ n0 ∧ n0 ≤ kmax .i64) (b1 : kmin .i64 ≤ n1 ∧ n1 ≤ kmax .i64) (h2 : In w [.i .i64, .i .i64, .i .i64, .i .i64, .i .i64] v2 l2 T2) :
    Calls Try.prog 3 #[.int .i64 n0, .int .i64 n1, v2] w fun e w' => e = .returned (.bool true) ∧ Below w.heap.size w w' :=
  top_rule (Φ := Φ) (ρ := ⟨fun k => match k with | 0 => n0 | 1 => n1 | _ => 0, fun _ => false, fun k => match k with | 12 => T2 | _ => []⟩) (μ := [l2]) (xs := [.int .i64 n0, .int .i64 n1, v2])
    lPlays_ok (DenAll.cons (rfl) (.cons (rfl) (.cons (h2.den rfl rfl) .nil))) (mrel_ins (Ins.cons h2 rfl .nil))
    (holds_list (by
      simp only [lPlays, x0, x1, List.all_cons, List.all_nil, List.cons_append, List.nil_append, Bool.and_true, Bool.and_eq_true, evB_le, evB_lt, ev_c, ev_v, decide_eq_true_eq]
      first | done | (simp only [fullRow, fullC, kmin, kmax] at *; omega)))

/-! ### THE ROW's STEP: WRITTEN OUT: LEAVE IT -/
set_option maxRecDepth 100000 in
theorem lifted (os : Os) (started : os.Started) (H : Type) (enc : TypeId × Value → H) :
    ReturnsInHanded {} Try.checked os 3 .any (Rows.schedPlaysSpec.pre6 enc Try.prog Try.f3 Rows.schedPlaysRow.domain false) (Rows.schedPlaysSpec.post enc Try.prog Try.f3 false true false false) := by
  refine returnsInHanded_of_change (C := Try.checked) own started (by kernel_rfl) Try.func3
    (ChangeSpec.witness6 (enc := enc) (C := Try.checked) false ⟨#[], #[.int .i64 0, .int .i64 0, .slice none 0 0], []⟩ 8 (by kernel_rfl) (by kernel_rfl) (by kernel_rfl) (by kernel_rfl)) ?_
  intro W base args ds gs before hval0 hW hcnd _
  have hval : ∀ (j : Nat) t v, Try.f3.params[j]? = some t → args[j]? = some v → Value.okWide Try.prog W .any base t v := hval0
  have hW' := hW
  obtain ⟨p, q, hA0, hV, rfl, hfz, hnd⟩ := hW
  have hA : DataW.TrodAll enc Try.prog W 0 (fun _ => true) true Try.f3.params.toList args.toList ds p := hA0
  rw [Try.params3] at hA hval
  obtain ⟨v0, vs0, d0, ds0, p0, q0, hargs, rfl, rfl, h0, r0⟩ := trodAll_cons hA
  obtain ⟨v1, vs1, d1, ds1, p1, q1, rfl, rfl, rfl, h1, r1⟩ := trodAll_cons r0
  obtain ⟨v2, vs2, d2, ds2, p2, q2, rfl, rfl, rfl, h2, r2⟩ := trodAll_cons r1
  obtain ⟨rfl, rfl, rfl⟩ := trodAll_nil r2
  obtain rfl : args = #[v0, v1, v2] := by cases args; simp_all
  obtain ⟨rfl, rfl⟩ := trodVars_none hV
  obtain ⟨row0, g0, e0⟩ := open_flat (ks := [.i .i64]) (by kernel_rfl) h0
  obtain ⟨n0, rfl, rfl⟩ := flat_cell e0 g0 (.inl ⟨_, Try.underlying3⟩) (hval 0 3 v0 rfl rfl)
  obtain ⟨row1, g1, e1⟩ := open_flat (ks := [.i .i64]) (by kernel_rfl) h1
  obtain ⟨n1, rfl, rfl⟩ := flat_cell e1 g1 (.inl ⟨_, Try.underlying3⟩) (hval 1 3 v1 rfl rfl)
  obtain ⟨l2, T2, i2⟩ := open_in (ks := [.i .i64, .i .i64, .i .i64, .i .i64, .i .i64]) Try.underlying22 (by kernel_rfl) h2 (hval 2 22 v2 rfl rfl)
  have k0 := h0
  have lt0 : ∀ x ∈ p0, x.block < W.heap.size := by obtain ⟨m, hm⟩ := k0; exact DataW.trod_lt m _ _ _ hm
  have k1 := h1
  have lt1 : ∀ x ∈ p1, x.block < W.heap.size := by obtain ⟨m, hm⟩ := k1; exact DataW.trod_lt m _ _ _ hm
  have k2 := h2
  have lt2 : ∀ x ∈ p2, x.block < W.heap.size := by obtain ⟨m, hm⟩ := k2; exact DataW.trod_lt m _ _ _ hm
  clear hA0 hval0
  refine (walk W n0 n1 v2 l2 T2 g0.1 g1.1 i2).mono fun e W' ⟨he, bel⟩ => ?_
  subst he
  exact ⟨_, rfl, _, _, _, [], _, [], hW', trodAll_mk1 (shut_bool Try.underlying4 _), (trodAll_cons_mk (Below.trod laidOut (by kernel_rfl) (of_decide_eq_true (by kernel_rfl)) k0 bel lt0) (trodAll_cons_mk (Below.trod laidOut (by kernel_rfl) (of_decide_eq_true (by kernel_rfl)) k1 bel lt1) (trodAll_cons_mk (Below.trod laidOut (by kernel_rfl) (of_decide_eq_true (by kernel_rfl)) k2 bel lt2) trodAll_mk0))), rfl, bel.frame _, fun h => by cases h⟩

theorem over : Rows.schedPlaysRow.holds Try.pinned (OpenSpec.ofChange Rows.schedPlaysSpec) :=
  OpenClaim.holds_of_wide 3 Try.f3 rfl rfl rfl rfl rfl rfl rfl ⟨rfl, rfl, rfl, rfl, rfl⟩ rfl rfl rfl rfl rfl (by kernel_rfl) Try.func3 (by kernel_rfl)
    (of_decide_eq_true (by kernel_rfl)) (by unfold Func.isWrapper; first | (rw [if_pos (by decide +kernel)]; kernel_rfl) | (rw [if_neg (by decide +kernel)]; exact ⟨rfl, rfl⟩))
    (fun os started H enc _ => lifted os started H enc)

/-- THE STATEMENT -/
theorem proved : Rows.SchedPlaysSaid := over
#print axioms proved
end Go.Proofs.Ytnhdohhhgfdhfaa.schedPlays
