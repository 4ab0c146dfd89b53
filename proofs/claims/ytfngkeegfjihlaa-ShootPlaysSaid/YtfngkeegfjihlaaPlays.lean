/- THE LAW 'ShootPlays': whatever is posted and taken, with any number of CPUs: what is told, what waits, and what is done, is as the document's answer says; the law returns true, and nothing that was there is written. -/
import Derived.Test.YtfngkeegfjihlaaRows
import Derived.Test.YtfngkeegfjihlaaQ4
import Derived.Test.YtfngkeegfjihlaaSFOpen
import Derived.WalkKit
import Derived.ProofKit
import Derived.OpenShut
import Derived.ShutString
import Derived.ChangeOld
import Derived.Below
import Derived.KernelRfl
namespace Go.Proofs.Ytfngkeegfjihlaa.shootPlays
open Go.ChangeShapes Go.WideShapes Go.ChangeAt Go.RowKit Go.SF Go.SF.C15
set_option linter.unusedVariables false
set_option linter.unusedSimpArgs false

theorem own : ownKnob Try.prog.godebug = none := by kernel_rfl
theorem laidOut : laidOutB Try.prog = true := by kernel_rfl

theorem walk (w : World) (n0 : Int) (v1 : Value) (l1 : SF.Loc) (T1 : Tab) (n2 : Int) (b0 : kmin .i64 ≤ n0 ∧ n0 ≤ kmax .i64) (h1 : In w [.i .i64, .i .i64, .i .i64, .i .i64] v1 l1 T1) (b2 : kmin .i64 ≤ n2 ∧ n2 ≤ kmax .i64) :
    Calls Try.prog 3 #[.int .i64 n0, v1, .int .i64 n2] w fun e w' => e = .returned (.bool true) ∧ Below w.heap.size w w' :=
  top_rule (Φ := Φ) (ρ := ⟨fun k => match k with | 0 => n0 | 1 => n2 | _ => 0, fun _ => false, fun k => match k with | 9 => T1 | _ => []⟩) (μ := [l1]) (xs := [.int .i64 n0, v1, .int .i64 n2])
    lPlays_ok (DenAll.cons (rfl) (.cons (h1.den rfl rfl) (.cons (rfl) .nil))) (mrel_ins (Ins.cons h1 rfl .nil))
    (holds_list (by
      simp only [lPlays, x0, x1, List.all_cons, List.all_nil, List.cons_append, List.nil_append, Bool.and_true, Bool.and_eq_true, evB_le, evB_lt, ev_c, ev_v, decide_eq_true_eq]
      first | done | (simp only [fullRow, fullC, kmin, kmax] at *; omega)))

/-! ### THE ROW's STEP: WRITTEN OUT: LEAVE IT -/
set_option maxRecDepth 100000 in
theorem lifted (os : Os) (started : os.Started) (H : Type) (enc : TypeId × Value → H) :
    ReturnsInHanded {} Try.checked os 3 .any (Rows.shootPlaysSpec.pre6 enc Try.prog Try.f3 Rows.shootPlaysRow.domain false) (Rows.shootPlaysSpec.post enc Try.prog Try.f3 false true false false) := by
  refine returnsInHanded_of_change (C := Try.checked) own started (by kernel_rfl) Try.func3
    (ChangeSpec.witness6 (enc := enc) (C := Try.checked) false ⟨#[], #[.int .i64 0, .slice none 0 0, .int .i64 0], []⟩ 8 (by kernel_rfl) (by kernel_rfl) (by kernel_rfl) (by kernel_rfl)) ?_
  intro W base args ds gs before hval0 hW hcnd _
  have hval : ∀ (j : Nat) t v, Try.f3.params[j]? = some t → args[j]? = some v → Value.okWide Try.prog W .any base t v := hval0
  have hW' := hW
  obtain ⟨p, q, hA0, hV, rfl, hfz, hnd⟩ := hW
  have hA : DataW.TrodAll enc Try.prog W 0 (fun _ => true) true Try.f3.params.toList args.toList ds p := hA0
  rw [Try.params3] at hA hval
  obtain ⟨v0, vs0, d0, ds0, p0, q0, hargs, rfl, rfl, h0, r0⟩ := trodAll_cons hA
  obtain ⟨v1, vs1, d1, ds1, p1, q1, rfl, rfl, rfl, h1, r1⟩ := trodAll_cons r0
  obtain ⟨v2, vs2, d2, ds2, p2, q2, rfl, rfl, rfl, h2, r2⟩ := trodAll_cons r1
  obtain ⟨rfl, rfl, rfl⟩ := trodAll_nil r2
  obtain rfl : args = #[v0, v1, v2] := by cases args; simp_all
  obtain ⟨rfl, rfl⟩ := trodVars_none hV
  obtain ⟨row0, g0, e0⟩ := open_flat (ks := [.i .i64]) (by kernel_rfl) h0
  obtain ⟨n0, rfl, rfl⟩ := flat_cell e0 g0 (.inl ⟨_, Try.underlying3⟩) (hval 0 3 v0 rfl rfl)
  obtain ⟨l1, T1, i1⟩ := open_in (ks := [.i .i64, .i .i64, .i .i64, .i .i64]) Try.underlying22 (by kernel_rfl) h1 (hval 1 22 v1 rfl rfl)
  obtain ⟨row2, g2, e2⟩ := open_flat (ks := [.i .i64]) (by kernel_rfl) h2
  obtain ⟨n2, rfl, rfl⟩ := flat_cell e2 g2 (.inl ⟨_, Try.underlying3⟩) (hval 2 3 v2 rfl rfl)
  have k0 := h0
  have lt0 : ∀ x ∈ p0, x.block < W.heap.size := by obtain ⟨m, hm⟩ := k0; exact DataW.trod_lt m _ _ _ hm
  have k1 := h1
  have lt1 : ∀ x ∈ p1, x.block < W.heap.size := by obtain ⟨m, hm⟩ := k1; exact DataW.trod_lt m _ _ _ hm
  have k2 := h2
  have lt2 : ∀ x ∈ p2, x.block < W.heap.size := by obtain ⟨m, hm⟩ := k2; exact DataW.trod_lt m _ _ _ hm
  clear hA0 hval0
  refine (walk W n0 v1 l1 T1 n2 g0.1 i1 g2.1).mono fun e W' ⟨he, bel⟩ => ?_
  subst he
  exact ⟨_, rfl, _, _, _, [], _, [], hW', trodAll_mk1 (shut_bool Try.underlying4 _), (trodAll_cons_mk (Below.trod laidOut (by kernel_rfl) (of_decide_eq_true (by kernel_rfl)) k0 bel lt0) (trodAll_cons_mk (Below.trod laidOut (by kernel_rfl) (of_decide_eq_true (by kernel_rfl)) k1 bel lt1) (trodAll_cons_mk (Below.trod laidOut (by kernel_rfl) (of_decide_eq_true (by kernel_rfl)) k2 bel lt2) trodAll_mk0))), rfl, bel.frame _, fun h => by cases h⟩

theorem over : Rows.shootPlaysRow.holds Try.pinned (OpenSpec.ofChange Rows.shootPlaysSpec) :=
  OpenClaim.holds_of_wide 3 Try.f3 rfl rfl rfl rfl rfl rfl rfl ⟨rfl, rfl, rfl, rfl, rfl⟩ rfl rfl rfl rfl rfl (by kernel_rfl) Try.func3 (by kernel_rfl)
    (of_decide_eq_true (by kernel_rfl)) (by unfold Func.isWrapper; first | (rw [if_pos (by decide +kernel)]; kernel_rfl) | (rw [if_neg (by decide +kernel)]; exact ⟨rfl, rfl⟩))
    (fun os started H enc _ => lifted os started H enc)

/-- THE STATEMENT -/
theorem proved : Rows.ShootPlaysSaid := over
#print axioms proved
end Go.Proofs.Ytfngkeegfjihlaa.shootPlays
