/- THE LAW 'VcpuNexts': whatever the machine state, the event and the CPU given, the law returns true, and nothing that was there is written. The walk is done by the machine of unknowns (SE), run by the kernel, state by state. -/
import Derived.Test.YtondflokjmdaiaaRows
import Derived.Test.YtondflokjmdaiaaSETop
import Derived.Test.YtondflokjmdaiaaNextsA
import Derived.Test.YtondflokjmdaiaaNexts0
import Derived.Test.YtondflokjmdaiaaNexts1
import Derived.Test.YtondflokjmdaiaaNexts2
import Derived.Test.YtondflokjmdaiaaNexts3
import Derived.Test.YtondflokjmdaiaaNexts4
import Derived.Test.YtondflokjmdaiaaNexts5
import Derived.Test.YtondflokjmdaiaaNexts6
import Derived.Test.YtondflokjmdaiaaNexts7
import Derived.WalkKit
import Derived.ProofKit
import Derived.OpenShut
import Derived.ShutString
import Derived.ChangeOld
import Derived.Below
import Derived.KernelRfl
namespace Go.Proofs.Ytondflokjmdaiaa.vcpuNexts
open Go.ChangeShapes Go.WideShapes Go.ChangeAt Go.RowKit Go.SE
set_option linter.unusedVariables false

def Φ0 : Sig Unit := ⟨fun _ => [], fun _ _ => 0, fun _ _ => (), fun _ _ => false⟩
def envOf (s d : Int) (r l : Bool) (a b c e n ev cp : Int) : Env Unit := ⟨fun k => [s, d, a, b, c, e, n, ev, cp].getD k 0, fun k => [r, l].getD k false, fun _ => ()⟩
theorem go {sv ev : SI} {pc : List SB} (h : topB Try.prog tbl16 10000 3 [cpuOf sv, .cv (.i .i64 ev), .cv (.i .i64 (.v 8))] ⟨[], []⟩ pc = true)
    (w : World) (s d : Int) (r l : Bool) (a b c e n k cp : Int) (hs : sv.ev Φ0 (envOf s d r l a b c e n k cp) = s) (hk : ev.ev Φ0 (envOf s d r l a b c e n k cp) = k) (hp : holds Φ0 (envOf s d r l a b c e n k cp) pc) :
    Calls Try.prog 3 #[.agg #[.int .i64 s, .int .i64 d, .bool r, .bool l, .int .u64 a, .int .u64 b, .int .u64 c, .int .u64 e, .int .i64 n], .int .i64 k, .int .i64 cp] w fun e w' => e = .returned (.bool true) ∧ Below w.heap.size w w' :=
  top (Φ := Φ0) (ρ := envOf s d r l a b c e n k cp) (μ := []) (xs := [.agg #[.int .i64 s, .int .i64 d, .bool r, .bool l, .int .u64 a, .int .u64 b, .int .u64 c, .int .u64 e, .int .i64 n], .int .i64 k, .int .i64 cp])
    tbl16_ok h rfl ⟨rfl, fun i v x hv hx => by
      match i, hv, hx with
      | 0, hv, hx =>
        simp at hv hx; subst hv; subst hx
        simp only [cpuOf, den, denL, denC, hs, Option.map_some]
        rfl
      | 1, hv, hx =>
        simp at hv hx; subst hv; subst hx
        simp only [den, denC, hk]
      | 2, hv, hx => simp at hv hx; subst hv; subst hx; rfl
      | i + 3, hv, hx => simp at hv⟩ mrel_nil hp
theorem walk3 (w : World) (s d : Int) (r l : Bool) (a b c e n k cp : Int) :
    Calls Try.prog 3 #[.agg #[.int .i64 s, .int .i64 d, .bool r, .bool l, .int .u64 a, .int .u64 b, .int .u64 c, .int .u64 e, .int .i64 n], .int .i64 k, .int .i64 cp] w fun e w' => e = .returned (.bool true) ∧ Below w.heap.size w w' := by
  have one : ∀ {q : SB}, q.ev Φ0 (envOf s d r l a b c e n k cp) = true → holds Φ0 (envOf s d r l a b c e n k cp) [q] := fun h => holds_cons _ _ h (holds_nil _ _)
  by_cases h6 : s < 0
  · exact go n6 w s d r l a b c e n k cp (by simp [envOf]) (by simp [envOf]) (one (by simp [envOf, h6]))
  by_cases h7 : 6 ≤ s
  · exact go n7 w s d r l a b c e n k cp (by simp [envOf]) (by simp [envOf]) (one (by simp [envOf, h7]))
  have hs : s = 0 ∨ s = 1 ∨ s = 2 ∨ s = 3 ∨ s = 4 ∨ s = 5 := by omega
  rcases hs with rfl | rfl | rfl | rfl | rfl | rfl
  · exact go n0 w 0 d r l a b c e n k cp (by simp) (by simp [envOf]) (holds_nil _ _)
  · exact go n1 w 1 d r l a b c e n k cp (by simp) (by simp [envOf]) (holds_nil _ _)
  · exact go n2 w 2 d r l a b c e n k cp (by simp) (by simp [envOf]) (holds_nil _ _)
  · by_cases h8 : k < 1
    · exact go n3_lo w 3 d r l a b c e n k cp (by simp) (by simp [envOf]) (one (by simp [envOf, h8]))
    by_cases h9 : 9 ≤ k
    · exact go n3_hi w 3 d r l a b c e n k cp (by simp) (by simp [envOf]) (one (by simp [envOf, h9]))
    have hk : k = 1 ∨ k = 2 ∨ k = 3 ∨ k = 4 ∨ k = 5 ∨ k = 6 ∨ k = 7 ∨ k = 8 := by omega
    rcases hk with rfl | rfl | rfl | rfl | rfl | rfl | rfl | rfl
    · exact go n3_1 w 3 d r l a b c e n 1 cp (by simp) (by simp) (holds_nil _ _)
    · exact go n3_2 w 3 d r l a b c e n 2 cp (by simp) (by simp) (holds_nil _ _)
    · exact go n3_3 w 3 d r l a b c e n 3 cp (by simp) (by simp) (holds_nil _ _)
    · exact go n3_4 w 3 d r l a b c e n 4 cp (by simp) (by simp) (holds_nil _ _)
    · exact go n3_5 w 3 d r l a b c e n 5 cp (by simp) (by simp) (holds_nil _ _)
    · exact go n3_6 w 3 d r l a b c e n 6 cp (by simp) (by simp) (holds_nil _ _)
    · exact go n3_7 w 3 d r l a b c e n 7 cp (by simp) (by simp) (holds_nil _ _)
    · exact go n3_8 w 3 d r l a b c e n 8 cp (by simp) (by simp) (holds_nil _ _)
  · exact go n4 w 4 d r l a b c e n k cp (by simp) (by simp [envOf]) (holds_nil _ _)
  · exact go n5 w 5 d r l a b c e n k cp (by simp) (by simp [envOf]) (holds_nil _ _)

theorem own : ownKnob Try.prog.godebug = none := by kernel_rfl
theorem laidOut : laidOutB Try.prog = true := by kernel_rfl

theorem cell_int {W : World} {r : Reach} {b : Nat} {t : TypeId} {k : IntKind} {v : Value} (ht : Try.prog.underlying t = some (.int k)) (h : Cell.okWide Try.prog W r b t v) : ∃ n, v = .int k n :=
  okWide_int (P := Try.prog) (w := W) (r := r) (base := b) ht (by simp only [Value.okWide, ht]; exact h)
theorem cell_bool {W : World} {r : Reach} {b : Nat} {t : TypeId} {v : Value} (ht : Try.prog.underlying t = some .bool) (h : Cell.okWide Try.prog W r b t v) : ∃ n, v = .bool n :=
  okWide_bool (P := Try.prog) (w := W) (r := r) (base := b) ht (by simp only [Value.okWide, ht]; exact h)

/-- The machine's state as it comes in: nine cells, each of its kind. -/
theorem open_cpu {W : World} {r : Reach} {b0 : Nat} {v : Value} (h : Value.okWide Try.prog W r b0 25 v) :
    ∃ (s d : Int) (r l : Bool) (a b c e n : Int), v = .agg #[.int .i64 s, .int .i64 d, .bool r, .bool l, .int .u64 a, .int .u64 b, .int .u64 c, .int .u64 e, .int .i64 n] := by
  have hc9 : Try.prog.cellsOf 25 = 9 := by kernel_rfl
  simp only [Value.okWide, Try.underlying25] at h
  obtain ⟨cs, rfl, hsz, ts, hts, _, hc⟩ := h
  have hts' : Try.prog.cellTypes Try.prog.depth 25 = some [3, 3, 4, 4, 22, 22, 22, 22, 3] := by kernel_rfl
  rw [hts'] at hts
  simp only [Option.some.injEq] at hts
  subst hts
  rw [hc9] at hsz
  have at' : ∀ i (hi : i < 9), Cell.okWide Try.prog W r b0 ([3, 3, 4, 4, 22, 22, 22, 22, 3].getD i 0) (cs[i]'(by omega)) := by
    intro i hi
    obtain ⟨u, hu, hk⟩ := hc i _ (Array.getElem?_eq_getElem (by omega))
    have h9 : i % [3, 3, 4, 4, 22, 22, 22, 22, 3].length = i := Nat.mod_eq_of_lt hi
    rw [h9] at hu
    rw [List.getD_eq_getElem?_getD, hu]
    exact hk
  obtain ⟨s, h0⟩ := cell_int Try.underlying3 (at' 0 (by decide))
  obtain ⟨d, h1⟩ := cell_int Try.underlying3 (at' 1 (by decide))
  obtain ⟨r', h2⟩ := cell_bool Try.underlying4 (at' 2 (by decide))
  obtain ⟨l, h3⟩ := cell_bool Try.underlying4 (at' 3 (by decide))
  obtain ⟨a, h4⟩ := cell_int Try.underlying22 (at' 4 (by decide))
  obtain ⟨b, h5⟩ := cell_int Try.underlying22 (at' 5 (by decide))
  obtain ⟨c, h6⟩ := cell_int Try.underlying22 (at' 6 (by decide))
  obtain ⟨e, h7⟩ := cell_int Try.underlying22 (at' 7 (by decide))
  obtain ⟨n, h8⟩ := cell_int Try.underlying3 (at' 8 (by decide))
  refine ⟨s, d, r', l, a, b, c, e, n, congrArg Value.agg ?_⟩
  apply Array.ext
  · simp [hsz]
  · intro i hi hi'
    have : i = 0 ∨ i = 1 ∨ i = 2 ∨ i = 3 ∨ i = 4 ∨ i = 5 ∨ i = 6 ∨ i = 7 ∨ i = 8 := by omega
    rcases this with rfl | rfl | rfl | rfl | rfl | rfl | rfl | rfl | rfl <;> simp only [h0, h1, h2, h3, h4, h5, h6, h7, h8] <;> rfl

/-! ### THE ROW's STEP: WRITTEN OUT: LEAVE IT -/
set_option maxRecDepth 100000 in
theorem lifted (os : Os) (started : os.Started) (H : Type) (enc : TypeId × Value → H) :
    ReturnsInHanded {} Try.checked os 3 .any (Rows.vcpuNextsSpec.pre6 enc Try.prog Try.f3 Rows.vcpuNextsRow.domain false) (Rows.vcpuNextsSpec.post enc Try.prog Try.f3 false true false false) := by
  refine returnsInHanded_of_change (C := Try.checked) own started (by kernel_rfl) Try.func3
    (ChangeSpec.witness6 (enc := enc) (C := Try.checked) false ⟨#[], #[.agg #[.int .i64 0, .int .i64 0, .bool false, .bool false, .int .u64 0, .int .u64 0, .int .u64 0, .int .u64 0, .int .i64 0], .int .i64 0, .int .i64 0], []⟩ 8 (by kernel_rfl) (by kernel_rfl) (by kernel_rfl) (by kernel_rfl)) ?_
  intro W base args ds gs before hval0 hW hcnd _
  have hval : ∀ (j : Nat) t v, Try.f3.params[j]? = some t → args[j]? = some v → Value.okWide Try.prog W .any base t v := hval0
  have hW' := hW
  obtain ⟨p, q, hA0, hV, rfl, hfz, hnd⟩ := hW
  have hA : DataW.TrodAll enc Try.prog W 0 (fun _ => true) true Try.f3.params.toList args.toList ds p := hA0
  rw [Try.params3] at hA hval
  obtain ⟨v0, vs0, d0, ds0, p0, q0, hargs, rfl, rfl, h0, r0⟩ := trodAll_cons hA
  obtain ⟨v1, vs1, d1, ds1, p1, q1, rfl, rfl, rfl, h1, r1⟩ := trodAll_cons r0
  obtain ⟨v2, vs2, d2, ds2, p2, q2, rfl, rfl, rfl, h2, r2⟩ := trodAll_cons r1
  obtain ⟨rfl, rfl, rfl⟩ := trodAll_nil r2
  obtain rfl : args = #[v0, v1, v2] := by cases args; simp_all
  obtain ⟨rfl, rfl⟩ := trodVars_none hV
  obtain ⟨s, d, r, l, a, b, c, e, n, rfl⟩ := open_cpu (hval 0 25 v0 rfl rfl)
  obtain ⟨a1, rfl, rfl, rfl, w1⟩ := open_int Try.underlying3 (hval 1 3 v1 rfl rfl) h1
  obtain ⟨a2, rfl, rfl, rfl, w2⟩ := open_int Try.underlying3 (hval 2 3 v2 rfl rfl) h2
  have k0 := h0
  have lt0 : ∀ x ∈ p0, x.block < W.heap.size := by obtain ⟨m, hm⟩ := k0; exact DataW.trod_lt m _ _ _ hm
  clear hA0 hval0
  refine (walk3 W s d r l a b c e n a1 a2).mono fun e W' ⟨he, bel⟩ => ?_
  subst he
  exact ⟨_, rfl, _, _, _, [], _, [], hW', trodAll_mk1 (shut_bool Try.underlying4 _), (trodAll_cons_mk (Below.trod laidOut (by kernel_rfl) (of_decide_eq_true (by kernel_rfl)) k0 bel lt0) (trodAll_cons_mk (shut_int Try.underlying3 w1) (trodAll_cons_mk (shut_int Try.underlying3 w2) trodAll_mk0))), rfl, bel.frame _, fun h => by cases h⟩

theorem over : Rows.vcpuNextsRow.holds Try.pinned (OpenSpec.ofChange Rows.vcpuNextsSpec) :=
  OpenClaim.holds_of_wide 3 Try.f3 rfl rfl rfl rfl rfl rfl rfl ⟨rfl, rfl, rfl, rfl, rfl⟩ rfl rfl rfl rfl rfl (by kernel_rfl) Try.func3 (by kernel_rfl)
    (of_decide_eq_true (by kernel_rfl)) (by unfold Func.isWrapper; first | (rw [if_pos (by decide +kernel)]; kernel_rfl) | (rw [if_neg (by decide +kernel)]; exact ⟨rfl, rfl⟩))
    (fun os started H enc _ => lifted os started H enc)

/-- ████ THE STATEMENT ████ -/
theorem proved : Rows.VcpuNextsSaid := over
#print axioms proved
end Go.Proofs.Ytondflokjmdaiaa.vcpuNexts
