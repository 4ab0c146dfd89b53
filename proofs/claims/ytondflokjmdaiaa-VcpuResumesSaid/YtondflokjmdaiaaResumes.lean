/- THE LAW 'VcpuResumes': whatever the machine state given, the law returns true, and nothing that was there is written. The walk is done by the machine of unknowns (SE), run by the kernel. -/
import Derived.Test.YtondflokjmdaiaaRows
import Derived.Test.YtondflokjmdaiaaSETop
import Derived.WalkKit
import Derived.ProofKit
import Derived.OpenShut
import Derived.ShutString
import Derived.ChangeOld
import Derived.Below
import Derived.KernelRfl
namespace Go.Proofs.Ytondflokjmdaiaa.vcpuResumes
open Go.ChangeShapes Go.WideShapes Go.ChangeAt Go.RowKit Go.SE
set_option linter.unusedVariables false

def cpuS : AV := .agg [.i .i64 (.v 0), .i .i64 (.v 1), .b (.v 0), .b (.v 1), .i .u64 (.v 2), .i .u64 (.v 3), .i .u64 (.v 4), .i .u64 (.v 5), .i .i64 (.v 6)]
def yes16 (vs : List AV) (m : Mem) (pc : List SB) : Outs := match vs with
  | [] => some [(pc, some (.cv (.b (.c true)), m))]
  | _ => none
def tbl16 : Tbl := fun f => if f = 16 then some yes16 else none
set_option maxRecDepth 100000 in
theorem t16 : topB Try.prog noTbl 10000 16 [] ⟨[], []⟩ [] = true := by kernel_rfl
set_option maxRecDepth 100000 in
theorem t7 : topB Try.prog tbl16 10000 7 [cpuS] ⟨[], []⟩ [] = true := by kernel_rfl

section
variable {D : Type} {Φ : Sig D} {ρ : Env D}
theorem tbl16_ok : TblOK Φ ρ Try.prog tbl16 := by
  intro f g hg vs m pc outs h
  unfold tbl16 at hg
  split at hg
  · rename_i hf
    subst hf
    simp at hg; subst hg
    unfold yes16 at h
    split at h
    · simp at h; subst h
      refine CallOK.yes fun μ w xs hx => ?_
      have : xs = [] := List.eq_nil_of_length_eq_zero hx.1.symm
      subst this
      exact top (Φ := Φ) (ρ := ρ) (μ := []) noTbl_ok t16 rfl ⟨rfl, by simp⟩ mrel_nil (holds_nil _ _)
    · cases h
  · cases hg
end
def Φ0 : Sig Unit := ⟨fun _ => [], fun _ _ => 0, fun _ _ => (), fun _ _ => false⟩
theorem walk7 (w : World) (s d : Int) (r l : Bool) (a b c e n : Int) :
    Calls Try.prog 7 #[.agg #[.int .i64 s, .int .i64 d, .bool r, .bool l, .int .u64 a, .int .u64 b, .int .u64 c, .int .u64 e, .int .i64 n]] w fun e w' => e = .returned (.bool true) ∧ Below w.heap.size w w' :=
  top (Φ := Φ0) (ρ := ⟨fun k => [s, d, a, b, c, e, n].getD k 0, fun k => [r, l].getD k false, fun _ => ()⟩) (μ := []) (xs := [.agg #[.int .i64 s, .int .i64 d, .bool r, .bool l, .int .u64 a, .int .u64 b, .int .u64 c, .int .u64 e, .int .i64 n]])
    tbl16_ok t7 rfl ⟨rfl, fun i v x hv hx => by
      cases i with
      | zero => simp at hv hx; subst hv; subst hx; rfl
      | succ i => simp at hv⟩ mrel_nil (holds_nil _ _)

theorem own : ownKnob Try.prog.godebug = none := by kernel_rfl
theorem laidOut : laidOutB Try.prog = true := by kernel_rfl

theorem cell_int {W : World} {r : Reach} {b : Nat} {t : TypeId} {k : IntKind} {v : Value} (ht : Try.prog.underlying t = some (.int k)) (h : Cell.okWide Try.prog W r b t v) : ∃ n, v = .int k n :=
  okWide_int (P := Try.prog) (w := W) (r := r) (base := b) ht (by simp only [Value.okWide, ht]; exact h)
theorem cell_bool {W : World} {r : Reach} {b : Nat} {t : TypeId} {v : Value} (ht : Try.prog.underlying t = some .bool) (h : Cell.okWide Try.prog W r b t v) : ∃ n, v = .bool n :=
  okWide_bool (P := Try.prog) (w := W) (r := r) (base := b) ht (by simp only [Value.okWide, ht]; exact h)

/-- The machine's state as it comes in: nine cells, each of its kind. -/
theorem open_cpu {W : World} {r : Reach} {b0 : Nat} {v : Value} (h : Value.okWide Try.prog W r b0 25 v) :
    ∃ (s d : Int) (r l : Bool) (a b c e n : Int), v = .agg #[.int .i64 s, .int .i64 d, .bool r, .bool l, .int .u64 a, .int .u64 b, .int .u64 c, .int .u64 e, .int .i64 n] := by
  have hc9 : Try.prog.cellsOf 25 = 9 := by kernel_rfl
  simp only [Value.okWide, Try.underlying25] at h
  obtain ⟨cs, rfl, hsz, ts, hts, _, hc⟩ := h
  have hts' : Try.prog.cellTypes Try.prog.depth 25 = some [3, 3, 4, 4, 22, 22, 22, 22, 3] := by kernel_rfl
  rw [hts'] at hts
  simp only [Option.some.injEq] at hts
  subst hts
  rw [hc9] at hsz
  have at' : ∀ i (hi : i < 9), Cell.okWide Try.prog W r b0 ([3, 3, 4, 4, 22, 22, 22, 22, 3].getD i 0) (cs[i]'(by omega)) := by
    intro i hi
    obtain ⟨u, hu, hk⟩ := hc i _ (Array.getElem?_eq_getElem (by omega))
    have h9 : i % [3, 3, 4, 4, 22, 22, 22, 22, 3].length = i := Nat.mod_eq_of_lt hi
    rw [h9] at hu
    rw [List.getD_eq_getElem?_getD, hu]
    exact hk
  obtain ⟨s, h0⟩ := cell_int Try.underlying3 (at' 0 (by decide))
  obtain ⟨d, h1⟩ := cell_int Try.underlying3 (at' 1 (by decide))
  obtain ⟨r', h2⟩ := cell_bool Try.underlying4 (at' 2 (by decide))
  obtain ⟨l, h3⟩ := cell_bool Try.underlying4 (at' 3 (by decide))
  obtain ⟨a, h4⟩ := cell_int Try.underlying22 (at' 4 (by decide))
  obtain ⟨b, h5⟩ := cell_int Try.underlying22 (at' 5 (by decide))
  obtain ⟨c, h6⟩ := cell_int Try.underlying22 (at' 6 (by decide))
  obtain ⟨e, h7⟩ := cell_int Try.underlying22 (at' 7 (by decide))
  obtain ⟨n, h8⟩ := cell_int Try.underlying3 (at' 8 (by decide))
  refine ⟨s, d, r', l, a, b, c, e, n, congrArg Value.agg ?_⟩
  apply Array.ext
  · simp [hsz]
  · intro i hi hi'
    have : i = 0 ∨ i = 1 ∨ i = 2 ∨ i = 3 ∨ i = 4 ∨ i = 5 ∨ i = 6 ∨ i = 7 ∨ i = 8 := by omega
    rcases this with rfl | rfl | rfl | rfl | rfl | rfl | rfl | rfl | rfl <;> simp only [h0, h1, h2, h3, h4, h5, h6, h7, h8] <;> rfl

/-! ### THE ROW's STEP: WRITTEN OUT: LEAVE IT -/
set_option maxRecDepth 100000 in
theorem lifted (os : Os) (started : os.Started) (H : Type) (enc : TypeId × Value → H) :
    ReturnsInHanded {} Try.checked os 7 .any (Rows.vcpuResumesSpec.pre6 enc Try.prog Try.f7 Rows.vcpuResumesRow.domain false) (Rows.vcpuResumesSpec.post enc Try.prog Try.f7 false true false false) := by
  refine returnsInHanded_of_change (C := Try.checked) own started (by kernel_rfl) Try.func7
    (ChangeSpec.witness6 (enc := enc) (C := Try.checked) false ⟨#[], #[.agg #[.int .i64 0, .int .i64 0, .bool false, .bool false, .int .u64 0, .int .u64 0, .int .u64 0, .int .u64 0, .int .i64 0]], []⟩ 8 (by kernel_rfl) (by kernel_rfl) (by kernel_rfl) (by kernel_rfl)) ?_
  intro W base args ds gs before hval0 hW hcnd _
  have hval : ∀ (j : Nat) t v, Try.f7.params[j]? = some t → args[j]? = some v → Value.okWide Try.prog W .any base t v := hval0
  have hW' := hW
  obtain ⟨p, q, hA0, hV, rfl, hfz, hnd⟩ := hW
  have hA : DataW.TrodAll enc Try.prog W 0 (fun _ => true) true Try.f7.params.toList args.toList ds p := hA0
  rw [Try.params7] at hA hval
  obtain ⟨v0, vs0, d0, ds0, p0, q0, hargs, rfl, rfl, h0, r0⟩ := trodAll_cons hA
  obtain ⟨rfl, rfl, rfl⟩ := trodAll_nil r0
  obtain rfl : args = #[v0] := by cases args; simp_all
  obtain ⟨rfl, rfl⟩ := trodVars_none hV
  obtain ⟨s, d, r, l, a, b, c, e, n, rfl⟩ := open_cpu (hval 0 25 v0 rfl rfl)
  have k0 := h0
  have lt0 : ∀ x ∈ p0, x.block < W.heap.size := by obtain ⟨m, hm⟩ := k0; exact DataW.trod_lt m _ _ _ hm
  clear hA0 hval0
  refine (walk7 W s d r l a b c e n).mono fun e W' ⟨he, bel⟩ => ?_
  subst he
  exact ⟨_, rfl, _, _, _, [], _, [], hW', trodAll_mk1 (shut_bool Try.underlying4 _), (trodAll_cons_mk (Below.trod laidOut (by kernel_rfl) (of_decide_eq_true (by kernel_rfl)) k0 bel lt0) trodAll_mk0), rfl, bel.frame _, fun h => by cases h⟩

theorem over : Rows.vcpuResumesRow.holds Try.pinned (OpenSpec.ofChange Rows.vcpuResumesSpec) :=
  OpenClaim.holds_of_wide 7 Try.f7 rfl rfl rfl rfl rfl rfl rfl ⟨rfl, rfl, rfl, rfl, rfl⟩ rfl rfl rfl rfl rfl (by kernel_rfl) Try.func7 (by kernel_rfl)
    (of_decide_eq_true (by kernel_rfl)) (by unfold Func.isWrapper; first | (rw [if_pos (by decide +kernel)]; kernel_rfl) | (rw [if_neg (by decide +kernel)]; exact ⟨rfl, rfl⟩))
    (fun os started H enc _ => lifted os started H enc)

/-- ████ THE STATEMENT ████ -/
theorem proved : Rows.VcpuResumesSaid := over
#print axioms proved
end Go.Proofs.Ytondflokjmdaiaa.vcpuResumes
