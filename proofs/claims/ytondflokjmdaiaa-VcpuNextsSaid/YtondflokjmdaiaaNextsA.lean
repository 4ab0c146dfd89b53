/- What VcpuNexts and its cases have in common: the state as it comes in, and the contract of the check of the numbers' meaning. -/
import Derived.Test.YtondflokjmdaiaaSETop
import Derived.Test.YtondflokjmdaiaaRows
import Derived.KernelRfl
namespace Go.Proofs.Ytondflokjmdaiaa.vcpuNexts
open Go.SE
def cpuOf (s : SI) : AV := .agg [.i .i64 s, .i .i64 (.v 1), .b (.v 0), .b (.v 1), .i .u64 (.v 2), .i .u64 (.v 3), .i .u64 (.v 4), .i .u64 (.v 5), .i .i64 (.v 6)]
def yes16 (vs : List AV) (m : Mem) (pc : List SB) : Outs := match vs with
  | [] => some [(pc, some (.cv (.b (.c true)), m))]
  | _ => none
def tbl16 : Tbl := fun f => if f = 16 then some yes16 else none
set_option maxRecDepth 100000 in
theorem t16 : topB Try.prog noTbl 10000 16 [] ⟨[], []⟩ [] = true := by kernel_rfl
section
variable {D : Type} {Φ : Sig D} {ρ : Env D}
theorem tbl16_ok : TblOK Φ ρ Try.prog tbl16 := by
  intro f g hg vs m pc outs h
  unfold tbl16 at hg
  split at hg
  · rename_i hf
    subst hf
    simp at hg; subst hg
    unfold yes16 at h
    split at h
    · simp at h; subst h
      refine CallOK.yes fun μ w xs hx => ?_
      have : xs = [] := List.eq_nil_of_length_eq_zero hx.1.symm
      subst this
      exact top (Φ := Φ) (ρ := ρ) (μ := []) noTbl_ok t16 rfl ⟨rfl, by simp⟩ mrel_nil (holds_nil _ _)
    · cases h
  · cases hg
end
end Go.Proofs.Ytondflokjmdaiaa.vcpuNexts
