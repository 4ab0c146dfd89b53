/-
  No cell of these rows narrows 'for every input' (looked for: loops, veiled, ifaces, maps, wideKeys, modest, calm, conditions, laid).
  DERIVED. THE GIVEN ROWS OF THIS SEAT. 5 by the template 'for every input the law returns true; each argument reads behind the call as it read before'; 0 by the template 'total and deterministic' (their statements: YtondflokjmdaiaaTotals.lean).
  GIVEN WITH THE SEED: the statements are not yours to turn. If you find one false, say at which input.
  Laid BY PROGRAM, IN A SANDBOX (cutbox-rows.mjs): the forced cells as the released guide's own fill.sh prints them over the translation 0454fe492537b4a1… (all of the seat's roots in one cut). By AI agents, Wed Nov 11 2026. No macro, syntax, notation, axiom, sorry.
-/
import Derived.Test.YtondflokjmdaiaaChecked
import GoSem.Claim
import GoSem.ClaimJoined
import GoSem.ClaimMapViews
import Derived.JoinedTies
import Derived.KernelRfl
namespace Go.Proofs.Ytondflokjmdaiaa
/- THE CELL 'sum', in the pinned program and in every row, IS THE sha256 OF THE DUMP (.gsa) THAT YtondflokjmdaiaaProg.lean LOADS. Nothing in Lean hashes anything: it is a label: what it is worth is what the hold of that sum in a sandbox is worth. -/
noncomputable def Try.pinned : Pinned := { name := "ytondflokjmdaiaa", sum := "0454fe492537b4a1940be8243d4e483e2b3782810042065ecd641b7244db12a0", checked := Try.checked }
namespace Rows
def none {H : Type} : Left H := { results := [], args := [] }

/-- 'matryoshkalaw16.VcpuNexts': WHATEVER THE INPUT: true; the input reads as it did. -/
def vcpuNextsSpec : ChangeSpec := { name := "vcpuNexts", fn := fun _ => fun
  | [d1, d2, d3] => { results := [.lit (.bool true)], args := [d1, d2, d3] }
  | _ => none }
def vcpuNextsRow : OpenClaim := { program := "ytondflokjmdaiaa", sum := "0454fe492537b4a1940be8243d4e483e2b3782810042065ecd641b7244db12a0", func := "matryoshka/matryoshkalaw16.VcpuNexts", spec := "vcpuNexts", apart := false }
def VcpuNextsSaid : Prop := vcpuNextsRow.holds Try.pinned (OpenSpec.ofChange vcpuNextsSpec)

/-- ITS FALSE NEIGHBOUR: 'it returns false'. Refute it at one input. -/
def vcpuNextsWrong : ChangeSpec := { name := "vcpuNexts", fn := fun _ => fun
  | [d1, d2, d3] => { results := [.lit (.bool false)], args := [d1, d2, d3] }
  | _ => none }
def VcpuNextsWrongFalsely : Prop := vcpuNextsRow.holds Try.pinned (OpenSpec.ofChange vcpuNextsWrong)

/-- 'matryoshkalaw16.VcpuKeeps': WHATEVER THE INPUT: true; the input reads as it did. -/
def vcpuKeepsSpec : ChangeSpec := { name := "vcpuKeeps", fn := fun _ => fun
  | [d1, d2] => { results := [.lit (.bool true)], args := [d1, d2] }
  | _ => none }
def vcpuKeepsRow : OpenClaim := { program := "ytondflokjmdaiaa", sum := "0454fe492537b4a1940be8243d4e483e2b3782810042065ecd641b7244db12a0", func := "matryoshka/matryoshkalaw16.VcpuKeeps", spec := "vcpuKeeps", apart := false }
def VcpuKeepsSaid : Prop := vcpuKeepsRow.holds Try.pinned (OpenSpec.ofChange vcpuKeepsSpec)

/-- ITS FALSE NEIGHBOUR: 'it returns false'. Refute it at one input. -/
def vcpuKeepsWrong : ChangeSpec := { name := "vcpuKeeps", fn := fun _ => fun
  | [d1, d2] => { results := [.lit (.bool false)], args := [d1, d2] }
  | _ => none }
def VcpuKeepsWrongFalsely : Prop := vcpuKeepsRow.holds Try.pinned (OpenSpec.ofChange vcpuKeepsWrong)

/-- 'matryoshkalaw16.VcpuWoken': WHATEVER THE INPUT: true; the input reads as it did. -/
def vcpuWokenSpec : ChangeSpec := { name := "vcpuWoken", fn := fun _ => fun
  | [d] => { results := [.lit (.bool true)], args := [d] }
  | _ => none }
def vcpuWokenRow : OpenClaim := { program := "ytondflokjmdaiaa", sum := "0454fe492537b4a1940be8243d4e483e2b3782810042065ecd641b7244db12a0", func := "matryoshka/matryoshkalaw16.VcpuWoken", spec := "vcpuWoken", apart := false }
def VcpuWokenSaid : Prop := vcpuWokenRow.holds Try.pinned (OpenSpec.ofChange vcpuWokenSpec)

/-- ITS FALSE NEIGHBOUR: 'it returns false'. Refute it at one input. -/
def vcpuWokenWrong : ChangeSpec := { name := "vcpuWoken", fn := fun _ => fun
  | [d] => { results := [.lit (.bool false)], args := [d] }
  | _ => none }
def VcpuWokenWrongFalsely : Prop := vcpuWokenRow.holds Try.pinned (OpenSpec.ofChange vcpuWokenWrong)

/-- 'matryoshkalaw16.VcpuPauses': WHATEVER THE INPUT: true; the input reads as it did. -/
def vcpuPausesSpec : ChangeSpec := { name := "vcpuPauses", fn := fun _ => fun
  | [d] => { results := [.lit (.bool true)], args := [d] }
  | _ => none }
def vcpuPausesRow : OpenClaim := { program := "ytondflokjmdaiaa", sum := "0454fe492537b4a1940be8243d4e483e2b3782810042065ecd641b7244db12a0", func := "matryoshka/matryoshkalaw16.VcpuPauses", spec := "vcpuPauses", apart := false }
def VcpuPausesSaid : Prop := vcpuPausesRow.holds Try.pinned (OpenSpec.ofChange vcpuPausesSpec)

/-- ITS FALSE NEIGHBOUR: 'it returns false'. Refute it at one input. -/
def vcpuPausesWrong : ChangeSpec := { name := "vcpuPauses", fn := fun _ => fun
  | [d] => { results := [.lit (.bool false)], args := [d] }
  | _ => none }
def VcpuPausesWrongFalsely : Prop := vcpuPausesRow.holds Try.pinned (OpenSpec.ofChange vcpuPausesWrong)

/-- 'matryoshkalaw16.VcpuResumes': WHATEVER THE INPUT: true; the input reads as it did. -/
def vcpuResumesSpec : ChangeSpec := { name := "vcpuResumes", fn := fun _ => fun
  | [d] => { results := [.lit (.bool true)], args := [d] }
  | _ => none }
def vcpuResumesRow : OpenClaim := { program := "ytondflokjmdaiaa", sum := "0454fe492537b4a1940be8243d4e483e2b3782810042065ecd641b7244db12a0", func := "matryoshka/matryoshkalaw16.VcpuResumes", spec := "vcpuResumes", apart := false }
def VcpuResumesSaid : Prop := vcpuResumesRow.holds Try.pinned (OpenSpec.ofChange vcpuResumesSpec)

/-- ITS FALSE NEIGHBOUR: 'it returns false'. Refute it at one input. -/
def vcpuResumesWrong : ChangeSpec := { name := "vcpuResumes", fn := fun _ => fun
  | [d] => { results := [.lit (.bool false)], args := [d] }
  | _ => none }
def VcpuResumesWrongFalsely : Prop := vcpuResumesRow.holds Try.pinned (OpenSpec.ofChange vcpuResumesWrong)

/- THE SECOND FORM. 'bulk': how many values and letters a reading holds, each counted each time it is reached (what is shared counts as often as it is met; a slice's spare places count too). A statement '..UptoSaid' is the law's where the arguments, and the package variables that the reading takes, are together of bulk at most 1048576: NARROWER than '..Said'. Prove '..Said' where nothing that the law and all that it calls make is longer than what came in: it says more and counts as full. Else prove '..UptoSaid'. A law counts once. -/
mutual
def uptoBulk {H : Type} : DataW H → Nat
  | .lit (.string bytes) => bytes.length + 1
  | .lit _ => 1
  | .nil => 1
  | .ptr d => uptoBulk d + 1
  | .slice elems spare => uptoBulkAll elems + uptoBulkAll spare + 1
  | .agg parts => uptoBulkAll parts + 1
  | .iface _ d => uptoBulk d + 1
  | .map entries => uptoBulkEntries entries + 1
  | .held _ => 1
def uptoBulkAll {H : Type} : List (DataW H) → Nat
  | [] => 0
  | d :: r => uptoBulk d + uptoBulkAll r
def uptoBulkEntries {H : Type} : List (Lit × DataW H) → Nat
  | [] => 0
  | x :: r => uptoBulkEntry x + uptoBulkEntries r
def uptoBulkEntry {H : Type} : Lit × DataW H → Nat
  | (.string bytes, d) => bytes.length + uptoBulk d + 1
  | (_, d) => uptoBulk d + 1
 end
def uptoSmall : (H : Type) → List (DataW H) → Bool := fun _ ds => decide (uptoBulkAll ds ≤ 1048576)
def OpenSpec.upto (s : _root_.Go.ChangeSpec) : _root_.Go.OpenSpec := { _root_.Go.OpenSpec.ofChange s with cond := some uptoSmall }

/-- 'matryoshkalaw16.VcpuNexts', WHERE WHAT IT READS IS OF BULK AT MOST 1048576: true; the input reads as it did. -/
def vcpuNextsUptoRow : OpenClaim := { program := "ytondflokjmdaiaa", sum := "0454fe492537b4a1940be8243d4e483e2b3782810042065ecd641b7244db12a0", func := "matryoshka/matryoshkalaw16.VcpuNexts", spec := "vcpuNexts", apart := false, narrowed := true }
def VcpuNextsUptoSaid : Prop := vcpuNextsUptoRow.holds Try.pinned (OpenSpec.upto vcpuNextsSpec)

/-- 'matryoshkalaw16.VcpuKeeps', WHERE WHAT IT READS IS OF BULK AT MOST 1048576: true; the input reads as it did. -/
def vcpuKeepsUptoRow : OpenClaim := { program := "ytondflokjmdaiaa", sum := "0454fe492537b4a1940be8243d4e483e2b3782810042065ecd641b7244db12a0", func := "matryoshka/matryoshkalaw16.VcpuKeeps", spec := "vcpuKeeps", apart := false, narrowed := true }
def VcpuKeepsUptoSaid : Prop := vcpuKeepsUptoRow.holds Try.pinned (OpenSpec.upto vcpuKeepsSpec)

/-- 'matryoshkalaw16.VcpuWoken', WHERE WHAT IT READS IS OF BULK AT MOST 1048576: true; the input reads as it did. -/
def vcpuWokenUptoRow : OpenClaim := { program := "ytondflokjmdaiaa", sum := "0454fe492537b4a1940be8243d4e483e2b3782810042065ecd641b7244db12a0", func := "matryoshka/matryoshkalaw16.VcpuWoken", spec := "vcpuWoken", apart := false, narrowed := true }
def VcpuWokenUptoSaid : Prop := vcpuWokenUptoRow.holds Try.pinned (OpenSpec.upto vcpuWokenSpec)

/-- 'matryoshkalaw16.VcpuPauses', WHERE WHAT IT READS IS OF BULK AT MOST 1048576: true; the input reads as it did. -/
def vcpuPausesUptoRow : OpenClaim := { program := "ytondflokjmdaiaa", sum := "0454fe492537b4a1940be8243d4e483e2b3782810042065ecd641b7244db12a0", func := "matryoshka/matryoshkalaw16.VcpuPauses", spec := "vcpuPauses", apart := false, narrowed := true }
def VcpuPausesUptoSaid : Prop := vcpuPausesUptoRow.holds Try.pinned (OpenSpec.upto vcpuPausesSpec)

/-- 'matryoshkalaw16.VcpuResumes', WHERE WHAT IT READS IS OF BULK AT MOST 1048576: true; the input reads as it did. -/
def vcpuResumesUptoRow : OpenClaim := { program := "ytondflokjmdaiaa", sum := "0454fe492537b4a1940be8243d4e483e2b3782810042065ecd641b7244db12a0", func := "matryoshka/matryoshkalaw16.VcpuResumes", spec := "vcpuResumes", apart := false, narrowed := true }
def VcpuResumesUptoSaid : Prop := vcpuResumesUptoRow.holds Try.pinned (OpenSpec.upto vcpuResumesSpec)

end Rows
end Go.Proofs.Ytondflokjmdaiaa
