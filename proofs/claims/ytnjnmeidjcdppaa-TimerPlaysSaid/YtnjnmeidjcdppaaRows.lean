/-
  No cell of these rows narrows 'for every input' (looked for: loops, veiled, ifaces, maps, wideKeys, modest, calm, conditions, laid).
  DERIVED. THE GIVEN ROWS OF THIS SEAT. 6 by the template 'for every input the law returns true; each argument reads behind the call as it read before'; 0 by the template 'total and deterministic' (their statements: YtnjnmeidjcdppaaTotals.lean).
  GIVEN WITH THE SEED: the statements are not yours to turn. If you find one false, say at which input.
  Laid BY PROGRAM, IN A SANDBOX (cutbox-rows.mjs): the forced cells as the released guide's own fill.sh prints them over the translation bfb26629c3e92980… (all of the seat's roots in one cut). By AI agents, Wed Nov 11 2026. No macro, syntax, notation, axiom, sorry.
-/
import Derived.Test.YtnjnmeidjcdppaaChecked
import GoSem.Claim
import GoSem.ClaimJoined
import GoSem.ClaimMapViews
import Derived.JoinedTies
import Derived.KernelRfl
namespace Go.Proofs.Ytnjnmeidjcdppaa
/- THE CELL 'sum', in the pinned program and in every row, IS THE sha256 OF THE DUMP (.gsa) THAT YtnjnmeidjcdppaaProg.lean LOADS. Nothing in Lean hashes anything: it is a label: what it is worth is what the hold of that sum in a sandbox is worth. -/
noncomputable def Try.pinned : Pinned := { name := "ytnjnmeidjcdppaa", sum := "bfb26629c3e92980fc863f508d3b19ea3e3a1d6c6f247a3827c6aa258fdb9f36", checked := Try.checked }
namespace Rows
def none {H : Type} : Left H := { results := [], args := [] }

/-- 'matryoshkalaw18.TimerPlays': WHATEVER THE INPUT: true; the input reads as it did. -/
def timerPlaysSpec : ChangeSpec := { name := "timerPlays", fn := fun _ => fun
  | [d1, d2] => { results := [.lit (.bool true)], args := [d1, d2] }
  | _ => none }
def timerPlaysRow : OpenClaim := { program := "ytnjnmeidjcdppaa", sum := "bfb26629c3e92980fc863f508d3b19ea3e3a1d6c6f247a3827c6aa258fdb9f36", func := "matryoshka/matryoshkalaw18.TimerPlays", spec := "timerPlays", apart := false }
def TimerPlaysSaid : Prop := timerPlaysRow.holds Try.pinned (OpenSpec.ofChange timerPlaysSpec)

/-- ITS FALSE NEIGHBOUR: 'it returns false'. Refute it at one input. -/
def timerPlaysWrong : ChangeSpec := { name := "timerPlays", fn := fun _ => fun
  | [d1, d2] => { results := [.lit (.bool false)], args := [d1, d2] }
  | _ => none }
def TimerPlaysWrongFalsely : Prop := timerPlaysRow.holds Try.pinned (OpenSpec.ofChange timerPlaysWrong)

/-- 'matryoshkalaw18.TimerSteps': WHATEVER THE INPUT: true; the input reads as it did. -/
def timerStepsSpec : ChangeSpec := { name := "timerSteps", fn := fun _ => fun
  | [d1, d2, d3] => { results := [.lit (.bool true)], args := [d1, d2, d3] }
  | _ => none }
def timerStepsRow : OpenClaim := { program := "ytnjnmeidjcdppaa", sum := "bfb26629c3e92980fc863f508d3b19ea3e3a1d6c6f247a3827c6aa258fdb9f36", func := "matryoshka/matryoshkalaw18.TimerSteps", spec := "timerSteps", apart := false }
def TimerStepsSaid : Prop := timerStepsRow.holds Try.pinned (OpenSpec.ofChange timerStepsSpec)

/-- ITS FALSE NEIGHBOUR: 'it returns false'. Refute it at one input. -/
def timerStepsWrong : ChangeSpec := { name := "timerSteps", fn := fun _ => fun
  | [d1, d2, d3] => { results := [.lit (.bool false)], args := [d1, d2, d3] }
  | _ => none }
def TimerStepsWrongFalsely : Prop := timerStepsRow.holds Try.pinned (OpenSpec.ofChange timerStepsWrong)

/-- 'matryoshkalaw18.TimerCredit': WHATEVER THE INPUT: true; the input reads as it did. -/
def timerCreditSpec : ChangeSpec := { name := "timerCredit", fn := fun _ => fun
  | [d1, d2] => { results := [.lit (.bool true)], args := [d1, d2] }
  | _ => none }
def timerCreditRow : OpenClaim := { program := "ytnjnmeidjcdppaa", sum := "bfb26629c3e92980fc863f508d3b19ea3e3a1d6c6f247a3827c6aa258fdb9f36", func := "matryoshka/matryoshkalaw18.TimerCredit", spec := "timerCredit", apart := false }
def TimerCreditSaid : Prop := timerCreditRow.holds Try.pinned (OpenSpec.ofChange timerCreditSpec)

/-- ITS FALSE NEIGHBOUR: 'it returns false'. Refute it at one input. -/
def timerCreditWrong : ChangeSpec := { name := "timerCredit", fn := fun _ => fun
  | [d1, d2] => { results := [.lit (.bool false)], args := [d1, d2] }
  | _ => none }
def TimerCreditWrongFalsely : Prop := timerCreditRow.holds Try.pinned (OpenSpec.ofChange timerCreditWrong)

/-- 'matryoshkalaw18.TimerNil': WHATEVER THE INPUT: true; the input reads as it did. -/
def timerNilSpec : ChangeSpec := { name := "timerNil", fn := fun _ => fun
  | [d] => { results := [.lit (.bool true)], args := [d] }
  | _ => none }
def timerNilRow : OpenClaim := { program := "ytnjnmeidjcdppaa", sum := "bfb26629c3e92980fc863f508d3b19ea3e3a1d6c6f247a3827c6aa258fdb9f36", func := "matryoshka/matryoshkalaw18.TimerNil", spec := "timerNil", apart := false }
def TimerNilSaid : Prop := timerNilRow.holds Try.pinned (OpenSpec.ofChange timerNilSpec)

/-- ITS FALSE NEIGHBOUR: 'it returns false'. Refute it at one input. -/
def timerNilWrong : ChangeSpec := { name := "timerNil", fn := fun _ => fun
  | [d] => { results := [.lit (.bool false)], args := [d] }
  | _ => none }
def TimerNilWrongFalsely : Prop := timerNilRow.holds Try.pinned (OpenSpec.ofChange timerNilWrong)

/-- 'matryoshkalaw18.TimerOnce': WHATEVER THE INPUT: true; the input reads as it did. -/
def timerOnceSpec : ChangeSpec := { name := "timerOnce", fn := fun _ => fun
  | [d1, d2, d3] => { results := [.lit (.bool true)], args := [d1, d2, d3] }
  | _ => none }
def timerOnceRow : OpenClaim := { program := "ytnjnmeidjcdppaa", sum := "bfb26629c3e92980fc863f508d3b19ea3e3a1d6c6f247a3827c6aa258fdb9f36", func := "matryoshka/matryoshkalaw18.TimerOnce", spec := "timerOnce", apart := false }
def TimerOnceSaid : Prop := timerOnceRow.holds Try.pinned (OpenSpec.ofChange timerOnceSpec)

/-- ITS FALSE NEIGHBOUR: 'it returns false'. Refute it at one input. -/
def timerOnceWrong : ChangeSpec := { name := "timerOnce", fn := fun _ => fun
  | [d1, d2, d3] => { results := [.lit (.bool false)], args := [d1, d2, d3] }
  | _ => none }
def TimerOnceWrongFalsely : Prop := timerOnceRow.holds Try.pinned (OpenSpec.ofChange timerOnceWrong)

/-- 'matryoshkalaw18.TimerNext': WHATEVER THE INPUT: true; the input reads as it did. -/
def timerNextSpec : ChangeSpec := { name := "timerNext", fn := fun _ => fun
  | [d1, d2] => { results := [.lit (.bool true)], args := [d1, d2] }
  | _ => none }
def timerNextRow : OpenClaim := { program := "ytnjnmeidjcdppaa", sum := "bfb26629c3e92980fc863f508d3b19ea3e3a1d6c6f247a3827c6aa258fdb9f36", func := "matryoshka/matryoshkalaw18.TimerNext", spec := "timerNext", apart := false }
def TimerNextSaid : Prop := timerNextRow.holds Try.pinned (OpenSpec.ofChange timerNextSpec)

/-- ITS FALSE NEIGHBOUR: 'it returns false'. Refute it at one input. -/
def timerNextWrong : ChangeSpec := { name := "timerNext", fn := fun _ => fun
  | [d1, d2] => { results := [.lit (.bool false)], args := [d1, d2] }
  | _ => none }
def TimerNextWrongFalsely : Prop := timerNextRow.holds Try.pinned (OpenSpec.ofChange timerNextWrong)

/- THE SECOND FORM. 'bulk': how many values and letters a reading holds, each counted each time it is reached (what is shared counts as often as it is met; a slice's spare places count too). A statement '..UptoSaid' is the law's where the arguments, and the package variables that the reading takes, are together of bulk at most 1048576: NARROWER than '..Said'. Prove '..Said' where nothing that the law and all that it calls make is longer than what came in: it says more and counts as full. Else prove '..UptoSaid'. A law counts once. -/
mutual
def uptoBulk {H : Type} : DataW H → Nat
  | .lit (.string bytes) => bytes.length + 1
  | .lit _ => 1
  | .nil => 1
  | .ptr d => uptoBulk d + 1
  | .slice elems spare => uptoBulkAll elems + uptoBulkAll spare + 1
  | .agg parts => uptoBulkAll parts + 1
  | .iface _ d => uptoBulk d + 1
  | .map entries => uptoBulkEntries entries + 1
  | .held _ => 1
def uptoBulkAll {H : Type} : List (DataW H) → Nat
  | [] => 0
  | d :: r => uptoBulk d + uptoBulkAll r
def uptoBulkEntries {H : Type} : List (Lit × DataW H) → Nat
  | [] => 0
  | x :: r => uptoBulkEntry x + uptoBulkEntries r
def uptoBulkEntry {H : Type} : Lit × DataW H → Nat
  | (.string bytes, d) => bytes.length + uptoBulk d + 1
  | (_, d) => uptoBulk d + 1
 end
def uptoSmall : (H : Type) → List (DataW H) → Bool := fun _ ds => decide (uptoBulkAll ds ≤ 1048576)
def OpenSpec.upto (s : _root_.Go.ChangeSpec) : _root_.Go.OpenSpec := { _root_.Go.OpenSpec.ofChange s with cond := some uptoSmall }

/-- 'matryoshkalaw18.TimerPlays', WHERE WHAT IT READS IS OF BULK AT MOST 1048576: true; the input reads as it did. -/
def timerPlaysUptoRow : OpenClaim := { program := "ytnjnmeidjcdppaa", sum := "bfb26629c3e92980fc863f508d3b19ea3e3a1d6c6f247a3827c6aa258fdb9f36", func := "matryoshka/matryoshkalaw18.TimerPlays", spec := "timerPlays", apart := false, narrowed := true }
def TimerPlaysUptoSaid : Prop := timerPlaysUptoRow.holds Try.pinned (OpenSpec.upto timerPlaysSpec)

/-- 'matryoshkalaw18.TimerSteps', WHERE WHAT IT READS IS OF BULK AT MOST 1048576: true; the input reads as it did. -/
def timerStepsUptoRow : OpenClaim := { program := "ytnjnmeidjcdppaa", sum := "bfb26629c3e92980fc863f508d3b19ea3e3a1d6c6f247a3827c6aa258fdb9f36", func := "matryoshka/matryoshkalaw18.TimerSteps", spec := "timerSteps", apart := false, narrowed := true }
def TimerStepsUptoSaid : Prop := timerStepsUptoRow.holds Try.pinned (OpenSpec.upto timerStepsSpec)

/-- 'matryoshkalaw18.TimerCredit', WHERE WHAT IT READS IS OF BULK AT MOST 1048576: true; the input reads as it did. -/
def timerCreditUptoRow : OpenClaim := { program := "ytnjnmeidjcdppaa", sum := "bfb26629c3e92980fc863f508d3b19ea3e3a1d6c6f247a3827c6aa258fdb9f36", func := "matryoshka/matryoshkalaw18.TimerCredit", spec := "timerCredit", apart := false, narrowed := true }
def TimerCreditUptoSaid : Prop := timerCreditUptoRow.holds Try.pinned (OpenSpec.upto timerCreditSpec)

/-- 'matryoshkalaw18.TimerNil', WHERE WHAT IT READS IS OF BULK AT MOST 1048576: true; the input reads as it did. -/
def timerNilUptoRow : OpenClaim := { program := "ytnjnmeidjcdppaa", sum := "bfb26629c3e92980fc863f508d3b19ea3e3a1d6c6f247a3827c6aa258fdb9f36", func := "matryoshka/matryoshkalaw18.TimerNil", spec := "timerNil", apart := false, narrowed := true }
def TimerNilUptoSaid : Prop := timerNilUptoRow.holds Try.pinned (OpenSpec.upto timerNilSpec)

/-- 'matryoshkalaw18.TimerOnce', WHERE WHAT IT READS IS OF BULK AT MOST 1048576: true; the input reads as it did. -/
def timerOnceUptoRow : OpenClaim := { program := "ytnjnmeidjcdppaa", sum := "bfb26629c3e92980fc863f508d3b19ea3e3a1d6c6f247a3827c6aa258fdb9f36", func := "matryoshka/matryoshkalaw18.TimerOnce", spec := "timerOnce", apart := false, narrowed := true }
def TimerOnceUptoSaid : Prop := timerOnceUptoRow.holds Try.pinned (OpenSpec.upto timerOnceSpec)

/-- 'matryoshkalaw18.TimerNext', WHERE WHAT IT READS IS OF BULK AT MOST 1048576: true; the input reads as it did. -/
def timerNextUptoRow : OpenClaim := { program := "ytnjnmeidjcdppaa", sum := "bfb26629c3e92980fc863f508d3b19ea3e3a1d6c6f247a3827c6aa258fdb9f36", func := "matryoshka/matryoshkalaw18.TimerNext", spec := "timerNext", apart := false, narrowed := true }
def TimerNextUptoSaid : Prop := timerNextUptoRow.holds Try.pinned (OpenSpec.upto timerNextSpec)

end Rows
end Go.Proofs.Ytnjnmeidjcdppaa
