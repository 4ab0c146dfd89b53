/-
  No cell of these rows narrows 'for every input' (looked for: loops, veiled, ifaces, maps, wideKeys, modest, calm, conditions, laid).
  DERIVED. THE GIVEN ROWS OF THIS SEAT. 5 by the template 'for every input the law returns true; each argument reads behind the call as it read before'; 0 by the template 'total and deterministic' (their statements: YtfngkeegfjihlaaTotals.lean).
  GIVEN WITH THE SEED: the statements are not yours to turn. If you find one false, say at which input.
  Laid BY PROGRAM, IN A SANDBOX (cutbox-rows.mjs): the forced cells as the released guide's own fill.sh prints them over the translation a342c35f472dd875… (all of the seat's roots in one cut). By AI agents, Wed Nov 11 2026. No macro, syntax, notation, axiom, sorry.
-/
import Derived.Test.YtfngkeegfjihlaaChecked
import GoSem.Claim
import GoSem.ClaimJoined
import GoSem.ClaimMapViews
import Derived.JoinedTies
import Derived.KernelRfl
namespace Go.Proofs.Ytfngkeegfjihlaa
/- THE CELL 'sum', in the pinned program and in every row, IS THE sha256 OF THE DUMP (.gsa) THAT YtfngkeegfjihlaaProg.lean LOADS. Nothing in Lean hashes anything: it is a label: what it is worth is what the hold of that sum in a sandbox is worth. -/
noncomputable def Try.pinned : Pinned := { name := "ytfngkeegfjihlaa", sum := "a342c35f472dd875eb589debeca475ffb09bd9a8f6c41a4a37c50337d8cf1b3d", checked := Try.checked }
namespace Rows
def none {H : Type} : Left H := { results := [], args := [] }

/-- 'matryoshkalaw15.ShootPlays': WHATEVER THE INPUT: true; the input reads as it did. -/
def shootPlaysSpec : ChangeSpec := { name := "shootPlays", fn := fun _ => fun
  | [d1, d2, d3] => { results := [.lit (.bool true)], args := [d1, d2, d3] }
  | _ => none }
def shootPlaysRow : OpenClaim := { program := "ytfngkeegfjihlaa", sum := "a342c35f472dd875eb589debeca475ffb09bd9a8f6c41a4a37c50337d8cf1b3d", func := "matryoshka/matryoshkalaw15.ShootPlays", spec := "shootPlays", apart := false }
def ShootPlaysSaid : Prop := shootPlaysRow.holds Try.pinned (OpenSpec.ofChange shootPlaysSpec)

/-- ITS FALSE NEIGHBOUR: 'it returns false'. Refute it at one input. -/
def shootPlaysWrong : ChangeSpec := { name := "shootPlays", fn := fun _ => fun
  | [d1, d2, d3] => { results := [.lit (.bool false)], args := [d1, d2, d3] }
  | _ => none }
def ShootPlaysWrongFalsely : Prop := shootPlaysRow.holds Try.pinned (OpenSpec.ofChange shootPlaysWrong)

/-- 'matryoshkalaw15.ShootOnce': WHATEVER THE INPUT: true; the input reads as it did. -/
def shootOnceSpec : ChangeSpec := { name := "shootOnce", fn := fun _ => fun
  | [d1, d2] => { results := [.lit (.bool true)], args := [d1, d2] }
  | _ => none }
def shootOnceRow : OpenClaim := { program := "ytfngkeegfjihlaa", sum := "a342c35f472dd875eb589debeca475ffb09bd9a8f6c41a4a37c50337d8cf1b3d", func := "matryoshka/matryoshkalaw15.ShootOnce", spec := "shootOnce", apart := false }
def ShootOnceSaid : Prop := shootOnceRow.holds Try.pinned (OpenSpec.ofChange shootOnceSpec)

/-- ITS FALSE NEIGHBOUR: 'it returns false'. Refute it at one input. -/
def shootOnceWrong : ChangeSpec := { name := "shootOnce", fn := fun _ => fun
  | [d1, d2] => { results := [.lit (.bool false)], args := [d1, d2] }
  | _ => none }
def ShootOnceWrongFalsely : Prop := shootOnceRow.holds Try.pinned (OpenSpec.ofChange shootOnceWrong)

/-- 'matryoshkalaw15.ShootEnds': WHATEVER THE INPUT: true; the input reads as it did. -/
def shootEndsSpec : ChangeSpec := { name := "shootEnds", fn := fun _ => fun
  | [d1, d2] => { results := [.lit (.bool true)], args := [d1, d2] }
  | _ => none }
def shootEndsRow : OpenClaim := { program := "ytfngkeegfjihlaa", sum := "a342c35f472dd875eb589debeca475ffb09bd9a8f6c41a4a37c50337d8cf1b3d", func := "matryoshka/matryoshkalaw15.ShootEnds", spec := "shootEnds", apart := false }
def ShootEndsSaid : Prop := shootEndsRow.holds Try.pinned (OpenSpec.ofChange shootEndsSpec)

/-- ITS FALSE NEIGHBOUR: 'it returns false'. Refute it at one input. -/
def shootEndsWrong : ChangeSpec := { name := "shootEnds", fn := fun _ => fun
  | [d1, d2] => { results := [.lit (.bool false)], args := [d1, d2] }
  | _ => none }
def ShootEndsWrongFalsely : Prop := shootEndsRow.holds Try.pinned (OpenSpec.ofChange shootEndsWrong)

/-- 'matryoshkalaw15.ShootNil': WHATEVER THE INPUT: true; the input reads as it did. -/
def shootNilSpec : ChangeSpec := { name := "shootNil", fn := fun _ => fun
  | [d] => { results := [.lit (.bool true)], args := [d] }
  | _ => none }
def shootNilRow : OpenClaim := { program := "ytfngkeegfjihlaa", sum := "a342c35f472dd875eb589debeca475ffb09bd9a8f6c41a4a37c50337d8cf1b3d", func := "matryoshka/matryoshkalaw15.ShootNil", spec := "shootNil", apart := false }
def ShootNilSaid : Prop := shootNilRow.holds Try.pinned (OpenSpec.ofChange shootNilSpec)

/-- ITS FALSE NEIGHBOUR: 'it returns false'. Refute it at one input. -/
def shootNilWrong : ChangeSpec := { name := "shootNil", fn := fun _ => fun
  | [d] => { results := [.lit (.bool false)], args := [d] }
  | _ => none }
def ShootNilWrongFalsely : Prop := shootNilRow.holds Try.pinned (OpenSpec.ofChange shootNilWrong)

/-- 'matryoshkalaw15.ShootFull': WHATEVER THE INPUT: true; the input reads as it did. -/
def shootFullSpec : ChangeSpec := { name := "shootFull", fn := fun _ => fun
  | [d1, d2] => { results := [.lit (.bool true)], args := [d1, d2] }
  | _ => none }
def shootFullRow : OpenClaim := { program := "ytfngkeegfjihlaa", sum := "a342c35f472dd875eb589debeca475ffb09bd9a8f6c41a4a37c50337d8cf1b3d", func := "matryoshka/matryoshkalaw15.ShootFull", spec := "shootFull", apart := false }
def ShootFullSaid : Prop := shootFullRow.holds Try.pinned (OpenSpec.ofChange shootFullSpec)

/-- ITS FALSE NEIGHBOUR: 'it returns false'. Refute it at one input. -/
def shootFullWrong : ChangeSpec := { name := "shootFull", fn := fun _ => fun
  | [d1, d2] => { results := [.lit (.bool false)], args := [d1, d2] }
  | _ => none }
def ShootFullWrongFalsely : Prop := shootFullRow.holds Try.pinned (OpenSpec.ofChange shootFullWrong)

/- THE SECOND FORM. 'bulk': how many values and letters a reading holds, each counted each time it is reached (what is shared counts as often as it is met; a slice's spare places count too). A statement '..UptoSaid' is the law's where the arguments, and the package variables that the reading takes, are together of bulk at most 1048576: NARROWER than '..Said'. Prove '..Said' where nothing that the law and all that it calls make is longer than what came in: it says more and counts as full. Else prove '..UptoSaid'. A law counts once. -/
mutual
def uptoBulk {H : Type} : DataW H → Nat
  | .lit (.string bytes) => bytes.length + 1
  | .lit _ => 1
  | .nil => 1
  | .ptr d => uptoBulk d + 1
  | .slice elems spare => uptoBulkAll elems + uptoBulkAll spare + 1
  | .agg parts => uptoBulkAll parts + 1
  | .iface _ d => uptoBulk d + 1
  | .map entries => uptoBulkEntries entries + 1
  | .held _ => 1
def uptoBulkAll {H : Type} : List (DataW H) → Nat
  | [] => 0
  | d :: r => uptoBulk d + uptoBulkAll r
def uptoBulkEntries {H : Type} : List (Lit × DataW H) → Nat
  | [] => 0
  | x :: r => uptoBulkEntry x + uptoBulkEntries r
def uptoBulkEntry {H : Type} : Lit × DataW H → Nat
  | (.string bytes, d) => bytes.length + uptoBulk d + 1
  | (_, d) => uptoBulk d + 1
 end
def uptoSmall : (H : Type) → List (DataW H) → Bool := fun _ ds => decide (uptoBulkAll ds ≤ 1048576)
def OpenSpec.upto (s : _root_.Go.ChangeSpec) : _root_.Go.OpenSpec := { _root_.Go.OpenSpec.ofChange s with cond := some uptoSmall }

/-- 'matryoshkalaw15.ShootPlays', WHERE WHAT IT READS IS OF BULK AT MOST 1048576: true; the input reads as it did. -/
def shootPlaysUptoRow : OpenClaim := { program := "ytfngkeegfjihlaa", sum := "a342c35f472dd875eb589debeca475ffb09bd9a8f6c41a4a37c50337d8cf1b3d", func := "matryoshka/matryoshkalaw15.ShootPlays", spec := "shootPlays", apart := false, narrowed := true }
def ShootPlaysUptoSaid : Prop := shootPlaysUptoRow.holds Try.pinned (OpenSpec.upto shootPlaysSpec)

/-- 'matryoshkalaw15.ShootOnce', WHERE WHAT IT READS IS OF BULK AT MOST 1048576: true; the input reads as it did. -/
def shootOnceUptoRow : OpenClaim := { program := "ytfngkeegfjihlaa", sum := "a342c35f472dd875eb589debeca475ffb09bd9a8f6c41a4a37c50337d8cf1b3d", func := "matryoshka/matryoshkalaw15.ShootOnce", spec := "shootOnce", apart := false, narrowed := true }
def ShootOnceUptoSaid : Prop := shootOnceUptoRow.holds Try.pinned (OpenSpec.upto shootOnceSpec)

/-- 'matryoshkalaw15.ShootEnds', WHERE WHAT IT READS IS OF BULK AT MOST 1048576: true; the input reads as it did. -/
def shootEndsUptoRow : OpenClaim := { program := "ytfngkeegfjihlaa", sum := "a342c35f472dd875eb589debeca475ffb09bd9a8f6c41a4a37c50337d8cf1b3d", func := "matryoshka/matryoshkalaw15.ShootEnds", spec := "shootEnds", apart := false, narrowed := true }
def ShootEndsUptoSaid : Prop := shootEndsUptoRow.holds Try.pinned (OpenSpec.upto shootEndsSpec)

/-- 'matryoshkalaw15.ShootNil', WHERE WHAT IT READS IS OF BULK AT MOST 1048576: true; the input reads as it did. -/
def shootNilUptoRow : OpenClaim := { program := "ytfngkeegfjihlaa", sum := "a342c35f472dd875eb589debeca475ffb09bd9a8f6c41a4a37c50337d8cf1b3d", func := "matryoshka/matryoshkalaw15.ShootNil", spec := "shootNil", apart := false, narrowed := true }
def ShootNilUptoSaid : Prop := shootNilUptoRow.holds Try.pinned (OpenSpec.upto shootNilSpec)

/-- 'matryoshkalaw15.ShootFull', WHERE WHAT IT READS IS OF BULK AT MOST 1048576: true; the input reads as it did. -/
def shootFullUptoRow : OpenClaim := { program := "ytfngkeegfjihlaa", sum := "a342c35f472dd875eb589debeca475ffb09bd9a8f6c41a4a37c50337d8cf1b3d", func := "matryoshka/matryoshkalaw15.ShootFull", spec := "shootFull", apart := false, narrowed := true }
def ShootFullUptoSaid : Prop := shootFullUptoRow.holds Try.pinned (OpenSpec.upto shootFullSpec)

end Rows
end Go.Proofs.Ytfngkeegfjihlaa
