/-
  No cell of these rows narrows 'for every input' (looked for: loops, veiled, ifaces, maps, wideKeys, modest, calm, conditions, laid).
  DERIVED. THE GIVEN ROWS OF THIS SEAT. 5 by the template 'for every input the law returns true; each argument reads behind the call as it read before'; 0 by the template 'total and deterministic' (their statements: YtmkklciobehohaaTotals.lean).
  GIVEN WITH THE SEED: the statements are not yours to turn. If you find one false, say at which input.
  Laid BY PROGRAM, IN A SANDBOX (cutbox-rows.mjs): the forced cells as the released guide's own fill.sh prints them over the translation 39c59b502458531c… (all of the seat's roots in one cut). By AI agents, Wed Nov 11 2026. No macro, syntax, notation, axiom, sorry.
-/
import Derived.Test.YtmkklciobehohaaChecked
import GoSem.Claim
import GoSem.ClaimJoined
import GoSem.ClaimMapViews
import Derived.JoinedTies
import Derived.KernelRfl
namespace Go.Proofs.Ytmkklciobehohaa
/- THE CELL 'sum', in the pinned program and in every row, IS THE sha256 OF THE DUMP (.gsa) THAT YtmkklciobehohaaProg.lean LOADS. Nothing in Lean hashes anything: it is a label: what it is worth is what the hold of that sum in a sandbox is worth. -/
noncomputable def Try.pinned : Pinned := { name := "ytmkklciobehohaa", sum := "39c59b502458531c120c37e9df47560054f1ed53a13acac9021df4769d173547", checked := Try.checked }
namespace Rows
def none {H : Type} : Left H := { results := [], args := [] }

/-- 'matryoshkalaw17.RunqOnce': WHATEVER THE INPUT: true; the input reads as it did. -/
def runqOnceSpec : ChangeSpec := { name := "runqOnce", fn := fun _ => fun
  | [d1, d2] => { results := [.lit (.bool true)], args := [d1, d2] }
  | _ => none }
def runqOnceRow : OpenClaim := { program := "ytmkklciobehohaa", sum := "39c59b502458531c120c37e9df47560054f1ed53a13acac9021df4769d173547", func := "matryoshka/matryoshkalaw17.RunqOnce", spec := "runqOnce", unfollowed := true, recurses := true, apart := false }
def RunqOnceSaid : Prop := runqOnceRow.holds Try.pinned (OpenSpec.ofChange runqOnceSpec)

/-- ITS FALSE NEIGHBOUR: 'it returns false'. Refute it at one input. -/
def runqOnceWrong : ChangeSpec := { name := "runqOnce", fn := fun _ => fun
  | [d1, d2] => { results := [.lit (.bool false)], args := [d1, d2] }
  | _ => none }
def RunqOnceWrongFalsely : Prop := runqOnceRow.holds Try.pinned (OpenSpec.ofChange runqOnceWrong)

/-- 'matryoshkalaw17.RunqEven': WHATEVER THE INPUT: true; the input reads as it did. -/
def runqEvenSpec : ChangeSpec := { name := "runqEven", fn := fun _ => fun
  | [d1, d2] => { results := [.lit (.bool true)], args := [d1, d2] }
  | _ => none }
def runqEvenRow : OpenClaim := { program := "ytmkklciobehohaa", sum := "39c59b502458531c120c37e9df47560054f1ed53a13acac9021df4769d173547", func := "matryoshka/matryoshkalaw17.RunqEven", spec := "runqEven", unfollowed := true, recurses := true, apart := false }
def RunqEvenSaid : Prop := runqEvenRow.holds Try.pinned (OpenSpec.ofChange runqEvenSpec)

/-- ITS FALSE NEIGHBOUR: 'it returns false'. Refute it at one input. -/
def runqEvenWrong : ChangeSpec := { name := "runqEven", fn := fun _ => fun
  | [d1, d2] => { results := [.lit (.bool false)], args := [d1, d2] }
  | _ => none }
def RunqEvenWrongFalsely : Prop := runqEvenRow.holds Try.pinned (OpenSpec.ofChange runqEvenWrong)

/-- 'matryoshkalaw17.RunqFifo': WHATEVER THE INPUT: true; the input reads as it did. -/
def runqFifoSpec : ChangeSpec := { name := "runqFifo", fn := fun _ => fun
  | [d1, d2] => { results := [.lit (.bool true)], args := [d1, d2] }
  | _ => none }
def runqFifoRow : OpenClaim := { program := "ytmkklciobehohaa", sum := "39c59b502458531c120c37e9df47560054f1ed53a13acac9021df4769d173547", func := "matryoshka/matryoshkalaw17.RunqFifo", spec := "runqFifo", unfollowed := true, recurses := true, apart := false }
def RunqFifoSaid : Prop := runqFifoRow.holds Try.pinned (OpenSpec.ofChange runqFifoSpec)

/-- ITS FALSE NEIGHBOUR: 'it returns false'. Refute it at one input. -/
def runqFifoWrong : ChangeSpec := { name := "runqFifo", fn := fun _ => fun
  | [d1, d2] => { results := [.lit (.bool false)], args := [d1, d2] }
  | _ => none }
def RunqFifoWrongFalsely : Prop := runqFifoRow.holds Try.pinned (OpenSpec.ofChange runqFifoWrong)

/-- 'matryoshkalaw17.RunqNil': WHATEVER THE INPUT: true; the input reads as it did. -/
def runqNilSpec : ChangeSpec := { name := "runqNil", fn := fun _ => fun
  | [d] => { results := [.lit (.bool true)], args := [d] }
  | _ => none }
def runqNilRow : OpenClaim := { program := "ytmkklciobehohaa", sum := "39c59b502458531c120c37e9df47560054f1ed53a13acac9021df4769d173547", func := "matryoshka/matryoshkalaw17.RunqNil", spec := "runqNil", unfollowed := true, recurses := true, apart := false }
def RunqNilSaid : Prop := runqNilRow.holds Try.pinned (OpenSpec.ofChange runqNilSpec)

/-- ITS FALSE NEIGHBOUR: 'it returns false'. Refute it at one input. -/
def runqNilWrong : ChangeSpec := { name := "runqNil", fn := fun _ => fun
  | [d] => { results := [.lit (.bool false)], args := [d] }
  | _ => none }
def RunqNilWrongFalsely : Prop := runqNilRow.holds Try.pinned (OpenSpec.ofChange runqNilWrong)

/-- 'matryoshkalaw17.RunqKeeps': WHATEVER THE INPUT: true; the input reads as it did. -/
def runqKeepsSpec : ChangeSpec := { name := "runqKeeps", fn := fun _ => fun
  | [d1, d2, d3] => { results := [.lit (.bool true)], args := [d1, d2, d3] }
  | _ => none }
def runqKeepsRow : OpenClaim := { program := "ytmkklciobehohaa", sum := "39c59b502458531c120c37e9df47560054f1ed53a13acac9021df4769d173547", func := "matryoshka/matryoshkalaw17.RunqKeeps", spec := "runqKeeps", unfollowed := true, recurses := true, apart := false }
def RunqKeepsSaid : Prop := runqKeepsRow.holds Try.pinned (OpenSpec.ofChange runqKeepsSpec)

/-- ITS FALSE NEIGHBOUR: 'it returns false'. Refute it at one input. -/
def runqKeepsWrong : ChangeSpec := { name := "runqKeeps", fn := fun _ => fun
  | [d1, d2, d3] => { results := [.lit (.bool false)], args := [d1, d2, d3] }
  | _ => none }
def RunqKeepsWrongFalsely : Prop := runqKeepsRow.holds Try.pinned (OpenSpec.ofChange runqKeepsWrong)

/- THE SECOND FORM. 'bulk': how many values and letters a reading holds, each counted each time it is reached (what is shared counts as often as it is met; a slice's spare places count too). A statement '..UptoSaid' is the law's where the arguments, and the package variables that the reading takes, are together of bulk at most 1048576: NARROWER than '..Said'. Prove '..Said' where nothing that the law and all that it calls make is longer than what came in: it says more and counts as full. Else prove '..UptoSaid'. A law counts once. -/
mutual
def uptoBulk {H : Type} : DataW H → Nat
  | .lit (.string bytes) => bytes.length + 1
  | .lit _ => 1
  | .nil => 1
  | .ptr d => uptoBulk d + 1
  | .slice elems spare => uptoBulkAll elems + uptoBulkAll spare + 1
  | .agg parts => uptoBulkAll parts + 1
  | .iface _ d => uptoBulk d + 1
  | .map entries => uptoBulkEntries entries + 1
  | .held _ => 1
def uptoBulkAll {H : Type} : List (DataW H) → Nat
  | [] => 0
  | d :: r => uptoBulk d + uptoBulkAll r
def uptoBulkEntries {H : Type} : List (Lit × DataW H) → Nat
  | [] => 0
  | x :: r => uptoBulkEntry x + uptoBulkEntries r
def uptoBulkEntry {H : Type} : Lit × DataW H → Nat
  | (.string bytes, d) => bytes.length + uptoBulk d + 1
  | (_, d) => uptoBulk d + 1
 end
def uptoSmall : (H : Type) → List (DataW H) → Bool := fun _ ds => decide (uptoBulkAll ds ≤ 1048576)
def OpenSpec.upto (s : _root_.Go.ChangeSpec) : _root_.Go.OpenSpec := { _root_.Go.OpenSpec.ofChange s with cond := some uptoSmall }

/-- 'matryoshkalaw17.RunqOnce', WHERE WHAT IT READS IS OF BULK AT MOST 1048576: true; the input reads as it did. -/
def runqOnceUptoRow : OpenClaim := { program := "ytmkklciobehohaa", sum := "39c59b502458531c120c37e9df47560054f1ed53a13acac9021df4769d173547", func := "matryoshka/matryoshkalaw17.RunqOnce", spec := "runqOnce", unfollowed := true, recurses := true, apart := false, narrowed := true }
def RunqOnceUptoSaid : Prop := runqOnceUptoRow.holds Try.pinned (OpenSpec.upto runqOnceSpec)

/-- 'matryoshkalaw17.RunqEven', WHERE WHAT IT READS IS OF BULK AT MOST 1048576: true; the input reads as it did. -/
def runqEvenUptoRow : OpenClaim := { program := "ytmkklciobehohaa", sum := "39c59b502458531c120c37e9df47560054f1ed53a13acac9021df4769d173547", func := "matryoshka/matryoshkalaw17.RunqEven", spec := "runqEven", unfollowed := true, recurses := true, apart := false, narrowed := true }
def RunqEvenUptoSaid : Prop := runqEvenUptoRow.holds Try.pinned (OpenSpec.upto runqEvenSpec)

/-- 'matryoshkalaw17.RunqFifo', WHERE WHAT IT READS IS OF BULK AT MOST 1048576: true; the input reads as it did. -/
def runqFifoUptoRow : OpenClaim := { program := "ytmkklciobehohaa", sum := "39c59b502458531c120c37e9df47560054f1ed53a13acac9021df4769d173547", func := "matryoshka/matryoshkalaw17.RunqFifo", spec := "runqFifo", unfollowed := true, recurses := true, apart := false, narrowed := true }
def RunqFifoUptoSaid : Prop := runqFifoUptoRow.holds Try.pinned (OpenSpec.upto runqFifoSpec)

/-- 'matryoshkalaw17.RunqNil', WHERE WHAT IT READS IS OF BULK AT MOST 1048576: true; the input reads as it did. -/
def runqNilUptoRow : OpenClaim := { program := "ytmkklciobehohaa", sum := "39c59b502458531c120c37e9df47560054f1ed53a13acac9021df4769d173547", func := "matryoshka/matryoshkalaw17.RunqNil", spec := "runqNil", unfollowed := true, recurses := true, apart := false, narrowed := true }
def RunqNilUptoSaid : Prop := runqNilUptoRow.holds Try.pinned (OpenSpec.upto runqNilSpec)

/-- 'matryoshkalaw17.RunqKeeps', WHERE WHAT IT READS IS OF BULK AT MOST 1048576: true; the input reads as it did. -/
def runqKeepsUptoRow : OpenClaim := { program := "ytmkklciobehohaa", sum := "39c59b502458531c120c37e9df47560054f1ed53a13acac9021df4769d173547", func := "matryoshka/matryoshkalaw17.RunqKeeps", spec := "runqKeeps", unfollowed := true, recurses := true, apart := false, narrowed := true }
def RunqKeepsUptoSaid : Prop := runqKeepsUptoRow.holds Try.pinned (OpenSpec.upto runqKeepsSpec)

end Rows
end Go.Proofs.Ytmkklciobehohaa
