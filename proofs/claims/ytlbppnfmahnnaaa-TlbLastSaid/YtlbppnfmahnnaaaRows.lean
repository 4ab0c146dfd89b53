/-
  No cell of these rows narrows 'for every input' (looked for: loops, veiled, ifaces, maps, wideKeys, modest, calm, conditions, laid).
  DERIVED. THE GIVEN ROWS OF THIS SEAT. 6 by the template 'for every input the law returns true; each argument reads behind the call as it read before'; 0 by the template 'total and deterministic' (their statements: YtlbppnfmahnnaaaTotals.lean).
  GIVEN WITH THE SEED: the statements are not yours to turn. If you find one false, say at which input.
  Laid BY PROGRAM, IN A SANDBOX (cutbox-rows.mjs): the forced cells as the released guide's own fill.sh prints them over the translation 7389360a32266999… (all of the seat's roots in one cut). By AI agents, Wed Nov 11 2026. No macro, syntax, notation, axiom, sorry.
-/
import Derived.Test.YtlbppnfmahnnaaaChecked
import GoSem.Claim
import GoSem.ClaimJoined
import GoSem.ClaimMapViews
import Derived.JoinedTies
import Derived.KernelRfl
namespace Go.Proofs.Ytlbppnfmahnnaaa
/- THE CELL 'sum', in the pinned program and in every row, IS THE sha256 OF THE DUMP (.gsa) THAT YtlbppnfmahnnaaaProg.lean LOADS. Nothing in Lean hashes anything: it is a label: what it is worth is what the hold of that sum in a sandbox is worth. -/
noncomputable def Try.pinned : Pinned := { name := "ytlbppnfmahnnaaa", sum := "7389360a32266999482cacdff6c0d871427b93c48ff5f5968cfaf1653c9cca37", checked := Try.checked }
namespace Rows
def none {H : Type} : Left H := { results := [], args := [] }

/-- 'matryoshkalaw14.TlbOne': WHATEVER THE INPUT: true; the input reads as it did. -/
def tlbOneSpec : ChangeSpec := { name := "tlbOne", fn := fun _ => fun
  | [d1, d2] => { results := [.lit (.bool true)], args := [d1, d2] }
  | _ => none }
def tlbOneRow : OpenClaim := { program := "ytlbppnfmahnnaaa", sum := "7389360a32266999482cacdff6c0d871427b93c48ff5f5968cfaf1653c9cca37", func := "matryoshka/matryoshkalaw14.TlbOne", spec := "tlbOne", unfollowed := true, recurses := true, apart := false }
def TlbOneSaid : Prop := tlbOneRow.holds Try.pinned (OpenSpec.ofChange tlbOneSpec)

/-- ITS FALSE NEIGHBOUR: 'it returns false'. Refute it at one input. -/
def tlbOneWrong : ChangeSpec := { name := "tlbOne", fn := fun _ => fun
  | [d1, d2] => { results := [.lit (.bool false)], args := [d1, d2] }
  | _ => none }
def TlbOneWrongFalsely : Prop := tlbOneRow.holds Try.pinned (OpenSpec.ofChange tlbOneWrong)

/-- 'matryoshkalaw14.TlbLast': WHATEVER THE INPUT: true; the input reads as it did. -/
def tlbLastSpec : ChangeSpec := { name := "tlbLast", fn := fun _ => fun
  | [d1, d2] => { results := [.lit (.bool true)], args := [d1, d2] }
  | _ => none }
def tlbLastRow : OpenClaim := { program := "ytlbppnfmahnnaaa", sum := "7389360a32266999482cacdff6c0d871427b93c48ff5f5968cfaf1653c9cca37", func := "matryoshka/matryoshkalaw14.TlbLast", spec := "tlbLast", unfollowed := true, recurses := true, apart := false }
def TlbLastSaid : Prop := tlbLastRow.holds Try.pinned (OpenSpec.ofChange tlbLastSpec)

/-- ITS FALSE NEIGHBOUR: 'it returns false'. Refute it at one input. -/
def tlbLastWrong : ChangeSpec := { name := "tlbLast", fn := fun _ => fun
  | [d1, d2] => { results := [.lit (.bool false)], args := [d1, d2] }
  | _ => none }
def TlbLastWrongFalsely : Prop := tlbLastRow.holds Try.pinned (OpenSpec.ofChange tlbLastWrong)

/-- 'matryoshkalaw14.TlbApart': WHATEVER THE INPUT: true; the input reads as it did. -/
def tlbApartSpec : ChangeSpec := { name := "tlbApart", fn := fun _ => fun
  | [d1, d2] => { results := [.lit (.bool true)], args := [d1, d2] }
  | _ => none }
def tlbApartRow : OpenClaim := { program := "ytlbppnfmahnnaaa", sum := "7389360a32266999482cacdff6c0d871427b93c48ff5f5968cfaf1653c9cca37", func := "matryoshka/matryoshkalaw14.TlbApart", spec := "tlbApart", unfollowed := true, recurses := true, apart := false }
def TlbApartSaid : Prop := tlbApartRow.holds Try.pinned (OpenSpec.ofChange tlbApartSpec)

/-- ITS FALSE NEIGHBOUR: 'it returns false'. Refute it at one input. -/
def tlbApartWrong : ChangeSpec := { name := "tlbApart", fn := fun _ => fun
  | [d1, d2] => { results := [.lit (.bool false)], args := [d1, d2] }
  | _ => none }
def TlbApartWrongFalsely : Prop := tlbApartRow.holds Try.pinned (OpenSpec.ofChange tlbApartWrong)

/-- 'matryoshkalaw14.TlbRights': WHATEVER THE INPUT: true; the input reads as it did. -/
def tlbRightsSpec : ChangeSpec := { name := "tlbRights", fn := fun _ => fun
  | [d1, d2] => { results := [.lit (.bool true)], args := [d1, d2] }
  | _ => none }
def tlbRightsRow : OpenClaim := { program := "ytlbppnfmahnnaaa", sum := "7389360a32266999482cacdff6c0d871427b93c48ff5f5968cfaf1653c9cca37", func := "matryoshka/matryoshkalaw14.TlbRights", spec := "tlbRights", unfollowed := true, recurses := true, apart := false }
def TlbRightsSaid : Prop := tlbRightsRow.holds Try.pinned (OpenSpec.ofChange tlbRightsSpec)

/-- ITS FALSE NEIGHBOUR: 'it returns false'. Refute it at one input. -/
def tlbRightsWrong : ChangeSpec := { name := "tlbRights", fn := fun _ => fun
  | [d1, d2] => { results := [.lit (.bool false)], args := [d1, d2] }
  | _ => none }
def TlbRightsWrongFalsely : Prop := tlbRightsRow.holds Try.pinned (OpenSpec.ofChange tlbRightsWrong)

/-- 'matryoshkalaw14.TlbPlays': WHATEVER THE INPUT: true; the input reads as it did. -/
def tlbPlaysSpec : ChangeSpec := { name := "tlbPlays", fn := fun _ => fun
  | [d1, d2] => { results := [.lit (.bool true)], args := [d1, d2] }
  | _ => none }
def tlbPlaysRow : OpenClaim := { program := "ytlbppnfmahnnaaa", sum := "7389360a32266999482cacdff6c0d871427b93c48ff5f5968cfaf1653c9cca37", func := "matryoshka/matryoshkalaw14.TlbPlays", spec := "tlbPlays", unfollowed := true, recurses := true, apart := false }
def TlbPlaysSaid : Prop := tlbPlaysRow.holds Try.pinned (OpenSpec.ofChange tlbPlaysSpec)

/-- ITS FALSE NEIGHBOUR: 'it returns false'. Refute it at one input. -/
def tlbPlaysWrong : ChangeSpec := { name := "tlbPlays", fn := fun _ => fun
  | [d1, d2] => { results := [.lit (.bool false)], args := [d1, d2] }
  | _ => none }
def TlbPlaysWrongFalsely : Prop := tlbPlaysRow.holds Try.pinned (OpenSpec.ofChange tlbPlaysWrong)

/-- 'matryoshkalaw14.TlbNil': WHATEVER THE INPUT: true; the input reads as it did. -/
def tlbNilSpec : ChangeSpec := { name := "tlbNil", fn := fun _ => fun
  | [d] => { results := [.lit (.bool true)], args := [d] }
  | _ => none }
def tlbNilRow : OpenClaim := { program := "ytlbppnfmahnnaaa", sum := "7389360a32266999482cacdff6c0d871427b93c48ff5f5968cfaf1653c9cca37", func := "matryoshka/matryoshkalaw14.TlbNil", spec := "tlbNil", unfollowed := true, recurses := true, apart := false }
def TlbNilSaid : Prop := tlbNilRow.holds Try.pinned (OpenSpec.ofChange tlbNilSpec)

/-- ITS FALSE NEIGHBOUR: 'it returns false'. Refute it at one input. -/
def tlbNilWrong : ChangeSpec := { name := "tlbNil", fn := fun _ => fun
  | [d] => { results := [.lit (.bool false)], args := [d] }
  | _ => none }
def TlbNilWrongFalsely : Prop := tlbNilRow.holds Try.pinned (OpenSpec.ofChange tlbNilWrong)

/- THE SECOND FORM. 'bulk': how many values and letters a reading holds, each counted each time it is reached (what is shared counts as often as it is met; a slice's spare places count too). A statement '..UptoSaid' is the law's where the arguments, and the package variables that the reading takes, are together of bulk at most 1048576: NARROWER than '..Said'. Prove '..Said' where nothing that the law and all that it calls make is longer than what came in: it says more and counts as full. Else prove '..UptoSaid'. A law counts once. -/
mutual
def uptoBulk {H : Type} : DataW H → Nat
  | .lit (.string bytes) => bytes.length + 1
  | .lit _ => 1
  | .nil => 1
  | .ptr d => uptoBulk d + 1
  | .slice elems spare => uptoBulkAll elems + uptoBulkAll spare + 1
  | .agg parts => uptoBulkAll parts + 1
  | .iface _ d => uptoBulk d + 1
  | .map entries => uptoBulkEntries entries + 1
  | .held _ => 1
def uptoBulkAll {H : Type} : List (DataW H) → Nat
  | [] => 0
  | d :: r => uptoBulk d + uptoBulkAll r
def uptoBulkEntries {H : Type} : List (Lit × DataW H) → Nat
  | [] => 0
  | x :: r => uptoBulkEntry x + uptoBulkEntries r
def uptoBulkEntry {H : Type} : Lit × DataW H → Nat
  | (.string bytes, d) => bytes.length + uptoBulk d + 1
  | (_, d) => uptoBulk d + 1
 end
def uptoSmall : (H : Type) → List (DataW H) → Bool := fun _ ds => decide (uptoBulkAll ds ≤ 1048576)
def OpenSpec.upto (s : _root_.Go.ChangeSpec) : _root_.Go.OpenSpec := { _root_.Go.OpenSpec.ofChange s with cond := some uptoSmall }

/-- 'matryoshkalaw14.TlbOne', WHERE WHAT IT READS IS OF BULK AT MOST 1048576: true; the input reads as it did. -/
def tlbOneUptoRow : OpenClaim := { program := "ytlbppnfmahnnaaa", sum := "7389360a32266999482cacdff6c0d871427b93c48ff5f5968cfaf1653c9cca37", func := "matryoshka/matryoshkalaw14.TlbOne", spec := "tlbOne", unfollowed := true, recurses := true, apart := false, narrowed := true }
def TlbOneUptoSaid : Prop := tlbOneUptoRow.holds Try.pinned (OpenSpec.upto tlbOneSpec)

/-- 'matryoshkalaw14.TlbLast', WHERE WHAT IT READS IS OF BULK AT MOST 1048576: true; the input reads as it did. -/
def tlbLastUptoRow : OpenClaim := { program := "ytlbppnfmahnnaaa", sum := "7389360a32266999482cacdff6c0d871427b93c48ff5f5968cfaf1653c9cca37", func := "matryoshka/matryoshkalaw14.TlbLast", spec := "tlbLast", unfollowed := true, recurses := true, apart := false, narrowed := true }
def TlbLastUptoSaid : Prop := tlbLastUptoRow.holds Try.pinned (OpenSpec.upto tlbLastSpec)

/-- 'matryoshkalaw14.TlbApart', WHERE WHAT IT READS IS OF BULK AT MOST 1048576: true; the input reads as it did. -/
def tlbApartUptoRow : OpenClaim := { program := "ytlbppnfmahnnaaa", sum := "7389360a32266999482cacdff6c0d871427b93c48ff5f5968cfaf1653c9cca37", func := "matryoshka/matryoshkalaw14.TlbApart", spec := "tlbApart", unfollowed := true, recurses := true, apart := false, narrowed := true }
def TlbApartUptoSaid : Prop := tlbApartUptoRow.holds Try.pinned (OpenSpec.upto tlbApartSpec)

/-- 'matryoshkalaw14.TlbRights', WHERE WHAT IT READS IS OF BULK AT MOST 1048576: true; the input reads as it did. -/
def tlbRightsUptoRow : OpenClaim := { program := "ytlbppnfmahnnaaa", sum := "7389360a32266999482cacdff6c0d871427b93c48ff5f5968cfaf1653c9cca37", func := "matryoshka/matryoshkalaw14.TlbRights", spec := "tlbRights", unfollowed := true, recurses := true, apart := false, narrowed := true }
def TlbRightsUptoSaid : Prop := tlbRightsUptoRow.holds Try.pinned (OpenSpec.upto tlbRightsSpec)

/-- 'matryoshkalaw14.TlbPlays', WHERE WHAT IT READS IS OF BULK AT MOST 1048576: true; the input reads as it did. -/
def tlbPlaysUptoRow : OpenClaim := { program := "ytlbppnfmahnnaaa", sum := "7389360a32266999482cacdff6c0d871427b93c48ff5f5968cfaf1653c9cca37", func := "matryoshka/matryoshkalaw14.TlbPlays", spec := "tlbPlays", unfollowed := true, recurses := true, apart := false, narrowed := true }
def TlbPlaysUptoSaid : Prop := tlbPlaysUptoRow.holds Try.pinned (OpenSpec.upto tlbPlaysSpec)

/-- 'matryoshkalaw14.TlbNil', WHERE WHAT IT READS IS OF BULK AT MOST 1048576: true; the input reads as it did. -/
def tlbNilUptoRow : OpenClaim := { program := "ytlbppnfmahnnaaa", sum := "7389360a32266999482cacdff6c0d871427b93c48ff5f5968cfaf1653c9cca37", func := "matryoshka/matryoshkalaw14.TlbNil", spec := "tlbNil", unfollowed := true, recurses := true, apart := false, narrowed := true }
def TlbNilUptoSaid : Prop := tlbNilUptoRow.holds Try.pinned (OpenSpec.upto tlbNilSpec)

end Rows
end Go.Proofs.Ytlbppnfmahnnaaa
