/-
  No cell of these rows narrows 'for every input' (looked for: loops, veiled, ifaces, maps, wideKeys, modest, calm, conditions, laid).
  DERIVED. THE GIVEN ROWS OF THIS SEAT. 5 by the template 'for every input the law returns true; each argument reads behind the call as it read before'; 0 by the template 'total and deterministic' (their statements: YtjeafkeofbmgcaaTotals.lean).
  GIVEN WITH THE SEED: the statements are not yours to turn. If you find one false, say at which input.
  Laid BY PROGRAM, IN A SANDBOX (cutbox-rows.mjs): the forced cells as the released guide's own fill.sh prints them over the translation 5486307895c553f7… (all of the seat's roots in one cut). By AI agents, Wed Nov 11 2026. No macro, syntax, notation, axiom, sorry.
-/
import Derived.Test.YtjeafkeofbmgcaaChecked
import GoSem.Claim
import GoSem.ClaimJoined
import GoSem.ClaimMapViews
import Derived.JoinedTies
import Derived.KernelRfl
namespace Go.Proofs.Ytjeafkeofbmgcaa
/- THE CELL 'sum', in the pinned program and in every row, IS THE sha256 OF THE DUMP (.gsa) THAT YtjeafkeofbmgcaaProg.lean LOADS. Nothing in Lean hashes anything: it is a label: what it is worth is what the hold of that sum in a sandbox is worth. -/
noncomputable def Try.pinned : Pinned := { name := "ytjeafkeofbmgcaa", sum := "5486307895c553f703a40f660404e833a862c5cfaae1533873848a4f40d6d0ee", checked := Try.checked }
namespace Rows
def none {H : Type} : Left H := { results := [], args := [] }

/-- 'matryoshkalaw19.GrantPlays': WHATEVER THE INPUT: true; the input reads as it did. -/
def grantPlaysSpec : ChangeSpec := { name := "grantPlays", fn := fun _ => fun
  | [d1, d2] => { results := [.lit (.bool true)], args := [d1, d2] }
  | _ => none }
def grantPlaysRow : OpenClaim := { program := "ytjeafkeofbmgcaa", sum := "5486307895c553f703a40f660404e833a862c5cfaae1533873848a4f40d6d0ee", func := "matryoshka/matryoshkalaw19.GrantPlays", spec := "grantPlays", unfollowed := true, recurses := true, apart := false }
def GrantPlaysSaid : Prop := grantPlaysRow.holds Try.pinned (OpenSpec.ofChange grantPlaysSpec)

/-- ITS FALSE NEIGHBOUR: 'it returns false'. Refute it at one input. -/
def grantPlaysWrong : ChangeSpec := { name := "grantPlays", fn := fun _ => fun
  | [d1, d2] => { results := [.lit (.bool false)], args := [d1, d2] }
  | _ => none }
def GrantPlaysWrongFalsely : Prop := grantPlaysRow.holds Try.pinned (OpenSpec.ofChange grantPlaysWrong)

/-- 'matryoshkalaw19.GrantLinks': WHATEVER THE INPUT: true; the input reads as it did. -/
def grantLinksSpec : ChangeSpec := { name := "grantLinks", fn := fun _ => fun
  | [d1, d2] => { results := [.lit (.bool true)], args := [d1, d2] }
  | _ => none }
def grantLinksRow : OpenClaim := { program := "ytjeafkeofbmgcaa", sum := "5486307895c553f703a40f660404e833a862c5cfaae1533873848a4f40d6d0ee", func := "matryoshka/matryoshkalaw19.GrantLinks", spec := "grantLinks", unfollowed := true, recurses := true, apart := false }
def GrantLinksSaid : Prop := grantLinksRow.holds Try.pinned (OpenSpec.ofChange grantLinksSpec)

/-- ITS FALSE NEIGHBOUR: 'it returns false'. Refute it at one input. -/
def grantLinksWrong : ChangeSpec := { name := "grantLinks", fn := fun _ => fun
  | [d1, d2] => { results := [.lit (.bool false)], args := [d1, d2] }
  | _ => none }
def GrantLinksWrongFalsely : Prop := grantLinksRow.holds Try.pinned (OpenSpec.ofChange grantLinksWrong)

/-- 'matryoshkalaw19.GrantUses': WHATEVER THE INPUT: true; the input reads as it did. -/
def grantUsesSpec : ChangeSpec := { name := "grantUses", fn := fun _ => fun
  | [d1, d2] => { results := [.lit (.bool true)], args := [d1, d2] }
  | _ => none }
def grantUsesRow : OpenClaim := { program := "ytjeafkeofbmgcaa", sum := "5486307895c553f703a40f660404e833a862c5cfaae1533873848a4f40d6d0ee", func := "matryoshka/matryoshkalaw19.GrantUses", spec := "grantUses", unfollowed := true, recurses := true, apart := false }
def GrantUsesSaid : Prop := grantUsesRow.holds Try.pinned (OpenSpec.ofChange grantUsesSpec)

/-- ITS FALSE NEIGHBOUR: 'it returns false'. Refute it at one input. -/
def grantUsesWrong : ChangeSpec := { name := "grantUses", fn := fun _ => fun
  | [d1, d2] => { results := [.lit (.bool false)], args := [d1, d2] }
  | _ => none }
def GrantUsesWrongFalsely : Prop := grantUsesRow.holds Try.pinned (OpenSpec.ofChange grantUsesWrong)

/-- 'matryoshkalaw19.GrantNil': WHATEVER THE INPUT: true; the input reads as it did. -/
def grantNilSpec : ChangeSpec := { name := "grantNil", fn := fun _ => fun
  | [d] => { results := [.lit (.bool true)], args := [d] }
  | _ => none }
def grantNilRow : OpenClaim := { program := "ytjeafkeofbmgcaa", sum := "5486307895c553f703a40f660404e833a862c5cfaae1533873848a4f40d6d0ee", func := "matryoshka/matryoshkalaw19.GrantNil", spec := "grantNil", unfollowed := true, recurses := true, apart := false }
def GrantNilSaid : Prop := grantNilRow.holds Try.pinned (OpenSpec.ofChange grantNilSpec)

/-- ITS FALSE NEIGHBOUR: 'it returns false'. Refute it at one input. -/
def grantNilWrong : ChangeSpec := { name := "grantNil", fn := fun _ => fun
  | [d] => { results := [.lit (.bool false)], args := [d] }
  | _ => none }
def GrantNilWrongFalsely : Prop := grantNilRow.holds Try.pinned (OpenSpec.ofChange grantNilWrong)

/-- 'matryoshkalaw19.GrantDrops': WHATEVER THE INPUT: true; the input reads as it did. -/
def grantDropsSpec : ChangeSpec := { name := "grantDrops", fn := fun _ => fun
  | [d1, d2] => { results := [.lit (.bool true)], args := [d1, d2] }
  | _ => none }
def grantDropsRow : OpenClaim := { program := "ytjeafkeofbmgcaa", sum := "5486307895c553f703a40f660404e833a862c5cfaae1533873848a4f40d6d0ee", func := "matryoshka/matryoshkalaw19.GrantDrops", spec := "grantDrops", unfollowed := true, recurses := true, apart := false }
def GrantDropsSaid : Prop := grantDropsRow.holds Try.pinned (OpenSpec.ofChange grantDropsSpec)

/-- ITS FALSE NEIGHBOUR: 'it returns false'. Refute it at one input. -/
def grantDropsWrong : ChangeSpec := { name := "grantDrops", fn := fun _ => fun
  | [d1, d2] => { results := [.lit (.bool false)], args := [d1, d2] }
  | _ => none }
def GrantDropsWrongFalsely : Prop := grantDropsRow.holds Try.pinned (OpenSpec.ofChange grantDropsWrong)

/- THE SECOND FORM. 'bulk': how many values and letters a reading holds, each counted each time it is reached (what is shared counts as often as it is met; a slice's spare places count too). A statement '..UptoSaid' is the law's where the arguments, and the package variables that the reading takes, are together of bulk at most 1048576: NARROWER than '..Said'. Prove '..Said' where nothing that the law and all that it calls make is longer than what came in: it says more and counts as full. Else prove '..UptoSaid'. A law counts once. -/
mutual
def uptoBulk {H : Type} : DataW H → Nat
  | .lit (.string bytes) => bytes.length + 1
  | .lit _ => 1
  | .nil => 1
  | .ptr d => uptoBulk d + 1
  | .slice elems spare => uptoBulkAll elems + uptoBulkAll spare + 1
  | .agg parts => uptoBulkAll parts + 1
  | .iface _ d => uptoBulk d + 1
  | .map entries => uptoBulkEntries entries + 1
  | .held _ => 1
def uptoBulkAll {H : Type} : List (DataW H) → Nat
  | [] => 0
  | d :: r => uptoBulk d + uptoBulkAll r
def uptoBulkEntries {H : Type} : List (Lit × DataW H) → Nat
  | [] => 0
  | x :: r => uptoBulkEntry x + uptoBulkEntries r
def uptoBulkEntry {H : Type} : Lit × DataW H → Nat
  | (.string bytes, d) => bytes.length + uptoBulk d + 1
  | (_, d) => uptoBulk d + 1
 end
def uptoSmall : (H : Type) → List (DataW H) → Bool := fun _ ds => decide (uptoBulkAll ds ≤ 1048576)
def OpenSpec.upto (s : _root_.Go.ChangeSpec) : _root_.Go.OpenSpec := { _root_.Go.OpenSpec.ofChange s with cond := some uptoSmall }

/-- 'matryoshkalaw19.GrantPlays', WHERE WHAT IT READS IS OF BULK AT MOST 1048576: true; the input reads as it did. -/
def grantPlaysUptoRow : OpenClaim := { program := "ytjeafkeofbmgcaa", sum := "5486307895c553f703a40f660404e833a862c5cfaae1533873848a4f40d6d0ee", func := "matryoshka/matryoshkalaw19.GrantPlays", spec := "grantPlays", unfollowed := true, recurses := true, apart := false, narrowed := true }
def GrantPlaysUptoSaid : Prop := grantPlaysUptoRow.holds Try.pinned (OpenSpec.upto grantPlaysSpec)

/-- 'matryoshkalaw19.GrantLinks', WHERE WHAT IT READS IS OF BULK AT MOST 1048576: true; the input reads as it did. -/
def grantLinksUptoRow : OpenClaim := { program := "ytjeafkeofbmgcaa", sum := "5486307895c553f703a40f660404e833a862c5cfaae1533873848a4f40d6d0ee", func := "matryoshka/matryoshkalaw19.GrantLinks", spec := "grantLinks", unfollowed := true, recurses := true, apart := false, narrowed := true }
def GrantLinksUptoSaid : Prop := grantLinksUptoRow.holds Try.pinned (OpenSpec.upto grantLinksSpec)

/-- 'matryoshkalaw19.GrantUses', WHERE WHAT IT READS IS OF BULK AT MOST 1048576: true; the input reads as it did. -/
def grantUsesUptoRow : OpenClaim := { program := "ytjeafkeofbmgcaa", sum := "5486307895c553f703a40f660404e833a862c5cfaae1533873848a4f40d6d0ee", func := "matryoshka/matryoshkalaw19.GrantUses", spec := "grantUses", unfollowed := true, recurses := true, apart := false, narrowed := true }
def GrantUsesUptoSaid : Prop := grantUsesUptoRow.holds Try.pinned (OpenSpec.upto grantUsesSpec)

/-- 'matryoshkalaw19.GrantNil', WHERE WHAT IT READS IS OF BULK AT MOST 1048576: true; the input reads as it did. -/
def grantNilUptoRow : OpenClaim := { program := "ytjeafkeofbmgcaa", sum := "5486307895c553f703a40f660404e833a862c5cfaae1533873848a4f40d6d0ee", func := "matryoshka/matryoshkalaw19.GrantNil", spec := "grantNil", unfollowed := true, recurses := true, apart := false, narrowed := true }
def GrantNilUptoSaid : Prop := grantNilUptoRow.holds Try.pinned (OpenSpec.upto grantNilSpec)

/-- 'matryoshkalaw19.GrantDrops', WHERE WHAT IT READS IS OF BULK AT MOST 1048576: true; the input reads as it did. -/
def grantDropsUptoRow : OpenClaim := { program := "ytjeafkeofbmgcaa", sum := "5486307895c553f703a40f660404e833a862c5cfaae1533873848a4f40d6d0ee", func := "matryoshka/matryoshkalaw19.GrantDrops", spec := "grantDrops", unfollowed := true, recurses := true, apart := false, narrowed := true }
def GrantDropsUptoSaid : Prop := grantDropsUptoRow.holds Try.pinned (OpenSpec.upto grantDropsSpec)

end Rows
end Go.Proofs.Ytjeafkeofbmgcaa
