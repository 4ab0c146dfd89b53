/-
  No cell of these rows narrows 'for every input' (looked for: loops, veiled, ifaces, maps, wideKeys, modest, calm, conditions, laid).
  DERIVED. THE GIVEN ROWS OF THIS SEAT. 6 by the template 'for every input the law returns true; each argument reads behind the call as it read before'; 0 by the template 'total and deterministic' (their statements: YtnhdohhhgfdhfaaTotals.lean).
  GIVEN WITH THE SEED: the statements are not yours to turn. If you find one false, say at which input.
  Laid BY PROGRAM, IN A SANDBOX (cutbox-rows.mjs): the forced cells as the released guide's own fill.sh prints them over the translation a48bbdd9e100946e… (all of the seat's roots in one cut). By AI agents, Wed Nov 11 2026. No macro, syntax, notation, axiom, sorry.
-/
import Derived.Test.YtnhdohhhgfdhfaaChecked
import GoSem.Claim
import GoSem.ClaimJoined
import GoSem.ClaimMapViews
import Derived.JoinedTies
import Derived.KernelRfl
namespace Go.Proofs.Ytnhdohhhgfdhfaa
/- THE CELL 'sum', in the pinned program and in every row, IS THE sha256 OF THE DUMP (.gsa) THAT YtnhdohhhgfdhfaaProg.lean LOADS. Nothing in Lean hashes anything: it is a label: what it is worth is what the hold of that sum in a sandbox is worth. -/
noncomputable def Try.pinned : Pinned := { name := "ytnhdohhhgfdhfaa", sum := "a48bbdd9e100946ef71ee391b31094478837d1aa3cb50f85e8dbec190bd2d8b6", checked := Try.checked }
namespace Rows
def none {H : Type} : Left H := { results := [], args := [] }

/-- 'matryoshkalaw21.SchedPlays': WHATEVER THE INPUT: true; the input reads as it did. -/
def schedPlaysSpec : ChangeSpec := { name := "schedPlays", fn := fun _ => fun
  | [d1, d2, d3] => { results := [.lit (.bool true)], args := [d1, d2, d3] }
  | _ => none }
def schedPlaysRow : OpenClaim := { program := "ytnhdohhhgfdhfaa", sum := "a48bbdd9e100946ef71ee391b31094478837d1aa3cb50f85e8dbec190bd2d8b6", func := "matryoshka/matryoshkalaw21.SchedPlays", spec := "schedPlays", unfollowed := true, recurses := true, apart := false }
def SchedPlaysSaid : Prop := schedPlaysRow.holds Try.pinned (OpenSpec.ofChange schedPlaysSpec)

/-- ITS FALSE NEIGHBOUR: 'it returns false'. Refute it at one input. -/
def schedPlaysWrong : ChangeSpec := { name := "schedPlays", fn := fun _ => fun
  | [d1, d2, d3] => { results := [.lit (.bool false)], args := [d1, d2, d3] }
  | _ => none }
def SchedPlaysWrongFalsely : Prop := schedPlaysRow.holds Try.pinned (OpenSpec.ofChange schedPlaysWrong)

/-- 'matryoshkalaw21.SchedOne': WHATEVER THE INPUT: true; the input reads as it did. -/
def schedOneSpec : ChangeSpec := { name := "schedOne", fn := fun _ => fun
  | [d1, d2] => { results := [.lit (.bool true)], args := [d1, d2] }
  | _ => none }
def schedOneRow : OpenClaim := { program := "ytnhdohhhgfdhfaa", sum := "a48bbdd9e100946ef71ee391b31094478837d1aa3cb50f85e8dbec190bd2d8b6", func := "matryoshka/matryoshkalaw21.SchedOne", spec := "schedOne", unfollowed := true, recurses := true, apart := false }
def SchedOneSaid : Prop := schedOneRow.holds Try.pinned (OpenSpec.ofChange schedOneSpec)

/-- ITS FALSE NEIGHBOUR: 'it returns false'. Refute it at one input. -/
def schedOneWrong : ChangeSpec := { name := "schedOne", fn := fun _ => fun
  | [d1, d2] => { results := [.lit (.bool false)], args := [d1, d2] }
  | _ => none }
def SchedOneWrongFalsely : Prop := schedOneRow.holds Try.pinned (OpenSpec.ofChange schedOneWrong)

/-- 'matryoshkalaw21.SchedServes': WHATEVER THE INPUT: true; the input reads as it did. -/
def schedServesSpec : ChangeSpec := { name := "schedServes", fn := fun _ => fun
  | [d1, d2] => { results := [.lit (.bool true)], args := [d1, d2] }
  | _ => none }
def schedServesRow : OpenClaim := { program := "ytnhdohhhgfdhfaa", sum := "a48bbdd9e100946ef71ee391b31094478837d1aa3cb50f85e8dbec190bd2d8b6", func := "matryoshka/matryoshkalaw21.SchedServes", spec := "schedServes", unfollowed := true, recurses := true, apart := false }
def SchedServesSaid : Prop := schedServesRow.holds Try.pinned (OpenSpec.ofChange schedServesSpec)

/-- ITS FALSE NEIGHBOUR: 'it returns false'. Refute it at one input. -/
def schedServesWrong : ChangeSpec := { name := "schedServes", fn := fun _ => fun
  | [d1, d2] => { results := [.lit (.bool false)], args := [d1, d2] }
  | _ => none }
def SchedServesWrongFalsely : Prop := schedServesRow.holds Try.pinned (OpenSpec.ofChange schedServesWrong)

/-- 'matryoshkalaw21.SchedCredit': WHATEVER THE INPUT: true; the input reads as it did. -/
def schedCreditSpec : ChangeSpec := { name := "schedCredit", fn := fun _ => fun
  | [d1, d2] => { results := [.lit (.bool true)], args := [d1, d2] }
  | _ => none }
def schedCreditRow : OpenClaim := { program := "ytnhdohhhgfdhfaa", sum := "a48bbdd9e100946ef71ee391b31094478837d1aa3cb50f85e8dbec190bd2d8b6", func := "matryoshka/matryoshkalaw21.SchedCredit", spec := "schedCredit", unfollowed := true, recurses := true, apart := false }
def SchedCreditSaid : Prop := schedCreditRow.holds Try.pinned (OpenSpec.ofChange schedCreditSpec)

/-- ITS FALSE NEIGHBOUR: 'it returns false'. Refute it at one input. -/
def schedCreditWrong : ChangeSpec := { name := "schedCredit", fn := fun _ => fun
  | [d1, d2] => { results := [.lit (.bool false)], args := [d1, d2] }
  | _ => none }
def SchedCreditWrongFalsely : Prop := schedCreditRow.holds Try.pinned (OpenSpec.ofChange schedCreditWrong)

/-- 'matryoshkalaw21.SchedNil': WHATEVER THE INPUT: true; the input reads as it did. -/
def schedNilSpec : ChangeSpec := { name := "schedNil", fn := fun _ => fun
  | [d] => { results := [.lit (.bool true)], args := [d] }
  | _ => none }
def schedNilRow : OpenClaim := { program := "ytnhdohhhgfdhfaa", sum := "a48bbdd9e100946ef71ee391b31094478837d1aa3cb50f85e8dbec190bd2d8b6", func := "matryoshka/matryoshkalaw21.SchedNil", spec := "schedNil", unfollowed := true, recurses := true, apart := false }
def SchedNilSaid : Prop := schedNilRow.holds Try.pinned (OpenSpec.ofChange schedNilSpec)

/-- ITS FALSE NEIGHBOUR: 'it returns false'. Refute it at one input. -/
def schedNilWrong : ChangeSpec := { name := "schedNil", fn := fun _ => fun
  | [d] => { results := [.lit (.bool false)], args := [d] }
  | _ => none }
def SchedNilWrongFalsely : Prop := schedNilRow.holds Try.pinned (OpenSpec.ofChange schedNilWrong)

/-- 'matryoshkalaw21.SchedWakes': WHATEVER THE INPUT: true; the input reads as it did. -/
def schedWakesSpec : ChangeSpec := { name := "schedWakes", fn := fun _ => fun
  | [d1, d2, d3] => { results := [.lit (.bool true)], args := [d1, d2, d3] }
  | _ => none }
def schedWakesRow : OpenClaim := { program := "ytnhdohhhgfdhfaa", sum := "a48bbdd9e100946ef71ee391b31094478837d1aa3cb50f85e8dbec190bd2d8b6", func := "matryoshka/matryoshkalaw21.SchedWakes", spec := "schedWakes", unfollowed := true, recurses := true, apart := false }
def SchedWakesSaid : Prop := schedWakesRow.holds Try.pinned (OpenSpec.ofChange schedWakesSpec)

/-- ITS FALSE NEIGHBOUR: 'it returns false'. Refute it at one input. -/
def schedWakesWrong : ChangeSpec := { name := "schedWakes", fn := fun _ => fun
  | [d1, d2, d3] => { results := [.lit (.bool false)], args := [d1, d2, d3] }
  | _ => none }
def SchedWakesWrongFalsely : Prop := schedWakesRow.holds Try.pinned (OpenSpec.ofChange schedWakesWrong)

/- THE SECOND FORM. 'bulk': how many values and letters a reading holds, each counted each time it is reached (what is shared counts as often as it is met; a slice's spare places count too). A statement '..UptoSaid' is the law's where the arguments, and the package variables that the reading takes, are together of bulk at most 1048576: NARROWER than '..Said'. Prove '..Said' where nothing that the law and all that it calls make is longer than what came in: it says more and counts as full. Else prove '..UptoSaid'. A law counts once. -/
mutual
def uptoBulk {H : Type} : DataW H → Nat
  | .lit (.string bytes) => bytes.length + 1
  | .lit _ => 1
  | .nil => 1
  | .ptr d => uptoBulk d + 1
  | .slice elems spare => uptoBulkAll elems + uptoBulkAll spare + 1
  | .agg parts => uptoBulkAll parts + 1
  | .iface _ d => uptoBulk d + 1
  | .map entries => uptoBulkEntries entries + 1
  | .held _ => 1
def uptoBulkAll {H : Type} : List (DataW H) → Nat
  | [] => 0
  | d :: r => uptoBulk d + uptoBulkAll r
def uptoBulkEntries {H : Type} : List (Lit × DataW H) → Nat
  | [] => 0
  | x :: r => uptoBulkEntry x + uptoBulkEntries r
def uptoBulkEntry {H : Type} : Lit × DataW H → Nat
  | (.string bytes, d) => bytes.length + uptoBulk d + 1
  | (_, d) => uptoBulk d + 1
 end
def uptoSmall : (H : Type) → List (DataW H) → Bool := fun _ ds => decide (uptoBulkAll ds ≤ 1048576)
def OpenSpec.upto (s : _root_.Go.ChangeSpec) : _root_.Go.OpenSpec := { _root_.Go.OpenSpec.ofChange s with cond := some uptoSmall }

/-- 'matryoshkalaw21.SchedPlays', WHERE WHAT IT READS IS OF BULK AT MOST 1048576: true; the input reads as it did. -/
def schedPlaysUptoRow : OpenClaim := { program := "ytnhdohhhgfdhfaa", sum := "a48bbdd9e100946ef71ee391b31094478837d1aa3cb50f85e8dbec190bd2d8b6", func := "matryoshka/matryoshkalaw21.SchedPlays", spec := "schedPlays", unfollowed := true, recurses := true, apart := false, narrowed := true }
def SchedPlaysUptoSaid : Prop := schedPlaysUptoRow.holds Try.pinned (OpenSpec.upto schedPlaysSpec)

/-- 'matryoshkalaw21.SchedOne', WHERE WHAT IT READS IS OF BULK AT MOST 1048576: true; the input reads as it did. -/
def schedOneUptoRow : OpenClaim := { program := "ytnhdohhhgfdhfaa", sum := "a48bbdd9e100946ef71ee391b31094478837d1aa3cb50f85e8dbec190bd2d8b6", func := "matryoshka/matryoshkalaw21.SchedOne", spec := "schedOne", unfollowed := true, recurses := true, apart := false, narrowed := true }
def SchedOneUptoSaid : Prop := schedOneUptoRow.holds Try.pinned (OpenSpec.upto schedOneSpec)

/-- 'matryoshkalaw21.SchedServes', WHERE WHAT IT READS IS OF BULK AT MOST 1048576: true; the input reads as it did. -/
def schedServesUptoRow : OpenClaim := { program := "ytnhdohhhgfdhfaa", sum := "a48bbdd9e100946ef71ee391b31094478837d1aa3cb50f85e8dbec190bd2d8b6", func := "matryoshka/matryoshkalaw21.SchedServes", spec := "schedServes", unfollowed := true, recurses := true, apart := false, narrowed := true }
def SchedServesUptoSaid : Prop := schedServesUptoRow.holds Try.pinned (OpenSpec.upto schedServesSpec)

/-- 'matryoshkalaw21.SchedCredit', WHERE WHAT IT READS IS OF BULK AT MOST 1048576: true; the input reads as it did. -/
def schedCreditUptoRow : OpenClaim := { program := "ytnhdohhhgfdhfaa", sum := "a48bbdd9e100946ef71ee391b31094478837d1aa3cb50f85e8dbec190bd2d8b6", func := "matryoshka/matryoshkalaw21.SchedCredit", spec := "schedCredit", unfollowed := true, recurses := true, apart := false, narrowed := true }
def SchedCreditUptoSaid : Prop := schedCreditUptoRow.holds Try.pinned (OpenSpec.upto schedCreditSpec)

/-- 'matryoshkalaw21.SchedNil', WHERE WHAT IT READS IS OF BULK AT MOST 1048576: true; the input reads as it did. -/
def schedNilUptoRow : OpenClaim := { program := "ytnhdohhhgfdhfaa", sum := "a48bbdd9e100946ef71ee391b31094478837d1aa3cb50f85e8dbec190bd2d8b6", func := "matryoshka/matryoshkalaw21.SchedNil", spec := "schedNil", unfollowed := true, recurses := true, apart := false, narrowed := true }
def SchedNilUptoSaid : Prop := schedNilUptoRow.holds Try.pinned (OpenSpec.upto schedNilSpec)

/-- 'matryoshkalaw21.SchedWakes', WHERE WHAT IT READS IS OF BULK AT MOST 1048576: true; the input reads as it did. -/
def schedWakesUptoRow : OpenClaim := { program := "ytnhdohhhgfdhfaa", sum := "a48bbdd9e100946ef71ee391b31094478837d1aa3cb50f85e8dbec190bd2d8b6", func := "matryoshka/matryoshkalaw21.SchedWakes", spec := "schedWakes", unfollowed := true, recurses := true, apart := false, narrowed := true }
def SchedWakesUptoSaid : Prop := schedWakesUptoRow.holds Try.pinned (OpenSpec.upto schedWakesSpec)

end Rows
end Go.Proofs.Ytnhdohhhgfdhfaa
