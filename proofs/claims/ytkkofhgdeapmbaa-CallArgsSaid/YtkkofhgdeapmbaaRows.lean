/-
  No cell of these rows narrows 'for every input' (looked for: loops, veiled, ifaces, maps, wideKeys, modest, calm, conditions, laid).
  DERIVED. THE GIVEN ROWS OF THIS SEAT. 5 by the template 'for every input the law returns true; each argument reads behind the call as it read before'; 0 by the template 'total and deterministic' (their statements: YtkkofhgdeapmbaaTotals.lean).
  GIVEN WITH THE SEED: the statements are not yours to turn. If you find one false, say at which input.
  Laid BY PROGRAM, IN A SANDBOX (cutbox-rows.mjs): the forced cells as the released guide's own fill.sh prints them over the translation 4cbb5abaf8fa0663… (all of the seat's roots in one cut). By AI agents, Wed Nov 11 2026. No macro, syntax, notation, axiom, sorry.
-/
import Derived.Test.YtkkofhgdeapmbaaChecked
import GoSem.Claim
import GoSem.ClaimJoined
import GoSem.ClaimMapViews
import Derived.JoinedTies
import Derived.KernelRfl
namespace Go.Proofs.Ytkkofhgdeapmbaa
/- THE CELL 'sum', in the pinned program and in every row, IS THE sha256 OF THE DUMP (.gsa) THAT YtkkofhgdeapmbaaProg.lean LOADS. Nothing in Lean hashes anything: it is a label: what it is worth is what the hold of that sum in a sandbox is worth. -/
noncomputable def Try.pinned : Pinned := { name := "ytkkofhgdeapmbaa", sum := "4cbb5abaf8fa0663fa5be3918c89dae55d103aa1d9438b2fae27abc1c9f6d8bc", checked := Try.checked }
namespace Rows
def none {H : Type} : Left H := { results := [], args := [] }

/-- 'matryoshkalaw22.CallTells': WHATEVER THE INPUT: true; the input reads as it did. -/
def callTellsSpec : ChangeSpec := { name := "callTells", fn := fun _ => fun
  | [d] => { results := [.lit (.bool true)], args := [d] }
  | _ => none }
def callTellsRow : OpenClaim := { program := "ytkkofhgdeapmbaa", sum := "4cbb5abaf8fa0663fa5be3918c89dae55d103aa1d9438b2fae27abc1c9f6d8bc", func := "matryoshka/matryoshkalaw22.CallTells", spec := "callTells", recurses := true, apart := false }
def CallTellsSaid : Prop := callTellsRow.holds Try.pinned (OpenSpec.ofChange callTellsSpec)

/-- ITS FALSE NEIGHBOUR: 'it returns false'. Refute it at one input. -/
def callTellsWrong : ChangeSpec := { name := "callTells", fn := fun _ => fun
  | [d] => { results := [.lit (.bool false)], args := [d] }
  | _ => none }
def CallTellsWrongFalsely : Prop := callTellsRow.holds Try.pinned (OpenSpec.ofChange callTellsWrong)

/-- 'matryoshkalaw22.CallReads': WHATEVER THE INPUT: true; the input reads as it did. -/
def callReadsSpec : ChangeSpec := { name := "callReads", fn := fun _ => fun
  | [d1, d2] => { results := [.lit (.bool true)], args := [d1, d2] }
  | _ => none }
def callReadsRow : OpenClaim := { program := "ytkkofhgdeapmbaa", sum := "4cbb5abaf8fa0663fa5be3918c89dae55d103aa1d9438b2fae27abc1c9f6d8bc", func := "matryoshka/matryoshkalaw22.CallReads", spec := "callReads", recurses := true, apart := false }
def CallReadsSaid : Prop := callReadsRow.holds Try.pinned (OpenSpec.ofChange callReadsSpec)

/-- ITS FALSE NEIGHBOUR: 'it returns false'. Refute it at one input. -/
def callReadsWrong : ChangeSpec := { name := "callReads", fn := fun _ => fun
  | [d1, d2] => { results := [.lit (.bool false)], args := [d1, d2] }
  | _ => none }
def CallReadsWrongFalsely : Prop := callReadsRow.holds Try.pinned (OpenSpec.ofChange callReadsWrong)

/-- 'matryoshkalaw22.CallBack': WHATEVER THE INPUT: true; the input reads as it did. -/
def callBackSpec : ChangeSpec := { name := "callBack", fn := fun _ => fun
  | [d1, d2, d3] => { results := [.lit (.bool true)], args := [d1, d2, d3] }
  | _ => none }
def callBackRow : OpenClaim := { program := "ytkkofhgdeapmbaa", sum := "4cbb5abaf8fa0663fa5be3918c89dae55d103aa1d9438b2fae27abc1c9f6d8bc", func := "matryoshka/matryoshkalaw22.CallBack", spec := "callBack", recurses := true, apart := false }
def CallBackSaid : Prop := callBackRow.holds Try.pinned (OpenSpec.ofChange callBackSpec)

/-- ITS FALSE NEIGHBOUR: 'it returns false'. Refute it at one input. -/
def callBackWrong : ChangeSpec := { name := "callBack", fn := fun _ => fun
  | [d1, d2, d3] => { results := [.lit (.bool false)], args := [d1, d2, d3] }
  | _ => none }
def CallBackWrongFalsely : Prop := callBackRow.holds Try.pinned (OpenSpec.ofChange callBackWrong)

/-- 'matryoshkalaw22.CallArgs': WHATEVER THE INPUT: true; the input reads as it did. -/
def callArgsSpec : ChangeSpec := { name := "callArgs", fn := fun _ => fun
  | [d1, d2] => { results := [.lit (.bool true)], args := [d1, d2] }
  | _ => none }
def callArgsRow : OpenClaim := { program := "ytkkofhgdeapmbaa", sum := "4cbb5abaf8fa0663fa5be3918c89dae55d103aa1d9438b2fae27abc1c9f6d8bc", func := "matryoshka/matryoshkalaw22.CallArgs", spec := "callArgs", recurses := true, apart := false }
def CallArgsSaid : Prop := callArgsRow.holds Try.pinned (OpenSpec.ofChange callArgsSpec)

/-- ITS FALSE NEIGHBOUR: 'it returns false'. Refute it at one input. -/
def callArgsWrong : ChangeSpec := { name := "callArgs", fn := fun _ => fun
  | [d1, d2] => { results := [.lit (.bool false)], args := [d1, d2] }
  | _ => none }
def CallArgsWrongFalsely : Prop := callArgsRow.holds Try.pinned (OpenSpec.ofChange callArgsWrong)

/-- 'matryoshkalaw22.CallApart': WHATEVER THE INPUT: true; the input reads as it did. -/
def callApartSpec : ChangeSpec := { name := "callApart", fn := fun _ => fun
  | [d1, d2] => { results := [.lit (.bool true)], args := [d1, d2] }
  | _ => none }
def callApartRow : OpenClaim := { program := "ytkkofhgdeapmbaa", sum := "4cbb5abaf8fa0663fa5be3918c89dae55d103aa1d9438b2fae27abc1c9f6d8bc", func := "matryoshka/matryoshkalaw22.CallApart", spec := "callApart", recurses := true, apart := false }
def CallApartSaid : Prop := callApartRow.holds Try.pinned (OpenSpec.ofChange callApartSpec)

/-- ITS FALSE NEIGHBOUR: 'it returns false'. Refute it at one input. -/
def callApartWrong : ChangeSpec := { name := "callApart", fn := fun _ => fun
  | [d1, d2] => { results := [.lit (.bool false)], args := [d1, d2] }
  | _ => none }
def CallApartWrongFalsely : Prop := callApartRow.holds Try.pinned (OpenSpec.ofChange callApartWrong)

/- THE SECOND FORM. 'bulk': how many values and letters a reading holds, each counted each time it is reached (what is shared counts as often as it is met; a slice's spare places count too). A statement '..UptoSaid' is the law's where the arguments, and the package variables that the reading takes, are together of bulk at most 1048576: NARROWER than '..Said'. Prove '..Said' where nothing that the law and all that it calls make is longer than what came in: it says more and counts as full. Else prove '..UptoSaid'. A law counts once. -/
mutual
def uptoBulk {H : Type} : DataW H → Nat
  | .lit (.string bytes) => bytes.length + 1
  | .lit _ => 1
  | .nil => 1
  | .ptr d => uptoBulk d + 1
  | .slice elems spare => uptoBulkAll elems + uptoBulkAll spare + 1
  | .agg parts => uptoBulkAll parts + 1
  | .iface _ d => uptoBulk d + 1
  | .map entries => uptoBulkEntries entries + 1
  | .held _ => 1
def uptoBulkAll {H : Type} : List (DataW H) → Nat
  | [] => 0
  | d :: r => uptoBulk d + uptoBulkAll r
def uptoBulkEntries {H : Type} : List (Lit × DataW H) → Nat
  | [] => 0
  | x :: r => uptoBulkEntry x + uptoBulkEntries r
def uptoBulkEntry {H : Type} : Lit × DataW H → Nat
  | (.string bytes, d) => bytes.length + uptoBulk d + 1
  | (_, d) => uptoBulk d + 1
 end
def uptoSmall : (H : Type) → List (DataW H) → Bool := fun _ ds => decide (uptoBulkAll ds ≤ 1048576)
def OpenSpec.upto (s : _root_.Go.ChangeSpec) : _root_.Go.OpenSpec := { _root_.Go.OpenSpec.ofChange s with cond := some uptoSmall }

/-- 'matryoshkalaw22.CallTells', WHERE WHAT IT READS IS OF BULK AT MOST 1048576: true; the input reads as it did. -/
def callTellsUptoRow : OpenClaim := { program := "ytkkofhgdeapmbaa", sum := "4cbb5abaf8fa0663fa5be3918c89dae55d103aa1d9438b2fae27abc1c9f6d8bc", func := "matryoshka/matryoshkalaw22.CallTells", spec := "callTells", recurses := true, apart := false, narrowed := true }
def CallTellsUptoSaid : Prop := callTellsUptoRow.holds Try.pinned (OpenSpec.upto callTellsSpec)

/-- 'matryoshkalaw22.CallReads', WHERE WHAT IT READS IS OF BULK AT MOST 1048576: true; the input reads as it did. -/
def callReadsUptoRow : OpenClaim := { program := "ytkkofhgdeapmbaa", sum := "4cbb5abaf8fa0663fa5be3918c89dae55d103aa1d9438b2fae27abc1c9f6d8bc", func := "matryoshka/matryoshkalaw22.CallReads", spec := "callReads", recurses := true, apart := false, narrowed := true }
def CallReadsUptoSaid : Prop := callReadsUptoRow.holds Try.pinned (OpenSpec.upto callReadsSpec)

/-- 'matryoshkalaw22.CallBack', WHERE WHAT IT READS IS OF BULK AT MOST 1048576: true; the input reads as it did. -/
def callBackUptoRow : OpenClaim := { program := "ytkkofhgdeapmbaa", sum := "4cbb5abaf8fa0663fa5be3918c89dae55d103aa1d9438b2fae27abc1c9f6d8bc", func := "matryoshka/matryoshkalaw22.CallBack", spec := "callBack", recurses := true, apart := false, narrowed := true }
def CallBackUptoSaid : Prop := callBackUptoRow.holds Try.pinned (OpenSpec.upto callBackSpec)

/-- 'matryoshkalaw22.CallArgs', WHERE WHAT IT READS IS OF BULK AT MOST 1048576: true; the input reads as it did. -/
def callArgsUptoRow : OpenClaim := { program := "ytkkofhgdeapmbaa", sum := "4cbb5abaf8fa0663fa5be3918c89dae55d103aa1d9438b2fae27abc1c9f6d8bc", func := "matryoshka/matryoshkalaw22.CallArgs", spec := "callArgs", recurses := true, apart := false, narrowed := true }
def CallArgsUptoSaid : Prop := callArgsUptoRow.holds Try.pinned (OpenSpec.upto callArgsSpec)

/-- 'matryoshkalaw22.CallApart', WHERE WHAT IT READS IS OF BULK AT MOST 1048576: true; the input reads as it did. -/
def callApartUptoRow : OpenClaim := { program := "ytkkofhgdeapmbaa", sum := "4cbb5abaf8fa0663fa5be3918c89dae55d103aa1d9438b2fae27abc1c9f6d8bc", func := "matryoshka/matryoshkalaw22.CallApart", spec := "callApart", recurses := true, apart := false, narrowed := true }
def CallApartUptoSaid : Prop := callApartUptoRow.holds Try.pinned (OpenSpec.upto callApartSpec)

end Rows
end Go.Proofs.Ytkkofhgdeapmbaa
