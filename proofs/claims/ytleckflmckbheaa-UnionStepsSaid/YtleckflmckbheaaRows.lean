/-
  No cell of these rows narrows 'for every input' (looked for: loops, veiled, ifaces, maps, wideKeys, modest, calm, conditions, laid).
  DERIVED. THE GIVEN ROWS OF THIS SEAT. 5 by the template 'for every input the law returns true; each argument reads behind the call as it read before'; 0 by the template 'total and deterministic' (their statements: YtleckflmckbheaaTotals.lean).
  GIVEN WITH THE SEED: the statements are not yours to turn. If you find one false, say at which input.
  Laid BY PROGRAM, IN A SANDBOX (cutbox-rows.mjs): the forced cells as the released guide's own fill.sh prints them over the translation f2a455e14ca581f6… (all of the seat's roots in one cut). By AI agents, Wed Nov 11 2026. No macro, syntax, notation, axiom, sorry.
-/
import Derived.Test.YtleckflmckbheaaChecked
import GoSem.Claim
import GoSem.ClaimJoined
import GoSem.ClaimMapViews
import Derived.JoinedTies
import Derived.KernelRfl
namespace Go.Proofs.Ytleckflmckbheaa
/- THE CELL 'sum', in the pinned program and in every row, IS THE sha256 OF THE DUMP (.gsa) THAT YtleckflmckbheaaProg.lean LOADS. Nothing in Lean hashes anything: it is a label: what it is worth is what the hold of that sum in a sandbox is worth. -/
noncomputable def Try.pinned : Pinned := { name := "ytleckflmckbheaa", sum := "f2a455e14ca581f6af9acd7bef44e43630ecfe3a917302bea5d6627f8352f0a4", checked := Try.checked }
namespace Rows
def none {H : Type} : Left H := { results := [], args := [] }

/-- 'routescopelaw30.UnionForest': WHATEVER THE INPUT: true; the input reads as it did. -/
def unionForestSpec : ChangeSpec := { name := "unionForest", fn := fun _ => fun
  | [d] => { results := [.lit (.bool true)], args := [d] }
  | _ => none }
def unionForestRow : OpenClaim := { program := "ytleckflmckbheaa", sum := "f2a455e14ca581f6af9acd7bef44e43630ecfe3a917302bea5d6627f8352f0a4", func := "routescope/routescopelaw30.UnionForest", spec := "unionForest", unfollowed := true, recurses := true, apart := false }
def UnionForestSaid : Prop := unionForestRow.holds Try.pinned (OpenSpec.ofChange unionForestSpec)

/-- ITS FALSE NEIGHBOUR: 'it returns false'. Refute it at one input. -/
def unionForestWrong : ChangeSpec := { name := "unionForest", fn := fun _ => fun
  | [d] => { results := [.lit (.bool false)], args := [d] }
  | _ => none }
def UnionForestWrongFalsely : Prop := unionForestRow.holds Try.pinned (OpenSpec.ofChange unionForestWrong)

/-- 'routescopelaw30.UnionExplains': WHATEVER THE INPUT: true; the input reads as it did. -/
def unionExplainsSpec : ChangeSpec := { name := "unionExplains", fn := fun _ => fun
  | [d1, d2, d3] => { results := [.lit (.bool true)], args := [d1, d2, d3] }
  | _ => none }
def unionExplainsRow : OpenClaim := { program := "ytleckflmckbheaa", sum := "f2a455e14ca581f6af9acd7bef44e43630ecfe3a917302bea5d6627f8352f0a4", func := "routescope/routescopelaw30.UnionExplains", spec := "unionExplains", unfollowed := true, recurses := true, apart := false }
def UnionExplainsSaid : Prop := unionExplainsRow.holds Try.pinned (OpenSpec.ofChange unionExplainsSpec)

/-- ITS FALSE NEIGHBOUR: 'it returns false'. Refute it at one input. -/
def unionExplainsWrong : ChangeSpec := { name := "unionExplains", fn := fun _ => fun
  | [d1, d2, d3] => { results := [.lit (.bool false)], args := [d1, d2, d3] }
  | _ => none }
def UnionExplainsWrongFalsely : Prop := unionExplainsRow.holds Try.pinned (OpenSpec.ofChange unionExplainsWrong)

/-- 'routescopelaw30.UnionBridges': WHATEVER THE INPUT: true; the input reads as it did. -/
def unionBridgesSpec : ChangeSpec := { name := "unionBridges", fn := fun _ => fun
  | [d] => { results := [.lit (.bool true)], args := [d] }
  | _ => none }
def unionBridgesRow : OpenClaim := { program := "ytleckflmckbheaa", sum := "f2a455e14ca581f6af9acd7bef44e43630ecfe3a917302bea5d6627f8352f0a4", func := "routescope/routescopelaw30.UnionBridges", spec := "unionBridges", unfollowed := true, recurses := true, apart := false }
def UnionBridgesSaid : Prop := unionBridgesRow.holds Try.pinned (OpenSpec.ofChange unionBridgesSpec)

/-- ITS FALSE NEIGHBOUR: 'it returns false'. Refute it at one input. -/
def unionBridgesWrong : ChangeSpec := { name := "unionBridges", fn := fun _ => fun
  | [d] => { results := [.lit (.bool false)], args := [d] }
  | _ => none }
def UnionBridgesWrongFalsely : Prop := unionBridgesRow.holds Try.pinned (OpenSpec.ofChange unionBridgesWrong)

/-- 'routescopelaw30.UnionSteps': WHATEVER THE INPUT: true; the input reads as it did. -/
def unionStepsSpec : ChangeSpec := { name := "unionSteps", fn := fun _ => fun
  | [d1, d2, d3, d4, d5, d6] => { results := [.lit (.bool true)], args := [d1, d2, d3, d4, d5, d6] }
  | _ => none }
def unionStepsRow : OpenClaim := { program := "ytleckflmckbheaa", sum := "f2a455e14ca581f6af9acd7bef44e43630ecfe3a917302bea5d6627f8352f0a4", func := "routescope/routescopelaw30.UnionSteps", spec := "unionSteps", inPlace := ["slices.overlaps[routescope/api.Fact]"], unfollowed := true, recurses := true, apart := false }
def UnionStepsSaid : Prop := unionStepsRow.holds Try.pinned (OpenSpec.ofChange unionStepsSpec)

/-- ITS FALSE NEIGHBOUR: 'it returns false'. Refute it at one input. -/
def unionStepsWrong : ChangeSpec := { name := "unionSteps", fn := fun _ => fun
  | [d1, d2, d3, d4, d5, d6] => { results := [.lit (.bool false)], args := [d1, d2, d3, d4, d5, d6] }
  | _ => none }
def UnionStepsWrongFalsely : Prop := unionStepsRow.holds Try.pinned (OpenSpec.ofChange unionStepsWrong)

/-- 'routescopelaw30.UnionBack': WHATEVER THE INPUT: true; the input reads as it did. -/
def unionBackSpec : ChangeSpec := { name := "unionBack", fn := fun _ => fun
  | [d] => { results := [.lit (.bool true)], args := [d] }
  | _ => none }
def unionBackRow : OpenClaim := { program := "ytleckflmckbheaa", sum := "f2a455e14ca581f6af9acd7bef44e43630ecfe3a917302bea5d6627f8352f0a4", func := "routescope/routescopelaw30.UnionBack", spec := "unionBack", inPlace := ["slices.overlaps[routescope/api.Fact]"], unfollowed := true, recurses := true, apart := false }
def UnionBackSaid : Prop := unionBackRow.holds Try.pinned (OpenSpec.ofChange unionBackSpec)

/-- ITS FALSE NEIGHBOUR: 'it returns false'. Refute it at one input. -/
def unionBackWrong : ChangeSpec := { name := "unionBack", fn := fun _ => fun
  | [d] => { results := [.lit (.bool false)], args := [d] }
  | _ => none }
def UnionBackWrongFalsely : Prop := unionBackRow.holds Try.pinned (OpenSpec.ofChange unionBackWrong)

/- THE SECOND FORM. 'bulk': how many values and letters a reading holds, each counted each time it is reached (what is shared counts as often as it is met; a slice's spare places count too). A statement '..UptoSaid' is the law's where the arguments, and the package variables that the reading takes, are together of bulk at most 1048576: NARROWER than '..Said'. Prove '..Said' where nothing that the law and all that it calls make is longer than what came in: it says more and counts as full. Else prove '..UptoSaid'. A law counts once. -/
mutual
def uptoBulk {H : Type} : DataW H → Nat
  | .lit (.string bytes) => bytes.length + 1
  | .lit _ => 1
  | .nil => 1
  | .ptr d => uptoBulk d + 1
  | .slice elems spare => uptoBulkAll elems + uptoBulkAll spare + 1
  | .agg parts => uptoBulkAll parts + 1
  | .iface _ d => uptoBulk d + 1
  | .map entries => uptoBulkEntries entries + 1
  | .held _ => 1
def uptoBulkAll {H : Type} : List (DataW H) → Nat
  | [] => 0
  | d :: r => uptoBulk d + uptoBulkAll r
def uptoBulkEntries {H : Type} : List (Lit × DataW H) → Nat
  | [] => 0
  | x :: r => uptoBulkEntry x + uptoBulkEntries r
def uptoBulkEntry {H : Type} : Lit × DataW H → Nat
  | (.string bytes, d) => bytes.length + uptoBulk d + 1
  | (_, d) => uptoBulk d + 1
 end
def uptoSmall : (H : Type) → List (DataW H) → Bool := fun _ ds => decide (uptoBulkAll ds ≤ 1048576)
def OpenSpec.upto (s : _root_.Go.ChangeSpec) : _root_.Go.OpenSpec := { _root_.Go.OpenSpec.ofChange s with cond := some uptoSmall }

/-- 'routescopelaw30.UnionForest', WHERE WHAT IT READS IS OF BULK AT MOST 1048576: true; the input reads as it did. -/
def unionForestUptoRow : OpenClaim := { program := "ytleckflmckbheaa", sum := "f2a455e14ca581f6af9acd7bef44e43630ecfe3a917302bea5d6627f8352f0a4", func := "routescope/routescopelaw30.UnionForest", spec := "unionForest", unfollowed := true, recurses := true, apart := false, narrowed := true }
def UnionForestUptoSaid : Prop := unionForestUptoRow.holds Try.pinned (OpenSpec.upto unionForestSpec)

/-- 'routescopelaw30.UnionExplains', WHERE WHAT IT READS IS OF BULK AT MOST 1048576: true; the input reads as it did. -/
def unionExplainsUptoRow : OpenClaim := { program := "ytleckflmckbheaa", sum := "f2a455e14ca581f6af9acd7bef44e43630ecfe3a917302bea5d6627f8352f0a4", func := "routescope/routescopelaw30.UnionExplains", spec := "unionExplains", unfollowed := true, recurses := true, apart := false, narrowed := true }
def UnionExplainsUptoSaid : Prop := unionExplainsUptoRow.holds Try.pinned (OpenSpec.upto unionExplainsSpec)

/-- 'routescopelaw30.UnionBridges', WHERE WHAT IT READS IS OF BULK AT MOST 1048576: true; the input reads as it did. -/
def unionBridgesUptoRow : OpenClaim := { program := "ytleckflmckbheaa", sum := "f2a455e14ca581f6af9acd7bef44e43630ecfe3a917302bea5d6627f8352f0a4", func := "routescope/routescopelaw30.UnionBridges", spec := "unionBridges", unfollowed := true, recurses := true, apart := false, narrowed := true }
def UnionBridgesUptoSaid : Prop := unionBridgesUptoRow.holds Try.pinned (OpenSpec.upto unionBridgesSpec)

/-- 'routescopelaw30.UnionSteps', WHERE WHAT IT READS IS OF BULK AT MOST 1048576: true; the input reads as it did. -/
def unionStepsUptoRow : OpenClaim := { program := "ytleckflmckbheaa", sum := "f2a455e14ca581f6af9acd7bef44e43630ecfe3a917302bea5d6627f8352f0a4", func := "routescope/routescopelaw30.UnionSteps", spec := "unionSteps", inPlace := ["slices.overlaps[routescope/api.Fact]"], unfollowed := true, recurses := true, apart := false, narrowed := true }
def UnionStepsUptoSaid : Prop := unionStepsUptoRow.holds Try.pinned (OpenSpec.upto unionStepsSpec)

/-- 'routescopelaw30.UnionBack', WHERE WHAT IT READS IS OF BULK AT MOST 1048576: true; the input reads as it did. -/
def unionBackUptoRow : OpenClaim := { program := "ytleckflmckbheaa", sum := "f2a455e14ca581f6af9acd7bef44e43630ecfe3a917302bea5d6627f8352f0a4", func := "routescope/routescopelaw30.UnionBack", spec := "unionBack", inPlace := ["slices.overlaps[routescope/api.Fact]"], unfollowed := true, recurses := true, apart := false, narrowed := true }
def UnionBackUptoSaid : Prop := unionBackUptoRow.holds Try.pinned (OpenSpec.upto unionBackSpec)

end Rows
end Go.Proofs.Ytleckflmckbheaa
