/-
  No cell of these rows narrows 'for every input' (looked for: loops, veiled, ifaces, maps, wideKeys, modest, calm, conditions, laid).
  DERIVED. THE GIVEN ROWS OF THIS SEAT. 7 by the template 'for every input the law returns true; each argument reads behind the call as it read before'; 0 by the template 'total and deterministic' (their statements: YtpnilgkmpfkekaaGreatTotals.lean).
  GIVEN WITH THE SEED: the statements are not yours to turn. If you find one false, say at which input.
  Laid BY PROGRAM, IN A SANDBOX (cutbox-rows.mjs): the forced cells as the released guide's own fill.sh prints them over the translation 282e24f3f3105936… (all of the seat's roots in one cut). By AI agents, Wed Nov 11 2026. No macro, syntax, notation, axiom, sorry.
-/
import Derived.Test.YtpnilgkmpfkekaaGreatChecked
import GoSem.Claim
import GoSem.ClaimJoined
import GoSem.ClaimMapViews
import Derived.JoinedTies
import Derived.KernelRfl
namespace Go.Proofs.YtpnilgkmpfkekaaGreat
/- THE CELL 'sum', in the pinned program and in every row, IS THE sha256 OF THE DUMP (.gsa) THAT YtpnilgkmpfkekaaGreatProg.lean LOADS. Nothing in Lean hashes anything: it is a label: what it is worth is what the hold of that sum in a sandbox is worth. -/
noncomputable def Tryz.pinned : Pinned := { name := "ytpnilgkmpfkekaagreat", sum := "282e24f3f31059366d6acffa122ad4236a65f742eec34cb3ddc3aa9a9c1e7654", checked := Tryz.checked }
namespace Rows
def none {H : Type} : Left H := { results := [], args := [] }

/-- 'routescopelaw31.RoutersSteps': WHATEVER THE INPUT: true; the input reads as it did. -/
def routersStepsSpec : ChangeSpec := { name := "routersSteps", fn := fun _ => fun
  | [d1, d2, d3, d4, d5, d6, d7] => { results := [.lit (.bool true)], args := [d1, d2, d3, d4, d5, d6, d7] }
  | _ => none }
def routersStepsRow : OpenClaim := { program := "ytpnilgkmpfkekaagreat", sum := "282e24f3f31059366d6acffa122ad4236a65f742eec34cb3ddc3aa9a9c1e7654", func := "routescope/routescopelaw31.RoutersSteps", spec := "routersSteps", unfollowed := true, recurses := true, apart := false }
def RoutersStepsSaid : Prop := routersStepsRow.holds Tryz.pinned (OpenSpec.ofChange routersStepsSpec)

/-- ITS FALSE NEIGHBOUR: 'it returns false'. Refute it at one input. -/
def routersStepsWrong : ChangeSpec := { name := "routersSteps", fn := fun _ => fun
  | [d1, d2, d3, d4, d5, d6, d7] => { results := [.lit (.bool false)], args := [d1, d2, d3, d4, d5, d6, d7] }
  | _ => none }
def RoutersStepsWrongFalsely : Prop := routersStepsRow.holds Tryz.pinned (OpenSpec.ofChange routersStepsWrong)

/-- 'routescopelaw31.RoutersApart': WHATEVER THE INPUT: true; the input reads as it did. -/
def routersApartSpec : ChangeSpec := { name := "routersApart", fn := fun _ => fun
  | [d] => { results := [.lit (.bool true)], args := [d] }
  | _ => none }
def routersApartRow : OpenClaim := { program := "ytpnilgkmpfkekaagreat", sum := "282e24f3f31059366d6acffa122ad4236a65f742eec34cb3ddc3aa9a9c1e7654", func := "routescope/routescopelaw31.RoutersApart", spec := "routersApart", unfollowed := true, recurses := true, apart := false }
def RoutersApartSaid : Prop := routersApartRow.holds Tryz.pinned (OpenSpec.ofChange routersApartSpec)

/-- ITS FALSE NEIGHBOUR: 'it returns false'. Refute it at one input. -/
def routersApartWrong : ChangeSpec := { name := "routersApart", fn := fun _ => fun
  | [d] => { results := [.lit (.bool false)], args := [d] }
  | _ => none }
def RoutersApartWrongFalsely : Prop := routersApartRow.holds Tryz.pinned (OpenSpec.ofChange routersApartWrong)

/-- 'routescopelaw31.RoutersOrder': WHATEVER THE INPUT: true; the input reads as it did. -/
def routersOrderSpec : ChangeSpec := { name := "routersOrder", fn := fun _ => fun
  | [d] => { results := [.lit (.bool true)], args := [d] }
  | _ => none }
def routersOrderRow : OpenClaim := { program := "ytpnilgkmpfkekaagreat", sum := "282e24f3f31059366d6acffa122ad4236a65f742eec34cb3ddc3aa9a9c1e7654", func := "routescope/routescopelaw31.RoutersOrder", spec := "routersOrder", unfollowed := true, recurses := true, apart := false }
def RoutersOrderSaid : Prop := routersOrderRow.holds Tryz.pinned (OpenSpec.ofChange routersOrderSpec)

/-- ITS FALSE NEIGHBOUR: 'it returns false'. Refute it at one input. -/
def routersOrderWrong : ChangeSpec := { name := "routersOrder", fn := fun _ => fun
  | [d] => { results := [.lit (.bool false)], args := [d] }
  | _ => none }
def RoutersOrderWrongFalsely : Prop := routersOrderRow.holds Tryz.pinned (OpenSpec.ofChange routersOrderWrong)

/-- 'routescopelaw31.RoutersRetract': WHATEVER THE INPUT: true; the input reads as it did. -/
def routersRetractSpec : ChangeSpec := { name := "routersRetract", fn := fun _ => fun
  | [d] => { results := [.lit (.bool true)], args := [d] }
  | _ => none }
def routersRetractRow : OpenClaim := { program := "ytpnilgkmpfkekaagreat", sum := "282e24f3f31059366d6acffa122ad4236a65f742eec34cb3ddc3aa9a9c1e7654", func := "routescope/routescopelaw31.RoutersRetract", spec := "routersRetract", unfollowed := true, recurses := true, apart := false }
def RoutersRetractSaid : Prop := routersRetractRow.holds Tryz.pinned (OpenSpec.ofChange routersRetractSpec)

/-- ITS FALSE NEIGHBOUR: 'it returns false'. Refute it at one input. -/
def routersRetractWrong : ChangeSpec := { name := "routersRetract", fn := fun _ => fun
  | [d] => { results := [.lit (.bool false)], args := [d] }
  | _ => none }
def RoutersRetractWrongFalsely : Prop := routersRetractRow.holds Tryz.pinned (OpenSpec.ofChange routersRetractWrong)

/-- 'routescopelaw31.RoutersKinds': WHATEVER THE INPUT: true; the input reads as it did. -/
def routersKindsSpec : ChangeSpec := { name := "routersKinds", fn := fun _ => fun
  | [d] => { results := [.lit (.bool true)], args := [d] }
  | _ => none }
def routersKindsRow : OpenClaim := { program := "ytpnilgkmpfkekaagreat", sum := "282e24f3f31059366d6acffa122ad4236a65f742eec34cb3ddc3aa9a9c1e7654", func := "routescope/routescopelaw31.RoutersKinds", spec := "routersKinds", unfollowed := true, recurses := true, apart := false }
def RoutersKindsSaid : Prop := routersKindsRow.holds Tryz.pinned (OpenSpec.ofChange routersKindsSpec)

/-- ITS FALSE NEIGHBOUR: 'it returns false'. Refute it at one input. -/
def routersKindsWrong : ChangeSpec := { name := "routersKinds", fn := fun _ => fun
  | [d] => { results := [.lit (.bool false)], args := [d] }
  | _ => none }
def RoutersKindsWrongFalsely : Prop := routersKindsRow.holds Tryz.pinned (OpenSpec.ofChange routersKindsWrong)

/-- 'routescopelaw31.RoutersExplained': WHATEVER THE INPUT: true; the input reads as it did. -/
def routersExplainedSpec : ChangeSpec := { name := "routersExplained", fn := fun _ => fun
  | [d] => { results := [.lit (.bool true)], args := [d] }
  | _ => none }
def routersExplainedRow : OpenClaim := { program := "ytpnilgkmpfkekaagreat", sum := "282e24f3f31059366d6acffa122ad4236a65f742eec34cb3ddc3aa9a9c1e7654", func := "routescope/routescopelaw31.RoutersExplained", spec := "routersExplained", unfollowed := true, recurses := true, apart := false }
def RoutersExplainedSaid : Prop := routersExplainedRow.holds Tryz.pinned (OpenSpec.ofChange routersExplainedSpec)

/-- ITS FALSE NEIGHBOUR: 'it returns false'. Refute it at one input. -/
def routersExplainedWrong : ChangeSpec := { name := "routersExplained", fn := fun _ => fun
  | [d] => { results := [.lit (.bool false)], args := [d] }
  | _ => none }
def RoutersExplainedWrongFalsely : Prop := routersExplainedRow.holds Tryz.pinned (OpenSpec.ofChange routersExplainedWrong)

/-- 'routescopelaw31.RoutersUnion': WHATEVER THE INPUT: true; the input reads as it did. -/
def routersUnionSpec : ChangeSpec := { name := "routersUnion", fn := fun _ => fun
  | [d] => { results := [.lit (.bool true)], args := [d] }
  | _ => none }
def routersUnionRow : OpenClaim := { program := "ytpnilgkmpfkekaagreat", sum := "282e24f3f31059366d6acffa122ad4236a65f742eec34cb3ddc3aa9a9c1e7654", func := "routescope/routescopelaw31.RoutersUnion", spec := "routersUnion", unfollowed := true, recurses := true, apart := false }
def RoutersUnionSaid : Prop := routersUnionRow.holds Tryz.pinned (OpenSpec.ofChange routersUnionSpec)

/-- ITS FALSE NEIGHBOUR: 'it returns false'. Refute it at one input. -/
def routersUnionWrong : ChangeSpec := { name := "routersUnion", fn := fun _ => fun
  | [d] => { results := [.lit (.bool false)], args := [d] }
  | _ => none }
def RoutersUnionWrongFalsely : Prop := routersUnionRow.holds Tryz.pinned (OpenSpec.ofChange routersUnionWrong)

/- THE SECOND FORM. 'bulk': how many values and letters a reading holds, each counted each time it is reached (what is shared counts as often as it is met; a slice's spare places count too). A statement '..UptoSaid' is the law's where the arguments, and the package variables that the reading takes, are together of bulk at most 1048576: NARROWER than '..Said'. Prove '..Said' where nothing that the law and all that it calls make is longer than what came in: it says more and counts as full. Else prove '..UptoSaid'. A law counts once. -/
mutual
def uptoBulk {H : Type} : DataW H → Nat
  | .lit (.string bytes) => bytes.length + 1
  | .lit _ => 1
  | .nil => 1
  | .ptr d => uptoBulk d + 1
  | .slice elems spare => uptoBulkAll elems + uptoBulkAll spare + 1
  | .agg parts => uptoBulkAll parts + 1
  | .iface _ d => uptoBulk d + 1
  | .map entries => uptoBulkEntries entries + 1
  | .held _ => 1
def uptoBulkAll {H : Type} : List (DataW H) → Nat
  | [] => 0
  | d :: r => uptoBulk d + uptoBulkAll r
def uptoBulkEntries {H : Type} : List (Lit × DataW H) → Nat
  | [] => 0
  | x :: r => uptoBulkEntry x + uptoBulkEntries r
def uptoBulkEntry {H : Type} : Lit × DataW H → Nat
  | (.string bytes, d) => bytes.length + uptoBulk d + 1
  | (_, d) => uptoBulk d + 1
 end
def uptoSmall : (H : Type) → List (DataW H) → Bool := fun _ ds => decide (uptoBulkAll ds ≤ 1048576)
def OpenSpec.upto (s : _root_.Go.ChangeSpec) : _root_.Go.OpenSpec := { _root_.Go.OpenSpec.ofChange s with cond := some uptoSmall }

/-- 'routescopelaw31.RoutersSteps', WHERE WHAT IT READS IS OF BULK AT MOST 1048576: true; the input reads as it did. -/
def routersStepsUptoRow : OpenClaim := { program := "ytpnilgkmpfkekaagreat", sum := "282e24f3f31059366d6acffa122ad4236a65f742eec34cb3ddc3aa9a9c1e7654", func := "routescope/routescopelaw31.RoutersSteps", spec := "routersSteps", unfollowed := true, recurses := true, apart := false, narrowed := true }
def RoutersStepsUptoSaid : Prop := routersStepsUptoRow.holds Tryz.pinned (OpenSpec.upto routersStepsSpec)

/-- 'routescopelaw31.RoutersApart', WHERE WHAT IT READS IS OF BULK AT MOST 1048576: true; the input reads as it did. -/
def routersApartUptoRow : OpenClaim := { program := "ytpnilgkmpfkekaagreat", sum := "282e24f3f31059366d6acffa122ad4236a65f742eec34cb3ddc3aa9a9c1e7654", func := "routescope/routescopelaw31.RoutersApart", spec := "routersApart", unfollowed := true, recurses := true, apart := false, narrowed := true }
def RoutersApartUptoSaid : Prop := routersApartUptoRow.holds Tryz.pinned (OpenSpec.upto routersApartSpec)

/-- 'routescopelaw31.RoutersOrder', WHERE WHAT IT READS IS OF BULK AT MOST 1048576: true; the input reads as it did. -/
def routersOrderUptoRow : OpenClaim := { program := "ytpnilgkmpfkekaagreat", sum := "282e24f3f31059366d6acffa122ad4236a65f742eec34cb3ddc3aa9a9c1e7654", func := "routescope/routescopelaw31.RoutersOrder", spec := "routersOrder", unfollowed := true, recurses := true, apart := false, narrowed := true }
def RoutersOrderUptoSaid : Prop := routersOrderUptoRow.holds Tryz.pinned (OpenSpec.upto routersOrderSpec)

/-- 'routescopelaw31.RoutersRetract', WHERE WHAT IT READS IS OF BULK AT MOST 1048576: true; the input reads as it did. -/
def routersRetractUptoRow : OpenClaim := { program := "ytpnilgkmpfkekaagreat", sum := "282e24f3f31059366d6acffa122ad4236a65f742eec34cb3ddc3aa9a9c1e7654", func := "routescope/routescopelaw31.RoutersRetract", spec := "routersRetract", unfollowed := true, recurses := true, apart := false, narrowed := true }
def RoutersRetractUptoSaid : Prop := routersRetractUptoRow.holds Tryz.pinned (OpenSpec.upto routersRetractSpec)

/-- 'routescopelaw31.RoutersKinds', WHERE WHAT IT READS IS OF BULK AT MOST 1048576: true; the input reads as it did. -/
def routersKindsUptoRow : OpenClaim := { program := "ytpnilgkmpfkekaagreat", sum := "282e24f3f31059366d6acffa122ad4236a65f742eec34cb3ddc3aa9a9c1e7654", func := "routescope/routescopelaw31.RoutersKinds", spec := "routersKinds", unfollowed := true, recurses := true, apart := false, narrowed := true }
def RoutersKindsUptoSaid : Prop := routersKindsUptoRow.holds Tryz.pinned (OpenSpec.upto routersKindsSpec)

/-- 'routescopelaw31.RoutersExplained', WHERE WHAT IT READS IS OF BULK AT MOST 1048576: true; the input reads as it did. -/
def routersExplainedUptoRow : OpenClaim := { program := "ytpnilgkmpfkekaagreat", sum := "282e24f3f31059366d6acffa122ad4236a65f742eec34cb3ddc3aa9a9c1e7654", func := "routescope/routescopelaw31.RoutersExplained", spec := "routersExplained", unfollowed := true, recurses := true, apart := false, narrowed := true }
def RoutersExplainedUptoSaid : Prop := routersExplainedUptoRow.holds Tryz.pinned (OpenSpec.upto routersExplainedSpec)

/-- 'routescopelaw31.RoutersUnion', WHERE WHAT IT READS IS OF BULK AT MOST 1048576: true; the input reads as it did. -/
def routersUnionUptoRow : OpenClaim := { program := "ytpnilgkmpfkekaagreat", sum := "282e24f3f31059366d6acffa122ad4236a65f742eec34cb3ddc3aa9a9c1e7654", func := "routescope/routescopelaw31.RoutersUnion", spec := "routersUnion", unfollowed := true, recurses := true, apart := false, narrowed := true }
def RoutersUnionUptoSaid : Prop := routersUnionUptoRow.holds Tryz.pinned (OpenSpec.upto routersUnionSpec)

end Rows
end Go.Proofs.YtpnilgkmpfkekaaGreat
