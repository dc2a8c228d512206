/-
  No cell of these rows narrows 'for every input' (looked for: loops, veiled, ifaces, maps, wideKeys, modest, calm, conditions, laid).
  DERIVED. THE GIVEN ROWS OF THIS SEAT. 4 by the template 'for every input the law returns true; each argument reads behind the call as it read before'; 0 by the template 'total and deterministic' (their statements: YtcicmplfmcloiaaGreatTotals.lean).
  GIVEN WITH THE SEED: the statements are not yours to turn. If you find one false, say at which input.
  Laid BY PROGRAM, IN A SANDBOX (cutbox-rows.mjs): the forced cells as the released guide's own fill.sh prints them over the translation b54f053140cc8e0b… (all of the seat's roots in one cut). By AI agents, Wed Nov 11 2026. No macro, syntax, notation, axiom, sorry.
-/
import Derived.Test.YtcicmplfmcloiaaGreatChecked
import GoSem.Claim
import GoSem.ClaimJoined
import GoSem.ClaimMapViews
import Derived.JoinedTies
import Derived.KernelRfl
namespace Go.Proofs.YtcicmplfmcloiaaGreat
/- THE CELL 'sum', in the pinned program and in every row, IS THE sha256 OF THE DUMP (.gsa) THAT YtcicmplfmcloiaaGreatProg.lean LOADS. Nothing in Lean hashes anything: it is a label: what it is worth is what the hold of that sum in a sandbox is worth. -/
noncomputable def Tryz.pinned : Pinned := { name := "ytcicmplfmcloiaagreat", sum := "b54f053140cc8e0ba968b7fa3bb52d5b075c89d0c604117320989bcba830461f", checked := Tryz.checked }
namespace Rows
def none {H : Type} : Left H := { results := [], args := [] }

/-- 'routescopelaw33.BorderOrder': WHATEVER THE INPUT: true; the input reads as it did. -/
def borderOrderSpec : ChangeSpec := { name := "borderOrder", fn := fun _ => fun
  | [d1, d2] => { results := [.lit (.bool true)], args := [d1, d2] }
  | _ => none }
def borderOrderRow : OpenClaim := { program := "ytcicmplfmcloiaagreat", sum := "b54f053140cc8e0ba968b7fa3bb52d5b075c89d0c604117320989bcba830461f", func := "routescope/routescopelaw33.BorderOrder", spec := "borderOrder", unfollowed := true, recurses := true, plainKeys := false, apart := false }
def BorderOrderSaid : Prop := borderOrderRow.holds Tryz.pinned (OpenSpec.ofChange borderOrderSpec)

/-- ITS FALSE NEIGHBOUR: 'it returns false'. Refute it at one input. -/
def borderOrderWrong : ChangeSpec := { name := "borderOrder", fn := fun _ => fun
  | [d1, d2] => { results := [.lit (.bool false)], args := [d1, d2] }
  | _ => none }
def BorderOrderWrongFalsely : Prop := borderOrderRow.holds Tryz.pinned (OpenSpec.ofChange borderOrderWrong)

/-- 'routescopelaw25.DiscoverSatisfied': WHATEVER THE INPUT: true; the input reads as it did. -/
def discoverSatisfiedSpec : ChangeSpec := { name := "discoverSatisfied", fn := fun _ => fun
  | [d] => { results := [.lit (.bool true)], args := [d] }
  | _ => none }
def discoverSatisfiedRow : OpenClaim := { program := "ytcicmplfmcloiaagreat", sum := "b54f053140cc8e0ba968b7fa3bb52d5b075c89d0c604117320989bcba830461f", func := "routescope/routescopelaw25.DiscoverSatisfied", spec := "discoverSatisfied", unfollowed := true, recurses := true, plainKeys := false, apart := false }
def DiscoverSatisfiedSaid : Prop := discoverSatisfiedRow.holds Tryz.pinned (OpenSpec.ofChange discoverSatisfiedSpec)

/-- ITS FALSE NEIGHBOUR: 'it returns false'. Refute it at one input. -/
def discoverSatisfiedWrong : ChangeSpec := { name := "discoverSatisfied", fn := fun _ => fun
  | [d] => { results := [.lit (.bool false)], args := [d] }
  | _ => none }
def DiscoverSatisfiedWrongFalsely : Prop := discoverSatisfiedRow.holds Tryz.pinned (OpenSpec.ofChange discoverSatisfiedWrong)

/-- 'routescopelaw25.DiscoverEnds': WHATEVER THE INPUT: true; the input reads as it did. -/
def discoverEndsSpec : ChangeSpec := { name := "discoverEnds", fn := fun _ => fun
  | [d] => { results := [.lit (.bool true)], args := [d] }
  | _ => none }
def discoverEndsRow : OpenClaim := { program := "ytcicmplfmcloiaagreat", sum := "b54f053140cc8e0ba968b7fa3bb52d5b075c89d0c604117320989bcba830461f", func := "routescope/routescopelaw25.DiscoverEnds", spec := "discoverEnds", unfollowed := true, recurses := true, plainKeys := false, apart := false }
def DiscoverEndsSaid : Prop := discoverEndsRow.holds Tryz.pinned (OpenSpec.ofChange discoverEndsSpec)

/-- ITS FALSE NEIGHBOUR: 'it returns false'. Refute it at one input. -/
def discoverEndsWrong : ChangeSpec := { name := "discoverEnds", fn := fun _ => fun
  | [d] => { results := [.lit (.bool false)], args := [d] }
  | _ => none }
def DiscoverEndsWrongFalsely : Prop := discoverEndsRow.holds Tryz.pinned (OpenSpec.ofChange discoverEndsWrong)

/-- 'routescopelaw25.DiscoverTables': WHATEVER THE INPUT: true; the input reads as it did. -/
def discoverTablesSpec : ChangeSpec := { name := "discoverTables", fn := fun _ => fun
  | [d1, d2] => { results := [.lit (.bool true)], args := [d1, d2] }
  | _ => none }
def discoverTablesRow : OpenClaim := { program := "ytcicmplfmcloiaagreat", sum := "b54f053140cc8e0ba968b7fa3bb52d5b075c89d0c604117320989bcba830461f", func := "routescope/routescopelaw25.DiscoverTables", spec := "discoverTables", unfollowed := true, recurses := true, plainKeys := false, apart := false }
def DiscoverTablesSaid : Prop := discoverTablesRow.holds Tryz.pinned (OpenSpec.ofChange discoverTablesSpec)

/-- ITS FALSE NEIGHBOUR: 'it returns false'. Refute it at one input. -/
def discoverTablesWrong : ChangeSpec := { name := "discoverTables", fn := fun _ => fun
  | [d1, d2] => { results := [.lit (.bool false)], args := [d1, d2] }
  | _ => none }
def DiscoverTablesWrongFalsely : Prop := discoverTablesRow.holds Tryz.pinned (OpenSpec.ofChange discoverTablesWrong)

/- THE SECOND FORM. 'bulk': how many values and letters a reading holds, each counted each time it is reached (what is shared counts as often as it is met; a slice's spare places count too). A statement '..UptoSaid' is the law's where the arguments, and the package variables that the reading takes, are together of bulk at most 1048576: NARROWER than '..Said'. Prove '..Said' where nothing that the law and all that it calls make is longer than what came in: it says more and counts as full. Else prove '..UptoSaid'. A law counts once. -/
mutual
def uptoBulk {H : Type} : DataW H → Nat
  | .lit (.string bytes) => bytes.length + 1
  | .lit _ => 1
  | .nil => 1
  | .ptr d => uptoBulk d + 1
  | .slice elems spare => uptoBulkAll elems + uptoBulkAll spare + 1
  | .agg parts => uptoBulkAll parts + 1
  | .iface _ d => uptoBulk d + 1
  | .map entries => uptoBulkEntries entries + 1
  | .held _ => 1
def uptoBulkAll {H : Type} : List (DataW H) → Nat
  | [] => 0
  | d :: r => uptoBulk d + uptoBulkAll r
def uptoBulkEntries {H : Type} : List (Lit × DataW H) → Nat
  | [] => 0
  | x :: r => uptoBulkEntry x + uptoBulkEntries r
def uptoBulkEntry {H : Type} : Lit × DataW H → Nat
  | (.string bytes, d) => bytes.length + uptoBulk d + 1
  | (_, d) => uptoBulk d + 1
 end
def uptoSmall : (H : Type) → List (DataW H) → Bool := fun _ ds => decide (uptoBulkAll ds ≤ 1048576)
def OpenSpec.upto (s : _root_.Go.ChangeSpec) : _root_.Go.OpenSpec := { _root_.Go.OpenSpec.ofChange s with cond := some uptoSmall }

/-- 'routescopelaw33.BorderOrder', WHERE WHAT IT READS IS OF BULK AT MOST 1048576: true; the input reads as it did. -/
def borderOrderUptoRow : OpenClaim := { program := "ytcicmplfmcloiaagreat", sum := "b54f053140cc8e0ba968b7fa3bb52d5b075c89d0c604117320989bcba830461f", func := "routescope/routescopelaw33.BorderOrder", spec := "borderOrder", unfollowed := true, recurses := true, plainKeys := false, apart := false, narrowed := true }
def BorderOrderUptoSaid : Prop := borderOrderUptoRow.holds Tryz.pinned (OpenSpec.upto borderOrderSpec)

/-- 'routescopelaw25.DiscoverSatisfied', WHERE WHAT IT READS IS OF BULK AT MOST 1048576: true; the input reads as it did. -/
def discoverSatisfiedUptoRow : OpenClaim := { program := "ytcicmplfmcloiaagreat", sum := "b54f053140cc8e0ba968b7fa3bb52d5b075c89d0c604117320989bcba830461f", func := "routescope/routescopelaw25.DiscoverSatisfied", spec := "discoverSatisfied", unfollowed := true, recurses := true, plainKeys := false, apart := false, narrowed := true }
def DiscoverSatisfiedUptoSaid : Prop := discoverSatisfiedUptoRow.holds Tryz.pinned (OpenSpec.upto discoverSatisfiedSpec)

/-- 'routescopelaw25.DiscoverEnds', WHERE WHAT IT READS IS OF BULK AT MOST 1048576: true; the input reads as it did. -/
def discoverEndsUptoRow : OpenClaim := { program := "ytcicmplfmcloiaagreat", sum := "b54f053140cc8e0ba968b7fa3bb52d5b075c89d0c604117320989bcba830461f", func := "routescope/routescopelaw25.DiscoverEnds", spec := "discoverEnds", unfollowed := true, recurses := true, plainKeys := false, apart := false, narrowed := true }
def DiscoverEndsUptoSaid : Prop := discoverEndsUptoRow.holds Tryz.pinned (OpenSpec.upto discoverEndsSpec)

/-- 'routescopelaw25.DiscoverTables', WHERE WHAT IT READS IS OF BULK AT MOST 1048576: true; the input reads as it did. -/
def discoverTablesUptoRow : OpenClaim := { program := "ytcicmplfmcloiaagreat", sum := "b54f053140cc8e0ba968b7fa3bb52d5b075c89d0c604117320989bcba830461f", func := "routescope/routescopelaw25.DiscoverTables", spec := "discoverTables", unfollowed := true, recurses := true, plainKeys := false, apart := false, narrowed := true }
def DiscoverTablesUptoSaid : Prop := discoverTablesUptoRow.holds Tryz.pinned (OpenSpec.upto discoverTablesSpec)

end Rows
end Go.Proofs.YtcicmplfmcloiaaGreat
