/-
  No cell of these rows narrows 'for every input' (looked for: loops, veiled, ifaces, maps, wideKeys, modest, calm, conditions, laid).
  DERIVED. THE GIVEN ROWS OF THIS SEAT. 7 by the template 'for every input the law returns true; each argument reads behind the call as it read before'; 0 by the template 'total and deterministic' (their statements: YtnejdeklnmkhbaaGreatTotals.lean).
  GIVEN WITH THE SEED: the statements are not yours to turn. If you find one false, say at which input.
  Laid BY PROGRAM, IN A SANDBOX (cutbox-rows.mjs): the forced cells as the released guide's own fill.sh prints them over the translation e45633a7d444cd17… (all of the seat's roots in one cut). By AI agents, Wed Nov 11 2026. No macro, syntax, notation, axiom, sorry.
-/
import Derived.Test.YtnejdeklnmkhbaaGreatChecked
import GoSem.Claim
import GoSem.ClaimJoined
import GoSem.ClaimMapViews
import Derived.JoinedTies
import Derived.KernelRfl
namespace Go.Proofs.YtnejdeklnmkhbaaGreat
/- THE CELL 'sum', in the pinned program and in every row, IS THE sha256 OF THE DUMP (.gsa) THAT YtnejdeklnmkhbaaGreatProg.lean LOADS. Nothing in Lean hashes anything: it is a label: what it is worth is what the hold of that sum in a sandbox is worth. -/
noncomputable def Tryz.pinned : Pinned := { name := "ytnejdeklnmkhbaagreat", sum := "e45633a7d444cd1778a700bb870df05a09e459f402313e19f1aa750204139fdd", checked := Tryz.checked }
namespace Rows
def none {H : Type} : Left H := { results := [], args := [] }

/-- 'routescopelaw24.PathsOrder': WHATEVER THE INPUT: true; the input reads as it did. -/
def pathsOrderSpec : ChangeSpec := { name := "pathsOrder", fn := fun _ => fun
  | [d] => { results := [.lit (.bool true)], args := [d] }
  | _ => none }
def pathsOrderRow : OpenClaim := { program := "ytnejdeklnmkhbaagreat", sum := "e45633a7d444cd1778a700bb870df05a09e459f402313e19f1aa750204139fdd", func := "routescope/routescopelaw24.PathsOrder", spec := "pathsOrder", unfollowed := true, recurses := true, plainKeys := false, apart := false }
def PathsOrderSaid : Prop := pathsOrderRow.holds Tryz.pinned (OpenSpec.ofChange pathsOrderSpec)

/-- ITS FALSE NEIGHBOUR: 'it returns false'. Refute it at one input. -/
def pathsOrderWrong : ChangeSpec := { name := "pathsOrder", fn := fun _ => fun
  | [d] => { results := [.lit (.bool false)], args := [d] }
  | _ => none }
def PathsOrderWrongFalsely : Prop := pathsOrderRow.holds Tryz.pinned (OpenSpec.ofChange pathsOrderWrong)

/-- 'routescopelaw24.PathsGrow': WHATEVER THE INPUT: true; the input reads as it did. -/
def pathsGrowSpec : ChangeSpec := { name := "pathsGrow", fn := fun _ => fun
  | [d] => { results := [.lit (.bool true)], args := [d] }
  | _ => none }
def pathsGrowRow : OpenClaim := { program := "ytnejdeklnmkhbaagreat", sum := "e45633a7d444cd1778a700bb870df05a09e459f402313e19f1aa750204139fdd", func := "routescope/routescopelaw24.PathsGrow", spec := "pathsGrow", unfollowed := true, recurses := true, plainKeys := false, apart := false }
def PathsGrowSaid : Prop := pathsGrowRow.holds Tryz.pinned (OpenSpec.ofChange pathsGrowSpec)

/-- ITS FALSE NEIGHBOUR: 'it returns false'. Refute it at one input. -/
def pathsGrowWrong : ChangeSpec := { name := "pathsGrow", fn := fun _ => fun
  | [d] => { results := [.lit (.bool false)], args := [d] }
  | _ => none }
def PathsGrowWrongFalsely : Prop := pathsGrowRow.holds Tryz.pinned (OpenSpec.ofChange pathsGrowWrong)

/-- 'routescopelaw24.PathsDiamonds': WHATEVER THE INPUT: true; the input reads as it did. -/
def pathsDiamondsSpec : ChangeSpec := { name := "pathsDiamonds", fn := fun _ => fun
  | [d] => { results := [.lit (.bool true)], args := [d] }
  | _ => none }
def pathsDiamondsRow : OpenClaim := { program := "ytnejdeklnmkhbaagreat", sum := "e45633a7d444cd1778a700bb870df05a09e459f402313e19f1aa750204139fdd", func := "routescope/routescopelaw24.PathsDiamonds", spec := "pathsDiamonds", unfollowed := true, recurses := true, plainKeys := false, apart := false }
def PathsDiamondsSaid : Prop := pathsDiamondsRow.holds Tryz.pinned (OpenSpec.ofChange pathsDiamondsSpec)

/-- ITS FALSE NEIGHBOUR: 'it returns false'. Refute it at one input. -/
def pathsDiamondsWrong : ChangeSpec := { name := "pathsDiamonds", fn := fun _ => fun
  | [d] => { results := [.lit (.bool false)], args := [d] }
  | _ => none }
def PathsDiamondsWrongFalsely : Prop := pathsDiamondsRow.holds Tryz.pinned (OpenSpec.ofChange pathsDiamondsWrong)

/-- 'routescopelaw24.PathsDoubled': WHATEVER THE INPUT: true; the input reads as it did. -/
def pathsDoubledSpec : ChangeSpec := { name := "pathsDoubled", fn := fun _ => fun
  | [d] => { results := [.lit (.bool true)], args := [d] }
  | _ => none }
def pathsDoubledRow : OpenClaim := { program := "ytnejdeklnmkhbaagreat", sum := "e45633a7d444cd1778a700bb870df05a09e459f402313e19f1aa750204139fdd", func := "routescope/routescopelaw24.PathsDoubled", spec := "pathsDoubled", unfollowed := true, recurses := true, plainKeys := false, apart := false }
def PathsDoubledSaid : Prop := pathsDoubledRow.holds Tryz.pinned (OpenSpec.ofChange pathsDoubledSpec)

/-- ITS FALSE NEIGHBOUR: 'it returns false'. Refute it at one input. -/
def pathsDoubledWrong : ChangeSpec := { name := "pathsDoubled", fn := fun _ => fun
  | [d] => { results := [.lit (.bool false)], args := [d] }
  | _ => none }
def PathsDoubledWrongFalsely : Prop := pathsDoubledRow.holds Tryz.pinned (OpenSpec.ofChange pathsDoubledWrong)

/-- 'routescopelaw24.PathsParts': WHATEVER THE INPUT: true; the input reads as it did. -/
def pathsPartsSpec : ChangeSpec := { name := "pathsParts", fn := fun _ => fun
  | [d] => { results := [.lit (.bool true)], args := [d] }
  | _ => none }
def pathsPartsRow : OpenClaim := { program := "ytnejdeklnmkhbaagreat", sum := "e45633a7d444cd1778a700bb870df05a09e459f402313e19f1aa750204139fdd", func := "routescope/routescopelaw24.PathsParts", spec := "pathsParts", unfollowed := true, recurses := true, plainKeys := false, apart := false }
def PathsPartsSaid : Prop := pathsPartsRow.holds Tryz.pinned (OpenSpec.ofChange pathsPartsSpec)

/-- ITS FALSE NEIGHBOUR: 'it returns false'. Refute it at one input. -/
def pathsPartsWrong : ChangeSpec := { name := "pathsParts", fn := fun _ => fun
  | [d] => { results := [.lit (.bool false)], args := [d] }
  | _ => none }
def PathsPartsWrongFalsely : Prop := pathsPartsRow.holds Tryz.pinned (OpenSpec.ofChange pathsPartsWrong)

/-- 'routescopelaw24.PathsResults': WHATEVER THE INPUT: true; the input reads as it did. -/
def pathsResultsSpec : ChangeSpec := { name := "pathsResults", fn := fun _ => fun
  | [d1, d2, d3, d4] => { results := [.lit (.bool true)], args := [d1, d2, d3, d4] }
  | _ => none }
def pathsResultsRow : OpenClaim := { program := "ytnejdeklnmkhbaagreat", sum := "e45633a7d444cd1778a700bb870df05a09e459f402313e19f1aa750204139fdd", func := "routescope/routescopelaw24.PathsResults", spec := "pathsResults", unfollowed := true, recurses := true, plainKeys := false, apart := false }
def PathsResultsSaid : Prop := pathsResultsRow.holds Tryz.pinned (OpenSpec.ofChange pathsResultsSpec)

/-- ITS FALSE NEIGHBOUR: 'it returns false'. Refute it at one input. -/
def pathsResultsWrong : ChangeSpec := { name := "pathsResults", fn := fun _ => fun
  | [d1, d2, d3, d4] => { results := [.lit (.bool false)], args := [d1, d2, d3, d4] }
  | _ => none }
def PathsResultsWrongFalsely : Prop := pathsResultsRow.holds Tryz.pinned (OpenSpec.ofChange pathsResultsWrong)

/-- 'routescopelaw24.PathsGraphs': WHATEVER THE INPUT: true; the input reads as it did. -/
def pathsGraphsSpec : ChangeSpec := { name := "pathsGraphs", fn := fun _ => fun
  | [d1, d2, d3, d4] => { results := [.lit (.bool true)], args := [d1, d2, d3, d4] }
  | _ => none }
def pathsGraphsRow : OpenClaim := { program := "ytnejdeklnmkhbaagreat", sum := "e45633a7d444cd1778a700bb870df05a09e459f402313e19f1aa750204139fdd", func := "routescope/routescopelaw24.PathsGraphs", spec := "pathsGraphs", unfollowed := true, recurses := true, plainKeys := false, apart := false }
def PathsGraphsSaid : Prop := pathsGraphsRow.holds Tryz.pinned (OpenSpec.ofChange pathsGraphsSpec)

/-- ITS FALSE NEIGHBOUR: 'it returns false'. Refute it at one input. -/
def pathsGraphsWrong : ChangeSpec := { name := "pathsGraphs", fn := fun _ => fun
  | [d1, d2, d3, d4] => { results := [.lit (.bool false)], args := [d1, d2, d3, d4] }
  | _ => none }
def PathsGraphsWrongFalsely : Prop := pathsGraphsRow.holds Tryz.pinned (OpenSpec.ofChange pathsGraphsWrong)

/- THE SECOND FORM. 'bulk': how many values and letters a reading holds, each counted each time it is reached (what is shared counts as often as it is met; a slice's spare places count too). A statement '..UptoSaid' is the law's where the arguments, and the package variables that the reading takes, are together of bulk at most 1048576: NARROWER than '..Said'. Prove '..Said' where nothing that the law and all that it calls make is longer than what came in: it says more and counts as full. Else prove '..UptoSaid'. A law counts once. -/
mutual
def uptoBulk {H : Type} : DataW H → Nat
  | .lit (.string bytes) => bytes.length + 1
  | .lit _ => 1
  | .nil => 1
  | .ptr d => uptoBulk d + 1
  | .slice elems spare => uptoBulkAll elems + uptoBulkAll spare + 1
  | .agg parts => uptoBulkAll parts + 1
  | .iface _ d => uptoBulk d + 1
  | .map entries => uptoBulkEntries entries + 1
  | .held _ => 1
def uptoBulkAll {H : Type} : List (DataW H) → Nat
  | [] => 0
  | d :: r => uptoBulk d + uptoBulkAll r
def uptoBulkEntries {H : Type} : List (Lit × DataW H) → Nat
  | [] => 0
  | x :: r => uptoBulkEntry x + uptoBulkEntries r
def uptoBulkEntry {H : Type} : Lit × DataW H → Nat
  | (.string bytes, d) => bytes.length + uptoBulk d + 1
  | (_, d) => uptoBulk d + 1
 end
def uptoSmall : (H : Type) → List (DataW H) → Bool := fun _ ds => decide (uptoBulkAll ds ≤ 1048576)
def OpenSpec.upto (s : _root_.Go.ChangeSpec) : _root_.Go.OpenSpec := { _root_.Go.OpenSpec.ofChange s with cond := some uptoSmall }

/-- 'routescopelaw24.PathsOrder', WHERE WHAT IT READS IS OF BULK AT MOST 1048576: true; the input reads as it did. -/
def pathsOrderUptoRow : OpenClaim := { program := "ytnejdeklnmkhbaagreat", sum := "e45633a7d444cd1778a700bb870df05a09e459f402313e19f1aa750204139fdd", func := "routescope/routescopelaw24.PathsOrder", spec := "pathsOrder", unfollowed := true, recurses := true, plainKeys := false, apart := false, narrowed := true }
def PathsOrderUptoSaid : Prop := pathsOrderUptoRow.holds Tryz.pinned (OpenSpec.upto pathsOrderSpec)

/-- 'routescopelaw24.PathsGrow', WHERE WHAT IT READS IS OF BULK AT MOST 1048576: true; the input reads as it did. -/
def pathsGrowUptoRow : OpenClaim := { program := "ytnejdeklnmkhbaagreat", sum := "e45633a7d444cd1778a700bb870df05a09e459f402313e19f1aa750204139fdd", func := "routescope/routescopelaw24.PathsGrow", spec := "pathsGrow", unfollowed := true, recurses := true, plainKeys := false, apart := false, narrowed := true }
def PathsGrowUptoSaid : Prop := pathsGrowUptoRow.holds Tryz.pinned (OpenSpec.upto pathsGrowSpec)

/-- 'routescopelaw24.PathsDiamonds', WHERE WHAT IT READS IS OF BULK AT MOST 1048576: true; the input reads as it did. -/
def pathsDiamondsUptoRow : OpenClaim := { program := "ytnejdeklnmkhbaagreat", sum := "e45633a7d444cd1778a700bb870df05a09e459f402313e19f1aa750204139fdd", func := "routescope/routescopelaw24.PathsDiamonds", spec := "pathsDiamonds", unfollowed := true, recurses := true, plainKeys := false, apart := false, narrowed := true }
def PathsDiamondsUptoSaid : Prop := pathsDiamondsUptoRow.holds Tryz.pinned (OpenSpec.upto pathsDiamondsSpec)

/-- 'routescopelaw24.PathsDoubled', WHERE WHAT IT READS IS OF BULK AT MOST 1048576: true; the input reads as it did. -/
def pathsDoubledUptoRow : OpenClaim := { program := "ytnejdeklnmkhbaagreat", sum := "e45633a7d444cd1778a700bb870df05a09e459f402313e19f1aa750204139fdd", func := "routescope/routescopelaw24.PathsDoubled", spec := "pathsDoubled", unfollowed := true, recurses := true, plainKeys := false, apart := false, narrowed := true }
def PathsDoubledUptoSaid : Prop := pathsDoubledUptoRow.holds Tryz.pinned (OpenSpec.upto pathsDoubledSpec)

/-- 'routescopelaw24.PathsParts', WHERE WHAT IT READS IS OF BULK AT MOST 1048576: true; the input reads as it did. -/
def pathsPartsUptoRow : OpenClaim := { program := "ytnejdeklnmkhbaagreat", sum := "e45633a7d444cd1778a700bb870df05a09e459f402313e19f1aa750204139fdd", func := "routescope/routescopelaw24.PathsParts", spec := "pathsParts", unfollowed := true, recurses := true, plainKeys := false, apart := false, narrowed := true }
def PathsPartsUptoSaid : Prop := pathsPartsUptoRow.holds Tryz.pinned (OpenSpec.upto pathsPartsSpec)

/-- 'routescopelaw24.PathsResults', WHERE WHAT IT READS IS OF BULK AT MOST 1048576: true; the input reads as it did. -/
def pathsResultsUptoRow : OpenClaim := { program := "ytnejdeklnmkhbaagreat", sum := "e45633a7d444cd1778a700bb870df05a09e459f402313e19f1aa750204139fdd", func := "routescope/routescopelaw24.PathsResults", spec := "pathsResults", unfollowed := true, recurses := true, plainKeys := false, apart := false, narrowed := true }
def PathsResultsUptoSaid : Prop := pathsResultsUptoRow.holds Tryz.pinned (OpenSpec.upto pathsResultsSpec)

/-- 'routescopelaw24.PathsGraphs', WHERE WHAT IT READS IS OF BULK AT MOST 1048576: true; the input reads as it did. -/
def pathsGraphsUptoRow : OpenClaim := { program := "ytnejdeklnmkhbaagreat", sum := "e45633a7d444cd1778a700bb870df05a09e459f402313e19f1aa750204139fdd", func := "routescope/routescopelaw24.PathsGraphs", spec := "pathsGraphs", unfollowed := true, recurses := true, plainKeys := false, apart := false, narrowed := true }
def PathsGraphsUptoSaid : Prop := pathsGraphsUptoRow.holds Tryz.pinned (OpenSpec.upto pathsGraphsSpec)

end Rows
end Go.Proofs.YtnejdeklnmkhbaaGreat
