/-
  No cell of these rows narrows 'for every input' (looked for: loops, veiled, ifaces, maps, wideKeys, modest, calm, conditions, laid).
  DERIVED. THE GIVEN ROWS OF THIS SEAT. 3 by the template 'for every input the law returns true; each argument reads behind the call as it read before'; 0 by the template 'total and deterministic' (their statements: YtmbcclgnjobikaaTotals.lean).
  GIVEN WITH THE SEED: the statements are not yours to turn. If you find one false, say at which input.
  Laid BY PROGRAM, IN A SANDBOX (cutbox-rows.mjs): the forced cells as the released guide's own fill.sh prints them over the translation 92bb6298036d7da1… (all of the seat's roots in one cut). By AI agents, Wed Nov 11 2026. No macro, syntax, notation, axiom, sorry.
-/
import Derived.Test.YtmbcclgnjobikaaChecked
import GoSem.Claim
import GoSem.ClaimJoined
import GoSem.ClaimMapViews
import Derived.JoinedTies
import Derived.KernelRfl
namespace Go.Proofs.Ytmbcclgnjobikaa
/- THE CELL 'sum', in the pinned program and in every row, IS THE sha256 OF THE DUMP (.gsa) THAT YtmbcclgnjobikaaProg.lean LOADS. Nothing in Lean hashes anything: it is a label: what it is worth is what the hold of that sum in a sandbox is worth. -/
noncomputable def Try.pinned : Pinned := { name := "ytmbcclgnjobikaa", sum := "92bb6298036d7da1861a1a905c7f102cdfca09da65eb0650c0acc51e85fae712", checked := Try.checked }
namespace Rows
def none {H : Type} : Left H := { results := [], args := [] }

/-- 'routescopelaw33.BorderCounts': WHATEVER THE INPUT: true; the input reads as it did. -/
def borderCountsSpec : ChangeSpec := { name := "borderCounts", fn := fun _ => fun
  | [d] => { results := [.lit (.bool true)], args := [d] }
  | _ => none }
def borderCountsRow : OpenClaim := { program := "ytmbcclgnjobikaa", sum := "92bb6298036d7da1861a1a905c7f102cdfca09da65eb0650c0acc51e85fae712", func := "routescope/routescopelaw33.BorderCounts", spec := "borderCounts", unfollowed := true, recurses := true, apart := false }
def BorderCountsSaid : Prop := borderCountsRow.holds Try.pinned (OpenSpec.ofChange borderCountsSpec)

/-- ITS FALSE NEIGHBOUR: 'it returns false'. Refute it at one input. -/
def borderCountsWrong : ChangeSpec := { name := "borderCounts", fn := fun _ => fun
  | [d] => { results := [.lit (.bool false)], args := [d] }
  | _ => none }
def BorderCountsWrongFalsely : Prop := borderCountsRow.holds Try.pinned (OpenSpec.ofChange borderCountsWrong)

/-- 'routescopelaw33.BorderTruth': WHATEVER THE INPUT: true; the input reads as it did. -/
def borderTruthSpec : ChangeSpec := { name := "borderTruth", fn := fun _ => fun
  | [d] => { results := [.lit (.bool true)], args := [d] }
  | _ => none }
def borderTruthRow : OpenClaim := { program := "ytmbcclgnjobikaa", sum := "92bb6298036d7da1861a1a905c7f102cdfca09da65eb0650c0acc51e85fae712", func := "routescope/routescopelaw33.BorderTruth", spec := "borderTruth", unfollowed := true, recurses := true, apart := false }
def BorderTruthSaid : Prop := borderTruthRow.holds Try.pinned (OpenSpec.ofChange borderTruthSpec)

/-- ITS FALSE NEIGHBOUR: 'it returns false'. Refute it at one input. -/
def borderTruthWrong : ChangeSpec := { name := "borderTruth", fn := fun _ => fun
  | [d] => { results := [.lit (.bool false)], args := [d] }
  | _ => none }
def BorderTruthWrongFalsely : Prop := borderTruthRow.holds Try.pinned (OpenSpec.ofChange borderTruthWrong)

/-- 'routescopelaw33.BorderVotes': WHATEVER THE INPUT: true; the input reads as it did. -/
def borderVotesSpec : ChangeSpec := { name := "borderVotes", fn := fun _ => fun
  | [d] => { results := [.lit (.bool true)], args := [d] }
  | _ => none }
def borderVotesRow : OpenClaim := { program := "ytmbcclgnjobikaa", sum := "92bb6298036d7da1861a1a905c7f102cdfca09da65eb0650c0acc51e85fae712", func := "routescope/routescopelaw33.BorderVotes", spec := "borderVotes", unfollowed := true, recurses := true, apart := false }
def BorderVotesSaid : Prop := borderVotesRow.holds Try.pinned (OpenSpec.ofChange borderVotesSpec)

/-- ITS FALSE NEIGHBOUR: 'it returns false'. Refute it at one input. -/
def borderVotesWrong : ChangeSpec := { name := "borderVotes", fn := fun _ => fun
  | [d] => { results := [.lit (.bool false)], args := [d] }
  | _ => none }
def BorderVotesWrongFalsely : Prop := borderVotesRow.holds Try.pinned (OpenSpec.ofChange borderVotesWrong)

/- THE SECOND FORM. 'bulk': how many values and letters a reading holds, each counted each time it is reached (what is shared counts as often as it is met; a slice's spare places count too). A statement '..UptoSaid' is the law's where the arguments, and the package variables that the reading takes, are together of bulk at most 1048576: NARROWER than '..Said'. Prove '..Said' where nothing that the law and all that it calls make is longer than what came in: it says more and counts as full. Else prove '..UptoSaid'. A law counts once. -/
mutual
def uptoBulk {H : Type} : DataW H → Nat
  | .lit (.string bytes) => bytes.length + 1
  | .lit _ => 1
  | .nil => 1
  | .ptr d => uptoBulk d + 1
  | .slice elems spare => uptoBulkAll elems + uptoBulkAll spare + 1
  | .agg parts => uptoBulkAll parts + 1
  | .iface _ d => uptoBulk d + 1
  | .map entries => uptoBulkEntries entries + 1
  | .held _ => 1
def uptoBulkAll {H : Type} : List (DataW H) → Nat
  | [] => 0
  | d :: r => uptoBulk d + uptoBulkAll r
def uptoBulkEntries {H : Type} : List (Lit × DataW H) → Nat
  | [] => 0
  | x :: r => uptoBulkEntry x + uptoBulkEntries r
def uptoBulkEntry {H : Type} : Lit × DataW H → Nat
  | (.string bytes, d) => bytes.length + uptoBulk d + 1
  | (_, d) => uptoBulk d + 1
 end
def uptoSmall : (H : Type) → List (DataW H) → Bool := fun _ ds => decide (uptoBulkAll ds ≤ 1048576)
def OpenSpec.upto (s : _root_.Go.ChangeSpec) : _root_.Go.OpenSpec := { _root_.Go.OpenSpec.ofChange s with cond := some uptoSmall }

/-- 'routescopelaw33.BorderCounts', WHERE WHAT IT READS IS OF BULK AT MOST 1048576: true; the input reads as it did. -/
def borderCountsUptoRow : OpenClaim := { program := "ytmbcclgnjobikaa", sum := "92bb6298036d7da1861a1a905c7f102cdfca09da65eb0650c0acc51e85fae712", func := "routescope/routescopelaw33.BorderCounts", spec := "borderCounts", unfollowed := true, recurses := true, apart := false, narrowed := true }
def BorderCountsUptoSaid : Prop := borderCountsUptoRow.holds Try.pinned (OpenSpec.upto borderCountsSpec)

/-- 'routescopelaw33.BorderTruth', WHERE WHAT IT READS IS OF BULK AT MOST 1048576: true; the input reads as it did. -/
def borderTruthUptoRow : OpenClaim := { program := "ytmbcclgnjobikaa", sum := "92bb6298036d7da1861a1a905c7f102cdfca09da65eb0650c0acc51e85fae712", func := "routescope/routescopelaw33.BorderTruth", spec := "borderTruth", unfollowed := true, recurses := true, apart := false, narrowed := true }
def BorderTruthUptoSaid : Prop := borderTruthUptoRow.holds Try.pinned (OpenSpec.upto borderTruthSpec)

/-- 'routescopelaw33.BorderVotes', WHERE WHAT IT READS IS OF BULK AT MOST 1048576: true; the input reads as it did. -/
def borderVotesUptoRow : OpenClaim := { program := "ytmbcclgnjobikaa", sum := "92bb6298036d7da1861a1a905c7f102cdfca09da65eb0650c0acc51e85fae712", func := "routescope/routescopelaw33.BorderVotes", spec := "borderVotes", unfollowed := true, recurses := true, apart := false, narrowed := true }
def BorderVotesUptoSaid : Prop := borderVotesUptoRow.holds Try.pinned (OpenSpec.upto borderVotesSpec)

end Rows
end Go.Proofs.Ytmbcclgnjobikaa
