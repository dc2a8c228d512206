/-
  No cell of these rows narrows 'for every input' (looked for: loops, veiled, ifaces, maps, wideKeys, modest, calm, conditions, laid).
  DERIVED. THE GIVEN ROWS OF THIS SEAT. 6 by the template 'for every input the law returns true; each argument reads behind the call as it read before'; 0 by the template 'total and deterministic' (their statements: YtllaojnnackhhaaTotals.lean).
  GIVEN WITH THE SEED: the statements are not yours to turn. If you find one false, say at which input.
  Laid BY PROGRAM, IN A SANDBOX (cutbox-rows.mjs): the forced cells as the released guide's own fill.sh prints them over the translation 684224f77d588c2f… (all of the seat's roots in one cut). By AI agents, Wed Nov 11 2026. No macro, syntax, notation, axiom, sorry.
-/
import Derived.Test.YtllaojnnackhhaaChecked
import GoSem.Claim
import GoSem.ClaimJoined
import GoSem.ClaimMapViews
import Derived.JoinedTies
import Derived.KernelRfl
namespace Go.Proofs.Ytllaojnnackhhaa
/- THE CELL 'sum', in the pinned program and in every row, IS THE sha256 OF THE DUMP (.gsa) THAT YtllaojnnackhhaaProg.lean LOADS. Nothing in Lean hashes anything: it is a label: what it is worth is what the hold of that sum in a sandbox is worth. -/
noncomputable def Try.pinned : Pinned := { name := "ytllaojnnackhhaa", sum := "684224f77d588c2f13339aebda26ee515704c2c845f1a5bceb522e1314a5274d", checked := Try.checked }
namespace Rows
def none {H : Type} : Left H := { results := [], args := [] }

/-- 'routescopelaw04.WireOrder': WHATEVER THE INPUT: true; the input reads as it did. -/
def wireOrderSpec : ChangeSpec := { name := "wireOrder", fn := fun _ => fun
  | [d1, d2] => { results := [.lit (.bool true)], args := [d1, d2] }
  | _ => none }
def wireOrderRow : OpenClaim := { program := "ytllaojnnackhhaa", sum := "684224f77d588c2f13339aebda26ee515704c2c845f1a5bceb522e1314a5274d", func := "routescope/routescopelaw04.WireOrder", spec := "wireOrder", apart := false }
def WireOrderSaid : Prop := wireOrderRow.holds Try.pinned (OpenSpec.ofChange wireOrderSpec)

/-- ITS FALSE NEIGHBOUR: 'it returns false'. Refute it at one input. -/
def wireOrderWrong : ChangeSpec := { name := "wireOrder", fn := fun _ => fun
  | [d1, d2] => { results := [.lit (.bool false)], args := [d1, d2] }
  | _ => none }
def WireOrderWrongFalsely : Prop := wireOrderRow.holds Try.pinned (OpenSpec.ofChange wireOrderWrong)

/-- 'routescopelaw04.WireUpdate': WHATEVER THE INPUT: true; the input reads as it did. -/
def wireUpdateSpec : ChangeSpec := { name := "wireUpdate", fn := fun _ => fun
  | [d1, d2, d3] => { results := [.lit (.bool true)], args := [d1, d2, d3] }
  | _ => none }
def wireUpdateRow : OpenClaim := { program := "ytllaojnnackhhaa", sum := "684224f77d588c2f13339aebda26ee515704c2c845f1a5bceb522e1314a5274d", func := "routescope/routescopelaw04.WireUpdate", spec := "wireUpdate", apart := false }
def WireUpdateSaid : Prop := wireUpdateRow.holds Try.pinned (OpenSpec.ofChange wireUpdateSpec)

/-- ITS FALSE NEIGHBOUR: 'it returns false'. Refute it at one input. -/
def wireUpdateWrong : ChangeSpec := { name := "wireUpdate", fn := fun _ => fun
  | [d1, d2, d3] => { results := [.lit (.bool false)], args := [d1, d2, d3] }
  | _ => none }
def WireUpdateWrongFalsely : Prop := wireUpdateRow.holds Try.pinned (OpenSpec.ofChange wireUpdateWrong)

/-- 'routescopelaw04.WireExact': WHATEVER THE INPUT: true; the input reads as it did. -/
def wireExactSpec : ChangeSpec := { name := "wireExact", fn := fun _ => fun
  | [d1, d2, d3, d4, d5, d6] => { results := [.lit (.bool true)], args := [d1, d2, d3, d4, d5, d6] }
  | _ => none }
def wireExactRow : OpenClaim := { program := "ytllaojnnackhhaa", sum := "684224f77d588c2f13339aebda26ee515704c2c845f1a5bceb522e1314a5274d", func := "routescope/routescopelaw04.WireExact", spec := "wireExact", recurses := true, apart := false }
def WireExactSaid : Prop := wireExactRow.holds Try.pinned (OpenSpec.ofChange wireExactSpec)

/-- ITS FALSE NEIGHBOUR: 'it returns false'. Refute it at one input. -/
def wireExactWrong : ChangeSpec := { name := "wireExact", fn := fun _ => fun
  | [d1, d2, d3, d4, d5, d6] => { results := [.lit (.bool false)], args := [d1, d2, d3, d4, d5, d6] }
  | _ => none }
def WireExactWrongFalsely : Prop := wireExactRow.holds Try.pinned (OpenSpec.ofChange wireExactWrong)

/-- 'routescopelaw05.Ipv4Back': WHATEVER THE INPUT: true; the input reads as it did. -/
def ipv4BackSpec : ChangeSpec := { name := "ipv4Back", fn := fun _ => fun
  | [d1, d2] => { results := [.lit (.bool true)], args := [d1, d2] }
  | _ => none }
def ipv4BackRow : OpenClaim := { program := "ytllaojnnackhhaa", sum := "684224f77d588c2f13339aebda26ee515704c2c845f1a5bceb522e1314a5274d", func := "routescope/routescopelaw05.Ipv4Back", spec := "ipv4Back", unfollowed := true, recurses := true, apart := false }
def Ipv4BackSaid : Prop := ipv4BackRow.holds Try.pinned (OpenSpec.ofChange ipv4BackSpec)

/-- ITS FALSE NEIGHBOUR: 'it returns false'. Refute it at one input. -/
def ipv4BackWrong : ChangeSpec := { name := "ipv4Back", fn := fun _ => fun
  | [d1, d2] => { results := [.lit (.bool false)], args := [d1, d2] }
  | _ => none }
def Ipv4BackWrongFalsely : Prop := ipv4BackRow.holds Try.pinned (OpenSpec.ofChange ipv4BackWrong)

/-- 'routescopelaw05.Ipv4Exact': WHATEVER THE INPUT: true; the input reads as it did. -/
def ipv4ExactSpec : ChangeSpec := { name := "ipv4Exact", fn := fun _ => fun
  | [d1, d2, d3, d4] => { results := [.lit (.bool true)], args := [d1, d2, d3, d4] }
  | _ => none }
def ipv4ExactRow : OpenClaim := { program := "ytllaojnnackhhaa", sum := "684224f77d588c2f13339aebda26ee515704c2c845f1a5bceb522e1314a5274d", func := "routescope/routescopelaw05.Ipv4Exact", spec := "ipv4Exact", unfollowed := true, recurses := true, apart := false }
def Ipv4ExactSaid : Prop := ipv4ExactRow.holds Try.pinned (OpenSpec.ofChange ipv4ExactSpec)

/-- ITS FALSE NEIGHBOUR: 'it returns false'. Refute it at one input. -/
def ipv4ExactWrong : ChangeSpec := { name := "ipv4Exact", fn := fun _ => fun
  | [d1, d2, d3, d4] => { results := [.lit (.bool false)], args := [d1, d2, d3, d4] }
  | _ => none }
def Ipv4ExactWrongFalsely : Prop := ipv4ExactRow.holds Try.pinned (OpenSpec.ofChange ipv4ExactWrong)

/-- 'routescopelaw05.Ipv4Lowers': WHATEVER THE INPUT: true; the input reads as it did. -/
def ipv4LowersSpec : ChangeSpec := { name := "ipv4Lowers", fn := fun _ => fun
  | [d1, d2, d3] => { results := [.lit (.bool true)], args := [d1, d2, d3] }
  | _ => none }
def ipv4LowersRow : OpenClaim := { program := "ytllaojnnackhhaa", sum := "684224f77d588c2f13339aebda26ee515704c2c845f1a5bceb522e1314a5274d", func := "routescope/routescopelaw05.Ipv4Lowers", spec := "ipv4Lowers", unfollowed := true, recurses := true, apart := false }
def Ipv4LowersSaid : Prop := ipv4LowersRow.holds Try.pinned (OpenSpec.ofChange ipv4LowersSpec)

/-- ITS FALSE NEIGHBOUR: 'it returns false'. Refute it at one input. -/
def ipv4LowersWrong : ChangeSpec := { name := "ipv4Lowers", fn := fun _ => fun
  | [d1, d2, d3] => { results := [.lit (.bool false)], args := [d1, d2, d3] }
  | _ => none }
def Ipv4LowersWrongFalsely : Prop := ipv4LowersRow.holds Try.pinned (OpenSpec.ofChange ipv4LowersWrong)

/- THE SECOND FORM. 'bulk': how many values and letters a reading holds, each counted each time it is reached (what is shared counts as often as it is met; a slice's spare places count too). A statement '..UptoSaid' is the law's where the arguments, and the package variables that the reading takes, are together of bulk at most 1048576: NARROWER than '..Said'. Prove '..Said' where nothing that the law and all that it calls make is longer than what came in: it says more and counts as full. Else prove '..UptoSaid'. A law counts once. -/
mutual
def uptoBulk {H : Type} : DataW H → Nat
  | .lit (.string bytes) => bytes.length + 1
  | .lit _ => 1
  | .nil => 1
  | .ptr d => uptoBulk d + 1
  | .slice elems spare => uptoBulkAll elems + uptoBulkAll spare + 1
  | .agg parts => uptoBulkAll parts + 1
  | .iface _ d => uptoBulk d + 1
  | .map entries => uptoBulkEntries entries + 1
  | .held _ => 1
def uptoBulkAll {H : Type} : List (DataW H) → Nat
  | [] => 0
  | d :: r => uptoBulk d + uptoBulkAll r
def uptoBulkEntries {H : Type} : List (Lit × DataW H) → Nat
  | [] => 0
  | x :: r => uptoBulkEntry x + uptoBulkEntries r
def uptoBulkEntry {H : Type} : Lit × DataW H → Nat
  | (.string bytes, d) => bytes.length + uptoBulk d + 1
  | (_, d) => uptoBulk d + 1
 end
def uptoSmall : (H : Type) → List (DataW H) → Bool := fun _ ds => decide (uptoBulkAll ds ≤ 1048576)
def OpenSpec.upto (s : _root_.Go.ChangeSpec) : _root_.Go.OpenSpec := { _root_.Go.OpenSpec.ofChange s with cond := some uptoSmall }

/-- 'routescopelaw04.WireOrder', WHERE WHAT IT READS IS OF BULK AT MOST 1048576: true; the input reads as it did. -/
def wireOrderUptoRow : OpenClaim := { program := "ytllaojnnackhhaa", sum := "684224f77d588c2f13339aebda26ee515704c2c845f1a5bceb522e1314a5274d", func := "routescope/routescopelaw04.WireOrder", spec := "wireOrder", apart := false, narrowed := true }
def WireOrderUptoSaid : Prop := wireOrderUptoRow.holds Try.pinned (OpenSpec.upto wireOrderSpec)

/-- 'routescopelaw04.WireUpdate', WHERE WHAT IT READS IS OF BULK AT MOST 1048576: true; the input reads as it did. -/
def wireUpdateUptoRow : OpenClaim := { program := "ytllaojnnackhhaa", sum := "684224f77d588c2f13339aebda26ee515704c2c845f1a5bceb522e1314a5274d", func := "routescope/routescopelaw04.WireUpdate", spec := "wireUpdate", apart := false, narrowed := true }
def WireUpdateUptoSaid : Prop := wireUpdateUptoRow.holds Try.pinned (OpenSpec.upto wireUpdateSpec)

/-- 'routescopelaw04.WireExact', WHERE WHAT IT READS IS OF BULK AT MOST 1048576: true; the input reads as it did. -/
def wireExactUptoRow : OpenClaim := { program := "ytllaojnnackhhaa", sum := "684224f77d588c2f13339aebda26ee515704c2c845f1a5bceb522e1314a5274d", func := "routescope/routescopelaw04.WireExact", spec := "wireExact", recurses := true, apart := false, narrowed := true }
def WireExactUptoSaid : Prop := wireExactUptoRow.holds Try.pinned (OpenSpec.upto wireExactSpec)

/-- 'routescopelaw05.Ipv4Back', WHERE WHAT IT READS IS OF BULK AT MOST 1048576: true; the input reads as it did. -/
def ipv4BackUptoRow : OpenClaim := { program := "ytllaojnnackhhaa", sum := "684224f77d588c2f13339aebda26ee515704c2c845f1a5bceb522e1314a5274d", func := "routescope/routescopelaw05.Ipv4Back", spec := "ipv4Back", unfollowed := true, recurses := true, apart := false, narrowed := true }
def Ipv4BackUptoSaid : Prop := ipv4BackUptoRow.holds Try.pinned (OpenSpec.upto ipv4BackSpec)

/-- 'routescopelaw05.Ipv4Exact', WHERE WHAT IT READS IS OF BULK AT MOST 1048576: true; the input reads as it did. -/
def ipv4ExactUptoRow : OpenClaim := { program := "ytllaojnnackhhaa", sum := "684224f77d588c2f13339aebda26ee515704c2c845f1a5bceb522e1314a5274d", func := "routescope/routescopelaw05.Ipv4Exact", spec := "ipv4Exact", unfollowed := true, recurses := true, apart := false, narrowed := true }
def Ipv4ExactUptoSaid : Prop := ipv4ExactUptoRow.holds Try.pinned (OpenSpec.upto ipv4ExactSpec)

/-- 'routescopelaw05.Ipv4Lowers', WHERE WHAT IT READS IS OF BULK AT MOST 1048576: true; the input reads as it did. -/
def ipv4LowersUptoRow : OpenClaim := { program := "ytllaojnnackhhaa", sum := "684224f77d588c2f13339aebda26ee515704c2c845f1a5bceb522e1314a5274d", func := "routescope/routescopelaw05.Ipv4Lowers", spec := "ipv4Lowers", unfollowed := true, recurses := true, apart := false, narrowed := true }
def Ipv4LowersUptoSaid : Prop := ipv4LowersUptoRow.holds Try.pinned (OpenSpec.upto ipv4LowersSpec)

end Rows
end Go.Proofs.Ytllaojnnackhhaa
