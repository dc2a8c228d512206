/-
  No cell of these rows narrows 'for every input' (looked for: loops, veiled, ifaces, maps, wideKeys, modest, calm, conditions, laid).
  DERIVED. THE GIVEN ROWS OF THIS SEAT. 12 by the template 'for every input the law returns true; each argument reads behind the call as it read before'; 0 by the template 'total and deterministic' (their statements: YtijmpjfafpodhaaGreatTotals.lean).
  GIVEN WITH THE SEED: the statements are not yours to turn. If you find one false, say at which input.
  Laid BY PROGRAM, IN A SANDBOX (cutbox-rows.mjs): the forced cells as the released guide's own fill.sh prints them over the translation 3f2cc5741c120d68… (all of the seat's roots in one cut). By AI agents, Wed Nov 11 2026. No macro, syntax, notation, axiom, sorry.
-/
import Derived.Test.YtijmpjfafpodhaaGreatChecked
import GoSem.Claim
import GoSem.ClaimJoined
import GoSem.ClaimMapViews
import Derived.JoinedTies
import Derived.KernelRfl
namespace Go.Proofs.YtijmpjfafpodhaaGreat
/- THE CELL 'sum', in the pinned program and in every row, IS THE sha256 OF THE DUMP (.gsa) THAT YtijmpjfafpodhaaGreatProg.lean LOADS. Nothing in Lean hashes anything: it is a label: what it is worth is what the hold of that sum in a sandbox is worth. -/
noncomputable def Tryz.pinned : Pinned := { name := "ytijmpjfafpodhaagreat", sum := "3f2cc5741c120d685652063e51831d1f5de475be2db10b4dababe0f183f3fa35", checked := Tryz.checked }
namespace Rows
def none {H : Type} : Left H := { results := [], args := [] }

/-- 'routescopelaw41.AnomalyProves': WHATEVER THE INPUT: true; the input reads as it did. -/
def anomalyProvesSpec : ChangeSpec := { name := "anomalyProves", fn := fun _ => fun
  | [d1, d2, d3, d4, d5, d6] => { results := [.lit (.bool true)], args := [d1, d2, d3, d4, d5, d6] }
  | _ => none }
def anomalyProvesRow : OpenClaim := { program := "ytijmpjfafpodhaagreat", sum := "3f2cc5741c120d685652063e51831d1f5de475be2db10b4dababe0f183f3fa35", func := "routescope/routescopelaw41.AnomalyProves", spec := "anomalyProves", unfollowed := true, recurses := true, plainKeys := false, apart := false }
def AnomalyProvesSaid : Prop := anomalyProvesRow.holds Tryz.pinned (OpenSpec.ofChange anomalyProvesSpec)

/-- ITS FALSE NEIGHBOUR: 'it returns false'. Refute it at one input. -/
def anomalyProvesWrong : ChangeSpec := { name := "anomalyProves", fn := fun _ => fun
  | [d1, d2, d3, d4, d5, d6] => { results := [.lit (.bool false)], args := [d1, d2, d3, d4, d5, d6] }
  | _ => none }
def AnomalyProvesWrongFalsely : Prop := anomalyProvesRow.holds Tryz.pinned (OpenSpec.ofChange anomalyProvesWrong)

/-- 'routescopelaw41.AnomalyFinds': WHATEVER THE INPUT: true; the input reads as it did. -/
def anomalyFindsSpec : ChangeSpec := { name := "anomalyFinds", fn := fun _ => fun
  | [d1, d2, d3, d4] => { results := [.lit (.bool true)], args := [d1, d2, d3, d4] }
  | _ => none }
def anomalyFindsRow : OpenClaim := { program := "ytijmpjfafpodhaagreat", sum := "3f2cc5741c120d685652063e51831d1f5de475be2db10b4dababe0f183f3fa35", func := "routescope/routescopelaw41.AnomalyFinds", spec := "anomalyFinds", unfollowed := true, recurses := true, plainKeys := false, apart := false }
def AnomalyFindsSaid : Prop := anomalyFindsRow.holds Tryz.pinned (OpenSpec.ofChange anomalyFindsSpec)

/-- ITS FALSE NEIGHBOUR: 'it returns false'. Refute it at one input. -/
def anomalyFindsWrong : ChangeSpec := { name := "anomalyFinds", fn := fun _ => fun
  | [d1, d2, d3, d4] => { results := [.lit (.bool false)], args := [d1, d2, d3, d4] }
  | _ => none }
def AnomalyFindsWrongFalsely : Prop := anomalyFindsRow.holds Tryz.pinned (OpenSpec.ofChange anomalyFindsWrong)

/-- 'routescopelaw41.AnomalyMonotone': WHATEVER THE INPUT: true; the input reads as it did. -/
def anomalyMonotoneSpec : ChangeSpec := { name := "anomalyMonotone", fn := fun _ => fun
  | [d] => { results := [.lit (.bool true)], args := [d] }
  | _ => none }
def anomalyMonotoneRow : OpenClaim := { program := "ytijmpjfafpodhaagreat", sum := "3f2cc5741c120d685652063e51831d1f5de475be2db10b4dababe0f183f3fa35", func := "routescope/routescopelaw41.AnomalyMonotone", spec := "anomalyMonotone", unfollowed := true, recurses := true, plainKeys := false, apart := false }
def AnomalyMonotoneSaid : Prop := anomalyMonotoneRow.holds Tryz.pinned (OpenSpec.ofChange anomalyMonotoneSpec)

/-- ITS FALSE NEIGHBOUR: 'it returns false'. Refute it at one input. -/
def anomalyMonotoneWrong : ChangeSpec := { name := "anomalyMonotone", fn := fun _ => fun
  | [d] => { results := [.lit (.bool false)], args := [d] }
  | _ => none }
def AnomalyMonotoneWrongFalsely : Prop := anomalyMonotoneRow.holds Tryz.pinned (OpenSpec.ofChange anomalyMonotoneWrong)

/-- 'routescopelaw41.AnomalyRules': WHATEVER THE INPUT: true; the input reads as it did. -/
def anomalyRulesSpec : ChangeSpec := { name := "anomalyRules", fn := fun _ => fun
  | [d] => { results := [.lit (.bool true)], args := [d] }
  | _ => none }
def anomalyRulesRow : OpenClaim := { program := "ytijmpjfafpodhaagreat", sum := "3f2cc5741c120d685652063e51831d1f5de475be2db10b4dababe0f183f3fa35", func := "routescope/routescopelaw41.AnomalyRules", spec := "anomalyRules", unfollowed := true, recurses := true, plainKeys := false, apart := false }
def AnomalyRulesSaid : Prop := anomalyRulesRow.holds Tryz.pinned (OpenSpec.ofChange anomalyRulesSpec)

/-- ITS FALSE NEIGHBOUR: 'it returns false'. Refute it at one input. -/
def anomalyRulesWrong : ChangeSpec := { name := "anomalyRules", fn := fun _ => fun
  | [d] => { results := [.lit (.bool false)], args := [d] }
  | _ => none }
def AnomalyRulesWrongFalsely : Prop := anomalyRulesRow.holds Tryz.pinned (OpenSpec.ofChange anomalyRulesWrong)

/-- 'routescopelaw41.AnomalyComplete': WHATEVER THE INPUT: true; the input reads as it did. -/
def anomalyCompleteSpec : ChangeSpec := { name := "anomalyComplete", fn := fun _ => fun
  | [d] => { results := [.lit (.bool true)], args := [d] }
  | _ => none }
def anomalyCompleteRow : OpenClaim := { program := "ytijmpjfafpodhaagreat", sum := "3f2cc5741c120d685652063e51831d1f5de475be2db10b4dababe0f183f3fa35", func := "routescope/routescopelaw41.AnomalyComplete", spec := "anomalyComplete", unfollowed := true, recurses := true, plainKeys := false, apart := false }
def AnomalyCompleteSaid : Prop := anomalyCompleteRow.holds Tryz.pinned (OpenSpec.ofChange anomalyCompleteSpec)

/-- ITS FALSE NEIGHBOUR: 'it returns false'. Refute it at one input. -/
def anomalyCompleteWrong : ChangeSpec := { name := "anomalyComplete", fn := fun _ => fun
  | [d] => { results := [.lit (.bool false)], args := [d] }
  | _ => none }
def AnomalyCompleteWrongFalsely : Prop := anomalyCompleteRow.holds Tryz.pinned (OpenSpec.ofChange anomalyCompleteWrong)

/-- 'routescopelaw41.AnomalyQuiet': WHATEVER THE INPUT: true; the input reads as it did. -/
def anomalyQuietSpec : ChangeSpec := { name := "anomalyQuiet", fn := fun _ => fun
  | [d] => { results := [.lit (.bool true)], args := [d] }
  | _ => none }
def anomalyQuietRow : OpenClaim := { program := "ytijmpjfafpodhaagreat", sum := "3f2cc5741c120d685652063e51831d1f5de475be2db10b4dababe0f183f3fa35", func := "routescope/routescopelaw41.AnomalyQuiet", spec := "anomalyQuiet", unfollowed := true, recurses := true, plainKeys := false, apart := false }
def AnomalyQuietSaid : Prop := anomalyQuietRow.holds Tryz.pinned (OpenSpec.ofChange anomalyQuietSpec)

/-- ITS FALSE NEIGHBOUR: 'it returns false'. Refute it at one input. -/
def anomalyQuietWrong : ChangeSpec := { name := "anomalyQuiet", fn := fun _ => fun
  | [d] => { results := [.lit (.bool false)], args := [d] }
  | _ => none }
def AnomalyQuietWrongFalsely : Prop := anomalyQuietRow.holds Tryz.pinned (OpenSpec.ofChange anomalyQuietWrong)

/-- 'routescopelaw42.MinimalProves': WHATEVER THE INPUT: true; the input reads as it did. -/
def minimalProvesSpec : ChangeSpec := { name := "minimalProves", fn := fun _ => fun
  | [d] => { results := [.lit (.bool true)], args := [d] }
  | _ => none }
def minimalProvesRow : OpenClaim := { program := "ytijmpjfafpodhaagreat", sum := "3f2cc5741c120d685652063e51831d1f5de475be2db10b4dababe0f183f3fa35", func := "routescope/routescopelaw42.MinimalProves", spec := "minimalProves", unfollowed := true, recurses := true, plainKeys := false, apart := false }
def MinimalProvesSaid : Prop := minimalProvesRow.holds Tryz.pinned (OpenSpec.ofChange minimalProvesSpec)

/-- ITS FALSE NEIGHBOUR: 'it returns false'. Refute it at one input. -/
def minimalProvesWrong : ChangeSpec := { name := "minimalProves", fn := fun _ => fun
  | [d] => { results := [.lit (.bool false)], args := [d] }
  | _ => none }
def MinimalProvesWrongFalsely : Prop := minimalProvesRow.holds Tryz.pinned (OpenSpec.ofChange minimalProvesWrong)

/-- 'routescopelaw42.MinimalLeast': WHATEVER THE INPUT: true; the input reads as it did. -/
def minimalLeastSpec : ChangeSpec := { name := "minimalLeast", fn := fun _ => fun
  | [d] => { results := [.lit (.bool true)], args := [d] }
  | _ => none }
def minimalLeastRow : OpenClaim := { program := "ytijmpjfafpodhaagreat", sum := "3f2cc5741c120d685652063e51831d1f5de475be2db10b4dababe0f183f3fa35", func := "routescope/routescopelaw42.MinimalLeast", spec := "minimalLeast", unfollowed := true, recurses := true, plainKeys := false, apart := false }
def MinimalLeastSaid : Prop := minimalLeastRow.holds Tryz.pinned (OpenSpec.ofChange minimalLeastSpec)

/-- ITS FALSE NEIGHBOUR: 'it returns false'. Refute it at one input. -/
def minimalLeastWrong : ChangeSpec := { name := "minimalLeast", fn := fun _ => fun
  | [d] => { results := [.lit (.bool false)], args := [d] }
  | _ => none }
def MinimalLeastWrongFalsely : Prop := minimalLeastRow.holds Tryz.pinned (OpenSpec.ofChange minimalLeastWrong)

/-- 'routescopelaw42.MinimalOrder': WHATEVER THE INPUT: true; the input reads as it did. -/
def minimalOrderSpec : ChangeSpec := { name := "minimalOrder", fn := fun _ => fun
  | [d] => { results := [.lit (.bool true)], args := [d] }
  | _ => none }
def minimalOrderRow : OpenClaim := { program := "ytijmpjfafpodhaagreat", sum := "3f2cc5741c120d685652063e51831d1f5de475be2db10b4dababe0f183f3fa35", func := "routescope/routescopelaw42.MinimalOrder", spec := "minimalOrder", unfollowed := true, recurses := true, plainKeys := false, apart := false }
def MinimalOrderSaid : Prop := minimalOrderRow.holds Tryz.pinned (OpenSpec.ofChange minimalOrderSpec)

/-- ITS FALSE NEIGHBOUR: 'it returns false'. Refute it at one input. -/
def minimalOrderWrong : ChangeSpec := { name := "minimalOrder", fn := fun _ => fun
  | [d] => { results := [.lit (.bool false)], args := [d] }
  | _ => none }
def MinimalOrderWrongFalsely : Prop := minimalOrderRow.holds Tryz.pinned (OpenSpec.ofChange minimalOrderWrong)

/-- 'routescopelaw42.MinimalSteps': WHATEVER THE INPUT: true; the input reads as it did. -/
def minimalStepsSpec : ChangeSpec := { name := "minimalSteps", fn := fun _ => fun
  | [d1, d2, d3, d4, d5, d6] => { results := [.lit (.bool true)], args := [d1, d2, d3, d4, d5, d6] }
  | _ => none }
def minimalStepsRow : OpenClaim := { program := "ytijmpjfafpodhaagreat", sum := "3f2cc5741c120d685652063e51831d1f5de475be2db10b4dababe0f183f3fa35", func := "routescope/routescopelaw42.MinimalSteps", spec := "minimalSteps", unfollowed := true, recurses := true, plainKeys := false, apart := false }
def MinimalStepsSaid : Prop := minimalStepsRow.holds Tryz.pinned (OpenSpec.ofChange minimalStepsSpec)

/-- ITS FALSE NEIGHBOUR: 'it returns false'. Refute it at one input. -/
def minimalStepsWrong : ChangeSpec := { name := "minimalSteps", fn := fun _ => fun
  | [d1, d2, d3, d4, d5, d6] => { results := [.lit (.bool false)], args := [d1, d2, d3, d4, d5, d6] }
  | _ => none }
def MinimalStepsWrongFalsely : Prop := minimalStepsRow.holds Tryz.pinned (OpenSpec.ofChange minimalStepsWrong)

/-- 'routescopelaw42.MinimalDisjoint': WHATEVER THE INPUT: true; the input reads as it did. -/
def minimalDisjointSpec : ChangeSpec := { name := "minimalDisjoint", fn := fun _ => fun
  | [d] => { results := [.lit (.bool true)], args := [d] }
  | _ => none }
def minimalDisjointRow : OpenClaim := { program := "ytijmpjfafpodhaagreat", sum := "3f2cc5741c120d685652063e51831d1f5de475be2db10b4dababe0f183f3fa35", func := "routescope/routescopelaw42.MinimalDisjoint", spec := "minimalDisjoint", unfollowed := true, recurses := true, plainKeys := false, apart := false }
def MinimalDisjointSaid : Prop := minimalDisjointRow.holds Tryz.pinned (OpenSpec.ofChange minimalDisjointSpec)

/-- ITS FALSE NEIGHBOUR: 'it returns false'. Refute it at one input. -/
def minimalDisjointWrong : ChangeSpec := { name := "minimalDisjoint", fn := fun _ => fun
  | [d] => { results := [.lit (.bool false)], args := [d] }
  | _ => none }
def MinimalDisjointWrongFalsely : Prop := minimalDisjointRow.holds Tryz.pinned (OpenSpec.ofChange minimalDisjointWrong)

/-- 'routescopelaw42.MinimalContradicts': WHATEVER THE INPUT: true; the input reads as it did. -/
def minimalContradictsSpec : ChangeSpec := { name := "minimalContradicts", fn := fun _ => fun
  | [d] => { results := [.lit (.bool true)], args := [d] }
  | _ => none }
def minimalContradictsRow : OpenClaim := { program := "ytijmpjfafpodhaagreat", sum := "3f2cc5741c120d685652063e51831d1f5de475be2db10b4dababe0f183f3fa35", func := "routescope/routescopelaw42.MinimalContradicts", spec := "minimalContradicts", unfollowed := true, recurses := true, plainKeys := false, apart := false }
def MinimalContradictsSaid : Prop := minimalContradictsRow.holds Tryz.pinned (OpenSpec.ofChange minimalContradictsSpec)

/-- ITS FALSE NEIGHBOUR: 'it returns false'. Refute it at one input. -/
def minimalContradictsWrong : ChangeSpec := { name := "minimalContradicts", fn := fun _ => fun
  | [d] => { results := [.lit (.bool false)], args := [d] }
  | _ => none }
def MinimalContradictsWrongFalsely : Prop := minimalContradictsRow.holds Tryz.pinned (OpenSpec.ofChange minimalContradictsWrong)

/- THE SECOND FORM. 'bulk': how many values and letters a reading holds, each counted each time it is reached (what is shared counts as often as it is met; a slice's spare places count too). A statement '..UptoSaid' is the law's where the arguments, and the package variables that the reading takes, are together of bulk at most 1048576: NARROWER than '..Said'. Prove '..Said' where nothing that the law and all that it calls make is longer than what came in: it says more and counts as full. Else prove '..UptoSaid'. A law counts once. -/
mutual
def uptoBulk {H : Type} : DataW H → Nat
  | .lit (.string bytes) => bytes.length + 1
  | .lit _ => 1
  | .nil => 1
  | .ptr d => uptoBulk d + 1
  | .slice elems spare => uptoBulkAll elems + uptoBulkAll spare + 1
  | .agg parts => uptoBulkAll parts + 1
  | .iface _ d => uptoBulk d + 1
  | .map entries => uptoBulkEntries entries + 1
  | .held _ => 1
def uptoBulkAll {H : Type} : List (DataW H) → Nat
  | [] => 0
  | d :: r => uptoBulk d + uptoBulkAll r
def uptoBulkEntries {H : Type} : List (Lit × DataW H) → Nat
  | [] => 0
  | x :: r => uptoBulkEntry x + uptoBulkEntries r
def uptoBulkEntry {H : Type} : Lit × DataW H → Nat
  | (.string bytes, d) => bytes.length + uptoBulk d + 1
  | (_, d) => uptoBulk d + 1
 end
def uptoSmall : (H : Type) → List (DataW H) → Bool := fun _ ds => decide (uptoBulkAll ds ≤ 1048576)
def OpenSpec.upto (s : _root_.Go.ChangeSpec) : _root_.Go.OpenSpec := { _root_.Go.OpenSpec.ofChange s with cond := some uptoSmall }

/-- 'routescopelaw41.AnomalyProves', WHERE WHAT IT READS IS OF BULK AT MOST 1048576: true; the input reads as it did. -/
def anomalyProvesUptoRow : OpenClaim := { program := "ytijmpjfafpodhaagreat", sum := "3f2cc5741c120d685652063e51831d1f5de475be2db10b4dababe0f183f3fa35", func := "routescope/routescopelaw41.AnomalyProves", spec := "anomalyProves", unfollowed := true, recurses := true, plainKeys := false, apart := false, narrowed := true }
def AnomalyProvesUptoSaid : Prop := anomalyProvesUptoRow.holds Tryz.pinned (OpenSpec.upto anomalyProvesSpec)

/-- 'routescopelaw41.AnomalyFinds', WHERE WHAT IT READS IS OF BULK AT MOST 1048576: true; the input reads as it did. -/
def anomalyFindsUptoRow : OpenClaim := { program := "ytijmpjfafpodhaagreat", sum := "3f2cc5741c120d685652063e51831d1f5de475be2db10b4dababe0f183f3fa35", func := "routescope/routescopelaw41.AnomalyFinds", spec := "anomalyFinds", unfollowed := true, recurses := true, plainKeys := false, apart := false, narrowed := true }
def AnomalyFindsUptoSaid : Prop := anomalyFindsUptoRow.holds Tryz.pinned (OpenSpec.upto anomalyFindsSpec)

/-- 'routescopelaw41.AnomalyMonotone', WHERE WHAT IT READS IS OF BULK AT MOST 1048576: true; the input reads as it did. -/
def anomalyMonotoneUptoRow : OpenClaim := { program := "ytijmpjfafpodhaagreat", sum := "3f2cc5741c120d685652063e51831d1f5de475be2db10b4dababe0f183f3fa35", func := "routescope/routescopelaw41.AnomalyMonotone", spec := "anomalyMonotone", unfollowed := true, recurses := true, plainKeys := false, apart := false, narrowed := true }
def AnomalyMonotoneUptoSaid : Prop := anomalyMonotoneUptoRow.holds Tryz.pinned (OpenSpec.upto anomalyMonotoneSpec)

/-- 'routescopelaw41.AnomalyRules', WHERE WHAT IT READS IS OF BULK AT MOST 1048576: true; the input reads as it did. -/
def anomalyRulesUptoRow : OpenClaim := { program := "ytijmpjfafpodhaagreat", sum := "3f2cc5741c120d685652063e51831d1f5de475be2db10b4dababe0f183f3fa35", func := "routescope/routescopelaw41.AnomalyRules", spec := "anomalyRules", unfollowed := true, recurses := true, plainKeys := false, apart := false, narrowed := true }
def AnomalyRulesUptoSaid : Prop := anomalyRulesUptoRow.holds Tryz.pinned (OpenSpec.upto anomalyRulesSpec)

/-- 'routescopelaw41.AnomalyComplete', WHERE WHAT IT READS IS OF BULK AT MOST 1048576: true; the input reads as it did. -/
def anomalyCompleteUptoRow : OpenClaim := { program := "ytijmpjfafpodhaagreat", sum := "3f2cc5741c120d685652063e51831d1f5de475be2db10b4dababe0f183f3fa35", func := "routescope/routescopelaw41.AnomalyComplete", spec := "anomalyComplete", unfollowed := true, recurses := true, plainKeys := false, apart := false, narrowed := true }
def AnomalyCompleteUptoSaid : Prop := anomalyCompleteUptoRow.holds Tryz.pinned (OpenSpec.upto anomalyCompleteSpec)

/-- 'routescopelaw41.AnomalyQuiet', WHERE WHAT IT READS IS OF BULK AT MOST 1048576: true; the input reads as it did. -/
def anomalyQuietUptoRow : OpenClaim := { program := "ytijmpjfafpodhaagreat", sum := "3f2cc5741c120d685652063e51831d1f5de475be2db10b4dababe0f183f3fa35", func := "routescope/routescopelaw41.AnomalyQuiet", spec := "anomalyQuiet", unfollowed := true, recurses := true, plainKeys := false, apart := false, narrowed := true }
def AnomalyQuietUptoSaid : Prop := anomalyQuietUptoRow.holds Tryz.pinned (OpenSpec.upto anomalyQuietSpec)

/-- 'routescopelaw42.MinimalProves', WHERE WHAT IT READS IS OF BULK AT MOST 1048576: true; the input reads as it did. -/
def minimalProvesUptoRow : OpenClaim := { program := "ytijmpjfafpodhaagreat", sum := "3f2cc5741c120d685652063e51831d1f5de475be2db10b4dababe0f183f3fa35", func := "routescope/routescopelaw42.MinimalProves", spec := "minimalProves", unfollowed := true, recurses := true, plainKeys := false, apart := false, narrowed := true }
def MinimalProvesUptoSaid : Prop := minimalProvesUptoRow.holds Tryz.pinned (OpenSpec.upto minimalProvesSpec)

/-- 'routescopelaw42.MinimalLeast', WHERE WHAT IT READS IS OF BULK AT MOST 1048576: true; the input reads as it did. -/
def minimalLeastUptoRow : OpenClaim := { program := "ytijmpjfafpodhaagreat", sum := "3f2cc5741c120d685652063e51831d1f5de475be2db10b4dababe0f183f3fa35", func := "routescope/routescopelaw42.MinimalLeast", spec := "minimalLeast", unfollowed := true, recurses := true, plainKeys := false, apart := false, narrowed := true }
def MinimalLeastUptoSaid : Prop := minimalLeastUptoRow.holds Tryz.pinned (OpenSpec.upto minimalLeastSpec)

/-- 'routescopelaw42.MinimalOrder', WHERE WHAT IT READS IS OF BULK AT MOST 1048576: true; the input reads as it did. -/
def minimalOrderUptoRow : OpenClaim := { program := "ytijmpjfafpodhaagreat", sum := "3f2cc5741c120d685652063e51831d1f5de475be2db10b4dababe0f183f3fa35", func := "routescope/routescopelaw42.MinimalOrder", spec := "minimalOrder", unfollowed := true, recurses := true, plainKeys := false, apart := false, narrowed := true }
def MinimalOrderUptoSaid : Prop := minimalOrderUptoRow.holds Tryz.pinned (OpenSpec.upto minimalOrderSpec)

/-- 'routescopelaw42.MinimalSteps', WHERE WHAT IT READS IS OF BULK AT MOST 1048576: true; the input reads as it did. -/
def minimalStepsUptoRow : OpenClaim := { program := "ytijmpjfafpodhaagreat", sum := "3f2cc5741c120d685652063e51831d1f5de475be2db10b4dababe0f183f3fa35", func := "routescope/routescopelaw42.MinimalSteps", spec := "minimalSteps", unfollowed := true, recurses := true, plainKeys := false, apart := false, narrowed := true }
def MinimalStepsUptoSaid : Prop := minimalStepsUptoRow.holds Tryz.pinned (OpenSpec.upto minimalStepsSpec)

/-- 'routescopelaw42.MinimalDisjoint', WHERE WHAT IT READS IS OF BULK AT MOST 1048576: true; the input reads as it did. -/
def minimalDisjointUptoRow : OpenClaim := { program := "ytijmpjfafpodhaagreat", sum := "3f2cc5741c120d685652063e51831d1f5de475be2db10b4dababe0f183f3fa35", func := "routescope/routescopelaw42.MinimalDisjoint", spec := "minimalDisjoint", unfollowed := true, recurses := true, plainKeys := false, apart := false, narrowed := true }
def MinimalDisjointUptoSaid : Prop := minimalDisjointUptoRow.holds Tryz.pinned (OpenSpec.upto minimalDisjointSpec)

/-- 'routescopelaw42.MinimalContradicts', WHERE WHAT IT READS IS OF BULK AT MOST 1048576: true; the input reads as it did. -/
def minimalContradictsUptoRow : OpenClaim := { program := "ytijmpjfafpodhaagreat", sum := "3f2cc5741c120d685652063e51831d1f5de475be2db10b4dababe0f183f3fa35", func := "routescope/routescopelaw42.MinimalContradicts", spec := "minimalContradicts", unfollowed := true, recurses := true, plainKeys := false, apart := false, narrowed := true }
def MinimalContradictsUptoSaid : Prop := minimalContradictsUptoRow.holds Tryz.pinned (OpenSpec.upto minimalContradictsSpec)

end Rows
end Go.Proofs.YtijmpjfafpodhaaGreat
