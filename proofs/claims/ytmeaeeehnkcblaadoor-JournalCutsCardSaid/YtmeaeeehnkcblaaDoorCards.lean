/-
  DERIVED. GIVEN WITH THE SEED: THE CARDS: each row of YtmeaeeehnkcblaaDoorRows.lean that lists a variable, with what it lists TIED to the program's text (the seventh form; the later family's looks); each row that meets fmt, with fmt's text TOLD by the authors' own Lean function (tested against real Go, not proved from fmt's source: count such statements apart). THE CARD IS WHAT COUNTS. Prove the row's statement (the work); the ties are given (YtmeaeeehnkcblaaDoorTie.lean); close each card by the builder's one call (the guide's Derived/Test/ToyasCard.lean, 'card_holds'). Laid BY PROGRAM, IN A SANDBOX (cutbox-door.mjs). By AI agents, Wed Nov 11 2026. No macro, syntax, notation, axiom, sorry.
-/
import Derived.Test.YtmeaeeehnkcblaaDoorRows
import GoSem.ClaimSeven
namespace Go.Proofs.YtmeaeeehnkcblaaDoor
namespace Rows

/-- THE TIED CARD OF 'routescopelaw20.JournalResults'. -/
def journalResultsCard : Claim7 := { stood := { row := journalResultsRow, standIns := [], harness := (true, "a3e7747344fe4fce02a0445e2539565649e2c86d1ebe860678661b0071d5e736"), looks := false }, kinds := [], alts := [], laidByText := true, laidKinds := [.data, .data], laidTests := true, laidLooks := .later }
def JournalResultsCardSaid : Prop := Claim7.holds Tryd.pinned (.plain (OpenSpec.ofChange journalResultsSpec)) journalResultsCard

/-- THE TIED CARD OF 'routescopelaw20.JournalAccepts'. -/
def journalAcceptsCard : Claim7 := { stood := { row := journalAcceptsRow, standIns := [], harness := (true, "a3e7747344fe4fce02a0445e2539565649e2c86d1ebe860678661b0071d5e736"), looks := false }, kinds := [], alts := [], laidByText := true, laidKinds := [.data, .data], laidTests := true, laidLooks := .later }
def JournalAcceptsCardSaid : Prop := Claim7.holds Tryd.pinned (.plain (OpenSpec.ofChange journalAcceptsSpec)) journalAcceptsCard

/-- THE TIED CARD OF 'routescopelaw20.JournalForged'. -/
def journalForgedCard : Claim7 := { stood := { row := journalForgedRow, standIns := [], harness := (true, "a3e7747344fe4fce02a0445e2539565649e2c86d1ebe860678661b0071d5e736"), looks := false }, kinds := [], alts := [], laidByText := true, laidKinds := [.data, .data], laidTests := true, laidLooks := .later }
def JournalForgedCardSaid : Prop := Claim7.holds Tryd.pinned (.plain (OpenSpec.ofChange journalForgedSpec)) journalForgedCard

/-- THE TIED CARD OF 'routescopelaw20.JournalBack'. -/
def journalBackCard : Claim7 := { stood := { row := journalBackRow, standIns := [], harness := (true, "a3e7747344fe4fce02a0445e2539565649e2c86d1ebe860678661b0071d5e736"), looks := false }, kinds := [], alts := [], laidByText := true, laidKinds := [.data, .data], laidTests := true, laidLooks := .later }
def JournalBackCardSaid : Prop := Claim7.holds Tryd.pinned (.plain (OpenSpec.ofChange journalBackSpec)) journalBackCard

/-- THE TIED CARD OF 'routescopelaw20.JournalWrites'. -/
def journalWritesCard : Claim7 := { stood := { row := journalWritesRow, standIns := [], harness := (true, "a3e7747344fe4fce02a0445e2539565649e2c86d1ebe860678661b0071d5e736"), looks := false }, kinds := [], alts := [], laidByText := true, laidKinds := [.data, .data], laidTests := true, laidLooks := .later }
def JournalWritesCardSaid : Prop := Claim7.holds Tryd.pinned (.plain (OpenSpec.ofChange journalWritesSpec)) journalWritesCard

/-- THE TIED CARD OF 'routescopelaw20.JournalCuts'. -/
def journalCutsCard : Claim7 := { stood := { row := journalCutsRow, standIns := [], harness := (true, "a3e7747344fe4fce02a0445e2539565649e2c86d1ebe860678661b0071d5e736"), looks := false }, kinds := [], alts := [], laidByText := true, laidKinds := [.data, .data], laidTests := true, laidLooks := .later }
def JournalCutsCardSaid : Prop := Claim7.holds Tryd.pinned (.plain (OpenSpec.ofChange journalCutsSpec)) journalCutsCard

/-- THE SECOND FORM's CARD OF 'routescopelaw20.JournalResults'. -/
def journalResultsUptoCard : Claim7 := { stood := { row := journalResultsUptoRow, standIns := [], harness := (true, "a3e7747344fe4fce02a0445e2539565649e2c86d1ebe860678661b0071d5e736"), looks := false }, kinds := [], alts := [], laidByText := true, laidKinds := [.data, .data], laidTests := true, laidLooks := .later }
def JournalResultsUptoCardSaid : Prop := Claim7.holds Tryd.pinned (.plain (OpenSpec.upto journalResultsSpec)) journalResultsUptoCard

/-- THE SECOND FORM's CARD OF 'routescopelaw20.JournalAccepts'. -/
def journalAcceptsUptoCard : Claim7 := { stood := { row := journalAcceptsUptoRow, standIns := [], harness := (true, "a3e7747344fe4fce02a0445e2539565649e2c86d1ebe860678661b0071d5e736"), looks := false }, kinds := [], alts := [], laidByText := true, laidKinds := [.data, .data], laidTests := true, laidLooks := .later }
def JournalAcceptsUptoCardSaid : Prop := Claim7.holds Tryd.pinned (.plain (OpenSpec.upto journalAcceptsSpec)) journalAcceptsUptoCard

/-- THE SECOND FORM's CARD OF 'routescopelaw20.JournalForged'. -/
def journalForgedUptoCard : Claim7 := { stood := { row := journalForgedUptoRow, standIns := [], harness := (true, "a3e7747344fe4fce02a0445e2539565649e2c86d1ebe860678661b0071d5e736"), looks := false }, kinds := [], alts := [], laidByText := true, laidKinds := [.data, .data], laidTests := true, laidLooks := .later }
def JournalForgedUptoCardSaid : Prop := Claim7.holds Tryd.pinned (.plain (OpenSpec.upto journalForgedSpec)) journalForgedUptoCard

/-- THE SECOND FORM's CARD OF 'routescopelaw20.JournalBack'. -/
def journalBackUptoCard : Claim7 := { stood := { row := journalBackUptoRow, standIns := [], harness := (true, "a3e7747344fe4fce02a0445e2539565649e2c86d1ebe860678661b0071d5e736"), looks := false }, kinds := [], alts := [], laidByText := true, laidKinds := [.data, .data], laidTests := true, laidLooks := .later }
def JournalBackUptoCardSaid : Prop := Claim7.holds Tryd.pinned (.plain (OpenSpec.upto journalBackSpec)) journalBackUptoCard

/-- THE SECOND FORM's CARD OF 'routescopelaw20.JournalWrites'. -/
def journalWritesUptoCard : Claim7 := { stood := { row := journalWritesUptoRow, standIns := [], harness := (true, "a3e7747344fe4fce02a0445e2539565649e2c86d1ebe860678661b0071d5e736"), looks := false }, kinds := [], alts := [], laidByText := true, laidKinds := [.data, .data], laidTests := true, laidLooks := .later }
def JournalWritesUptoCardSaid : Prop := Claim7.holds Tryd.pinned (.plain (OpenSpec.upto journalWritesSpec)) journalWritesUptoCard

/-- THE SECOND FORM's CARD OF 'routescopelaw20.JournalCuts'. -/
def journalCutsUptoCard : Claim7 := { stood := { row := journalCutsUptoRow, standIns := [], harness := (true, "a3e7747344fe4fce02a0445e2539565649e2c86d1ebe860678661b0071d5e736"), looks := false }, kinds := [], alts := [], laidByText := true, laidKinds := [.data, .data], laidTests := true, laidLooks := .later }
def JournalCutsUptoCardSaid : Prop := Claim7.holds Tryd.pinned (.plain (OpenSpec.upto journalCutsSpec)) journalCutsUptoCard
end Rows
end Go.Proofs.YtmeaeeehnkcblaaDoor
