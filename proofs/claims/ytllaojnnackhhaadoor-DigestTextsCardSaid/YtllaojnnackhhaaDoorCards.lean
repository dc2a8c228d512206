/-
  DERIVED. GIVEN WITH THE SEED: THE CARDS: each row of YtllaojnnackhhaaDoorRows.lean that lists a variable, with what it lists TIED to the program's text (the seventh form; the later family's looks); each row that meets fmt, with fmt's text TOLD by the authors' own Lean function (tested against real Go, not proved from fmt's source: count such statements apart). THE CARD IS WHAT COUNTS. Prove the row's statement (the work); the ties are given (YtllaojnnackhhaaDoorTie.lean); close each card by the builder's one call (the guide's Derived/Test/ToyasCard.lean, 'card_holds'). Laid BY PROGRAM, IN A SANDBOX (cutbox-door.mjs). By AI agents, Wed Nov 11 2026. No macro, syntax, notation, axiom, sorry.
-/
import Derived.Test.YtllaojnnackhhaaDoorRows
import GoSem.ClaimSeven
namespace Go.Proofs.YtllaojnnackhhaaDoor
namespace Rows

/-- THE TIED CARD OF 'routescopelaw19.DigestSums'. -/
def digestSumsCard : Claim7 := { stood := { row := digestSumsRow, standIns := [], harness := (true, "fcd5787b6ddf064105ab4c8c90bcbcf95c136763ebc5947f10705daaa5c4c639"), looks := false }, kinds := [], alts := [], laidByText := true, laidKinds := [.data, .data], laidTests := true, laidLooks := .later }
def DigestSumsCardSaid : Prop := Claim7.holds Tryd.pinned (.plain (OpenSpec.ofChange digestSumsSpec)) digestSumsCard

/-- THE TIED CARD OF 'routescopelaw19.DigestTexts'. -/
def digestTextsCard : Claim7 := { stood := { row := digestTextsRow, standIns := [], harness := (true, "fcd5787b6ddf064105ab4c8c90bcbcf95c136763ebc5947f10705daaa5c4c639"), looks := false }, kinds := [], alts := [], laidByText := true, laidKinds := [.data, .data], laidTests := true, laidLooks := .later }
def DigestTextsCardSaid : Prop := Claim7.holds Tryd.pinned (.plain (OpenSpec.ofChange digestTextsSpec)) digestTextsCard

/-- THE TIED CARD OF 'routescopelaw19.DigestKnown'. -/
def digestKnownCard : Claim7 := { stood := { row := digestKnownRow, standIns := [], harness := (true, "fcd5787b6ddf064105ab4c8c90bcbcf95c136763ebc5947f10705daaa5c4c639"), looks := false }, kinds := [], alts := [], laidByText := true, laidKinds := [.data, .data], laidTests := true, laidLooks := .later }
def DigestKnownCardSaid : Prop := Claim7.holds Tryd.pinned (.plain (OpenSpec.ofChange digestKnownSpec)) digestKnownCard

/-- THE TIED CARD OF 'routescopelaw19.DigestCodes'. -/
def digestCodesCard : Claim7 := { stood := { row := digestCodesRow, standIns := [], harness := (true, "fcd5787b6ddf064105ab4c8c90bcbcf95c136763ebc5947f10705daaa5c4c639"), looks := false }, kinds := [], alts := [], laidByText := true, laidKinds := [.data, .data], laidTests := true, laidLooks := .later }
def DigestCodesCardSaid : Prop := Claim7.holds Tryd.pinned (.plain (OpenSpec.ofChange digestCodesSpec)) digestCodesCard

/-- THE SECOND FORM's CARD OF 'routescopelaw19.DigestSums'. -/
def digestSumsUptoCard : Claim7 := { stood := { row := digestSumsUptoRow, standIns := [], harness := (true, "fcd5787b6ddf064105ab4c8c90bcbcf95c136763ebc5947f10705daaa5c4c639"), looks := false }, kinds := [], alts := [], laidByText := true, laidKinds := [.data, .data], laidTests := true, laidLooks := .later }
def DigestSumsUptoCardSaid : Prop := Claim7.holds Tryd.pinned (.plain (OpenSpec.upto digestSumsSpec)) digestSumsUptoCard

/-- THE SECOND FORM's CARD OF 'routescopelaw19.DigestTexts'. -/
def digestTextsUptoCard : Claim7 := { stood := { row := digestTextsUptoRow, standIns := [], harness := (true, "fcd5787b6ddf064105ab4c8c90bcbcf95c136763ebc5947f10705daaa5c4c639"), looks := false }, kinds := [], alts := [], laidByText := true, laidKinds := [.data, .data], laidTests := true, laidLooks := .later }
def DigestTextsUptoCardSaid : Prop := Claim7.holds Tryd.pinned (.plain (OpenSpec.upto digestTextsSpec)) digestTextsUptoCard

/-- THE SECOND FORM's CARD OF 'routescopelaw19.DigestKnown'. -/
def digestKnownUptoCard : Claim7 := { stood := { row := digestKnownUptoRow, standIns := [], harness := (true, "fcd5787b6ddf064105ab4c8c90bcbcf95c136763ebc5947f10705daaa5c4c639"), looks := false }, kinds := [], alts := [], laidByText := true, laidKinds := [.data, .data], laidTests := true, laidLooks := .later }
def DigestKnownUptoCardSaid : Prop := Claim7.holds Tryd.pinned (.plain (OpenSpec.upto digestKnownSpec)) digestKnownUptoCard

/-- THE SECOND FORM's CARD OF 'routescopelaw19.DigestCodes'. -/
def digestCodesUptoCard : Claim7 := { stood := { row := digestCodesUptoRow, standIns := [], harness := (true, "fcd5787b6ddf064105ab4c8c90bcbcf95c136763ebc5947f10705daaa5c4c639"), looks := false }, kinds := [], alts := [], laidByText := true, laidKinds := [.data, .data], laidTests := true, laidLooks := .later }
def DigestCodesUptoCardSaid : Prop := Claim7.holds Tryd.pinned (.plain (OpenSpec.upto digestCodesSpec)) digestCodesUptoCard
end Rows
end Go.Proofs.YtllaojnnackhhaaDoor
