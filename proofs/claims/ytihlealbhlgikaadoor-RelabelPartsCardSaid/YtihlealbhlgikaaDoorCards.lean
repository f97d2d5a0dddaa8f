/-
  DERIVED. GIVEN WITH THE SEED: THE CARDS: each row of YtihlealbhlgikaaDoorRows.lean that lists a variable, with what it lists TIED to the program's text (the seventh form; the later family's looks); each row that meets fmt, with fmt's text TOLD by the authors' own Lean function (tested against real Go, not proved from fmt's source: count such statements apart). THE CARD IS WHAT COUNTS. Prove the row's statement (the work); the ties are given (YtihlealbhlgikaaDoorTie.lean); close each card by the builder's one call (the guide's Derived/Test/ToyasCard.lean, 'card_holds'). Laid BY PROGRAM, IN A SANDBOX (cutbox-door.mjs). By AI agents, Wed Nov 11 2026. No macro, syntax, notation, axiom, sorry.
-/
import Derived.Test.YtihlealbhlgikaaDoorRows
import GoSem.ClaimSeven
namespace Go.Proofs.YtihlealbhlgikaaDoor
namespace Rows

/-- THE TIED CARD OF 'limnographlaw33.RelabelChecks'. -/
def relabelChecksCard : Claim7 := { stood := { row := relabelChecksRow, standIns := [], harness := (true, "e1a3a1feb693588457d4d0a75cf1adfbdefd442c2f7a8b8bc09728911a8f54d8"), looks := false }, kinds := [], alts := [], laidByText := true, laidKinds := [.data], laidTests := true, laidLooks := .later }
def RelabelChecksCardSaid : Prop := Claim7.holds Tryd.pinned (.plain (OpenSpec.ofChange relabelChecksSpec)) relabelChecksCard

/-- THE TIED CARD OF 'limnographlaw33.RelabelApplies'. -/
def relabelAppliesCard : Claim7 := { stood := { row := relabelAppliesRow, standIns := [], harness := (true, "e1a3a1feb693588457d4d0a75cf1adfbdefd442c2f7a8b8bc09728911a8f54d8"), looks := false }, kinds := [], alts := [], laidByText := true, laidKinds := [.data], laidTests := true, laidLooks := .later }
def RelabelAppliesCardSaid : Prop := Claim7.holds Tryd.pinned (.plain (OpenSpec.ofChange relabelAppliesSpec)) relabelAppliesCard

/-- THE TIED CARD OF 'limnographlaw33.RelabelParts'. -/
def relabelPartsCard : Claim7 := { stood := { row := relabelPartsRow, standIns := [], harness := (true, "e1a3a1feb693588457d4d0a75cf1adfbdefd442c2f7a8b8bc09728911a8f54d8"), looks := false }, kinds := [], alts := [], laidByText := true, laidKinds := [.data], laidTests := true, laidLooks := .later }
def RelabelPartsCardSaid : Prop := Claim7.holds Tryd.pinned (.plain (OpenSpec.ofChange relabelPartsSpec)) relabelPartsCard

/-- THE TIED CARD OF 'limnographlaw33.RelabelNone'. -/
def relabelNoneCard : Claim7 := { stood := { row := relabelNoneRow, standIns := [], harness := (true, "e1a3a1feb693588457d4d0a75cf1adfbdefd442c2f7a8b8bc09728911a8f54d8"), looks := false }, kinds := [], alts := [], laidByText := true, laidKinds := [.data], laidTests := true, laidLooks := .later }
def RelabelNoneCardSaid : Prop := Claim7.holds Tryd.pinned (.plain (OpenSpec.ofChange relabelNoneSpec)) relabelNoneCard

/-- THE SECOND FORM's CARD OF 'limnographlaw33.RelabelChecks'. -/
def relabelChecksUptoCard : Claim7 := { stood := { row := relabelChecksUptoRow, standIns := [], harness := (true, "e1a3a1feb693588457d4d0a75cf1adfbdefd442c2f7a8b8bc09728911a8f54d8"), looks := false }, kinds := [], alts := [], laidByText := true, laidKinds := [.data], laidTests := true, laidLooks := .later }
def RelabelChecksUptoCardSaid : Prop := Claim7.holds Tryd.pinned (.plain (OpenSpec.upto relabelChecksSpec)) relabelChecksUptoCard

/-- THE SECOND FORM's CARD OF 'limnographlaw33.RelabelApplies'. -/
def relabelAppliesUptoCard : Claim7 := { stood := { row := relabelAppliesUptoRow, standIns := [], harness := (true, "e1a3a1feb693588457d4d0a75cf1adfbdefd442c2f7a8b8bc09728911a8f54d8"), looks := false }, kinds := [], alts := [], laidByText := true, laidKinds := [.data], laidTests := true, laidLooks := .later }
def RelabelAppliesUptoCardSaid : Prop := Claim7.holds Tryd.pinned (.plain (OpenSpec.upto relabelAppliesSpec)) relabelAppliesUptoCard

/-- THE SECOND FORM's CARD OF 'limnographlaw33.RelabelParts'. -/
def relabelPartsUptoCard : Claim7 := { stood := { row := relabelPartsUptoRow, standIns := [], harness := (true, "e1a3a1feb693588457d4d0a75cf1adfbdefd442c2f7a8b8bc09728911a8f54d8"), looks := false }, kinds := [], alts := [], laidByText := true, laidKinds := [.data], laidTests := true, laidLooks := .later }
def RelabelPartsUptoCardSaid : Prop := Claim7.holds Tryd.pinned (.plain (OpenSpec.upto relabelPartsSpec)) relabelPartsUptoCard

/-- THE SECOND FORM's CARD OF 'limnographlaw33.RelabelNone'. -/
def relabelNoneUptoCard : Claim7 := { stood := { row := relabelNoneUptoRow, standIns := [], harness := (true, "e1a3a1feb693588457d4d0a75cf1adfbdefd442c2f7a8b8bc09728911a8f54d8"), looks := false }, kinds := [], alts := [], laidByText := true, laidKinds := [.data], laidTests := true, laidLooks := .later }
def RelabelNoneUptoCardSaid : Prop := Claim7.holds Tryd.pinned (.plain (OpenSpec.upto relabelNoneSpec)) relabelNoneUptoCard
end Rows
end Go.Proofs.YtihlealbhlgikaaDoor
