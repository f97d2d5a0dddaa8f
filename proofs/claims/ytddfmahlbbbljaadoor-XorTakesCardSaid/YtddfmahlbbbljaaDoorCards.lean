/-
  DERIVED. GIVEN WITH THE SEED: THE CARDS: each row of YtddfmahlbbbljaaDoorRows.lean that lists a variable, with what it lists TIED to the program's text (the seventh form; the later family's looks); each row that meets fmt, with fmt's text TOLD by the authors' own Lean function (tested against real Go, not proved from fmt's source: count such statements apart). THE CARD IS WHAT COUNTS. Prove the row's statement (the work); the ties are given (YtddfmahlbbbljaaDoorTie.lean); close each card by the builder's one call (the guide's Derived/Test/ToyasCard.lean, 'card_holds'). Laid BY PROGRAM, IN A SANDBOX (cutbox-door.mjs). By AI agents, Wed Nov 11 2026. No macro, syntax, notation, axiom, sorry.
-/
import Derived.Test.YtddfmahlbbbljaaDoorRows
import GoSem.ClaimSeven
namespace Go.Proofs.YtddfmahlbbbljaaDoor
namespace Rows

/-- THE TIED CARD OF 'limnographlaw07.XorSame'. -/
def xorSameCard : Claim7 := { stood := { row := xorSameRow, standIns := [], harness := (true, "924bd2a9ee85ccf0adb582d713de8a87aebc7f0af5aa0b863a05e6e4467bbfa9"), looks := false }, kinds := [], alts := [], laidByText := true, laidKinds := [.data, .data], laidTests := true, laidLooks := .later }
def XorSameCardSaid : Prop := Claim7.holds Tryd.pinned (.plain (OpenSpec.ofChange xorSameSpec)) xorSameCard

/-- THE TIED CARD OF 'limnographlaw07.XorTakes'. -/
def xorTakesCard : Claim7 := { stood := { row := xorTakesRow, standIns := [], harness := (true, "924bd2a9ee85ccf0adb582d713de8a87aebc7f0af5aa0b863a05e6e4467bbfa9"), looks := false }, kinds := [], alts := [], laidByText := true, laidKinds := [.data, .data], laidTests := true, laidLooks := .later }
def XorTakesCardSaid : Prop := Claim7.holds Tryd.pinned (.plain (OpenSpec.ofChange xorTakesSpec)) xorTakesCard

/-- THE TIED CARD OF 'limnographlaw07.XorRows'. -/
def xorRowsCard : Claim7 := { stood := { row := xorRowsRow, standIns := [], harness := (true, "924bd2a9ee85ccf0adb582d713de8a87aebc7f0af5aa0b863a05e6e4467bbfa9"), looks := false }, kinds := [], alts := [], laidByText := true, laidKinds := [.data, .data], laidTests := true, laidLooks := .later }
def XorRowsCardSaid : Prop := Claim7.holds Tryd.pinned (.plain (OpenSpec.ofChange xorRowsSpec)) xorRowsCard

/-- THE SECOND FORM's CARD OF 'limnographlaw07.XorSame'. -/
def xorSameUptoCard : Claim7 := { stood := { row := xorSameUptoRow, standIns := [], harness := (true, "924bd2a9ee85ccf0adb582d713de8a87aebc7f0af5aa0b863a05e6e4467bbfa9"), looks := false }, kinds := [], alts := [], laidByText := true, laidKinds := [.data, .data], laidTests := true, laidLooks := .later }
def XorSameUptoCardSaid : Prop := Claim7.holds Tryd.pinned (.plain (OpenSpec.upto xorSameSpec)) xorSameUptoCard

/-- THE SECOND FORM's CARD OF 'limnographlaw07.XorTakes'. -/
def xorTakesUptoCard : Claim7 := { stood := { row := xorTakesUptoRow, standIns := [], harness := (true, "924bd2a9ee85ccf0adb582d713de8a87aebc7f0af5aa0b863a05e6e4467bbfa9"), looks := false }, kinds := [], alts := [], laidByText := true, laidKinds := [.data, .data], laidTests := true, laidLooks := .later }
def XorTakesUptoCardSaid : Prop := Claim7.holds Tryd.pinned (.plain (OpenSpec.upto xorTakesSpec)) xorTakesUptoCard

/-- THE SECOND FORM's CARD OF 'limnographlaw07.XorRows'. -/
def xorRowsUptoCard : Claim7 := { stood := { row := xorRowsUptoRow, standIns := [], harness := (true, "924bd2a9ee85ccf0adb582d713de8a87aebc7f0af5aa0b863a05e6e4467bbfa9"), looks := false }, kinds := [], alts := [], laidByText := true, laidKinds := [.data, .data], laidTests := true, laidLooks := .later }
def XorRowsUptoCardSaid : Prop := Claim7.holds Tryd.pinned (.plain (OpenSpec.upto xorRowsSpec)) xorRowsUptoCard
end Rows
end Go.Proofs.YtddfmahlbbbljaaDoor
