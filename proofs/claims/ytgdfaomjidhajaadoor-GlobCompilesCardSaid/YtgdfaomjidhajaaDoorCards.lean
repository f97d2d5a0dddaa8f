/-
  DERIVED. GIVEN WITH THE SEED: THE CARDS: each row of YtgdfaomjidhajaaDoorRows.lean that lists a variable, with what it lists TIED to the program's text (the seventh form; the later family's looks); each row that meets fmt, with fmt's text TOLD by the authors' own Lean function (tested against real Go, not proved from fmt's source: count such statements apart). THE CARD IS WHAT COUNTS. Prove the row's statement (the work); the ties are given (YtgdfaomjidhajaaDoorTie.lean); close each card by the builder's one call (the guide's Derived/Test/ToyasCard.lean, 'card_holds'). Laid BY PROGRAM, IN A SANDBOX (cutbox-door.mjs). By AI agents, Wed Nov 11 2026. No macro, syntax, notation, axiom, sorry.
-/
import Derived.Test.YtgdfaomjidhajaaDoorRows
import GoSem.ClaimSeven
namespace Go.Proofs.YtgdfaomjidhajaaDoor
namespace Rows

/-- THE TIED CARD OF 'limnographlaw32.GlobMatches'. -/
def globMatchesCard : Claim7 := { stood := { row := globMatchesRow, standIns := [], harness := (true, "168a146bac7fc1113c2d4feadfdd8072b55977c8bec36dcd89cbe0b120a088cb"), looks := false }, kinds := [], alts := [], laidByText := true, laidKinds := [.data], laidTests := true, laidLooks := .later }
def GlobMatchesCardSaid : Prop := Claim7.holds Tryd.pinned (.plain (OpenSpec.ofChange globMatchesSpec)) globMatchesCard

/-- THE TIED CARD OF 'limnographlaw32.GlobJoins'. -/
def globJoinsCard : Claim7 := { stood := { row := globJoinsRow, standIns := [], harness := (true, "168a146bac7fc1113c2d4feadfdd8072b55977c8bec36dcd89cbe0b120a088cb"), looks := false }, kinds := [], alts := [], laidByText := true, laidKinds := [.data], laidTests := true, laidLooks := .later }
def GlobJoinsCardSaid : Prop := Claim7.holds Tryd.pinned (.plain (OpenSpec.ofChange globJoinsSpec)) globJoinsCard

/-- THE TIED CARD OF 'limnographlaw32.GlobCompiles'. -/
def globCompilesCard : Claim7 := { stood := { row := globCompilesRow, standIns := [], harness := (true, "168a146bac7fc1113c2d4feadfdd8072b55977c8bec36dcd89cbe0b120a088cb"), looks := false }, kinds := [], alts := [], laidByText := true, laidKinds := [.data], laidTests := true, laidLooks := .later }
def GlobCompilesCardSaid : Prop := Claim7.holds Tryd.pinned (.plain (OpenSpec.ofChange globCompilesSpec)) globCompilesCard

/-- THE SECOND FORM's CARD OF 'limnographlaw32.GlobMatches'. -/
def globMatchesUptoCard : Claim7 := { stood := { row := globMatchesUptoRow, standIns := [], harness := (true, "168a146bac7fc1113c2d4feadfdd8072b55977c8bec36dcd89cbe0b120a088cb"), looks := false }, kinds := [], alts := [], laidByText := true, laidKinds := [.data], laidTests := true, laidLooks := .later }
def GlobMatchesUptoCardSaid : Prop := Claim7.holds Tryd.pinned (.plain (OpenSpec.upto globMatchesSpec)) globMatchesUptoCard

/-- THE SECOND FORM's CARD OF 'limnographlaw32.GlobJoins'. -/
def globJoinsUptoCard : Claim7 := { stood := { row := globJoinsUptoRow, standIns := [], harness := (true, "168a146bac7fc1113c2d4feadfdd8072b55977c8bec36dcd89cbe0b120a088cb"), looks := false }, kinds := [], alts := [], laidByText := true, laidKinds := [.data], laidTests := true, laidLooks := .later }
def GlobJoinsUptoCardSaid : Prop := Claim7.holds Tryd.pinned (.plain (OpenSpec.upto globJoinsSpec)) globJoinsUptoCard

/-- THE SECOND FORM's CARD OF 'limnographlaw32.GlobCompiles'. -/
def globCompilesUptoCard : Claim7 := { stood := { row := globCompilesUptoRow, standIns := [], harness := (true, "168a146bac7fc1113c2d4feadfdd8072b55977c8bec36dcd89cbe0b120a088cb"), looks := false }, kinds := [], alts := [], laidByText := true, laidKinds := [.data], laidTests := true, laidLooks := .later }
def GlobCompilesUptoCardSaid : Prop := Claim7.holds Tryd.pinned (.plain (OpenSpec.upto globCompilesSpec)) globCompilesUptoCard
end Rows
end Go.Proofs.YtgdfaomjidhajaaDoor
