/-
  NARROWER THAN 'FOR EVERY INPUT', by the rows' own cells (each row's printed sentence says how): GlobMatches: laid · GlobJoins: laid · GlobCompiles: laid.
  DERIVED. THE GIVEN ROWS OF THIS SEAT. 3 by the template 'for every input the law returns true; each argument reads behind the call as it read before'; 0 by the template 'total and deterministic' (their statements: YtgdfaomjidhajaaDoorTotals.lean).
  GIVEN WITH THE SEED: the statements are not yours to turn. If you find one false, say at which input.
  Laid BY PROGRAM, IN A SANDBOX (cutbox-rows.mjs): the forced cells as the released guide's own fill.sh prints them over the translation 0c36ebe05bbdbec9… (all of the seat's roots in one cut). By AI agents, Wed Nov 11 2026. No macro, syntax, notation, axiom, sorry.
-/
import Derived.Test.YtgdfaomjidhajaaDoorChecked
import GoSem.Claim
import GoSem.ClaimJoined
import GoSem.ClaimMapViews
import Derived.JoinedTies
import Derived.KernelRfl
namespace Go.Proofs.YtgdfaomjidhajaaDoor
/- THE CELL 'sum', in the pinned program and in every row, IS THE sha256 OF THE DUMP (.gsa) THAT YtgdfaomjidhajaaDoorProg.lean LOADS. Nothing in Lean hashes anything: it is a label: what it is worth is what the hold of that sum in a sandbox is worth. -/
noncomputable def Tryd.pinned : Pinned := { name := "ytgdfaomjidhajaadoor", sum := "0c36ebe05bbdbec9943af7070f1b96eadb3649101fc2e57f02d2251a3ddcf9a7", checked := Tryd.checked }
namespace Rows
def none {H : Type} : Left H := { results := [], args := [] }

/- WHAT THE LISTED PACKAGE-LEVEL VARIABLES READ AS WHEN THE CALL BEGINS. Each datum BY PROGRAM (the guide's laid-datum.mjs) off the statement by which the dump's own 'gosem.cut.vars' lays the variable. In a bare row this is a premise. The card (YtgdfaomjidhajaaDoorCards.lean) ties it to the program's text. -/
def laid_limnograph_glob_none {H : Type} : DataW H := .agg [.lit (.int .i64 0), .lit (.int .i64 0)]

/-- 'limnographlaw32.GlobMatches': WHATEVER THE INPUT: true; the input reads as it did. -/
def globMatchesSpec : ChangeSpec := { name := "globMatches", fn := fun _ => fun
  | [d1, d2] => { results := [.lit (.bool true)], args := [d1, d2] }
  | _ => none }
def globMatchesRow : OpenClaim := { program := "ytgdfaomjidhajaadoor", sum := "0c36ebe05bbdbec9943af7070f1b96eadb3649101fc2e57f02d2251a3ddcf9a7", func := "limnograph/limnographlaw32.GlobMatches", spec := "globMatches", named := ["limnograph/glob.none"], apart := false, laid := [("limnograph/glob.none", laid_limnograph_glob_none)] }
def GlobMatchesSaid : Prop := globMatchesRow.holds Tryd.pinned (OpenSpec.ofChange globMatchesSpec)

/-- ITS FALSE NEIGHBOUR: 'it returns false'. Refute it at one input. -/
def globMatchesWrong : ChangeSpec := { name := "globMatches", fn := fun _ => fun
  | [d1, d2] => { results := [.lit (.bool false)], args := [d1, d2] }
  | _ => none }
def GlobMatchesWrongFalsely : Prop := globMatchesRow.holds Tryd.pinned (OpenSpec.ofChange globMatchesWrong)

/-- 'limnographlaw32.GlobJoins': WHATEVER THE INPUT: true; the input reads as it did. -/
def globJoinsSpec : ChangeSpec := { name := "globJoins", fn := fun _ => fun
  | [d1, d2, d3] => { results := [.lit (.bool true)], args := [d1, d2, d3] }
  | _ => none }
def globJoinsRow : OpenClaim := { program := "ytgdfaomjidhajaadoor", sum := "0c36ebe05bbdbec9943af7070f1b96eadb3649101fc2e57f02d2251a3ddcf9a7", func := "limnograph/limnographlaw32.GlobJoins", spec := "globJoins", named := ["limnograph/glob.none"], apart := false, laid := [("limnograph/glob.none", laid_limnograph_glob_none)] }
def GlobJoinsSaid : Prop := globJoinsRow.holds Tryd.pinned (OpenSpec.ofChange globJoinsSpec)

/-- ITS FALSE NEIGHBOUR: 'it returns false'. Refute it at one input. -/
def globJoinsWrong : ChangeSpec := { name := "globJoins", fn := fun _ => fun
  | [d1, d2, d3] => { results := [.lit (.bool false)], args := [d1, d2, d3] }
  | _ => none }
def GlobJoinsWrongFalsely : Prop := globJoinsRow.holds Tryd.pinned (OpenSpec.ofChange globJoinsWrong)

/-- 'limnographlaw32.GlobCompiles': WHATEVER THE INPUT: true; the input reads as it did. -/
def globCompilesSpec : ChangeSpec := { name := "globCompiles", fn := fun _ => fun
  | [d] => { results := [.lit (.bool true)], args := [d] }
  | _ => none }
def globCompilesRow : OpenClaim := { program := "ytgdfaomjidhajaadoor", sum := "0c36ebe05bbdbec9943af7070f1b96eadb3649101fc2e57f02d2251a3ddcf9a7", func := "limnograph/limnographlaw32.GlobCompiles", spec := "globCompiles", inPlace := ["internal/abi.NoEscape"], named := ["limnograph/glob.none"], apart := false, laid := [("limnograph/glob.none", laid_limnograph_glob_none)] }
def GlobCompilesSaid : Prop := globCompilesRow.holds Tryd.pinned (OpenSpec.ofChange globCompilesSpec)

/-- ITS FALSE NEIGHBOUR: 'it returns false'. Refute it at one input. -/
def globCompilesWrong : ChangeSpec := { name := "globCompiles", fn := fun _ => fun
  | [d] => { results := [.lit (.bool false)], args := [d] }
  | _ => none }
def GlobCompilesWrongFalsely : Prop := globCompilesRow.holds Tryd.pinned (OpenSpec.ofChange globCompilesWrong)

/- THE SECOND FORM. 'bulk': how many values and letters a reading holds, each counted each time it is reached (what is shared counts as often as it is met; a slice's spare places count too). A statement '..UptoSaid' is the law's where the arguments, and the package variables that the reading takes, are together of bulk at most 1048576: NARROWER than '..Said'. Prove '..Said' where nothing that the law and all that it calls make is longer than what came in: it says more and counts as full. Else prove '..UptoSaid'. A law counts once. -/
mutual
def uptoBulk {H : Type} : DataW H → Nat
  | .lit (.string bytes) => bytes.length + 1
  | .lit _ => 1
  | .nil => 1
  | .ptr d => uptoBulk d + 1
  | .slice elems spare => uptoBulkAll elems + uptoBulkAll spare + 1
  | .agg parts => uptoBulkAll parts + 1
  | .iface _ d => uptoBulk d + 1
  | .map entries => uptoBulkEntries entries + 1
  | .held _ => 1
def uptoBulkAll {H : Type} : List (DataW H) → Nat
  | [] => 0
  | d :: r => uptoBulk d + uptoBulkAll r
def uptoBulkEntries {H : Type} : List (Lit × DataW H) → Nat
  | [] => 0
  | x :: r => uptoBulkEntry x + uptoBulkEntries r
def uptoBulkEntry {H : Type} : Lit × DataW H → Nat
  | (.string bytes, d) => bytes.length + uptoBulk d + 1
  | (_, d) => uptoBulk d + 1
 end
def uptoSmall : (H : Type) → List (DataW H) → Bool := fun _ ds => decide (uptoBulkAll ds ≤ 1048576)
def OpenSpec.upto (s : _root_.Go.ChangeSpec) : _root_.Go.OpenSpec := { _root_.Go.OpenSpec.ofChange s with cond := some uptoSmall }

/-- 'limnographlaw32.GlobMatches', WHERE WHAT IT READS IS OF BULK AT MOST 1048576: true; the input reads as it did. -/
def globMatchesUptoRow : OpenClaim := { program := "ytgdfaomjidhajaadoor", sum := "0c36ebe05bbdbec9943af7070f1b96eadb3649101fc2e57f02d2251a3ddcf9a7", func := "limnograph/limnographlaw32.GlobMatches", spec := "globMatches", named := ["limnograph/glob.none"], apart := false, laid := [("limnograph/glob.none", laid_limnograph_glob_none)], narrowed := true }
def GlobMatchesUptoSaid : Prop := globMatchesUptoRow.holds Tryd.pinned (OpenSpec.upto globMatchesSpec)

/-- 'limnographlaw32.GlobJoins', WHERE WHAT IT READS IS OF BULK AT MOST 1048576: true; the input reads as it did. -/
def globJoinsUptoRow : OpenClaim := { program := "ytgdfaomjidhajaadoor", sum := "0c36ebe05bbdbec9943af7070f1b96eadb3649101fc2e57f02d2251a3ddcf9a7", func := "limnograph/limnographlaw32.GlobJoins", spec := "globJoins", named := ["limnograph/glob.none"], apart := false, laid := [("limnograph/glob.none", laid_limnograph_glob_none)], narrowed := true }
def GlobJoinsUptoSaid : Prop := globJoinsUptoRow.holds Tryd.pinned (OpenSpec.upto globJoinsSpec)

/-- 'limnographlaw32.GlobCompiles', WHERE WHAT IT READS IS OF BULK AT MOST 1048576: true; the input reads as it did. -/
def globCompilesUptoRow : OpenClaim := { program := "ytgdfaomjidhajaadoor", sum := "0c36ebe05bbdbec9943af7070f1b96eadb3649101fc2e57f02d2251a3ddcf9a7", func := "limnograph/limnographlaw32.GlobCompiles", spec := "globCompiles", inPlace := ["internal/abi.NoEscape"], named := ["limnograph/glob.none"], apart := false, laid := [("limnograph/glob.none", laid_limnograph_glob_none)], narrowed := true }
def GlobCompilesUptoSaid : Prop := globCompilesUptoRow.holds Tryd.pinned (OpenSpec.upto globCompilesSpec)

end Rows
end Go.Proofs.YtgdfaomjidhajaaDoor
