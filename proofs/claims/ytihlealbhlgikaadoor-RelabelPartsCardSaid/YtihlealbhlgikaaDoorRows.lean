/-
  NARROWER THAN 'FOR EVERY INPUT', by the rows' own cells (each row's printed sentence says how): RelabelChecks: laid · RelabelApplies: laid · RelabelParts: laid · RelabelNone: laid.
  DERIVED. THE GIVEN ROWS OF THIS SEAT. 4 by the template 'for every input the law returns true; each argument reads behind the call as it read before'; 0 by the template 'total and deterministic' (their statements: YtihlealbhlgikaaDoorTotals.lean).
  GIVEN WITH THE SEED: the statements are not yours to turn. If you find one false, say at which input.
  Laid BY PROGRAM, IN A SANDBOX (cutbox-rows.mjs): the forced cells as the released guide's own fill.sh prints them over the translation 37f59fcde2e17d9d… (all of the seat's roots in one cut). By AI agents, Wed Nov 11 2026. No macro, syntax, notation, axiom, sorry.
-/
import Derived.Test.YtihlealbhlgikaaDoorChecked
import GoSem.Claim
import GoSem.ClaimJoined
import GoSem.ClaimMapViews
import Derived.JoinedTies
import Derived.KernelRfl
namespace Go.Proofs.YtihlealbhlgikaaDoor
/- THE CELL 'sum', in the pinned program and in every row, IS THE sha256 OF THE DUMP (.gsa) THAT YtihlealbhlgikaaDoorProg.lean LOADS. Nothing in Lean hashes anything: it is a label: what it is worth is what the hold of that sum in a sandbox is worth. -/
noncomputable def Tryd.pinned : Pinned := { name := "ytihlealbhlgikaadoor", sum := "37f59fcde2e17d9d9898be2a734f2dbeceab391e8db16267500cc06e7177e59a", checked := Tryd.checked }
namespace Rows
def none {H : Type} : Left H := { results := [], args := [] }

/- WHAT THE LISTED PACKAGE-LEVEL VARIABLES READ AS WHEN THE CALL BEGINS. Each datum BY PROGRAM (the guide's laid-datum.mjs) off the statement by which the dump's own 'gosem.cut.vars' lays the variable. In a bare row this is a premise. The card (YtihlealbhlgikaaDoorCards.lean) ties it to the program's text. -/
def laid_limnograph_glob_none {H : Type} : DataW H := .agg [.lit (.int .i64 0), .lit (.int .i64 0)]

/-- 'limnographlaw33.RelabelChecks': WHATEVER THE INPUT: true; the input reads as it did. -/
def relabelChecksSpec : ChangeSpec := { name := "relabelChecks", fn := fun _ => fun
  | [d] => { results := [.lit (.bool true)], args := [d] }
  | _ => none }
def relabelChecksRow : OpenClaim := { program := "ytihlealbhlgikaadoor", sum := "37f59fcde2e17d9d9898be2a734f2dbeceab391e8db16267500cc06e7177e59a", func := "limnograph/limnographlaw33.RelabelChecks", spec := "relabelChecks", inPlace := ["math.Float64frombits", "math/bits.Add64"], unfollowed := true, recurses := true, named := ["limnograph/glob.none"], apart := false, laid := [("limnograph/glob.none", laid_limnograph_glob_none)] }
def RelabelChecksSaid : Prop := relabelChecksRow.holds Tryd.pinned (OpenSpec.ofChange relabelChecksSpec)

/-- ITS FALSE NEIGHBOUR: 'it returns false'. Refute it at one input. -/
def relabelChecksWrong : ChangeSpec := { name := "relabelChecks", fn := fun _ => fun
  | [d] => { results := [.lit (.bool false)], args := [d] }
  | _ => none }
def RelabelChecksWrongFalsely : Prop := relabelChecksRow.holds Tryd.pinned (OpenSpec.ofChange relabelChecksWrong)

/-- 'limnographlaw33.RelabelApplies': WHATEVER THE INPUT: true; the input reads as it did. -/
def relabelAppliesSpec : ChangeSpec := { name := "relabelApplies", fn := fun _ => fun
  | [d1, d2] => { results := [.lit (.bool true)], args := [d1, d2] }
  | _ => none }
def relabelAppliesRow : OpenClaim := { program := "ytihlealbhlgikaadoor", sum := "37f59fcde2e17d9d9898be2a734f2dbeceab391e8db16267500cc06e7177e59a", func := "limnograph/limnographlaw33.RelabelApplies", spec := "relabelApplies", inPlace := ["math.Float64frombits", "math/bits.Add64"], unfollowed := true, recurses := true, named := ["limnograph/glob.none"], apart := false, laid := [("limnograph/glob.none", laid_limnograph_glob_none)] }
def RelabelAppliesSaid : Prop := relabelAppliesRow.holds Tryd.pinned (OpenSpec.ofChange relabelAppliesSpec)

/-- ITS FALSE NEIGHBOUR: 'it returns false'. Refute it at one input. -/
def relabelAppliesWrong : ChangeSpec := { name := "relabelApplies", fn := fun _ => fun
  | [d1, d2] => { results := [.lit (.bool false)], args := [d1, d2] }
  | _ => none }
def RelabelAppliesWrongFalsely : Prop := relabelAppliesRow.holds Tryd.pinned (OpenSpec.ofChange relabelAppliesWrong)

/-- 'limnographlaw33.RelabelParts': WHATEVER THE INPUT: true; the input reads as it did. -/
def relabelPartsSpec : ChangeSpec := { name := "relabelParts", fn := fun _ => fun
  | [d1, d2, d3] => { results := [.lit (.bool true)], args := [d1, d2, d3] }
  | _ => none }
def relabelPartsRow : OpenClaim := { program := "ytihlealbhlgikaadoor", sum := "37f59fcde2e17d9d9898be2a734f2dbeceab391e8db16267500cc06e7177e59a", func := "limnograph/limnographlaw33.RelabelParts", spec := "relabelParts", inPlace := ["math.Float64frombits", "math/bits.Add64"], unfollowed := true, recurses := true, named := ["limnograph/glob.none"], apart := false, laid := [("limnograph/glob.none", laid_limnograph_glob_none)] }
def RelabelPartsSaid : Prop := relabelPartsRow.holds Tryd.pinned (OpenSpec.ofChange relabelPartsSpec)

/-- ITS FALSE NEIGHBOUR: 'it returns false'. Refute it at one input. -/
def relabelPartsWrong : ChangeSpec := { name := "relabelParts", fn := fun _ => fun
  | [d1, d2, d3] => { results := [.lit (.bool false)], args := [d1, d2, d3] }
  | _ => none }
def RelabelPartsWrongFalsely : Prop := relabelPartsRow.holds Tryd.pinned (OpenSpec.ofChange relabelPartsWrong)

/-- 'limnographlaw33.RelabelNone': WHATEVER THE INPUT: true; the input reads as it did. -/
def relabelNoneSpec : ChangeSpec := { name := "relabelNone", fn := fun _ => fun
  | [d1, d2] => { results := [.lit (.bool true)], args := [d1, d2] }
  | _ => none }
def relabelNoneRow : OpenClaim := { program := "ytihlealbhlgikaadoor", sum := "37f59fcde2e17d9d9898be2a734f2dbeceab391e8db16267500cc06e7177e59a", func := "limnograph/limnographlaw33.RelabelNone", spec := "relabelNone", inPlace := ["math.Float64frombits", "math/bits.Add64"], unfollowed := true, recurses := true, named := ["limnograph/glob.none"], apart := false, laid := [("limnograph/glob.none", laid_limnograph_glob_none)] }
def RelabelNoneSaid : Prop := relabelNoneRow.holds Tryd.pinned (OpenSpec.ofChange relabelNoneSpec)

/-- ITS FALSE NEIGHBOUR: 'it returns false'. Refute it at one input. -/
def relabelNoneWrong : ChangeSpec := { name := "relabelNone", fn := fun _ => fun
  | [d1, d2] => { results := [.lit (.bool false)], args := [d1, d2] }
  | _ => none }
def RelabelNoneWrongFalsely : Prop := relabelNoneRow.holds Tryd.pinned (OpenSpec.ofChange relabelNoneWrong)

/- THE SECOND FORM. 'bulk': how many values and letters a reading holds, each counted each time it is reached (what is shared counts as often as it is met; a slice's spare places count too). A statement '..UptoSaid' is the law's where the arguments, and the package variables that the reading takes, are together of bulk at most 1048576: NARROWER than '..Said'. Prove '..Said' where nothing that the law and all that it calls make is longer than what came in: it says more and counts as full. Else prove '..UptoSaid'. A law counts once. -/
mutual
def uptoBulk {H : Type} : DataW H → Nat
  | .lit (.string bytes) => bytes.length + 1
  | .lit _ => 1
  | .nil => 1
  | .ptr d => uptoBulk d + 1
  | .slice elems spare => uptoBulkAll elems + uptoBulkAll spare + 1
  | .agg parts => uptoBulkAll parts + 1
  | .iface _ d => uptoBulk d + 1
  | .map entries => uptoBulkEntries entries + 1
  | .held _ => 1
def uptoBulkAll {H : Type} : List (DataW H) → Nat
  | [] => 0
  | d :: r => uptoBulk d + uptoBulkAll r
def uptoBulkEntries {H : Type} : List (Lit × DataW H) → Nat
  | [] => 0
  | x :: r => uptoBulkEntry x + uptoBulkEntries r
def uptoBulkEntry {H : Type} : Lit × DataW H → Nat
  | (.string bytes, d) => bytes.length + uptoBulk d + 1
  | (_, d) => uptoBulk d + 1
 end
def uptoSmall : (H : Type) → List (DataW H) → Bool := fun _ ds => decide (uptoBulkAll ds ≤ 1048576)
def OpenSpec.upto (s : _root_.Go.ChangeSpec) : _root_.Go.OpenSpec := { _root_.Go.OpenSpec.ofChange s with cond := some uptoSmall }

/-- 'limnographlaw33.RelabelChecks', WHERE WHAT IT READS IS OF BULK AT MOST 1048576: true; the input reads as it did. -/
def relabelChecksUptoRow : OpenClaim := { program := "ytihlealbhlgikaadoor", sum := "37f59fcde2e17d9d9898be2a734f2dbeceab391e8db16267500cc06e7177e59a", func := "limnograph/limnographlaw33.RelabelChecks", spec := "relabelChecks", inPlace := ["math.Float64frombits", "math/bits.Add64"], unfollowed := true, recurses := true, named := ["limnograph/glob.none"], apart := false, laid := [("limnograph/glob.none", laid_limnograph_glob_none)], narrowed := true }
def RelabelChecksUptoSaid : Prop := relabelChecksUptoRow.holds Tryd.pinned (OpenSpec.upto relabelChecksSpec)

/-- 'limnographlaw33.RelabelApplies', WHERE WHAT IT READS IS OF BULK AT MOST 1048576: true; the input reads as it did. -/
def relabelAppliesUptoRow : OpenClaim := { program := "ytihlealbhlgikaadoor", sum := "37f59fcde2e17d9d9898be2a734f2dbeceab391e8db16267500cc06e7177e59a", func := "limnograph/limnographlaw33.RelabelApplies", spec := "relabelApplies", inPlace := ["math.Float64frombits", "math/bits.Add64"], unfollowed := true, recurses := true, named := ["limnograph/glob.none"], apart := false, laid := [("limnograph/glob.none", laid_limnograph_glob_none)], narrowed := true }
def RelabelAppliesUptoSaid : Prop := relabelAppliesUptoRow.holds Tryd.pinned (OpenSpec.upto relabelAppliesSpec)

/-- 'limnographlaw33.RelabelParts', WHERE WHAT IT READS IS OF BULK AT MOST 1048576: true; the input reads as it did. -/
def relabelPartsUptoRow : OpenClaim := { program := "ytihlealbhlgikaadoor", sum := "37f59fcde2e17d9d9898be2a734f2dbeceab391e8db16267500cc06e7177e59a", func := "limnograph/limnographlaw33.RelabelParts", spec := "relabelParts", inPlace := ["math.Float64frombits", "math/bits.Add64"], unfollowed := true, recurses := true, named := ["limnograph/glob.none"], apart := false, laid := [("limnograph/glob.none", laid_limnograph_glob_none)], narrowed := true }
def RelabelPartsUptoSaid : Prop := relabelPartsUptoRow.holds Tryd.pinned (OpenSpec.upto relabelPartsSpec)

/-- 'limnographlaw33.RelabelNone', WHERE WHAT IT READS IS OF BULK AT MOST 1048576: true; the input reads as it did. -/
def relabelNoneUptoRow : OpenClaim := { program := "ytihlealbhlgikaadoor", sum := "37f59fcde2e17d9d9898be2a734f2dbeceab391e8db16267500cc06e7177e59a", func := "limnograph/limnographlaw33.RelabelNone", spec := "relabelNone", inPlace := ["math.Float64frombits", "math/bits.Add64"], unfollowed := true, recurses := true, named := ["limnograph/glob.none"], apart := false, laid := [("limnograph/glob.none", laid_limnograph_glob_none)], narrowed := true }
def RelabelNoneUptoSaid : Prop := relabelNoneUptoRow.holds Tryd.pinned (OpenSpec.upto relabelNoneSpec)

end Rows
end Go.Proofs.YtihlealbhlgikaaDoor
