/-
  No cell of these rows narrows 'for every input' (looked for: loops, veiled, ifaces, maps, wideKeys, modest, calm, conditions, laid).
  DERIVED. THE GIVEN ROWS OF THIS SEAT. 4 by the template 'for every input the law returns true; each argument reads behind the call as it read before'; 0 by the template 'total and deterministic' (their statements: YtmjgdjaneckdaaaTotals.lean).
  GIVEN WITH THE SEED: the statements are not yours to turn. If you find one false, say at which input.
  Laid BY PROGRAM, IN A SANDBOX (cutbox-rows.mjs): the forced cells as the released guide's own fill.sh prints them over the translation eb1bd068ce24e06f… (all of the seat's roots in one cut). By AI agents, Wed Nov 11 2026. No macro, syntax, notation, axiom, sorry.
-/
import Derived.Test.YtmjgdjaneckdaaaChecked
import GoSem.Claim
import GoSem.ClaimJoined
import GoSem.ClaimMapViews
import Derived.JoinedTies
import Derived.KernelRfl
namespace Go.Proofs.Ytmjgdjaneckdaaa
/- THE CELL 'sum', in the pinned program and in every row, IS THE sha256 OF THE DUMP (.gsa) THAT YtmjgdjaneckdaaaProg.lean LOADS. Nothing in Lean hashes anything: it is a label: what it is worth is what the hold of that sum in a sandbox is worth. -/
noncomputable def Try.pinned : Pinned := { name := "ytmjgdjaneckdaaa", sum := "eb1bd068ce24e06fabe388a44d7c698034eb6f46a24a7fbad0169c1b744cb1f1", checked := Try.checked }
namespace Rows
def none {H : Type} : Left H := { results := [], args := [] }

/-- 'limnographlaw05.NumAdds': WHATEVER THE INPUT: true; the input reads as it did. -/
def numAddsSpec : ChangeSpec := { name := "numAdds", fn := fun _ => fun
  | [d1, d2] => { results := [.lit (.bool true)], args := [d1, d2] }
  | _ => none }
def numAddsRow : OpenClaim := { program := "ytmjgdjaneckdaaa", sum := "eb1bd068ce24e06fabe388a44d7c698034eb6f46a24a7fbad0169c1b744cb1f1", func := "limnograph/limnographlaw05.NumAdds", spec := "numAdds", inPlace := ["math.Float64frombits", "math.Float64bits"], apart := false }
def NumAddsSaid : Prop := numAddsRow.holds Try.pinned (OpenSpec.ofChange numAddsSpec)

/-- ITS FALSE NEIGHBOUR: 'it returns false'. Refute it at one input. -/
def numAddsWrong : ChangeSpec := { name := "numAdds", fn := fun _ => fun
  | [d1, d2] => { results := [.lit (.bool false)], args := [d1, d2] }
  | _ => none }
def NumAddsWrongFalsely : Prop := numAddsRow.holds Try.pinned (OpenSpec.ofChange numAddsWrong)

/-- 'limnographlaw05.NumKinds': WHATEVER THE INPUT: true; the input reads as it did. -/
def numKindsSpec : ChangeSpec := { name := "numKinds", fn := fun _ => fun
  | [d] => { results := [.lit (.bool true)], args := [d] }
  | _ => none }
def numKindsRow : OpenClaim := { program := "ytmjgdjaneckdaaa", sum := "eb1bd068ce24e06fabe388a44d7c698034eb6f46a24a7fbad0169c1b744cb1f1", func := "limnograph/limnographlaw05.NumKinds", spec := "numKinds", inPlace := ["math.Float64frombits", "math.Float64bits"], apart := false }
def NumKindsSaid : Prop := numKindsRow.holds Try.pinned (OpenSpec.ofChange numKindsSpec)

/-- ITS FALSE NEIGHBOUR: 'it returns false'. Refute it at one input. -/
def numKindsWrong : ChangeSpec := { name := "numKinds", fn := fun _ => fun
  | [d] => { results := [.lit (.bool false)], args := [d] }
  | _ => none }
def NumKindsWrongFalsely : Prop := numKindsRow.holds Try.pinned (OpenSpec.ofChange numKindsWrong)

/-- 'limnographlaw05.NumTurns': WHATEVER THE INPUT: true; the input reads as it did. -/
def numTurnsSpec : ChangeSpec := { name := "numTurns", fn := fun _ => fun
  | [d1, d2] => { results := [.lit (.bool true)], args := [d1, d2] }
  | _ => none }
def numTurnsRow : OpenClaim := { program := "ytmjgdjaneckdaaa", sum := "eb1bd068ce24e06fabe388a44d7c698034eb6f46a24a7fbad0169c1b744cb1f1", func := "limnograph/limnographlaw05.NumTurns", spec := "numTurns", inPlace := ["math.Float64frombits", "math.Float64bits"], apart := false }
def NumTurnsSaid : Prop := numTurnsRow.holds Try.pinned (OpenSpec.ofChange numTurnsSpec)

/-- ITS FALSE NEIGHBOUR: 'it returns false'. Refute it at one input. -/
def numTurnsWrong : ChangeSpec := { name := "numTurns", fn := fun _ => fun
  | [d1, d2] => { results := [.lit (.bool false)], args := [d1, d2] }
  | _ => none }
def NumTurnsWrongFalsely : Prop := numTurnsRow.holds Try.pinned (OpenSpec.ofChange numTurnsWrong)

/-- 'limnographlaw05.NumPhasors': WHATEVER THE INPUT: true; the input reads as it did. -/
def numPhasorsSpec : ChangeSpec := { name := "numPhasors", fn := fun _ => fun
  | [d1, d2, d3, d4] => { results := [.lit (.bool true)], args := [d1, d2, d3, d4] }
  | _ => none }
def numPhasorsRow : OpenClaim := { program := "ytmjgdjaneckdaaa", sum := "eb1bd068ce24e06fabe388a44d7c698034eb6f46a24a7fbad0169c1b744cb1f1", func := "limnograph/limnographlaw05.NumPhasors", spec := "numPhasors", inPlace := ["math.Float64frombits", "math.Float64bits"], apart := false }
def NumPhasorsSaid : Prop := numPhasorsRow.holds Try.pinned (OpenSpec.ofChange numPhasorsSpec)

/-- ITS FALSE NEIGHBOUR: 'it returns false'. Refute it at one input. -/
def numPhasorsWrong : ChangeSpec := { name := "numPhasors", fn := fun _ => fun
  | [d1, d2, d3, d4] => { results := [.lit (.bool false)], args := [d1, d2, d3, d4] }
  | _ => none }
def NumPhasorsWrongFalsely : Prop := numPhasorsRow.holds Try.pinned (OpenSpec.ofChange numPhasorsWrong)

/- THE SECOND FORM. 'bulk': how many values and letters a reading holds, each counted each time it is reached (what is shared counts as often as it is met; a slice's spare places count too). A statement '..UptoSaid' is the law's where the arguments, and the package variables that the reading takes, are together of bulk at most 1048576: NARROWER than '..Said'. Prove '..Said' where nothing that the law and all that it calls make is longer than what came in: it says more and counts as full. Else prove '..UptoSaid'. A law counts once. -/
mutual
def uptoBulk {H : Type} : DataW H → Nat
  | .lit (.string bytes) => bytes.length + 1
  | .lit _ => 1
  | .nil => 1
  | .ptr d => uptoBulk d + 1
  | .slice elems spare => uptoBulkAll elems + uptoBulkAll spare + 1
  | .agg parts => uptoBulkAll parts + 1
  | .iface _ d => uptoBulk d + 1
  | .map entries => uptoBulkEntries entries + 1
  | .held _ => 1
def uptoBulkAll {H : Type} : List (DataW H) → Nat
  | [] => 0
  | d :: r => uptoBulk d + uptoBulkAll r
def uptoBulkEntries {H : Type} : List (Lit × DataW H) → Nat
  | [] => 0
  | x :: r => uptoBulkEntry x + uptoBulkEntries r
def uptoBulkEntry {H : Type} : Lit × DataW H → Nat
  | (.string bytes, d) => bytes.length + uptoBulk d + 1
  | (_, d) => uptoBulk d + 1
 end
def uptoSmall : (H : Type) → List (DataW H) → Bool := fun _ ds => decide (uptoBulkAll ds ≤ 1048576)
def OpenSpec.upto (s : _root_.Go.ChangeSpec) : _root_.Go.OpenSpec := { _root_.Go.OpenSpec.ofChange s with cond := some uptoSmall }

/-- 'limnographlaw05.NumAdds', WHERE WHAT IT READS IS OF BULK AT MOST 1048576: true; the input reads as it did. -/
def numAddsUptoRow : OpenClaim := { program := "ytmjgdjaneckdaaa", sum := "eb1bd068ce24e06fabe388a44d7c698034eb6f46a24a7fbad0169c1b744cb1f1", func := "limnograph/limnographlaw05.NumAdds", spec := "numAdds", inPlace := ["math.Float64frombits", "math.Float64bits"], apart := false, narrowed := true }
def NumAddsUptoSaid : Prop := numAddsUptoRow.holds Try.pinned (OpenSpec.upto numAddsSpec)

/-- 'limnographlaw05.NumKinds', WHERE WHAT IT READS IS OF BULK AT MOST 1048576: true; the input reads as it did. -/
def numKindsUptoRow : OpenClaim := { program := "ytmjgdjaneckdaaa", sum := "eb1bd068ce24e06fabe388a44d7c698034eb6f46a24a7fbad0169c1b744cb1f1", func := "limnograph/limnographlaw05.NumKinds", spec := "numKinds", inPlace := ["math.Float64frombits", "math.Float64bits"], apart := false, narrowed := true }
def NumKindsUptoSaid : Prop := numKindsUptoRow.holds Try.pinned (OpenSpec.upto numKindsSpec)

/-- 'limnographlaw05.NumTurns', WHERE WHAT IT READS IS OF BULK AT MOST 1048576: true; the input reads as it did. -/
def numTurnsUptoRow : OpenClaim := { program := "ytmjgdjaneckdaaa", sum := "eb1bd068ce24e06fabe388a44d7c698034eb6f46a24a7fbad0169c1b744cb1f1", func := "limnograph/limnographlaw05.NumTurns", spec := "numTurns", inPlace := ["math.Float64frombits", "math.Float64bits"], apart := false, narrowed := true }
def NumTurnsUptoSaid : Prop := numTurnsUptoRow.holds Try.pinned (OpenSpec.upto numTurnsSpec)

/-- 'limnographlaw05.NumPhasors', WHERE WHAT IT READS IS OF BULK AT MOST 1048576: true; the input reads as it did. -/
def numPhasorsUptoRow : OpenClaim := { program := "ytmjgdjaneckdaaa", sum := "eb1bd068ce24e06fabe388a44d7c698034eb6f46a24a7fbad0169c1b744cb1f1", func := "limnograph/limnographlaw05.NumPhasors", spec := "numPhasors", inPlace := ["math.Float64frombits", "math.Float64bits"], apart := false, narrowed := true }
def NumPhasorsUptoSaid : Prop := numPhasorsUptoRow.holds Try.pinned (OpenSpec.upto numPhasorsSpec)

end Rows
end Go.Proofs.Ytmjgdjaneckdaaa
