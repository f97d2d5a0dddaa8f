/-
  No cell of these rows narrows 'for every input' (looked for: loops, veiled, ifaces, maps, wideKeys, modest, calm, conditions, laid).
  DERIVED. THE GIVEN ROWS OF THIS SEAT. 3 by the template 'for every input the law returns true; each argument reads behind the call as it read before'; 0 by the template 'total and deterministic' (their statements: YtihlealbhlgikaaGreatTotals.lean).
  GIVEN WITH THE SEED: the statements are not yours to turn. If you find one false, say at which input.
  Laid BY PROGRAM, IN A SANDBOX (cutbox-rows.mjs): the forced cells as the released guide's own fill.sh prints them over the translation 705ee9e109dc52c5… (all of the seat's roots in one cut). By AI agents, Wed Nov 11 2026. No macro, syntax, notation, axiom, sorry.
-/
import Derived.Test.YtihlealbhlgikaaGreatChecked
import GoSem.Claim
import GoSem.ClaimJoined
import GoSem.ClaimMapViews
import Derived.JoinedTies
import Derived.KernelRfl
namespace Go.Proofs.YtihlealbhlgikaaGreat
/- THE CELL 'sum', in the pinned program and in every row, IS THE sha256 OF THE DUMP (.gsa) THAT YtihlealbhlgikaaGreatProg.lean LOADS. Nothing in Lean hashes anything: it is a label: what it is worth is what the hold of that sum in a sandbox is worth. -/
noncomputable def Tryz.pinned : Pinned := { name := "ytihlealbhlgikaagreat", sum := "705ee9e109dc52c50dad8f6cafc901c356e6cc0955bb74a11bab52c5dd28b09e", checked := Tryz.checked }
namespace Rows
def none {H : Type} : Left H := { results := [], args := [] }

/-- 'limnographlaw36.RollupRolls': WHATEVER THE INPUT: true; the input reads as it did. -/
def rollupRollsSpec : ChangeSpec := { name := "rollupRolls", fn := fun _ => fun
  | [d1, d2] => { results := [.lit (.bool true)], args := [d1, d2] }
  | _ => none }
def rollupRollsRow : OpenClaim := { program := "ytihlealbhlgikaagreat", sum := "705ee9e109dc52c50dad8f6cafc901c356e6cc0955bb74a11bab52c5dd28b09e", func := "limnograph/limnographlaw36.RollupRolls", spec := "rollupRolls", inPlace := ["math.Float64frombits", "math/bits.Add64", "internal/abi.NoEscape", "math.Float64bits"], unfollowed := true, recurses := true, apart := false }
def RollupRollsSaid : Prop := rollupRollsRow.holds Tryz.pinned (OpenSpec.ofChange rollupRollsSpec)

/-- ITS FALSE NEIGHBOUR: 'it returns false'. Refute it at one input. -/
def rollupRollsWrong : ChangeSpec := { name := "rollupRolls", fn := fun _ => fun
  | [d1, d2] => { results := [.lit (.bool false)], args := [d1, d2] }
  | _ => none }
def RollupRollsWrongFalsely : Prop := rollupRollsRow.holds Tryz.pinned (OpenSpec.ofChange rollupRollsWrong)

/-- 'limnographlaw36.RollupMerges': WHATEVER THE INPUT: true; the input reads as it did. -/
def rollupMergesSpec : ChangeSpec := { name := "rollupMerges", fn := fun _ => fun
  | [d1, d2, d3, d4] => { results := [.lit (.bool true)], args := [d1, d2, d3, d4] }
  | _ => none }
def rollupMergesRow : OpenClaim := { program := "ytihlealbhlgikaagreat", sum := "705ee9e109dc52c50dad8f6cafc901c356e6cc0955bb74a11bab52c5dd28b09e", func := "limnograph/limnographlaw36.RollupMerges", spec := "rollupMerges", inPlace := ["math.Float64frombits", "math/bits.Add64", "internal/abi.NoEscape", "math.Float64bits"], unfollowed := true, recurses := true, apart := false }
def RollupMergesSaid : Prop := rollupMergesRow.holds Tryz.pinned (OpenSpec.ofChange rollupMergesSpec)

/-- ITS FALSE NEIGHBOUR: 'it returns false'. Refute it at one input. -/
def rollupMergesWrong : ChangeSpec := { name := "rollupMerges", fn := fun _ => fun
  | [d1, d2, d3, d4] => { results := [.lit (.bool false)], args := [d1, d2, d3, d4] }
  | _ => none }
def RollupMergesWrongFalsely : Prop := rollupMergesRow.holds Tryz.pinned (OpenSpec.ofChange rollupMergesWrong)

/-- 'limnographlaw31.OtlpWrites': WHATEVER THE INPUT: true; the input reads as it did. -/
def otlpWritesSpec : ChangeSpec := { name := "otlpWrites", fn := fun _ => fun
  | [d] => { results := [.lit (.bool true)], args := [d] }
  | _ => none }
def otlpWritesRow : OpenClaim := { program := "ytihlealbhlgikaagreat", sum := "705ee9e109dc52c50dad8f6cafc901c356e6cc0955bb74a11bab52c5dd28b09e", func := "limnograph/limnographlaw31.OtlpWrites", spec := "otlpWrites", inPlace := ["math.Float64frombits", "math/bits.Add64"], unfollowed := true, recurses := true, apart := false }
def OtlpWritesSaid : Prop := otlpWritesRow.holds Tryz.pinned (OpenSpec.ofChange otlpWritesSpec)

/-- ITS FALSE NEIGHBOUR: 'it returns false'. Refute it at one input. -/
def otlpWritesWrong : ChangeSpec := { name := "otlpWrites", fn := fun _ => fun
  | [d] => { results := [.lit (.bool false)], args := [d] }
  | _ => none }
def OtlpWritesWrongFalsely : Prop := otlpWritesRow.holds Tryz.pinned (OpenSpec.ofChange otlpWritesWrong)

/- THE SECOND FORM. 'bulk': how many values and letters a reading holds, each counted each time it is reached (what is shared counts as often as it is met; a slice's spare places count too). A statement '..UptoSaid' is the law's where the arguments, and the package variables that the reading takes, are together of bulk at most 1048576: NARROWER than '..Said'. Prove '..Said' where nothing that the law and all that it calls make is longer than what came in: it says more and counts as full. Else prove '..UptoSaid'. A law counts once. -/
mutual
def uptoBulk {H : Type} : DataW H → Nat
  | .lit (.string bytes) => bytes.length + 1
  | .lit _ => 1
  | .nil => 1
  | .ptr d => uptoBulk d + 1
  | .slice elems spare => uptoBulkAll elems + uptoBulkAll spare + 1
  | .agg parts => uptoBulkAll parts + 1
  | .iface _ d => uptoBulk d + 1
  | .map entries => uptoBulkEntries entries + 1
  | .held _ => 1
def uptoBulkAll {H : Type} : List (DataW H) → Nat
  | [] => 0
  | d :: r => uptoBulk d + uptoBulkAll r
def uptoBulkEntries {H : Type} : List (Lit × DataW H) → Nat
  | [] => 0
  | x :: r => uptoBulkEntry x + uptoBulkEntries r
def uptoBulkEntry {H : Type} : Lit × DataW H → Nat
  | (.string bytes, d) => bytes.length + uptoBulk d + 1
  | (_, d) => uptoBulk d + 1
 end
def uptoSmall : (H : Type) → List (DataW H) → Bool := fun _ ds => decide (uptoBulkAll ds ≤ 1048576)
def OpenSpec.upto (s : _root_.Go.ChangeSpec) : _root_.Go.OpenSpec := { _root_.Go.OpenSpec.ofChange s with cond := some uptoSmall }

/-- 'limnographlaw36.RollupRolls', WHERE WHAT IT READS IS OF BULK AT MOST 1048576: true; the input reads as it did. -/
def rollupRollsUptoRow : OpenClaim := { program := "ytihlealbhlgikaagreat", sum := "705ee9e109dc52c50dad8f6cafc901c356e6cc0955bb74a11bab52c5dd28b09e", func := "limnograph/limnographlaw36.RollupRolls", spec := "rollupRolls", inPlace := ["math.Float64frombits", "math/bits.Add64", "internal/abi.NoEscape", "math.Float64bits"], unfollowed := true, recurses := true, apart := false, narrowed := true }
def RollupRollsUptoSaid : Prop := rollupRollsUptoRow.holds Tryz.pinned (OpenSpec.upto rollupRollsSpec)

/-- 'limnographlaw36.RollupMerges', WHERE WHAT IT READS IS OF BULK AT MOST 1048576: true; the input reads as it did. -/
def rollupMergesUptoRow : OpenClaim := { program := "ytihlealbhlgikaagreat", sum := "705ee9e109dc52c50dad8f6cafc901c356e6cc0955bb74a11bab52c5dd28b09e", func := "limnograph/limnographlaw36.RollupMerges", spec := "rollupMerges", inPlace := ["math.Float64frombits", "math/bits.Add64", "internal/abi.NoEscape", "math.Float64bits"], unfollowed := true, recurses := true, apart := false, narrowed := true }
def RollupMergesUptoSaid : Prop := rollupMergesUptoRow.holds Tryz.pinned (OpenSpec.upto rollupMergesSpec)

/-- 'limnographlaw31.OtlpWrites', WHERE WHAT IT READS IS OF BULK AT MOST 1048576: true; the input reads as it did. -/
def otlpWritesUptoRow : OpenClaim := { program := "ytihlealbhlgikaagreat", sum := "705ee9e109dc52c50dad8f6cafc901c356e6cc0955bb74a11bab52c5dd28b09e", func := "limnograph/limnographlaw31.OtlpWrites", spec := "otlpWrites", inPlace := ["math.Float64frombits", "math/bits.Add64"], unfollowed := true, recurses := true, apart := false, narrowed := true }
def OtlpWritesUptoSaid : Prop := otlpWritesUptoRow.holds Tryz.pinned (OpenSpec.upto otlpWritesSpec)

end Rows
end Go.Proofs.YtihlealbhlgikaaGreat
