/-
  No cell of these rows narrows 'for every input' (looked for: loops, veiled, ifaces, maps, wideKeys, modest, calm, conditions, laid).
  DERIVED. THE GIVEN ROWS OF THIS SEAT. 3 by the template 'for every input the law returns true; each argument reads behind the call as it read before'; 0 by the template 'total and deterministic' (their statements: YtihlealbhlgikaaTotals.lean).
  GIVEN WITH THE SEED: the statements are not yours to turn. If you find one false, say at which input.
  Laid BY PROGRAM, IN A SANDBOX (cutbox-rows.mjs): the forced cells as the released guide's own fill.sh prints them over the translation 1bffe0265ff1fe57… (all of the seat's roots in one cut). By AI agents, Wed Nov 11 2026. No macro, syntax, notation, axiom, sorry.
-/
import Derived.Test.YtihlealbhlgikaaChecked
import GoSem.Claim
import GoSem.ClaimJoined
import GoSem.ClaimMapViews
import Derived.JoinedTies
import Derived.KernelRfl
namespace Go.Proofs.Ytihlealbhlgikaa
/- THE CELL 'sum', in the pinned program and in every row, IS THE sha256 OF THE DUMP (.gsa) THAT YtihlealbhlgikaaProg.lean LOADS. Nothing in Lean hashes anything: it is a label: what it is worth is what the hold of that sum in a sandbox is worth. -/
noncomputable def Try.pinned : Pinned := { name := "ytihlealbhlgikaa", sum := "1bffe0265ff1fe572ae6c874cf112737eab1b06a854e1bbfab13757c8ac75c01", checked := Try.checked }
namespace Rows
def none {H : Type} : Left H := { results := [], args := [] }

/-- 'limnographlaw36.RollupTwice': WHATEVER THE INPUT: true; the input reads as it did. -/
def rollupTwiceSpec : ChangeSpec := { name := "rollupTwice", fn := fun _ => fun
  | [d1, d2, d3] => { results := [.lit (.bool true)], args := [d1, d2, d3] }
  | _ => none }
def rollupTwiceRow : OpenClaim := { program := "ytihlealbhlgikaa", sum := "1bffe0265ff1fe572ae6c874cf112737eab1b06a854e1bbfab13757c8ac75c01", func := "limnograph/limnographlaw36.RollupTwice", spec := "rollupTwice", inPlace := ["math.Float64frombits", "math/bits.Add64", "internal/abi.NoEscape", "math.Float64bits"], unfollowed := true, recurses := true, apart := false }
def RollupTwiceSaid : Prop := rollupTwiceRow.holds Try.pinned (OpenSpec.ofChange rollupTwiceSpec)

/-- ITS FALSE NEIGHBOUR: 'it returns false'. Refute it at one input. -/
def rollupTwiceWrong : ChangeSpec := { name := "rollupTwice", fn := fun _ => fun
  | [d1, d2, d3] => { results := [.lit (.bool false)], args := [d1, d2, d3] }
  | _ => none }
def RollupTwiceWrongFalsely : Prop := rollupTwiceRow.holds Try.pinned (OpenSpec.ofChange rollupTwiceWrong)

/-- 'limnographlaw36.RollupSums': WHATEVER THE INPUT: true; the input reads as it did. -/
def rollupSumsSpec : ChangeSpec := { name := "rollupSums", fn := fun _ => fun
  | [d1, d2] => { results := [.lit (.bool true)], args := [d1, d2] }
  | _ => none }
def rollupSumsRow : OpenClaim := { program := "ytihlealbhlgikaa", sum := "1bffe0265ff1fe572ae6c874cf112737eab1b06a854e1bbfab13757c8ac75c01", func := "limnograph/limnographlaw36.RollupSums", spec := "rollupSums", inPlace := ["math.Float64frombits", "math/bits.Add64", "internal/abi.NoEscape", "math.Float64bits"], unfollowed := true, recurses := true, apart := false }
def RollupSumsSaid : Prop := rollupSumsRow.holds Try.pinned (OpenSpec.ofChange rollupSumsSpec)

/-- ITS FALSE NEIGHBOUR: 'it returns false'. Refute it at one input. -/
def rollupSumsWrong : ChangeSpec := { name := "rollupSums", fn := fun _ => fun
  | [d1, d2] => { results := [.lit (.bool false)], args := [d1, d2] }
  | _ => none }
def RollupSumsWrongFalsely : Prop := rollupSumsRow.holds Try.pinned (OpenSpec.ofChange rollupSumsWrong)

/-- 'limnographlaw31.OtlpBack': WHATEVER THE INPUT: true; the input reads as it did. -/
def otlpBackSpec : ChangeSpec := { name := "otlpBack", fn := fun _ => fun
  | [d1, d2] => { results := [.lit (.bool true)], args := [d1, d2] }
  | _ => none }
def otlpBackRow : OpenClaim := { program := "ytihlealbhlgikaa", sum := "1bffe0265ff1fe572ae6c874cf112737eab1b06a854e1bbfab13757c8ac75c01", func := "limnograph/limnographlaw31.OtlpBack", spec := "otlpBack", inPlace := ["math.Float64frombits", "math/bits.Add64"], unfollowed := true, recurses := true, apart := false }
def OtlpBackSaid : Prop := otlpBackRow.holds Try.pinned (OpenSpec.ofChange otlpBackSpec)

/-- ITS FALSE NEIGHBOUR: 'it returns false'. Refute it at one input. -/
def otlpBackWrong : ChangeSpec := { name := "otlpBack", fn := fun _ => fun
  | [d1, d2] => { results := [.lit (.bool false)], args := [d1, d2] }
  | _ => none }
def OtlpBackWrongFalsely : Prop := otlpBackRow.holds Try.pinned (OpenSpec.ofChange otlpBackWrong)

/- THE SECOND FORM. 'bulk': how many values and letters a reading holds, each counted each time it is reached (what is shared counts as often as it is met; a slice's spare places count too). A statement '..UptoSaid' is the law's where the arguments, and the package variables that the reading takes, are together of bulk at most 1048576: NARROWER than '..Said'. Prove '..Said' where nothing that the law and all that it calls make is longer than what came in: it says more and counts as full. Else prove '..UptoSaid'. A law counts once. -/
mutual
def uptoBulk {H : Type} : DataW H → Nat
  | .lit (.string bytes) => bytes.length + 1
  | .lit _ => 1
  | .nil => 1
  | .ptr d => uptoBulk d + 1
  | .slice elems spare => uptoBulkAll elems + uptoBulkAll spare + 1
  | .agg parts => uptoBulkAll parts + 1
  | .iface _ d => uptoBulk d + 1
  | .map entries => uptoBulkEntries entries + 1
  | .held _ => 1
def uptoBulkAll {H : Type} : List (DataW H) → Nat
  | [] => 0
  | d :: r => uptoBulk d + uptoBulkAll r
def uptoBulkEntries {H : Type} : List (Lit × DataW H) → Nat
  | [] => 0
  | x :: r => uptoBulkEntry x + uptoBulkEntries r
def uptoBulkEntry {H : Type} : Lit × DataW H → Nat
  | (.string bytes, d) => bytes.length + uptoBulk d + 1
  | (_, d) => uptoBulk d + 1
 end
def uptoSmall : (H : Type) → List (DataW H) → Bool := fun _ ds => decide (uptoBulkAll ds ≤ 1048576)
def OpenSpec.upto (s : _root_.Go.ChangeSpec) : _root_.Go.OpenSpec := { _root_.Go.OpenSpec.ofChange s with cond := some uptoSmall }

/-- 'limnographlaw36.RollupTwice', WHERE WHAT IT READS IS OF BULK AT MOST 1048576: true; the input reads as it did. -/
def rollupTwiceUptoRow : OpenClaim := { program := "ytihlealbhlgikaa", sum := "1bffe0265ff1fe572ae6c874cf112737eab1b06a854e1bbfab13757c8ac75c01", func := "limnograph/limnographlaw36.RollupTwice", spec := "rollupTwice", inPlace := ["math.Float64frombits", "math/bits.Add64", "internal/abi.NoEscape", "math.Float64bits"], unfollowed := true, recurses := true, apart := false, narrowed := true }
def RollupTwiceUptoSaid : Prop := rollupTwiceUptoRow.holds Try.pinned (OpenSpec.upto rollupTwiceSpec)

/-- 'limnographlaw36.RollupSums', WHERE WHAT IT READS IS OF BULK AT MOST 1048576: true; the input reads as it did. -/
def rollupSumsUptoRow : OpenClaim := { program := "ytihlealbhlgikaa", sum := "1bffe0265ff1fe572ae6c874cf112737eab1b06a854e1bbfab13757c8ac75c01", func := "limnograph/limnographlaw36.RollupSums", spec := "rollupSums", inPlace := ["math.Float64frombits", "math/bits.Add64", "internal/abi.NoEscape", "math.Float64bits"], unfollowed := true, recurses := true, apart := false, narrowed := true }
def RollupSumsUptoSaid : Prop := rollupSumsUptoRow.holds Try.pinned (OpenSpec.upto rollupSumsSpec)

/-- 'limnographlaw31.OtlpBack', WHERE WHAT IT READS IS OF BULK AT MOST 1048576: true; the input reads as it did. -/
def otlpBackUptoRow : OpenClaim := { program := "ytihlealbhlgikaa", sum := "1bffe0265ff1fe572ae6c874cf112737eab1b06a854e1bbfab13757c8ac75c01", func := "limnograph/limnographlaw31.OtlpBack", spec := "otlpBack", inPlace := ["math.Float64frombits", "math/bits.Add64"], unfollowed := true, recurses := true, apart := false, narrowed := true }
def OtlpBackUptoSaid : Prop := otlpBackUptoRow.holds Try.pinned (OpenSpec.upto otlpBackSpec)

end Rows
end Go.Proofs.Ytihlealbhlgikaa
