/-
  No cell of these rows narrows 'for every input' (looked for: loops, veiled, ifaces, maps, wideKeys, modest, calm, conditions, laid).
  DERIVED. THE GIVEN ROWS OF THIS SEAT. 8 by the template 'for every input the law returns true; each argument reads behind the call as it read before'; 0 by the template 'total and deterministic' (their statements: YtoiklipabcecfaaTotals.lean).
  GIVEN WITH THE SEED: the statements are not yours to turn. If you find one false, say at which input.
  Laid BY PROGRAM, IN A SANDBOX (cutbox-rows.mjs): the forced cells as the released guide's own fill.sh prints them over the translation f60465d9429f82fb… (all of the seat's roots in one cut). By AI agents, Wed Nov 11 2026. No macro, syntax, notation, axiom, sorry.
-/
import Derived.Test.YtoiklipabcecfaaChecked
import GoSem.Claim
import GoSem.ClaimJoined
import GoSem.ClaimMapViews
import Derived.JoinedTies
import Derived.KernelRfl
namespace Go.Proofs.Ytoiklipabcecfaa
/- THE CELL 'sum', in the pinned program and in every row, IS THE sha256 OF THE DUMP (.gsa) THAT YtoiklipabcecfaaProg.lean LOADS. Nothing in Lean hashes anything: it is a label: what it is worth is what the hold of that sum in a sandbox is worth. -/
noncomputable def Try.pinned : Pinned := { name := "ytoiklipabcecfaa", sum := "f60465d9429f82fbd9d6397d70af2600132d067596b5e8c9c26b78a387b5637d", checked := Try.checked }
namespace Rows
def none {H : Type} : Left H := { results := [], args := [] }

/-- 'limnographlaw15.TodeltaTiles': WHATEVER THE INPUT: true; the input reads as it did. -/
def todeltaTilesSpec : ChangeSpec := { name := "todeltaTiles", fn := fun _ => fun
  | [d1, d2] => { results := [.lit (.bool true)], args := [d1, d2] }
  | _ => none }
def todeltaTilesRow : OpenClaim := { program := "ytoiklipabcecfaa", sum := "f60465d9429f82fbd9d6397d70af2600132d067596b5e8c9c26b78a387b5637d", func := "limnograph/limnographlaw15.TodeltaTiles", spec := "todeltaTiles", inPlace := ["math.Float64frombits", "math/bits.Add64", "math.Float64bits"], unfollowed := true, recurses := true, apart := false }
def TodeltaTilesSaid : Prop := todeltaTilesRow.holds Try.pinned (OpenSpec.ofChange todeltaTilesSpec)

/-- ITS FALSE NEIGHBOUR: 'it returns false'. Refute it at one input. -/
def todeltaTilesWrong : ChangeSpec := { name := "todeltaTiles", fn := fun _ => fun
  | [d1, d2] => { results := [.lit (.bool false)], args := [d1, d2] }
  | _ => none }
def TodeltaTilesWrongFalsely : Prop := todeltaTilesRow.holds Try.pinned (OpenSpec.ofChange todeltaTilesWrong)

/-- 'limnographlaw15.TodeltaSums': WHATEVER THE INPUT: true; the input reads as it did. -/
def todeltaSumsSpec : ChangeSpec := { name := "todeltaSums", fn := fun _ => fun
  | [d1, d2] => { results := [.lit (.bool true)], args := [d1, d2] }
  | _ => none }
def todeltaSumsRow : OpenClaim := { program := "ytoiklipabcecfaa", sum := "f60465d9429f82fbd9d6397d70af2600132d067596b5e8c9c26b78a387b5637d", func := "limnograph/limnographlaw15.TodeltaSums", spec := "todeltaSums", inPlace := ["math.Float64frombits", "math/bits.Add64", "math.Float64bits"], unfollowed := true, recurses := true, apart := false }
def TodeltaSumsSaid : Prop := todeltaSumsRow.holds Try.pinned (OpenSpec.ofChange todeltaSumsSpec)

/-- ITS FALSE NEIGHBOUR: 'it returns false'. Refute it at one input. -/
def todeltaSumsWrong : ChangeSpec := { name := "todeltaSums", fn := fun _ => fun
  | [d1, d2] => { results := [.lit (.bool false)], args := [d1, d2] }
  | _ => none }
def TodeltaSumsWrongFalsely : Prop := todeltaSumsRow.holds Try.pinned (OpenSpec.ofChange todeltaSumsWrong)

/-- 'limnographlaw16.TocumNext': WHATEVER THE INPUT: true; the input reads as it did. -/
def tocumNextSpec : ChangeSpec := { name := "tocumNext", fn := fun _ => fun
  | [d1, d2, d3] => { results := [.lit (.bool true)], args := [d1, d2, d3] }
  | _ => none }
def tocumNextRow : OpenClaim := { program := "ytoiklipabcecfaa", sum := "f60465d9429f82fbd9d6397d70af2600132d067596b5e8c9c26b78a387b5637d", func := "limnograph/limnographlaw16.TocumNext", spec := "tocumNext", inPlace := ["math.Float64frombits", "math/bits.Add64", "math.Float64bits"], unfollowed := true, recurses := true, apart := false }
def TocumNextSaid : Prop := tocumNextRow.holds Try.pinned (OpenSpec.ofChange tocumNextSpec)

/-- ITS FALSE NEIGHBOUR: 'it returns false'. Refute it at one input. -/
def tocumNextWrong : ChangeSpec := { name := "tocumNext", fn := fun _ => fun
  | [d1, d2, d3] => { results := [.lit (.bool false)], args := [d1, d2, d3] }
  | _ => none }
def TocumNextWrongFalsely : Prop := tocumNextRow.holds Try.pinned (OpenSpec.ofChange tocumNextWrong)

/-- 'limnographlaw16.TocumTogether': WHATEVER THE INPUT: true; the input reads as it did. -/
def tocumTogetherSpec : ChangeSpec := { name := "tocumTogether", fn := fun _ => fun
  | [d1, d2, d3] => { results := [.lit (.bool true)], args := [d1, d2, d3] }
  | _ => none }
def tocumTogetherRow : OpenClaim := { program := "ytoiklipabcecfaa", sum := "f60465d9429f82fbd9d6397d70af2600132d067596b5e8c9c26b78a387b5637d", func := "limnograph/limnographlaw16.TocumTogether", spec := "tocumTogether", inPlace := ["math.Float64frombits", "math/bits.Add64", "math.Float64bits"], unfollowed := true, recurses := true, apart := false }
def TocumTogetherSaid : Prop := tocumTogetherRow.holds Try.pinned (OpenSpec.ofChange tocumTogetherSpec)

/-- ITS FALSE NEIGHBOUR: 'it returns false'. Refute it at one input. -/
def tocumTogetherWrong : ChangeSpec := { name := "tocumTogether", fn := fun _ => fun
  | [d1, d2, d3] => { results := [.lit (.bool false)], args := [d1, d2, d3] }
  | _ => none }
def TocumTogetherWrongFalsely : Prop := tocumTogetherRow.holds Try.pinned (OpenSpec.ofChange tocumTogetherWrong)

/-- 'limnographlaw16.TocumEpochs': WHATEVER THE INPUT: true; the input reads as it did. -/
def tocumEpochsSpec : ChangeSpec := { name := "tocumEpochs", fn := fun _ => fun
  | [d1, d2] => { results := [.lit (.bool true)], args := [d1, d2] }
  | _ => none }
def tocumEpochsRow : OpenClaim := { program := "ytoiklipabcecfaa", sum := "f60465d9429f82fbd9d6397d70af2600132d067596b5e8c9c26b78a387b5637d", func := "limnograph/limnographlaw16.TocumEpochs", spec := "tocumEpochs", inPlace := ["math.Float64frombits", "math/bits.Add64", "math.Float64bits"], unfollowed := true, recurses := true, apart := false }
def TocumEpochsSaid : Prop := tocumEpochsRow.holds Try.pinned (OpenSpec.ofChange tocumEpochsSpec)

/-- ITS FALSE NEIGHBOUR: 'it returns false'. Refute it at one input. -/
def tocumEpochsWrong : ChangeSpec := { name := "tocumEpochs", fn := fun _ => fun
  | [d1, d2] => { results := [.lit (.bool false)], args := [d1, d2] }
  | _ => none }
def TocumEpochsWrongFalsely : Prop := tocumEpochsRow.holds Try.pinned (OpenSpec.ofChange tocumEpochsWrong)

/-- 'limnographlaw16.TocumSums': WHATEVER THE INPUT: true; the input reads as it did. -/
def tocumSumsSpec : ChangeSpec := { name := "tocumSums", fn := fun _ => fun
  | [d1, d2] => { results := [.lit (.bool true)], args := [d1, d2] }
  | _ => none }
def tocumSumsRow : OpenClaim := { program := "ytoiklipabcecfaa", sum := "f60465d9429f82fbd9d6397d70af2600132d067596b5e8c9c26b78a387b5637d", func := "limnograph/limnographlaw16.TocumSums", spec := "tocumSums", inPlace := ["math.Float64frombits", "math/bits.Add64", "math.Float64bits"], unfollowed := true, recurses := true, apart := false }
def TocumSumsSaid : Prop := tocumSumsRow.holds Try.pinned (OpenSpec.ofChange tocumSumsSpec)

/-- ITS FALSE NEIGHBOUR: 'it returns false'. Refute it at one input. -/
def tocumSumsWrong : ChangeSpec := { name := "tocumSums", fn := fun _ => fun
  | [d1, d2] => { results := [.lit (.bool false)], args := [d1, d2] }
  | _ => none }
def TocumSumsWrongFalsely : Prop := tocumSumsRow.holds Try.pinned (OpenSpec.ofChange tocumSumsWrong)

/-- 'limnographlaw15.TodeltaHists': WHATEVER THE INPUT: true; the input reads as it did. -/
def todeltaHistsSpec : ChangeSpec := { name := "todeltaHists", fn := fun _ => fun
  | [d1, d2] => { results := [.lit (.bool true)], args := [d1, d2] }
  | _ => none }
def todeltaHistsRow : OpenClaim := { program := "ytoiklipabcecfaa", sum := "f60465d9429f82fbd9d6397d70af2600132d067596b5e8c9c26b78a387b5637d", func := "limnograph/limnographlaw15.TodeltaHists", spec := "todeltaHists", inPlace := ["math.Float64frombits", "math/bits.Add64", "math.Float64bits"], unfollowed := true, recurses := true, apart := false }
def TodeltaHistsSaid : Prop := todeltaHistsRow.holds Try.pinned (OpenSpec.ofChange todeltaHistsSpec)

/-- ITS FALSE NEIGHBOUR: 'it returns false'. Refute it at one input. -/
def todeltaHistsWrong : ChangeSpec := { name := "todeltaHists", fn := fun _ => fun
  | [d1, d2] => { results := [.lit (.bool false)], args := [d1, d2] }
  | _ => none }
def TodeltaHistsWrongFalsely : Prop := todeltaHistsRow.holds Try.pinned (OpenSpec.ofChange todeltaHistsWrong)

/-- 'limnographlaw16.TocumMirror': WHATEVER THE INPUT: true; the input reads as it did. -/
def tocumMirrorSpec : ChangeSpec := { name := "tocumMirror", fn := fun _ => fun
  | [d1, d2] => { results := [.lit (.bool true)], args := [d1, d2] }
  | _ => none }
def tocumMirrorRow : OpenClaim := { program := "ytoiklipabcecfaa", sum := "f60465d9429f82fbd9d6397d70af2600132d067596b5e8c9c26b78a387b5637d", func := "limnograph/limnographlaw16.TocumMirror", spec := "tocumMirror", inPlace := ["math.Float64frombits", "math/bits.Add64", "math.Float64bits"], unfollowed := true, recurses := true, apart := false }
def TocumMirrorSaid : Prop := tocumMirrorRow.holds Try.pinned (OpenSpec.ofChange tocumMirrorSpec)

/-- ITS FALSE NEIGHBOUR: 'it returns false'. Refute it at one input. -/
def tocumMirrorWrong : ChangeSpec := { name := "tocumMirror", fn := fun _ => fun
  | [d1, d2] => { results := [.lit (.bool false)], args := [d1, d2] }
  | _ => none }
def TocumMirrorWrongFalsely : Prop := tocumMirrorRow.holds Try.pinned (OpenSpec.ofChange tocumMirrorWrong)

/- THE SECOND FORM. 'bulk': how many values and letters a reading holds, each counted each time it is reached (what is shared counts as often as it is met; a slice's spare places count too). A statement '..UptoSaid' is the law's where the arguments, and the package variables that the reading takes, are together of bulk at most 1048576: NARROWER than '..Said'. Prove '..Said' where nothing that the law and all that it calls make is longer than what came in: it says more and counts as full. Else prove '..UptoSaid'. A law counts once. -/
mutual
def uptoBulk {H : Type} : DataW H → Nat
  | .lit (.string bytes) => bytes.length + 1
  | .lit _ => 1
  | .nil => 1
  | .ptr d => uptoBulk d + 1
  | .slice elems spare => uptoBulkAll elems + uptoBulkAll spare + 1
  | .agg parts => uptoBulkAll parts + 1
  | .iface _ d => uptoBulk d + 1
  | .map entries => uptoBulkEntries entries + 1
  | .held _ => 1
def uptoBulkAll {H : Type} : List (DataW H) → Nat
  | [] => 0
  | d :: r => uptoBulk d + uptoBulkAll r
def uptoBulkEntries {H : Type} : List (Lit × DataW H) → Nat
  | [] => 0
  | x :: r => uptoBulkEntry x + uptoBulkEntries r
def uptoBulkEntry {H : Type} : Lit × DataW H → Nat
  | (.string bytes, d) => bytes.length + uptoBulk d + 1
  | (_, d) => uptoBulk d + 1
 end
def uptoSmall : (H : Type) → List (DataW H) → Bool := fun _ ds => decide (uptoBulkAll ds ≤ 1048576)
def OpenSpec.upto (s : _root_.Go.ChangeSpec) : _root_.Go.OpenSpec := { _root_.Go.OpenSpec.ofChange s with cond := some uptoSmall }

/-- 'limnographlaw15.TodeltaTiles', WHERE WHAT IT READS IS OF BULK AT MOST 1048576: true; the input reads as it did. -/
def todeltaTilesUptoRow : OpenClaim := { program := "ytoiklipabcecfaa", sum := "f60465d9429f82fbd9d6397d70af2600132d067596b5e8c9c26b78a387b5637d", func := "limnograph/limnographlaw15.TodeltaTiles", spec := "todeltaTiles", inPlace := ["math.Float64frombits", "math/bits.Add64", "math.Float64bits"], unfollowed := true, recurses := true, apart := false, narrowed := true }
def TodeltaTilesUptoSaid : Prop := todeltaTilesUptoRow.holds Try.pinned (OpenSpec.upto todeltaTilesSpec)

/-- 'limnographlaw15.TodeltaSums', WHERE WHAT IT READS IS OF BULK AT MOST 1048576: true; the input reads as it did. -/
def todeltaSumsUptoRow : OpenClaim := { program := "ytoiklipabcecfaa", sum := "f60465d9429f82fbd9d6397d70af2600132d067596b5e8c9c26b78a387b5637d", func := "limnograph/limnographlaw15.TodeltaSums", spec := "todeltaSums", inPlace := ["math.Float64frombits", "math/bits.Add64", "math.Float64bits"], unfollowed := true, recurses := true, apart := false, narrowed := true }
def TodeltaSumsUptoSaid : Prop := todeltaSumsUptoRow.holds Try.pinned (OpenSpec.upto todeltaSumsSpec)

/-- 'limnographlaw16.TocumNext', WHERE WHAT IT READS IS OF BULK AT MOST 1048576: true; the input reads as it did. -/
def tocumNextUptoRow : OpenClaim := { program := "ytoiklipabcecfaa", sum := "f60465d9429f82fbd9d6397d70af2600132d067596b5e8c9c26b78a387b5637d", func := "limnograph/limnographlaw16.TocumNext", spec := "tocumNext", inPlace := ["math.Float64frombits", "math/bits.Add64", "math.Float64bits"], unfollowed := true, recurses := true, apart := false, narrowed := true }
def TocumNextUptoSaid : Prop := tocumNextUptoRow.holds Try.pinned (OpenSpec.upto tocumNextSpec)

/-- 'limnographlaw16.TocumTogether', WHERE WHAT IT READS IS OF BULK AT MOST 1048576: true; the input reads as it did. -/
def tocumTogetherUptoRow : OpenClaim := { program := "ytoiklipabcecfaa", sum := "f60465d9429f82fbd9d6397d70af2600132d067596b5e8c9c26b78a387b5637d", func := "limnograph/limnographlaw16.TocumTogether", spec := "tocumTogether", inPlace := ["math.Float64frombits", "math/bits.Add64", "math.Float64bits"], unfollowed := true, recurses := true, apart := false, narrowed := true }
def TocumTogetherUptoSaid : Prop := tocumTogetherUptoRow.holds Try.pinned (OpenSpec.upto tocumTogetherSpec)

/-- 'limnographlaw16.TocumEpochs', WHERE WHAT IT READS IS OF BULK AT MOST 1048576: true; the input reads as it did. -/
def tocumEpochsUptoRow : OpenClaim := { program := "ytoiklipabcecfaa", sum := "f60465d9429f82fbd9d6397d70af2600132d067596b5e8c9c26b78a387b5637d", func := "limnograph/limnographlaw16.TocumEpochs", spec := "tocumEpochs", inPlace := ["math.Float64frombits", "math/bits.Add64", "math.Float64bits"], unfollowed := true, recurses := true, apart := false, narrowed := true }
def TocumEpochsUptoSaid : Prop := tocumEpochsUptoRow.holds Try.pinned (OpenSpec.upto tocumEpochsSpec)

/-- 'limnographlaw16.TocumSums', WHERE WHAT IT READS IS OF BULK AT MOST 1048576: true; the input reads as it did. -/
def tocumSumsUptoRow : OpenClaim := { program := "ytoiklipabcecfaa", sum := "f60465d9429f82fbd9d6397d70af2600132d067596b5e8c9c26b78a387b5637d", func := "limnograph/limnographlaw16.TocumSums", spec := "tocumSums", inPlace := ["math.Float64frombits", "math/bits.Add64", "math.Float64bits"], unfollowed := true, recurses := true, apart := false, narrowed := true }
def TocumSumsUptoSaid : Prop := tocumSumsUptoRow.holds Try.pinned (OpenSpec.upto tocumSumsSpec)

/-- 'limnographlaw15.TodeltaHists', WHERE WHAT IT READS IS OF BULK AT MOST 1048576: true; the input reads as it did. -/
def todeltaHistsUptoRow : OpenClaim := { program := "ytoiklipabcecfaa", sum := "f60465d9429f82fbd9d6397d70af2600132d067596b5e8c9c26b78a387b5637d", func := "limnograph/limnographlaw15.TodeltaHists", spec := "todeltaHists", inPlace := ["math.Float64frombits", "math/bits.Add64", "math.Float64bits"], unfollowed := true, recurses := true, apart := false, narrowed := true }
def TodeltaHistsUptoSaid : Prop := todeltaHistsUptoRow.holds Try.pinned (OpenSpec.upto todeltaHistsSpec)

/-- 'limnographlaw16.TocumMirror', WHERE WHAT IT READS IS OF BULK AT MOST 1048576: true; the input reads as it did. -/
def tocumMirrorUptoRow : OpenClaim := { program := "ytoiklipabcecfaa", sum := "f60465d9429f82fbd9d6397d70af2600132d067596b5e8c9c26b78a387b5637d", func := "limnograph/limnographlaw16.TocumMirror", spec := "tocumMirror", inPlace := ["math.Float64frombits", "math/bits.Add64", "math.Float64bits"], unfollowed := true, recurses := true, apart := false, narrowed := true }
def TocumMirrorUptoSaid : Prop := tocumMirrorUptoRow.holds Try.pinned (OpenSpec.upto tocumMirrorSpec)

end Rows
end Go.Proofs.Ytoiklipabcecfaa
