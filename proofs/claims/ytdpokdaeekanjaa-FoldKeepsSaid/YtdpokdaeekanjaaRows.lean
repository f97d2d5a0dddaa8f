/-
  No cell of these rows narrows 'for every input' (looked for: loops, veiled, ifaces, maps, wideKeys, modest, calm, conditions, laid).
  DERIVED. THE GIVEN ROWS OF THIS SEAT. 12 by the template 'for every input the law returns true; each argument reads behind the call as it read before'; 0 by the template 'total and deterministic' (their statements: YtdpokdaeekanjaaTotals.lean).
  GIVEN WITH THE SEED: the statements are not yours to turn. If you find one false, say at which input.
  Laid BY PROGRAM, IN A SANDBOX (cutbox-rows.mjs): the forced cells as the released guide's own fill.sh prints them over the translation 3ea79d9184151986… (all of the seat's roots in one cut). By AI agents, Wed Nov 11 2026. No macro, syntax, notation, axiom, sorry.
-/
import Derived.Test.YtdpokdaeekanjaaChecked
import GoSem.Claim
import GoSem.ClaimJoined
import GoSem.ClaimMapViews
import Derived.JoinedTies
import Derived.KernelRfl
namespace Go.Proofs.Ytdpokdaeekanjaa
/- THE CELL 'sum', in the pinned program and in every row, IS THE sha256 OF THE DUMP (.gsa) THAT YtdpokdaeekanjaaProg.lean LOADS. Nothing in Lean hashes anything: it is a label: what it is worth is what the hold of that sum in a sandbox is worth. -/
noncomputable def Try.pinned : Pinned := { name := "ytdpokdaeekanjaa", sum := "3ea79d918415198607f81298909971ecb869bccab16b8770870331343a18519e", checked := Try.checked }
namespace Rows
def none {H : Type} : Left H := { results := [], args := [] }

/-- 'limnographlaw08.HistChecks': WHATEVER THE INPUT: true; the input reads as it did. -/
def histChecksSpec : ChangeSpec := { name := "histChecks", fn := fun _ => fun
  | [d] => { results := [.lit (.bool true)], args := [d] }
  | _ => none }
def histChecksRow : OpenClaim := { program := "ytdpokdaeekanjaa", sum := "3ea79d918415198607f81298909971ecb869bccab16b8770870331343a18519e", func := "limnograph/limnographlaw08.HistChecks", spec := "histChecks", inPlace := ["math/bits.Add64"], apart := false }
def HistChecksSaid : Prop := histChecksRow.holds Try.pinned (OpenSpec.ofChange histChecksSpec)

/-- ITS FALSE NEIGHBOUR: 'it returns false'. Refute it at one input. -/
def histChecksWrong : ChangeSpec := { name := "histChecks", fn := fun _ => fun
  | [d] => { results := [.lit (.bool false)], args := [d] }
  | _ => none }
def HistChecksWrongFalsely : Prop := histChecksRow.holds Try.pinned (OpenSpec.ofChange histChecksWrong)

/-- 'limnographlaw08.HistTwice': WHATEVER THE INPUT: true; the input reads as it did. -/
def histTwiceSpec : ChangeSpec := { name := "histTwice", fn := fun _ => fun
  | [d1, d2, d3, d4] => { results := [.lit (.bool true)], args := [d1, d2, d3, d4] }
  | _ => none }
def histTwiceRow : OpenClaim := { program := "ytdpokdaeekanjaa", sum := "3ea79d918415198607f81298909971ecb869bccab16b8770870331343a18519e", func := "limnograph/limnographlaw08.HistTwice", spec := "histTwice", inPlace := ["math/bits.Add64"], apart := false }
def HistTwiceSaid : Prop := histTwiceRow.holds Try.pinned (OpenSpec.ofChange histTwiceSpec)

/-- ITS FALSE NEIGHBOUR: 'it returns false'. Refute it at one input. -/
def histTwiceWrong : ChangeSpec := { name := "histTwice", fn := fun _ => fun
  | [d1, d2, d3, d4] => { results := [.lit (.bool false)], args := [d1, d2, d3, d4] }
  | _ => none }
def HistTwiceWrongFalsely : Prop := histTwiceRow.holds Try.pinned (OpenSpec.ofChange histTwiceWrong)

/-- 'limnographlaw08.HistDowns': WHATEVER THE INPUT: true; the input reads as it did. -/
def histDownsSpec : ChangeSpec := { name := "histDowns", fn := fun _ => fun
  | [d1, d2, d3] => { results := [.lit (.bool true)], args := [d1, d2, d3] }
  | _ => none }
def histDownsRow : OpenClaim := { program := "ytdpokdaeekanjaa", sum := "3ea79d918415198607f81298909971ecb869bccab16b8770870331343a18519e", func := "limnograph/limnographlaw08.HistDowns", spec := "histDowns", inPlace := ["math/bits.Add64"], apart := false }
def HistDownsSaid : Prop := histDownsRow.holds Try.pinned (OpenSpec.ofChange histDownsSpec)

/-- ITS FALSE NEIGHBOUR: 'it returns false'. Refute it at one input. -/
def histDownsWrong : ChangeSpec := { name := "histDowns", fn := fun _ => fun
  | [d1, d2, d3] => { results := [.lit (.bool false)], args := [d1, d2, d3] }
  | _ => none }
def HistDownsWrongFalsely : Prop := histDownsRow.holds Try.pinned (OpenSpec.ofChange histDownsWrong)

/-- 'limnographlaw08.HistFits': WHATEVER THE INPUT: true; the input reads as it did. -/
def histFitsSpec : ChangeSpec := { name := "histFits", fn := fun _ => fun
  | [d1, d2] => { results := [.lit (.bool true)], args := [d1, d2] }
  | _ => none }
def histFitsRow : OpenClaim := { program := "ytdpokdaeekanjaa", sum := "3ea79d918415198607f81298909971ecb869bccab16b8770870331343a18519e", func := "limnograph/limnographlaw08.HistFits", spec := "histFits", inPlace := ["math/bits.Add64"], apart := false }
def HistFitsSaid : Prop := histFitsRow.holds Try.pinned (OpenSpec.ofChange histFitsSpec)

/-- ITS FALSE NEIGHBOUR: 'it returns false'. Refute it at one input. -/
def histFitsWrong : ChangeSpec := { name := "histFits", fn := fun _ => fun
  | [d1, d2] => { results := [.lit (.bool false)], args := [d1, d2] }
  | _ => none }
def HistFitsWrongFalsely : Prop := histFitsRow.holds Try.pinned (OpenSpec.ofChange histFitsWrong)

/-- 'limnographlaw08.HistSides': WHATEVER THE INPUT: true; the input reads as it did. -/
def histSidesSpec : ChangeSpec := { name := "histSides", fn := fun _ => fun
  | [d1, d2] => { results := [.lit (.bool true)], args := [d1, d2] }
  | _ => none }
def histSidesRow : OpenClaim := { program := "ytdpokdaeekanjaa", sum := "3ea79d918415198607f81298909971ecb869bccab16b8770870331343a18519e", func := "limnograph/limnographlaw08.HistSides", spec := "histSides", inPlace := ["math/bits.Add64"], apart := false }
def HistSidesSaid : Prop := histSidesRow.holds Try.pinned (OpenSpec.ofChange histSidesSpec)

/-- ITS FALSE NEIGHBOUR: 'it returns false'. Refute it at one input. -/
def histSidesWrong : ChangeSpec := { name := "histSides", fn := fun _ => fun
  | [d1, d2] => { results := [.lit (.bool false)], args := [d1, d2] }
  | _ => none }
def HistSidesWrongFalsely : Prop := histSidesRow.holds Try.pinned (OpenSpec.ofChange histSidesWrong)

/-- 'limnographlaw10.HistbitsSame': WHATEVER THE INPUT: true; the input reads as it did. -/
def histbitsSameSpec : ChangeSpec := { name := "histbitsSame", fn := fun _ => fun
  | [d1, d2] => { results := [.lit (.bool true)], args := [d1, d2] }
  | _ => none }
def histbitsSameRow : OpenClaim := { program := "ytdpokdaeekanjaa", sum := "3ea79d918415198607f81298909971ecb869bccab16b8770870331343a18519e", func := "limnograph/limnographlaw10.HistbitsSame", spec := "histbitsSame", inPlace := ["math/bits.Add64"], apart := false }
def HistbitsSameSaid : Prop := histbitsSameRow.holds Try.pinned (OpenSpec.ofChange histbitsSameSpec)

/-- ITS FALSE NEIGHBOUR: 'it returns false'. Refute it at one input. -/
def histbitsSameWrong : ChangeSpec := { name := "histbitsSame", fn := fun _ => fun
  | [d1, d2] => { results := [.lit (.bool false)], args := [d1, d2] }
  | _ => none }
def HistbitsSameWrongFalsely : Prop := histbitsSameRow.holds Try.pinned (OpenSpec.ofChange histbitsSameWrong)

/-- 'limnographlaw09.FoldLevels': WHATEVER THE INPUT: true; the input reads as it did. -/
def foldLevelsSpec : ChangeSpec := { name := "foldLevels", fn := fun _ => fun
  | [d1, d2] => { results := [.lit (.bool true)], args := [d1, d2] }
  | _ => none }
def foldLevelsRow : OpenClaim := { program := "ytdpokdaeekanjaa", sum := "3ea79d918415198607f81298909971ecb869bccab16b8770870331343a18519e", func := "limnograph/limnographlaw09.FoldLevels", spec := "foldLevels", inPlace := ["math/bits.Add64"], apart := false }
def FoldLevelsSaid : Prop := foldLevelsRow.holds Try.pinned (OpenSpec.ofChange foldLevelsSpec)

/-- ITS FALSE NEIGHBOUR: 'it returns false'. Refute it at one input. -/
def foldLevelsWrong : ChangeSpec := { name := "foldLevels", fn := fun _ => fun
  | [d1, d2] => { results := [.lit (.bool false)], args := [d1, d2] }
  | _ => none }
def FoldLevelsWrongFalsely : Prop := foldLevelsRow.holds Try.pinned (OpenSpec.ofChange foldLevelsWrong)

/-- 'limnographlaw09.FoldMerges': WHATEVER THE INPUT: true; the input reads as it did. -/
def foldMergesSpec : ChangeSpec := { name := "foldMerges", fn := fun _ => fun
  | [d1, d2] => { results := [.lit (.bool true)], args := [d1, d2] }
  | _ => none }
def foldMergesRow : OpenClaim := { program := "ytdpokdaeekanjaa", sum := "3ea79d918415198607f81298909971ecb869bccab16b8770870331343a18519e", func := "limnograph/limnographlaw09.FoldMerges", spec := "foldMerges", inPlace := ["math/bits.Add64"], apart := false }
def FoldMergesSaid : Prop := foldMergesRow.holds Try.pinned (OpenSpec.ofChange foldMergesSpec)

/-- ITS FALSE NEIGHBOUR: 'it returns false'. Refute it at one input. -/
def foldMergesWrong : ChangeSpec := { name := "foldMerges", fn := fun _ => fun
  | [d1, d2] => { results := [.lit (.bool false)], args := [d1, d2] }
  | _ => none }
def FoldMergesWrongFalsely : Prop := foldMergesRow.holds Try.pinned (OpenSpec.ofChange foldMergesWrong)

/-- 'limnographlaw09.FoldBack': WHATEVER THE INPUT: true; the input reads as it did. -/
def foldBackSpec : ChangeSpec := { name := "foldBack", fn := fun _ => fun
  | [d1, d2] => { results := [.lit (.bool true)], args := [d1, d2] }
  | _ => none }
def foldBackRow : OpenClaim := { program := "ytdpokdaeekanjaa", sum := "3ea79d918415198607f81298909971ecb869bccab16b8770870331343a18519e", func := "limnograph/limnographlaw09.FoldBack", spec := "foldBack", inPlace := ["math/bits.Add64"], apart := false }
def FoldBackSaid : Prop := foldBackRow.holds Try.pinned (OpenSpec.ofChange foldBackSpec)

/-- ITS FALSE NEIGHBOUR: 'it returns false'. Refute it at one input. -/
def foldBackWrong : ChangeSpec := { name := "foldBack", fn := fun _ => fun
  | [d1, d2] => { results := [.lit (.bool false)], args := [d1, d2] }
  | _ => none }
def FoldBackWrongFalsely : Prop := foldBackRow.holds Try.pinned (OpenSpec.ofChange foldBackWrong)

/-- 'limnographlaw09.FoldKeeps': WHATEVER THE INPUT: true; the input reads as it did. -/
def foldKeepsSpec : ChangeSpec := { name := "foldKeeps", fn := fun _ => fun
  | [d1, d2] => { results := [.lit (.bool true)], args := [d1, d2] }
  | _ => none }
def foldKeepsRow : OpenClaim := { program := "ytdpokdaeekanjaa", sum := "3ea79d918415198607f81298909971ecb869bccab16b8770870331343a18519e", func := "limnograph/limnographlaw09.FoldKeeps", spec := "foldKeeps", inPlace := ["math/bits.Add64"], apart := false }
def FoldKeepsSaid : Prop := foldKeepsRow.holds Try.pinned (OpenSpec.ofChange foldKeepsSpec)

/-- ITS FALSE NEIGHBOUR: 'it returns false'. Refute it at one input. -/
def foldKeepsWrong : ChangeSpec := { name := "foldKeeps", fn := fun _ => fun
  | [d1, d2] => { results := [.lit (.bool false)], args := [d1, d2] }
  | _ => none }
def FoldKeepsWrongFalsely : Prop := foldKeepsRow.holds Try.pinned (OpenSpec.ofChange foldKeepsWrong)

/-- 'limnographlaw10.HistbitsTakes': WHATEVER THE INPUT: true; the input reads as it did. -/
def histbitsTakesSpec : ChangeSpec := { name := "histbitsTakes", fn := fun _ => fun
  | [d1, d2] => { results := [.lit (.bool true)], args := [d1, d2] }
  | _ => none }
def histbitsTakesRow : OpenClaim := { program := "ytdpokdaeekanjaa", sum := "3ea79d918415198607f81298909971ecb869bccab16b8770870331343a18519e", func := "limnograph/limnographlaw10.HistbitsTakes", spec := "histbitsTakes", inPlace := ["math/bits.Add64"], unfollowed := true, recurses := true, apart := false }
def HistbitsTakesSaid : Prop := histbitsTakesRow.holds Try.pinned (OpenSpec.ofChange histbitsTakesSpec)

/-- ITS FALSE NEIGHBOUR: 'it returns false'. Refute it at one input. -/
def histbitsTakesWrong : ChangeSpec := { name := "histbitsTakes", fn := fun _ => fun
  | [d1, d2] => { results := [.lit (.bool false)], args := [d1, d2] }
  | _ => none }
def HistbitsTakesWrongFalsely : Prop := histbitsTakesRow.holds Try.pinned (OpenSpec.ofChange histbitsTakesWrong)

/-- 'limnographlaw10.HistbitsRows': WHATEVER THE INPUT: true; the input reads as it did. -/
def histbitsRowsSpec : ChangeSpec := { name := "histbitsRows", fn := fun _ => fun
  | [d1, d2] => { results := [.lit (.bool true)], args := [d1, d2] }
  | _ => none }
def histbitsRowsRow : OpenClaim := { program := "ytdpokdaeekanjaa", sum := "3ea79d918415198607f81298909971ecb869bccab16b8770870331343a18519e", func := "limnograph/limnographlaw10.HistbitsRows", spec := "histbitsRows", inPlace := ["math/bits.Add64"], unfollowed := true, recurses := true, apart := false }
def HistbitsRowsSaid : Prop := histbitsRowsRow.holds Try.pinned (OpenSpec.ofChange histbitsRowsSpec)

/-- ITS FALSE NEIGHBOUR: 'it returns false'. Refute it at one input. -/
def histbitsRowsWrong : ChangeSpec := { name := "histbitsRows", fn := fun _ => fun
  | [d1, d2] => { results := [.lit (.bool false)], args := [d1, d2] }
  | _ => none }
def HistbitsRowsWrongFalsely : Prop := histbitsRowsRow.holds Try.pinned (OpenSpec.ofChange histbitsRowsWrong)

/- THE SECOND FORM. 'bulk': how many values and letters a reading holds, each counted each time it is reached (what is shared counts as often as it is met; a slice's spare places count too). A statement '..UptoSaid' is the law's where the arguments, and the package variables that the reading takes, are together of bulk at most 1048576: NARROWER than '..Said'. Prove '..Said' where nothing that the law and all that it calls make is longer than what came in: it says more and counts as full. Else prove '..UptoSaid'. A law counts once. -/
mutual
def uptoBulk {H : Type} : DataW H → Nat
  | .lit (.string bytes) => bytes.length + 1
  | .lit _ => 1
  | .nil => 1
  | .ptr d => uptoBulk d + 1
  | .slice elems spare => uptoBulkAll elems + uptoBulkAll spare + 1
  | .agg parts => uptoBulkAll parts + 1
  | .iface _ d => uptoBulk d + 1
  | .map entries => uptoBulkEntries entries + 1
  | .held _ => 1
def uptoBulkAll {H : Type} : List (DataW H) → Nat
  | [] => 0
  | d :: r => uptoBulk d + uptoBulkAll r
def uptoBulkEntries {H : Type} : List (Lit × DataW H) → Nat
  | [] => 0
  | x :: r => uptoBulkEntry x + uptoBulkEntries r
def uptoBulkEntry {H : Type} : Lit × DataW H → Nat
  | (.string bytes, d) => bytes.length + uptoBulk d + 1
  | (_, d) => uptoBulk d + 1
 end
def uptoSmall : (H : Type) → List (DataW H) → Bool := fun _ ds => decide (uptoBulkAll ds ≤ 1048576)
def OpenSpec.upto (s : _root_.Go.ChangeSpec) : _root_.Go.OpenSpec := { _root_.Go.OpenSpec.ofChange s with cond := some uptoSmall }

/-- 'limnographlaw08.HistChecks', WHERE WHAT IT READS IS OF BULK AT MOST 1048576: true; the input reads as it did. -/
def histChecksUptoRow : OpenClaim := { program := "ytdpokdaeekanjaa", sum := "3ea79d918415198607f81298909971ecb869bccab16b8770870331343a18519e", func := "limnograph/limnographlaw08.HistChecks", spec := "histChecks", inPlace := ["math/bits.Add64"], apart := false, narrowed := true }
def HistChecksUptoSaid : Prop := histChecksUptoRow.holds Try.pinned (OpenSpec.upto histChecksSpec)

/-- 'limnographlaw08.HistTwice', WHERE WHAT IT READS IS OF BULK AT MOST 1048576: true; the input reads as it did. -/
def histTwiceUptoRow : OpenClaim := { program := "ytdpokdaeekanjaa", sum := "3ea79d918415198607f81298909971ecb869bccab16b8770870331343a18519e", func := "limnograph/limnographlaw08.HistTwice", spec := "histTwice", inPlace := ["math/bits.Add64"], apart := false, narrowed := true }
def HistTwiceUptoSaid : Prop := histTwiceUptoRow.holds Try.pinned (OpenSpec.upto histTwiceSpec)

/-- 'limnographlaw08.HistDowns', WHERE WHAT IT READS IS OF BULK AT MOST 1048576: true; the input reads as it did. -/
def histDownsUptoRow : OpenClaim := { program := "ytdpokdaeekanjaa", sum := "3ea79d918415198607f81298909971ecb869bccab16b8770870331343a18519e", func := "limnograph/limnographlaw08.HistDowns", spec := "histDowns", inPlace := ["math/bits.Add64"], apart := false, narrowed := true }
def HistDownsUptoSaid : Prop := histDownsUptoRow.holds Try.pinned (OpenSpec.upto histDownsSpec)

/-- 'limnographlaw08.HistFits', WHERE WHAT IT READS IS OF BULK AT MOST 1048576: true; the input reads as it did. -/
def histFitsUptoRow : OpenClaim := { program := "ytdpokdaeekanjaa", sum := "3ea79d918415198607f81298909971ecb869bccab16b8770870331343a18519e", func := "limnograph/limnographlaw08.HistFits", spec := "histFits", inPlace := ["math/bits.Add64"], apart := false, narrowed := true }
def HistFitsUptoSaid : Prop := histFitsUptoRow.holds Try.pinned (OpenSpec.upto histFitsSpec)

/-- 'limnographlaw08.HistSides', WHERE WHAT IT READS IS OF BULK AT MOST 1048576: true; the input reads as it did. -/
def histSidesUptoRow : OpenClaim := { program := "ytdpokdaeekanjaa", sum := "3ea79d918415198607f81298909971ecb869bccab16b8770870331343a18519e", func := "limnograph/limnographlaw08.HistSides", spec := "histSides", inPlace := ["math/bits.Add64"], apart := false, narrowed := true }
def HistSidesUptoSaid : Prop := histSidesUptoRow.holds Try.pinned (OpenSpec.upto histSidesSpec)

/-- 'limnographlaw10.HistbitsSame', WHERE WHAT IT READS IS OF BULK AT MOST 1048576: true; the input reads as it did. -/
def histbitsSameUptoRow : OpenClaim := { program := "ytdpokdaeekanjaa", sum := "3ea79d918415198607f81298909971ecb869bccab16b8770870331343a18519e", func := "limnograph/limnographlaw10.HistbitsSame", spec := "histbitsSame", inPlace := ["math/bits.Add64"], apart := false, narrowed := true }
def HistbitsSameUptoSaid : Prop := histbitsSameUptoRow.holds Try.pinned (OpenSpec.upto histbitsSameSpec)

/-- 'limnographlaw09.FoldLevels', WHERE WHAT IT READS IS OF BULK AT MOST 1048576: true; the input reads as it did. -/
def foldLevelsUptoRow : OpenClaim := { program := "ytdpokdaeekanjaa", sum := "3ea79d918415198607f81298909971ecb869bccab16b8770870331343a18519e", func := "limnograph/limnographlaw09.FoldLevels", spec := "foldLevels", inPlace := ["math/bits.Add64"], apart := false, narrowed := true }
def FoldLevelsUptoSaid : Prop := foldLevelsUptoRow.holds Try.pinned (OpenSpec.upto foldLevelsSpec)

/-- 'limnographlaw09.FoldMerges', WHERE WHAT IT READS IS OF BULK AT MOST 1048576: true; the input reads as it did. -/
def foldMergesUptoRow : OpenClaim := { program := "ytdpokdaeekanjaa", sum := "3ea79d918415198607f81298909971ecb869bccab16b8770870331343a18519e", func := "limnograph/limnographlaw09.FoldMerges", spec := "foldMerges", inPlace := ["math/bits.Add64"], apart := false, narrowed := true }
def FoldMergesUptoSaid : Prop := foldMergesUptoRow.holds Try.pinned (OpenSpec.upto foldMergesSpec)

/-- 'limnographlaw09.FoldBack', WHERE WHAT IT READS IS OF BULK AT MOST 1048576: true; the input reads as it did. -/
def foldBackUptoRow : OpenClaim := { program := "ytdpokdaeekanjaa", sum := "3ea79d918415198607f81298909971ecb869bccab16b8770870331343a18519e", func := "limnograph/limnographlaw09.FoldBack", spec := "foldBack", inPlace := ["math/bits.Add64"], apart := false, narrowed := true }
def FoldBackUptoSaid : Prop := foldBackUptoRow.holds Try.pinned (OpenSpec.upto foldBackSpec)

/-- 'limnographlaw09.FoldKeeps', WHERE WHAT IT READS IS OF BULK AT MOST 1048576: true; the input reads as it did. -/
def foldKeepsUptoRow : OpenClaim := { program := "ytdpokdaeekanjaa", sum := "3ea79d918415198607f81298909971ecb869bccab16b8770870331343a18519e", func := "limnograph/limnographlaw09.FoldKeeps", spec := "foldKeeps", inPlace := ["math/bits.Add64"], apart := false, narrowed := true }
def FoldKeepsUptoSaid : Prop := foldKeepsUptoRow.holds Try.pinned (OpenSpec.upto foldKeepsSpec)

/-- 'limnographlaw10.HistbitsTakes', WHERE WHAT IT READS IS OF BULK AT MOST 1048576: true; the input reads as it did. -/
def histbitsTakesUptoRow : OpenClaim := { program := "ytdpokdaeekanjaa", sum := "3ea79d918415198607f81298909971ecb869bccab16b8770870331343a18519e", func := "limnograph/limnographlaw10.HistbitsTakes", spec := "histbitsTakes", inPlace := ["math/bits.Add64"], unfollowed := true, recurses := true, apart := false, narrowed := true }
def HistbitsTakesUptoSaid : Prop := histbitsTakesUptoRow.holds Try.pinned (OpenSpec.upto histbitsTakesSpec)

/-- 'limnographlaw10.HistbitsRows', WHERE WHAT IT READS IS OF BULK AT MOST 1048576: true; the input reads as it did. -/
def histbitsRowsUptoRow : OpenClaim := { program := "ytdpokdaeekanjaa", sum := "3ea79d918415198607f81298909971ecb869bccab16b8770870331343a18519e", func := "limnograph/limnographlaw10.HistbitsRows", spec := "histbitsRows", inPlace := ["math/bits.Add64"], unfollowed := true, recurses := true, apart := false, narrowed := true }
def HistbitsRowsUptoSaid : Prop := histbitsRowsUptoRow.holds Try.pinned (OpenSpec.upto histbitsRowsSpec)

end Rows
end Go.Proofs.Ytdpokdaeekanjaa
