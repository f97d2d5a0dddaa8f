/-
  No cell of these rows narrows 'for every input' (looked for: loops, veiled, ifaces, maps, wideKeys, modest, calm, conditions, laid).
  DERIVED. THE GIVEN ROWS OF THIS SEAT. 8 by the template 'for every input the law returns true; each argument reads behind the call as it read before'; 0 by the template 'total and deterministic' (their statements: YtddfmahlbbbljaaTotals.lean).
  GIVEN WITH THE SEED: the statements are not yours to turn. If you find one false, say at which input.
  Laid BY PROGRAM, IN A SANDBOX (cutbox-rows.mjs): the forced cells as the released guide's own fill.sh prints them over the translation 52e9a6b819b9185f… (all of the seat's roots in one cut). By AI agents, Wed Nov 11 2026. No macro, syntax, notation, axiom, sorry.
-/
import Derived.Test.YtddfmahlbbbljaaChecked
import GoSem.Claim
import GoSem.ClaimJoined
import GoSem.ClaimMapViews
import Derived.JoinedTies
import Derived.KernelRfl
namespace Go.Proofs.Ytddfmahlbbbljaa
/- THE CELL 'sum', in the pinned program and in every row, IS THE sha256 OF THE DUMP (.gsa) THAT YtddfmahlbbbljaaProg.lean LOADS. Nothing in Lean hashes anything: it is a label: what it is worth is what the hold of that sum in a sandbox is worth. -/
noncomputable def Try.pinned : Pinned := { name := "ytddfmahlbbbljaa", sum := "52e9a6b819b9185f6edeb6704c3b49ea3535f8abe4b98e1e2dc813828e3553c4", checked := Try.checked }
namespace Rows
def none {H : Type} : Left H := { results := [], args := [] }

/-- 'limnographlaw01.BitsBack': WHATEVER THE INPUT: true; the input reads as it did. -/
def bitsBackSpec : ChangeSpec := { name := "bitsBack", fn := fun _ => fun
  | [d1, d2] => { results := [.lit (.bool true)], args := [d1, d2] }
  | _ => none }
def bitsBackRow : OpenClaim := { program := "ytddfmahlbbbljaa", sum := "52e9a6b819b9185f6edeb6704c3b49ea3535f8abe4b98e1e2dc813828e3553c4", func := "limnograph/limnographlaw01.BitsBack", spec := "bitsBack", apart := false }
def BitsBackSaid : Prop := bitsBackRow.holds Try.pinned (OpenSpec.ofChange bitsBackSpec)

/-- ITS FALSE NEIGHBOUR: 'it returns false'. Refute it at one input. -/
def bitsBackWrong : ChangeSpec := { name := "bitsBack", fn := fun _ => fun
  | [d1, d2] => { results := [.lit (.bool false)], args := [d1, d2] }
  | _ => none }
def BitsBackWrongFalsely : Prop := bitsBackRow.holds Try.pinned (OpenSpec.ofChange bitsBackWrong)

/-- 'limnographlaw01.BitsOpen': WHATEVER THE INPUT: true; the input reads as it did. -/
def bitsOpenSpec : ChangeSpec := { name := "bitsOpen", fn := fun _ => fun
  | [d1, d2] => { results := [.lit (.bool true)], args := [d1, d2] }
  | _ => none }
def bitsOpenRow : OpenClaim := { program := "ytddfmahlbbbljaa", sum := "52e9a6b819b9185f6edeb6704c3b49ea3535f8abe4b98e1e2dc813828e3553c4", func := "limnograph/limnographlaw01.BitsOpen", spec := "bitsOpen", apart := false }
def BitsOpenSaid : Prop := bitsOpenRow.holds Try.pinned (OpenSpec.ofChange bitsOpenSpec)

/-- ITS FALSE NEIGHBOUR: 'it returns false'. Refute it at one input. -/
def bitsOpenWrong : ChangeSpec := { name := "bitsOpen", fn := fun _ => fun
  | [d1, d2] => { results := [.lit (.bool false)], args := [d1, d2] }
  | _ => none }
def BitsOpenWrongFalsely : Prop := bitsOpenRow.holds Try.pinned (OpenSpec.ofChange bitsOpenWrong)

/-- 'limnographlaw01.BitsTake': WHATEVER THE INPUT: true; the input reads as it did. -/
def bitsTakeSpec : ChangeSpec := { name := "bitsTake", fn := fun _ => fun
  | [d1, d2] => { results := [.lit (.bool true)], args := [d1, d2] }
  | _ => none }
def bitsTakeRow : OpenClaim := { program := "ytddfmahlbbbljaa", sum := "52e9a6b819b9185f6edeb6704c3b49ea3535f8abe4b98e1e2dc813828e3553c4", func := "limnograph/limnographlaw01.BitsTake", spec := "bitsTake", apart := false }
def BitsTakeSaid : Prop := bitsTakeRow.holds Try.pinned (OpenSpec.ofChange bitsTakeSpec)

/-- ITS FALSE NEIGHBOUR: 'it returns false'. Refute it at one input. -/
def bitsTakeWrong : ChangeSpec := { name := "bitsTake", fn := fun _ => fun
  | [d1, d2] => { results := [.lit (.bool false)], args := [d1, d2] }
  | _ => none }
def BitsTakeWrongFalsely : Prop := bitsTakeRow.holds Try.pinned (OpenSpec.ofChange bitsTakeWrong)

/-- 'limnographlaw01.BitsPut': WHATEVER THE INPUT: true; the input reads as it did. -/
def bitsPutSpec : ChangeSpec := { name := "bitsPut", fn := fun _ => fun
  | [d] => { results := [.lit (.bool true)], args := [d] }
  | _ => none }
def bitsPutRow : OpenClaim := { program := "ytddfmahlbbbljaa", sum := "52e9a6b819b9185f6edeb6704c3b49ea3535f8abe4b98e1e2dc813828e3553c4", func := "limnograph/limnographlaw01.BitsPut", spec := "bitsPut", apart := false }
def BitsPutSaid : Prop := bitsPutRow.holds Try.pinned (OpenSpec.ofChange bitsPutSpec)

/-- ITS FALSE NEIGHBOUR: 'it returns false'. Refute it at one input. -/
def bitsPutWrong : ChangeSpec := { name := "bitsPut", fn := fun _ => fun
  | [d] => { results := [.lit (.bool false)], args := [d] }
  | _ => none }
def BitsPutWrongFalsely : Prop := bitsPutRow.holds Try.pinned (OpenSpec.ofChange bitsPutWrong)

/-- 'limnographlaw06.VarySmall': WHATEVER THE INPUT: true; the input reads as it did. -/
def varySmallSpec : ChangeSpec := { name := "varySmall", fn := fun _ => fun
  | [d] => { results := [.lit (.bool true)], args := [d] }
  | _ => none }
def varySmallRow : OpenClaim := { program := "ytddfmahlbbbljaa", sum := "52e9a6b819b9185f6edeb6704c3b49ea3535f8abe4b98e1e2dc813828e3553c4", func := "limnograph/limnographlaw06.VarySmall", spec := "varySmall", apart := false }
def VarySmallSaid : Prop := varySmallRow.holds Try.pinned (OpenSpec.ofChange varySmallSpec)

/-- ITS FALSE NEIGHBOUR: 'it returns false'. Refute it at one input. -/
def varySmallWrong : ChangeSpec := { name := "varySmall", fn := fun _ => fun
  | [d] => { results := [.lit (.bool false)], args := [d] }
  | _ => none }
def VarySmallWrongFalsely : Prop := varySmallRow.holds Try.pinned (OpenSpec.ofChange varySmallWrong)

/-- 'limnographlaw06.VaryReads': WHATEVER THE INPUT: true; the input reads as it did. -/
def varyReadsSpec : ChangeSpec := { name := "varyReads", fn := fun _ => fun
  | [d1, d2] => { results := [.lit (.bool true)], args := [d1, d2] }
  | _ => none }
def varyReadsRow : OpenClaim := { program := "ytddfmahlbbbljaa", sum := "52e9a6b819b9185f6edeb6704c3b49ea3535f8abe4b98e1e2dc813828e3553c4", func := "limnograph/limnographlaw06.VaryReads", spec := "varyReads", apart := false }
def VaryReadsSaid : Prop := varyReadsRow.holds Try.pinned (OpenSpec.ofChange varyReadsSpec)

/-- ITS FALSE NEIGHBOUR: 'it returns false'. Refute it at one input. -/
def varyReadsWrong : ChangeSpec := { name := "varyReads", fn := fun _ => fun
  | [d1, d2] => { results := [.lit (.bool false)], args := [d1, d2] }
  | _ => none }
def VaryReadsWrongFalsely : Prop := varyReadsRow.holds Try.pinned (OpenSpec.ofChange varyReadsWrong)

/-- 'limnographlaw06.VaryTakes': WHATEVER THE INPUT: true; the input reads as it did. -/
def varyTakesSpec : ChangeSpec := { name := "varyTakes", fn := fun _ => fun
  | [d1, d2] => { results := [.lit (.bool true)], args := [d1, d2] }
  | _ => none }
def varyTakesRow : OpenClaim := { program := "ytddfmahlbbbljaa", sum := "52e9a6b819b9185f6edeb6704c3b49ea3535f8abe4b98e1e2dc813828e3553c4", func := "limnograph/limnographlaw06.VaryTakes", spec := "varyTakes", apart := false }
def VaryTakesSaid : Prop := varyTakesRow.holds Try.pinned (OpenSpec.ofChange varyTakesSpec)

/-- ITS FALSE NEIGHBOUR: 'it returns false'. Refute it at one input. -/
def varyTakesWrong : ChangeSpec := { name := "varyTakes", fn := fun _ => fun
  | [d1, d2] => { results := [.lit (.bool false)], args := [d1, d2] }
  | _ => none }
def VaryTakesWrongFalsely : Prop := varyTakesRow.holds Try.pinned (OpenSpec.ofChange varyTakesWrong)

/-- 'limnographlaw06.VaryRows': WHATEVER THE INPUT: true; the input reads as it did. -/
def varyRowsSpec : ChangeSpec := { name := "varyRows", fn := fun _ => fun
  | [d1, d2] => { results := [.lit (.bool true)], args := [d1, d2] }
  | _ => none }
def varyRowsRow : OpenClaim := { program := "ytddfmahlbbbljaa", sum := "52e9a6b819b9185f6edeb6704c3b49ea3535f8abe4b98e1e2dc813828e3553c4", func := "limnograph/limnographlaw06.VaryRows", spec := "varyRows", apart := false }
def VaryRowsSaid : Prop := varyRowsRow.holds Try.pinned (OpenSpec.ofChange varyRowsSpec)

/-- ITS FALSE NEIGHBOUR: 'it returns false'. Refute it at one input. -/
def varyRowsWrong : ChangeSpec := { name := "varyRows", fn := fun _ => fun
  | [d1, d2] => { results := [.lit (.bool false)], args := [d1, d2] }
  | _ => none }
def VaryRowsWrongFalsely : Prop := varyRowsRow.holds Try.pinned (OpenSpec.ofChange varyRowsWrong)

/- THE SECOND FORM. 'bulk': how many values and letters a reading holds, each counted each time it is reached (what is shared counts as often as it is met; a slice's spare places count too). A statement '..UptoSaid' is the law's where the arguments, and the package variables that the reading takes, are together of bulk at most 1048576: NARROWER than '..Said'. Prove '..Said' where nothing that the law and all that it calls make is longer than what came in: it says more and counts as full. Else prove '..UptoSaid'. A law counts once. -/
mutual
def uptoBulk {H : Type} : DataW H → Nat
  | .lit (.string bytes) => bytes.length + 1
  | .lit _ => 1
  | .nil => 1
  | .ptr d => uptoBulk d + 1
  | .slice elems spare => uptoBulkAll elems + uptoBulkAll spare + 1
  | .agg parts => uptoBulkAll parts + 1
  | .iface _ d => uptoBulk d + 1
  | .map entries => uptoBulkEntries entries + 1
  | .held _ => 1
def uptoBulkAll {H : Type} : List (DataW H) → Nat
  | [] => 0
  | d :: r => uptoBulk d + uptoBulkAll r
def uptoBulkEntries {H : Type} : List (Lit × DataW H) → Nat
  | [] => 0
  | x :: r => uptoBulkEntry x + uptoBulkEntries r
def uptoBulkEntry {H : Type} : Lit × DataW H → Nat
  | (.string bytes, d) => bytes.length + uptoBulk d + 1
  | (_, d) => uptoBulk d + 1
 end
def uptoSmall : (H : Type) → List (DataW H) → Bool := fun _ ds => decide (uptoBulkAll ds ≤ 1048576)
def OpenSpec.upto (s : _root_.Go.ChangeSpec) : _root_.Go.OpenSpec := { _root_.Go.OpenSpec.ofChange s with cond := some uptoSmall }

/-- 'limnographlaw01.BitsBack', WHERE WHAT IT READS IS OF BULK AT MOST 1048576: true; the input reads as it did. -/
def bitsBackUptoRow : OpenClaim := { program := "ytddfmahlbbbljaa", sum := "52e9a6b819b9185f6edeb6704c3b49ea3535f8abe4b98e1e2dc813828e3553c4", func := "limnograph/limnographlaw01.BitsBack", spec := "bitsBack", apart := false, narrowed := true }
def BitsBackUptoSaid : Prop := bitsBackUptoRow.holds Try.pinned (OpenSpec.upto bitsBackSpec)

/-- 'limnographlaw01.BitsOpen', WHERE WHAT IT READS IS OF BULK AT MOST 1048576: true; the input reads as it did. -/
def bitsOpenUptoRow : OpenClaim := { program := "ytddfmahlbbbljaa", sum := "52e9a6b819b9185f6edeb6704c3b49ea3535f8abe4b98e1e2dc813828e3553c4", func := "limnograph/limnographlaw01.BitsOpen", spec := "bitsOpen", apart := false, narrowed := true }
def BitsOpenUptoSaid : Prop := bitsOpenUptoRow.holds Try.pinned (OpenSpec.upto bitsOpenSpec)

/-- 'limnographlaw01.BitsTake', WHERE WHAT IT READS IS OF BULK AT MOST 1048576: true; the input reads as it did. -/
def bitsTakeUptoRow : OpenClaim := { program := "ytddfmahlbbbljaa", sum := "52e9a6b819b9185f6edeb6704c3b49ea3535f8abe4b98e1e2dc813828e3553c4", func := "limnograph/limnographlaw01.BitsTake", spec := "bitsTake", apart := false, narrowed := true }
def BitsTakeUptoSaid : Prop := bitsTakeUptoRow.holds Try.pinned (OpenSpec.upto bitsTakeSpec)

/-- 'limnographlaw01.BitsPut', WHERE WHAT IT READS IS OF BULK AT MOST 1048576: true; the input reads as it did. -/
def bitsPutUptoRow : OpenClaim := { program := "ytddfmahlbbbljaa", sum := "52e9a6b819b9185f6edeb6704c3b49ea3535f8abe4b98e1e2dc813828e3553c4", func := "limnograph/limnographlaw01.BitsPut", spec := "bitsPut", apart := false, narrowed := true }
def BitsPutUptoSaid : Prop := bitsPutUptoRow.holds Try.pinned (OpenSpec.upto bitsPutSpec)

/-- 'limnographlaw06.VarySmall', WHERE WHAT IT READS IS OF BULK AT MOST 1048576: true; the input reads as it did. -/
def varySmallUptoRow : OpenClaim := { program := "ytddfmahlbbbljaa", sum := "52e9a6b819b9185f6edeb6704c3b49ea3535f8abe4b98e1e2dc813828e3553c4", func := "limnograph/limnographlaw06.VarySmall", spec := "varySmall", apart := false, narrowed := true }
def VarySmallUptoSaid : Prop := varySmallUptoRow.holds Try.pinned (OpenSpec.upto varySmallSpec)

/-- 'limnographlaw06.VaryReads', WHERE WHAT IT READS IS OF BULK AT MOST 1048576: true; the input reads as it did. -/
def varyReadsUptoRow : OpenClaim := { program := "ytddfmahlbbbljaa", sum := "52e9a6b819b9185f6edeb6704c3b49ea3535f8abe4b98e1e2dc813828e3553c4", func := "limnograph/limnographlaw06.VaryReads", spec := "varyReads", apart := false, narrowed := true }
def VaryReadsUptoSaid : Prop := varyReadsUptoRow.holds Try.pinned (OpenSpec.upto varyReadsSpec)

/-- 'limnographlaw06.VaryTakes', WHERE WHAT IT READS IS OF BULK AT MOST 1048576: true; the input reads as it did. -/
def varyTakesUptoRow : OpenClaim := { program := "ytddfmahlbbbljaa", sum := "52e9a6b819b9185f6edeb6704c3b49ea3535f8abe4b98e1e2dc813828e3553c4", func := "limnograph/limnographlaw06.VaryTakes", spec := "varyTakes", apart := false, narrowed := true }
def VaryTakesUptoSaid : Prop := varyTakesUptoRow.holds Try.pinned (OpenSpec.upto varyTakesSpec)

/-- 'limnographlaw06.VaryRows', WHERE WHAT IT READS IS OF BULK AT MOST 1048576: true; the input reads as it did. -/
def varyRowsUptoRow : OpenClaim := { program := "ytddfmahlbbbljaa", sum := "52e9a6b819b9185f6edeb6704c3b49ea3535f8abe4b98e1e2dc813828e3553c4", func := "limnograph/limnographlaw06.VaryRows", spec := "varyRows", apart := false, narrowed := true }
def VaryRowsUptoSaid : Prop := varyRowsUptoRow.holds Try.pinned (OpenSpec.upto varyRowsSpec)

end Rows
end Go.Proofs.Ytddfmahlbbbljaa
