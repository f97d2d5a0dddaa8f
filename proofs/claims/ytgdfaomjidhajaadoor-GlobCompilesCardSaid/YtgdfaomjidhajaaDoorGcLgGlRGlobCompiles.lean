/- 'limnograph/limnographlaw32.GlobCompiles' returns true, whatever the input; the input reads behind the call as it read before. The row's step; the walk and the plain law are in the texts that it imports. -/
import Derived.Test.YtgdfaomjidhajaaDoorRows
import Derived.Test.YtgdfaomjidhajaaDoorGcLgGlWGlobCompiles
import Derived.Test.YtgdfaomjidhajaaDoorGcLgPart1
import Derived.Test.YtgdfaomjidhajaaDoorGcLgPart0
import Derived.WalkKit
import Derived.ProofKit
import Derived.OpenShut
import Derived.ShutString
import Derived.ChangeOld
import Derived.Below
import Derived.JoinedCond
import Derived.Test.YtgdfaomjidhajaaDoorTie
import Derived.Test.YtgdfaomjidhajaaDoorCards
import Derived.Handed
import Derived.SevenTiedAt
set_option linter.unusedVariables false
namespace Go.Proofs.YtgdfaomjidhajaaDoor.globCompilesDone
set_option linter.unusedVariables false
set_option maxRecDepth 100000
open Go.ChangeShapes Go.WideShapes Go.ChangeAt Go.RowKit Go.Lg
theorem own : ownKnob Tryd.prog.godebug = none := by kernel_rfl
theorem laidOut : laidOutB Tryd.prog = true := by kernel_rfl
theorem bulkAll {H : Type} : ∀ l : List (DataW H), Rows.uptoBulkAll l = (l.map Rows.uptoBulk).sum
  | [] => by simp [Rows.uptoBulkAll]
  | x :: l => by rw [Rows.uptoBulkAll, bulkAll l, List.map_cons, List.sum_cons]
theorem bulkOk {H : Type} : BulkOk (Rows.uptoBulk (H := H)) where
  str := fun l => by simp [Rows.uptoBulk]
  sl := fun es rs => by rw [Rows.uptoBulk, bulkAll]; omega
  ag := fun es => by rw [Rows.uptoBulk, bulkAll]; omega
  pos := fun d => by
    cases d with
    | lit l => cases l <;> simp [Rows.uptoBulk]
    | nil => simp [Rows.uptoBulk]
    | ptr d => simp [Rows.uptoBulk]
    | slice elems spare => simp [Rows.uptoBulk]
    | agg parts => simp [Rows.uptoBulk]
    | iface t d => simp [Rows.uptoBulk]
    | map entries => simp [Rows.uptoBulk]
    | held h => simp [Rows.uptoBulk]
theorem agg_of {cs : Array Value} {l : List Value} (h : cs.toList = l) : cs = l.toArray := by subst h; rfl
theorem below_of_ext {w w' : World} (h : Ext w w') : Below w.heap.size w w' := ⟨h.os, h.tape, h.output, h.size, fun k hk => Stp.blk h k hk (by simp)⟩
theorem contract (H : Type) (enc : TypeId × Value → H) (W : World) (base : Nat) (args : Array Value) (ds gs : List (DataW H)) (before : List MemPlace)
    (hval : ∀ (j : Nat) t v, Tryd.f5.params[j]? = some t → args[j]? = some v → Value.okWide Tryd.prog W .any base t v)
    (hW : DataW.Whole enc Tryd.prog Tryd.f5.params.toList Rows.globCompilesSpec.vars false W args.toList ds gs before) (hL : laidMet Tryd.prog Rows.globCompilesRow.laid W) :
    Calls Tryd.prog 5 args W fun e W' => ∃ v, e = .returned v ∧ Rows.globCompilesSpec.post enc Tryd.prog Tryd.f5 false true false false W args v W' := by
  have hW' := hW
  have hB := bulkOk (H := H)
  obtain ⟨p, q, hA0, hV, rfl, hfz, hnd⟩ := hW
  have hA : DataW.TrodAll enc Tryd.prog W 0 (fun _ => true) true Tryd.f5.params.toList args.toList ds p := hA0
  rw [Tryd.params5] at hA hval
  obtain ⟨v0, vs0, d0, ds0, p0, q0, hargs, rfl, rfl, h0, r0⟩ := trodAll_cons hA
  obtain ⟨rfl, rfl, rfl⟩ := trodAll_nil r0
  obtain rfl : args = #[v0] := by cases args; simp_all
  obtain ⟨rfl, rfl⟩ := trodVars_none hV
  have k0 := h0
  have lt0 : ∀ x ∈ p0, x.block < W.heap.size := by obtain ⟨m, hm⟩ := k0; exact DataW.trod_lt m _ _ _ hm
  obtain ⟨fuel0, t0⟩ := h0
  obtain ⟨x0, y0, g0⟩ := (Opn.s (bk := Rows.uptoBulk (H := H)) Tryd.underlying9 hB.str) 0 fuel0 _ _ t0
  obtain ⟨n0, rfl⟩ := okWide_string Tryd.underlying9 (hval 0 9 v0 rfl rfl)
  have e0 := (List.cons.inj y0).1
  rw [e0]
  have plain : law32_GlobCompiles x0 = some true := globCompiles x0
  have hG0 : CellsAt W 0 0 [vi 0, vi 0] := laid_struct (zs := [0, 0]) (k := .i64) (t := 49) hL (.head _) (by kernel_rfl) (by kernel_rfl) Tryd.underlying49 (by kernel_rfl) (fun i f hf => by match i, hf with
    | 0, hf => cases hf; exact ⟨Tryd.underlying3, rfl, by kernel_rfl⟩
    | 1, hf => cases hf; exact ⟨Tryd.underlying24, rfl, by kernel_rfl⟩
    | (k + 2), hf => simp at hf)
  have walk := c_law32_GlobCompiles (w := W) (A := AllW) hG0 trivial plain
  clear hA0
  refine Calls.mono walk fun e W' ⟨v, he, hv, hx⟩ => ?_
  subst hv; subst he
  have bel := below_of_ext hx
  rw [← e0]
  exact ⟨_, rfl, _, _, _, [], _, [], hW', trodAll_mk1 (shut_bool Tryd.underlying4 _), (trodAll_cons_mk (Below.trod laidOut (by kernel_rfl) (of_decide_eq_true (by kernel_rfl)) k0 bel lt0) trodAll_mk0), rfl, bel.frame _, fun h => by cases h⟩
noncomputable def limWorld (os : Os) : World :=
  let w0 := World.holding Tryd.prog os ⟨#[], #[], []⟩
  { w0 with heap := (w0.heap.modify 0 fun | .cells _ t frozen => .cells #[.int .i64 0, .int .i64 0] t frozen | o => o) }
theorem laid_met (os : Os) (args : Array Value) : laidMet Tryd.prog Rows.globCompilesRow.laid ((limWorld os).forCall (fun _ _ => 0) ⟨#[], args, []⟩).memory :=
  laidMet_of_run' 8 (by kernel_rfl) (by kernel_rfl)
theorem lifted (os : Os) (started : os.Started) (H : Type) (enc : TypeId × Value → H) :
    ReturnsInHanded {} Tryd.checked os 5 .any (fun w args => (Rows.globCompilesSpec.pre enc Tryd.prog Tryd.f5 Rows.globCompilesRow.domain false w args ∧ laidMet Tryd.prog Rows.globCompilesRow.laid w) ∧ sizedMet enc Tryd.prog Tryd.f5 (OpenSpec.ofChange Rows.globCompilesSpec) false w args)
      (Rows.globCompilesSpec.post enc Tryd.prog Tryd.f5 false true false false) := by
  refine returnsInHanded_of_change_and (C := Tryd.checked) (X := fun w _ => laidMet Tryd.prog Rows.globCompilesRow.laid w) (fun _ _ _ hh h => h.of_heap hh) own started (by kernel_rfl) Tryd.func5
    (ChangeSpec.witness_at (enc := enc) (C := Tryd.checked) (os := os) (X := fun w _ => laidMet Tryd.prog Rows.globCompilesRow.laid w) false (limWorld os) #[.string ByteArray.empty] 8 rfl (by kernel_rfl) (by kernel_rfl) (by kernel_rfl) (by kernel_rfl) (by kernel_rfl) (laid_met os _)) ?_
  intro W base args ds gs before hval hW _ _ hL _
  exact contract H enc W base args ds gs before hval hW hL
theorem row_holds : Rows.GlobCompilesSaid :=
  OpenClaim.holds_of_wide 5 Tryd.f5 rfl rfl rfl rfl rfl rfl rfl ⟨rfl, rfl, rfl, rfl, rfl⟩ rfl rfl rfl rfl rfl (by kernel_rfl) Tryd.func5 (by kernel_rfl)
    (of_decide_eq_true (by kernel_rfl)) (by unfold Func.isWrapper; first | (rw [if_pos (by decide +kernel)]; kernel_rfl) | (rw [if_neg (by decide +kernel)]; exact ⟨rfl, rfl⟩))
    (fun os started H enc _ => lifted os started H enc)
theorem proved : Rows.GlobCompilesCardSaid :=
  Claim7.holds_tied_plain_at .later [] [.data] true (true, "168a146bac7fc1113c2d4feadfdd8072b55977c8bec36dcd89cbe0b120a088cb") false
    row_holds (fun _ h => by cases h) (by kernel_rfl) (fun _ h => by cases h) globCompiles_row_tie rfl ⟨rfl, rfl⟩ (by kernel_rfl) rfl
    (fun f fn hf hfn => by
      obtain rfl : f = 5 := Option.some.inj ((show Tryd.prog.funcNamed "limnograph/limnographlaw32.GlobCompiles" = some 5 by kernel_rfl).symm.trans hf) |>.symm
      obtain rfl : fn = Tryd.f5 := (Option.some.inj (Tryd.func5.symm.trans hfn)).symm
      exact ⟨by kernel_rfl, fun j t ht => by
        rw [Tryd.params5] at ht
        match j, ht with
        | 0, ht => simp at ht; subst ht; exact (show Tryd.prog.wantsStandIn 9 = false by kernel_rfl)
        | (k + 1), ht => simp at ht⟩)
    (by kernel_rfl)
#print axioms proved
end Go.Proofs.YtgdfaomjidhajaaDoor.globCompilesDone
