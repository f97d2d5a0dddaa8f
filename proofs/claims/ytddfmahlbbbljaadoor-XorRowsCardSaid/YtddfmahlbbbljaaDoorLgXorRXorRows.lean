/- 'limnograph/limnographlaw07.XorRows' returns true, whatever the input; the input reads behind the call as it read before. The row's step; the walk and the plain law are in the texts that it imports. -/
import Derived.Test.YtddfmahlbbbljaaDoorRows
import Derived.Test.YtddfmahlbbbljaaDoorLgXorWXorRows
import Derived.Test.YtddfmahlbbbljaaDoorLg07h
import Derived.Test.YtddfmahlbbbljaaDoorLgOpen
import Derived.WalkKit
import Derived.ProofKit
import Derived.OpenShut
import Derived.ShutString
import Derived.ChangeOld
import Derived.Below
import Derived.JoinedCond
import Derived.Test.YtddfmahlbbbljaaDoorTie
import Derived.Test.YtddfmahlbbbljaaDoorCards
import Derived.Test.YtddfmahlbbbljaaDoorLgGlob
import Derived.Handed
import Derived.SevenTiedAt
set_option linter.unusedVariables false
namespace Go.Proofs.YtddfmahlbbbljaaDoor.xorRowsDone
set_option linter.unusedVariables false
set_option maxRecDepth 100000
open Go.ChangeShapes Go.WideShapes Go.ChangeAt Go.RowKit Go.Lg
theorem own : ownKnob Tryd.prog.godebug = none := by kernel_rfl
theorem laidOut : laidOutB Tryd.prog = true := by kernel_rfl
theorem bulkAll {H : Type} : ∀ l : List (DataW H), Rows.uptoBulkAll l = (l.map Rows.uptoBulk).sum
  | [] => by simp [Rows.uptoBulkAll]
  | x :: l => by rw [Rows.uptoBulkAll, bulkAll l, List.map_cons, List.sum_cons]
theorem bulkOk {H : Type} : BulkOk (Rows.uptoBulk (H := H)) where
  str := fun l => by simp [Rows.uptoBulk]
  sl := fun es rs => by rw [Rows.uptoBulk, bulkAll]; omega
  ag := fun es => by rw [Rows.uptoBulk, bulkAll]; omega
  pos := fun d => by
    cases d with
    | lit l => cases l <;> simp [Rows.uptoBulk]
    | nil => simp [Rows.uptoBulk]
    | ptr d => simp [Rows.uptoBulk]
    | slice elems spare => simp [Rows.uptoBulk]
    | agg parts => simp [Rows.uptoBulk]
    | iface t d => simp [Rows.uptoBulk]
    | map entries => simp [Rows.uptoBulk]
    | held h => simp [Rows.uptoBulk]
theorem agg_of {cs : Array Value} {l : List Value} (h : cs.toList = l) : cs = l.toArray := by subst h; rfl
theorem below_of_ext {w w' : World} (h : Ext w w') : Below w.heap.size w w' := ⟨h.os, h.tape, h.output, h.size, fun k hk => Stp.blk h k hk (by simp)⟩
theorem contract (H : Type) (enc : TypeId × Value → H) (W : World) (base : Nat) (args : Array Value) (ds gs : List (DataW H)) (before : List MemPlace)
    (hval : ∀ (j : Nat) t v, Tryd.f5.params[j]? = some t → args[j]? = some v → Value.okWide Tryd.prog W .any base t v)
    (hW : DataW.Whole enc Tryd.prog Tryd.f5.params.toList Rows.xorRowsSpec.vars false W args.toList ds gs before) (hL : laidMet Tryd.prog Rows.xorRowsRow.laid W) :
    Calls Tryd.prog 5 args W fun e W' => ∃ v, e = .returned v ∧ Rows.xorRowsSpec.post enc Tryd.prog Tryd.f5 false true false false W args v W' := by
  have hW' := hW
  have hB := bulkOk (H := H)
  obtain ⟨p, q, hA0, hV, rfl, hfz, hnd⟩ := hW
  have hA : DataW.TrodAll enc Tryd.prog W 0 (fun _ => true) true Tryd.f5.params.toList args.toList ds p := hA0
  rw [Tryd.params5] at hA hval
  obtain ⟨v0, vs0, d0, ds0, p0, q0, hargs, rfl, rfl, h0, r0⟩ := trodAll_cons hA
  obtain ⟨v1, vs1, d1, ds1, p1, q1, rfl, rfl, rfl, h1, r1⟩ := trodAll_cons r0
  obtain ⟨rfl, rfl, rfl⟩ := trodAll_nil r1
  obtain rfl : args = #[v0, v1] := by cases args; simp_all
  obtain ⟨rfl, rfl⟩ := trodVars_none hV
  have k0 := h0
  have lt0 : ∀ x ∈ p0, x.block < W.heap.size := by obtain ⟨m, hm⟩ := k0; exact DataW.trod_lt m _ _ _ hm
  obtain ⟨fuel0, t0⟩ := h0
  obtain ⟨x0, y0, g0⟩ := (Opn.sl hB Tryd.underlying22 (by kernel_rfl) (by decide) (Opn.u (bk := Rows.uptoBulk (H := H)) Tryd.underlying23)) 0 fuel0 _ _ t0
  obtain ⟨a0, len0, cap0, rfl⟩ := okWide_slice Tryd.underlying22 (hval 0 22 v0 rfl rfl)
  obtain ⟨u0, e0, s0⟩ := y0
  obtain rfl := (List.cons.inj e0).1
  have k1 := h1
  have lt1 : ∀ x ∈ p1, x.block < W.heap.size := by obtain ⟨m, hm⟩ := k1; exact DataW.trod_lt m _ _ _ hm
  obtain ⟨fuel1, t1⟩ := h1
  obtain ⟨x1, y1, g1⟩ := (Opn.u (bk := Rows.uptoBulk (H := H)) Tryd.underlying23) 0 fuel1 _ _ t1
  obtain ⟨n1, rfl⟩ := okWide_int Tryd.underlying23 (hval 1 23 v1 rfl rfl)
  have e1 := (List.cons.inj y1).1
  rw [e1]
  have plain : law07_XorRows x0 x1 = some true := xorRows x0 x1
  have hG1' : CellsAt W 1 0 ((gdat1.map fun x => (x.toNat : Int)).map fun z => Value.int .u8 z) := laid_array (zs := (gdat1.map fun x => (x.toNat : Int))) (k := .u8) (t := 84) hL (.head _) (by kernel_rfl) (by kernel_rfl) Tryd.underlying84 (by kernel_rfl) Tryd.underlying5 (by kernel_rfl)
  have hG1 : CellsAt W 1 0 (gdat1.map vb) := hG1'
  have hG0 : CellsAt W 0 0 [vi 0, vi 0] := laid_struct (zs := [0, 0]) (k := .i64) (t := 60) hL (.tail _ (.head _)) (by kernel_rfl) (by kernel_rfl) Tryd.underlying60 (by kernel_rfl) (fun i f hf => by match i, hf with
    | 0, hf => cases hf; exact ⟨Tryd.underlying3, rfl, by kernel_rfl⟩
    | 1, hf => cases hf; exact ⟨Tryd.underlying3, rfl, by kernel_rfl⟩
    | (k + 2), hf => simp at hf)
  have walk := c_law07_XorRows (w := W) (A := AllW) s0 hG0 trivial hG1 trivial plain
  clear hA0
  refine Calls.mono walk fun e W' ⟨v, he, hv, hx⟩ => ?_
  subst hv; subst he
  have bel := below_of_ext hx
  rw [← e1]
  exact ⟨_, rfl, _, _, _, [], _, [], hW', trodAll_mk1 (shut_bool Tryd.underlying4 _), (trodAll_cons_mk (Below.trod laidOut (by kernel_rfl) (of_decide_eq_true (by kernel_rfl)) k0 bel lt0) (trodAll_cons_mk (Below.trod laidOut (by kernel_rfl) (of_decide_eq_true (by kernel_rfl)) k1 bel lt1) trodAll_mk0)), rfl, bel.frame _, fun h => by cases h⟩
noncomputable def limWorld (os : Os) : World :=
  let w0 := World.holding Tryd.prog os ⟨#[], #[], []⟩
  { w0 with heap := ((w0.heap.modify 0 fun | .cells _ t frozen => .cells #[.int .i64 0, .int .i64 0] t frozen | o => o).modify 1 fun | .cells _ t frozen => .cells #[.int .u8 0, .int .u8 1, .int .u8 56, .int .u8 2, .int .u8 57, .int .u8 49, .int .u8 28, .int .u8 3, .int .u8 61, .int .u8 58, .int .u8 42, .int .u8 50, .int .u8 38, .int .u8 29, .int .u8 17, .int .u8 4, .int .u8 62, .int .u8 47, .int .u8 59, .int .u8 36, .int .u8 45, .int .u8 43, .int .u8 51, .int .u8 22, .int .u8 53, .int .u8 39, .int .u8 33, .int .u8 30, .int .u8 24, .int .u8 18, .int .u8 12, .int .u8 5, .int .u8 63, .int .u8 55, .int .u8 48, .int .u8 27, .int .u8 60, .int .u8 41, .int .u8 37, .int .u8 16, .int .u8 46, .int .u8 35, .int .u8 44, .int .u8 21, .int .u8 52, .int .u8 32, .int .u8 23, .int .u8 11, .int .u8 54, .int .u8 26, .int .u8 40, .int .u8 15, .int .u8 34, .int .u8 20, .int .u8 31, .int .u8 10, .int .u8 25, .int .u8 14, .int .u8 19, .int .u8 9, .int .u8 13, .int .u8 8, .int .u8 7, .int .u8 6] t frozen | o => o) }
theorem laid_met (os : Os) (args : Array Value) : laidMet Tryd.prog Rows.xorRowsRow.laid ((limWorld os).forCall (fun _ _ => 0) ⟨#[], args, []⟩).memory :=
  laidMet_of_run' 8 (by kernel_rfl) (by kernel_rfl)
theorem lifted (os : Os) (started : os.Started) (H : Type) (enc : TypeId × Value → H) :
    ReturnsInHanded {} Tryd.checked os 5 .any (fun w args => (Rows.xorRowsSpec.pre enc Tryd.prog Tryd.f5 Rows.xorRowsRow.domain false w args ∧ laidMet Tryd.prog Rows.xorRowsRow.laid w) ∧ sizedMet enc Tryd.prog Tryd.f5 (OpenSpec.ofChange Rows.xorRowsSpec) false w args)
      (Rows.xorRowsSpec.post enc Tryd.prog Tryd.f5 false true false false) := by
  refine returnsInHanded_of_change_and (C := Tryd.checked) (X := fun w _ => laidMet Tryd.prog Rows.xorRowsRow.laid w) (fun _ _ _ hh h => h.of_heap hh) own started (by kernel_rfl) Tryd.func5
    (ChangeSpec.witness_at (enc := enc) (C := Tryd.checked) (os := os) (X := fun w _ => laidMet Tryd.prog Rows.xorRowsRow.laid w) false (limWorld os) #[.slice none 0 0, .int .u64 0] 8 rfl (by kernel_rfl) (by kernel_rfl) (by kernel_rfl) (by kernel_rfl) (by kernel_rfl) (laid_met os _)) ?_
  intro W base args ds gs before hval hW _ _ hL _
  exact contract H enc W base args ds gs before hval hW hL
theorem row_holds : Rows.XorRowsSaid :=
  OpenClaim.holds_of_wide 5 Tryd.f5 rfl rfl rfl rfl rfl rfl rfl ⟨rfl, rfl, rfl, rfl, rfl⟩ rfl rfl rfl rfl rfl (by kernel_rfl) Tryd.func5 (by kernel_rfl)
    (of_decide_eq_true (by kernel_rfl)) (by unfold Func.isWrapper; first | (rw [if_pos (by decide +kernel)]; kernel_rfl) | (rw [if_neg (by decide +kernel)]; exact ⟨rfl, rfl⟩))
    (fun os started H enc _ => lifted os started H enc)
theorem proved : Rows.XorRowsCardSaid :=
  Claim7.holds_tied_plain_at .later [] [.data, .data] true (true, "924bd2a9ee85ccf0adb582d713de8a87aebc7f0af5aa0b863a05e6e4467bbfa9") false
    row_holds (fun _ h => by cases h) (by kernel_rfl) (fun _ h => by cases h) xorRows_row_tie rfl ⟨rfl, rfl⟩ (by kernel_rfl) rfl
    (fun f fn hf hfn => by
      obtain rfl : f = 5 := Option.some.inj ((show Tryd.prog.funcNamed "limnograph/limnographlaw07.XorRows" = some 5 by kernel_rfl).symm.trans hf) |>.symm
      obtain rfl : fn = Tryd.f5 := (Option.some.inj (Tryd.func5.symm.trans hfn)).symm
      exact ⟨by kernel_rfl, fun j t ht => by
        rw [Tryd.params5] at ht
        match j, ht with
        | 0, ht => simp at ht; subst ht; exact (show Tryd.prog.wantsStandIn 22 = false by kernel_rfl)
        | 1, ht => simp at ht; subst ht; exact (show Tryd.prog.wantsStandIn 23 = false by kernel_rfl)
        | (k + 2), ht => simp at ht⟩)
    (by kernel_rfl)
#print axioms proved
end Go.Proofs.YtddfmahlbbbljaaDoor.xorRowsDone
