/- 'limnograph/limnographlaw33.RelabelParts' returns true, whatever the input; the input reads behind the call as it read before. The row's step; the walk and the plain law are in the texts that it imports. -/
import Derived.Test.YtihlealbhlgikaaDoorRows
import Derived.Test.YtihlealbhlgikaaDoorRpLgReWRelabelParts
import Derived.Test.YtihlealbhlgikaaDoorRpLgPart1
import Derived.Test.YtihlealbhlgikaaDoorRpLgPart0
import Derived.WalkKit
import Derived.ProofKit
import Derived.OpenShut
import Derived.ShutString
import Derived.ChangeOld
import Derived.Below
import Derived.JoinedCond
import Derived.Test.YtihlealbhlgikaaDoorTie
import Derived.Test.YtihlealbhlgikaaDoorCards
import Derived.Handed
import Derived.SevenTiedAt
set_option linter.unusedVariables false
namespace Go.Proofs.YtihlealbhlgikaaDoor.relabelPartsDone
set_option linter.unusedVariables false
set_option maxRecDepth 100000
open Go.ChangeShapes Go.WideShapes Go.ChangeAt Go.RowKit Go.Lg
theorem own : ownKnob Tryd.prog.godebug = none := by kernel_rfl
theorem laidOut : laidOutB Tryd.prog = true := by kernel_rfl
theorem bulkAll {H : Type} : ∀ l : List (DataW H), Rows.uptoBulkAll l = (l.map Rows.uptoBulk).sum
  | [] => by simp [Rows.uptoBulkAll]
  | x :: l => by rw [Rows.uptoBulkAll, bulkAll l, List.map_cons, List.sum_cons]
theorem bulkOk {H : Type} : BulkOk (Rows.uptoBulk (H := H)) where
  str := fun l => by simp [Rows.uptoBulk]
  sl := fun es rs => by rw [Rows.uptoBulk, bulkAll]; omega
  ag := fun es => by rw [Rows.uptoBulk, bulkAll]; omega
  pos := fun d => by
    cases d with
    | lit l => cases l <;> simp [Rows.uptoBulk]
    | nil => simp [Rows.uptoBulk]
    | ptr d => simp [Rows.uptoBulk]
    | slice elems spare => simp [Rows.uptoBulk]
    | agg parts => simp [Rows.uptoBulk]
    | iface t d => simp [Rows.uptoBulk]
    | map entries => simp [Rows.uptoBulk]
    | held h => simp [Rows.uptoBulk]
theorem agg_of {cs : Array Value} {l : List Value} (h : cs.toList = l) : cs = l.toArray := by subst h; rfl
theorem below_of_ext {w w' : World} (h : Ext w w') : Below w.heap.size w w' := ⟨h.os, h.tape, h.output, h.size, fun k hk => Stp.blk h k hk (by simp)⟩
theorem contract (H : Type) (enc : TypeId × Value → H) (W : World) (base : Nat) (args : Array Value) (ds gs : List (DataW H)) (before : List MemPlace)
    (hval : ∀ (j : Nat) t v, Tryd.f5.params[j]? = some t → args[j]? = some v → Value.okWide Tryd.prog W .any base t v)
    (hW : DataW.Whole enc Tryd.prog Tryd.f5.params.toList Rows.relabelPartsSpec.vars false W args.toList ds gs before) (hL : laidMet Tryd.prog Rows.relabelPartsRow.laid W) :
    Calls Tryd.prog 5 args W fun e W' => ∃ v, e = .returned v ∧ Rows.relabelPartsSpec.post enc Tryd.prog Tryd.f5 false true false false W args v W' := by
  have hW' := hW
  have hB := bulkOk (H := H)
  obtain ⟨p, q, hA0, hV, rfl, hfz, hnd⟩ := hW
  have hA : DataW.TrodAll enc Tryd.prog W 0 (fun _ => true) true Tryd.f5.params.toList args.toList ds p := hA0
  rw [Tryd.params5] at hA hval
  obtain ⟨v0, vs0, d0, ds0, p0, q0, hargs, rfl, rfl, h0, r0⟩ := trodAll_cons hA
  obtain ⟨v1, vs1, d1, ds1, p1, q1, rfl, rfl, rfl, h1, r1⟩ := trodAll_cons r0
  obtain ⟨v2, vs2, d2, ds2, p2, q2, rfl, rfl, rfl, h2, r2⟩ := trodAll_cons r1
  obtain ⟨rfl, rfl, rfl⟩ := trodAll_nil r2
  obtain rfl : args = #[v0, v1, v2] := by cases args; simp_all
  obtain ⟨rfl, rfl⟩ := trodVars_none hV
  have k0 := h0
  have lt0 : ∀ x ∈ p0, x.block < W.heap.size := by obtain ⟨m, hm⟩ := k0; exact DataW.trod_lt m _ _ _ hm
  obtain ⟨fuel0, t0⟩ := h0
  obtain ⟨x0, y0, g0⟩ := (Opn.sl hB Tryd.underlying22 (by kernel_rfl) (by decide) (Opn.struct hB (fun d => (d.Kind, d.Key, d.Glob, d.To, d.Val)) (fun x => api_Rule.mk x.1 x.2.1 x.2.2.1 x.2.2.2.1 x.2.2.2.2) (fun _ => rfl) Tryd.underlying28 (by kernel_rfl) (OpnF.cons rfl (by kernel_rfl) (Opn.i (bk := Rows.uptoBulk (H := H)) Tryd.underlying3) (OpnF.cons rfl (by kernel_rfl) (Opn.s (bk := Rows.uptoBulk (H := H)) Tryd.underlying9 hB.str) (OpnF.cons rfl (by kernel_rfl) (Opn.s (bk := Rows.uptoBulk (H := H)) Tryd.underlying9 hB.str) (OpnF.cons rfl (by kernel_rfl) (Opn.s (bk := Rows.uptoBulk (H := H)) Tryd.underlying9 hB.str) (OpnF.one rfl (by kernel_rfl) (Opn.s (bk := Rows.uptoBulk (H := H)) Tryd.underlying9 hB.str)))))))) 0 fuel0 _ _ t0
  obtain ⟨a0, len0, cap0, rfl⟩ := okWide_slice Tryd.underlying22 (hval 0 22 v0 rfl rfl)
  obtain ⟨u0, e0, s0⟩ := y0
  obtain rfl := (List.cons.inj e0).1
  have k1 := h1
  have lt1 : ∀ x ∈ p1, x.block < W.heap.size := by obtain ⟨m, hm⟩ := k1; exact DataW.trod_lt m _ _ _ hm
  obtain ⟨fuel1, t1⟩ := h1
  obtain ⟨x1, y1, g1⟩ := (Opn.i (bk := Rows.uptoBulk (H := H)) Tryd.underlying3) 0 fuel1 _ _ t1
  obtain ⟨n1, rfl⟩ := okWide_int Tryd.underlying3 (hval 1 3 v1 rfl rfl)
  have e1 := (List.cons.inj y1).1
  rw [e1]
  have k2 := h2
  have lt2 : ∀ x ∈ p2, x.block < W.heap.size := by obtain ⟨m, hm⟩ := k2; exact DataW.trod_lt m _ _ _ hm
  obtain ⟨fuel2, t2⟩ := h2
  obtain ⟨x2, y2, g2⟩ := (Opn.struct hB (fun d => (d.Name, d.Attrs, d.Kind, d.Temp, d.Mono, d.Start, d.Time, d.Int_, d.Re, d.Im, d.Hist, d.Flags)) (fun x => api_Point.mk x.1 x.2.1 x.2.2.1 x.2.2.2.1 x.2.2.2.2.1 x.2.2.2.2.2.1 x.2.2.2.2.2.2.1 x.2.2.2.2.2.2.2.1 x.2.2.2.2.2.2.2.2.1 x.2.2.2.2.2.2.2.2.2.1 x.2.2.2.2.2.2.2.2.2.2.1 x.2.2.2.2.2.2.2.2.2.2.2) (fun _ => rfl) Tryd.underlying41 (by kernel_rfl) (OpnF.cons rfl (by kernel_rfl) (Opn.s (bk := Rows.uptoBulk (H := H)) Tryd.underlying9 hB.str) (OpnF.cons rfl (by kernel_rfl) (Opn.sl hB Tryd.underlying33 (by kernel_rfl) (by decide) (Opn.struct hB (fun d => (d.Key, d.Val)) (fun x => api_Pair.mk x.1 x.2) (fun _ => rfl) Tryd.underlying59 (by kernel_rfl) (OpnF.cons rfl (by kernel_rfl) (Opn.s (bk := Rows.uptoBulk (H := H)) Tryd.underlying9 hB.str) (OpnF.one rfl (by kernel_rfl) (Opn.s (bk := Rows.uptoBulk (H := H)) Tryd.underlying9 hB.str))))) (OpnF.cons rfl (by kernel_rfl) (Opn.i (bk := Rows.uptoBulk (H := H)) Tryd.underlying3) (OpnF.cons rfl (by kernel_rfl) (Opn.i (bk := Rows.uptoBulk (H := H)) Tryd.underlying3) (OpnF.cons rfl (by kernel_rfl) (Opn.B (bk := Rows.uptoBulk (H := H)) Tryd.underlying4) (OpnF.cons rfl (by kernel_rfl) (Opn.i (bk := Rows.uptoBulk (H := H)) Tryd.underlying3) (OpnF.cons rfl (by kernel_rfl) (Opn.i (bk := Rows.uptoBulk (H := H)) Tryd.underlying3) (OpnF.cons rfl (by kernel_rfl) (Opn.i (bk := Rows.uptoBulk (H := H)) Tryd.underlying3) (OpnF.cons rfl (by kernel_rfl) (Opn.u (bk := Rows.uptoBulk (H := H)) Tryd.underlying34) (OpnF.cons rfl (by kernel_rfl) (Opn.u (bk := Rows.uptoBulk (H := H)) Tryd.underlying34) (OpnF.cons rfl (by kernel_rfl) (Opn.struct hB (fun d => (d.Scale, d.Zero, d.Pos, d.Neg)) (fun x => api_Hist.mk x.1 x.2.1 x.2.2.1 x.2.2.2) (fun _ => rfl) Tryd.underlying39 (by kernel_rfl) (OpnF.cons rfl (by kernel_rfl) (Opn.i (bk := Rows.uptoBulk (H := H)) Tryd.underlying3) (OpnF.cons rfl (by kernel_rfl) (Opn.u (bk := Rows.uptoBulk (H := H)) Tryd.underlying34) (OpnF.cons rfl (by kernel_rfl) (Opn.struct hB (fun d => (d.Offset, d.Counts)) (fun x => api_Side.mk x.1 x.2) (fun _ => rfl) Tryd.underlying37 (by kernel_rfl) (OpnF.cons rfl (by kernel_rfl) (Opn.i (bk := Rows.uptoBulk (H := H)) Tryd.underlying3) (OpnF.one rfl (by kernel_rfl) (Opn.sl hB Tryd.underlying35 (by kernel_rfl) (by decide) (Opn.u (bk := Rows.uptoBulk (H := H)) Tryd.underlying34))))) (OpnF.one rfl (by kernel_rfl) (Opn.struct hB (fun d => (d.Offset, d.Counts)) (fun x => api_Side.mk x.1 x.2) (fun _ => rfl) Tryd.underlying37 (by kernel_rfl) (OpnF.cons rfl (by kernel_rfl) (Opn.i (bk := Rows.uptoBulk (H := H)) Tryd.underlying3) (OpnF.one rfl (by kernel_rfl) (Opn.sl hB Tryd.underlying35 (by kernel_rfl) (by decide) (Opn.u (bk := Rows.uptoBulk (H := H)) Tryd.underlying34)))))))))) (OpnF.one rfl (by kernel_rfl) (Opn.i (bk := Rows.uptoBulk (H := H)) Tryd.underlying3)))))))))))))) 0 fuel2 _ _ t2
  obtain ⟨cs2, rfl, _⟩ := okWide_struct Tryd.underlying41 (hval 2 41 v2 rfl rfl)
  obtain ⟨_, _, E2, rfl, ⟨_, _, rfl, ⟨u2_1, rfl, s2_1⟩, ⟨_, _, rfl, rfl, ⟨_, _, rfl, rfl, ⟨_, _, rfl, rfl, ⟨_, _, rfl, rfl, ⟨_, _, rfl, rfl, ⟨_, _, rfl, rfl, ⟨_, _, rfl, rfl, ⟨_, _, rfl, rfl, ⟨_, _, rfl, ⟨_, _, rfl, rfl, ⟨_, _, rfl, rfl, ⟨_, _, rfl, ⟨_, _, rfl, rfl, ⟨u2_2, rfl, s2_2⟩⟩, ⟨_, _, rfl, rfl, ⟨u2_3, rfl, s2_3⟩⟩⟩⟩⟩, rfl⟩⟩⟩⟩⟩⟩⟩⟩⟩⟩⟩ := y2
  have e2 : Value.agg cs2 = .agg [vs x2.Name, u2_1, vi x2.Kind, vi x2.Temp, .bool x2.Mono, vi x2.Start, vi x2.Time, vi x2.Int_, vu x2.Re, vu x2.Im, vi x2.Hist.Scale, vu x2.Hist.Zero, vi x2.Hist.Pos.Offset, u2_2, vi x2.Hist.Neg.Offset, u2_3, vi x2.Flags].toArray := congrArg Value.agg (agg_of E2)
  rw [e2]
  have plain : law33_RelabelParts x0 x1 x2 = some true := relabelParts x0 x1 x2 (by obtain ⟨_, _, _, _, _, _, _, _, _, _, _, _, _, _, _, _, _, _, _, _, _, _, _, _, _, _, _, _, _, _, _, _, _, hi, _, _, _, _, _, _, _, _, _, _, _, ⟨_, _, _, _, _, h1, _, _, _, _, _, _, _, ⟨_, _, _, _, _, h2, _⟩, ⟨_, _, _, _, _, h3, _⟩⟩, _⟩ := g2; exact ⟨hi, ⟨h1, h2, h3⟩⟩)
  have hG0 : CellsAt W 0 0 [vi 0, vi 0] := laid_struct (zs := [0, 0]) (k := .i64) (t := 102) hL (.head _) (by kernel_rfl) (by kernel_rfl) Tryd.underlying102 (by kernel_rfl) (fun i f hf => by match i, hf with
    | 0, hf => cases hf; exact ⟨Tryd.underlying3, rfl, by kernel_rfl⟩
    | 1, hf => cases hf; exact ⟨Tryd.underlying25, rfl, by kernel_rfl⟩
    | (k + 2), hf => simp at hf)
  have walk := c_law33_RelabelParts (w := W) (A := AllW) s0 s2_1 s2_2 s2_3 hG0 trivial plain
  clear hA0
  refine Calls.mono walk fun e W' ⟨v, he, hv, hx⟩ => ?_
  subst hv; subst he
  have bel := below_of_ext hx
  rw [← e1]
  rw [← e2]
  exact ⟨_, rfl, _, _, _, [], _, [], hW', trodAll_mk1 (shut_bool Tryd.underlying4 _), (trodAll_cons_mk (Below.trod laidOut (by kernel_rfl) (of_decide_eq_true (by kernel_rfl)) k0 bel lt0) (trodAll_cons_mk (Below.trod laidOut (by kernel_rfl) (of_decide_eq_true (by kernel_rfl)) k1 bel lt1) (trodAll_cons_mk (Below.trod laidOut (by kernel_rfl) (of_decide_eq_true (by kernel_rfl)) k2 bel lt2) trodAll_mk0))), rfl, bel.frame _, fun h => by cases h⟩
noncomputable def limWorld (os : Os) : World :=
  let w0 := World.holding Tryd.prog os ⟨#[], #[], []⟩
  { w0 with heap := (w0.heap.modify 0 fun | .cells _ t frozen => .cells #[.int .i64 0, .int .i64 0] t frozen | o => o) }
theorem laid_met (os : Os) (args : Array Value) : laidMet Tryd.prog Rows.relabelPartsRow.laid ((limWorld os).forCall (fun _ _ => 0) ⟨#[], args, []⟩).memory :=
  laidMet_of_run' 8 (by kernel_rfl) (by kernel_rfl)
theorem lifted (os : Os) (started : os.Started) (H : Type) (enc : TypeId × Value → H) :
    ReturnsInHanded {} Tryd.checked os 5 .any (fun w args => (Rows.relabelPartsSpec.pre enc Tryd.prog Tryd.f5 Rows.relabelPartsRow.domain false w args ∧ laidMet Tryd.prog Rows.relabelPartsRow.laid w) ∧ sizedMet enc Tryd.prog Tryd.f5 (OpenSpec.ofChange Rows.relabelPartsSpec) false w args)
      (Rows.relabelPartsSpec.post enc Tryd.prog Tryd.f5 false true false false) := by
  refine returnsInHanded_of_change_and (C := Tryd.checked) (X := fun w _ => laidMet Tryd.prog Rows.relabelPartsRow.laid w) (fun _ _ _ hh h => h.of_heap hh) own started (by kernel_rfl) Tryd.func5
    (ChangeSpec.witness_at (enc := enc) (C := Tryd.checked) (os := os) (X := fun w _ => laidMet Tryd.prog Rows.relabelPartsRow.laid w) false (limWorld os) #[.slice none 0 0, .int .i64 0, .agg #[.string ByteArray.empty, .slice none 0 0, .int .i64 0, .int .i64 0, .bool false, .int .i64 0, .int .i64 0, .int .i64 0, .int .u64 0, .int .u64 0, .int .i64 0, .int .u64 0, .int .i64 0, .slice none 0 0, .int .i64 0, .slice none 0 0, .int .i64 0]] 8 rfl (by kernel_rfl) (by kernel_rfl) (by kernel_rfl) (by kernel_rfl) (by kernel_rfl) (laid_met os _)) ?_
  intro W base args ds gs before hval hW _ _ hL _
  exact contract H enc W base args ds gs before hval hW hL
theorem row_holds : Rows.RelabelPartsSaid :=
  OpenClaim.holds_of_wide 5 Tryd.f5 rfl rfl rfl rfl rfl rfl rfl ⟨rfl, rfl, rfl, rfl, rfl⟩ rfl rfl rfl rfl rfl (by kernel_rfl) Tryd.func5 (by kernel_rfl)
    (of_decide_eq_true (by kernel_rfl)) (by unfold Func.isWrapper; first | (rw [if_pos (by decide +kernel)]; kernel_rfl) | (rw [if_neg (by decide +kernel)]; exact ⟨rfl, rfl⟩))
    (fun os started H enc _ => lifted os started H enc)
theorem proved : Rows.RelabelPartsCardSaid :=
  Claim7.holds_tied_plain_at .later [] [.data] true (true, "e1a3a1feb693588457d4d0a75cf1adfbdefd442c2f7a8b8bc09728911a8f54d8") false
    row_holds (fun _ h => by cases h) (by kernel_rfl) (fun _ h => by cases h) relabelParts_row_tie rfl ⟨rfl, rfl⟩ (by kernel_rfl) rfl
    (fun f fn hf hfn => by
      obtain rfl : f = 5 := Option.some.inj ((show Tryd.prog.funcNamed "limnograph/limnographlaw33.RelabelParts" = some 5 by kernel_rfl).symm.trans hf) |>.symm
      obtain rfl : fn = Tryd.f5 := (Option.some.inj (Tryd.func5.symm.trans hfn)).symm
      exact ⟨by kernel_rfl, fun j t ht => by
        rw [Tryd.params5] at ht
        match j, ht with
        | 0, ht => simp at ht; subst ht; exact (show Tryd.prog.wantsStandIn 22 = false by kernel_rfl)
        | 1, ht => simp at ht; subst ht; exact (show Tryd.prog.wantsStandIn 3 = false by kernel_rfl)
        | 2, ht => simp at ht; subst ht; exact (show Tryd.prog.wantsStandIn 41 = false by kernel_rfl)
        | (k + 3), ht => simp at ht⟩)
    (by kernel_rfl)
#print axioms proved
end Go.Proofs.YtihlealbhlgikaaDoor.relabelPartsDone
