/- 'limnograph/limnographlaw33.RelabelNone' returns true, whatever the input; the input reads behind the call as it read before. The row's step; the walk and the plain law are in the texts that it imports. -/
import Derived.Test.YtihlealbhlgikaaDoorRows
import Derived.Test.YtihlealbhlgikaaDoorRnLgReWRelabelNone
import Derived.Test.YtihlealbhlgikaaDoorRnLgPart2
import Derived.Test.YtihlealbhlgikaaDoorRnLgPart0
import Derived.WalkKit
import Derived.ProofKit
import Derived.OpenShut
import Derived.ShutString
import Derived.ChangeOld
import Derived.Below
import Derived.JoinedCond
import Derived.Test.YtihlealbhlgikaaDoorTie
import Derived.Test.YtihlealbhlgikaaDoorCards
import Derived.Handed
import Derived.SevenTiedAt
set_option linter.unusedVariables false
namespace Go.Proofs.YtihlealbhlgikaaDoor.relabelNoneDone
set_option linter.unusedVariables false
set_option maxRecDepth 100000
open Go.ChangeShapes Go.WideShapes Go.ChangeAt Go.RowKit Go.Lg
theorem own : ownKnob Tryd.prog.godebug = none := by kernel_rfl
theorem laidOut : laidOutB Tryd.prog = true := by kernel_rfl
theorem bulkAll {H : Type} : ∀ l : List (DataW H), Rows.uptoBulkAll l = (l.map Rows.uptoBulk).sum
  | [] => by simp [Rows.uptoBulkAll]
  | x :: l => by rw [Rows.uptoBulkAll, bulkAll l, List.map_cons, List.sum_cons]
theorem bulkOk {H : Type} : BulkOk (Rows.uptoBulk (H := H)) where
  str := fun l => by simp [Rows.uptoBulk]
  sl := fun es rs => by rw [Rows.uptoBulk, bulkAll]; omega
  ag := fun es => by rw [Rows.uptoBulk, bulkAll]; omega
  pos := fun d => by
    cases d with
    | lit l => cases l <;> simp [Rows.uptoBulk]
    | nil => simp [Rows.uptoBulk]
    | ptr d => simp [Rows.uptoBulk]
    | slice elems spare => simp [Rows.uptoBulk]
    | agg parts => simp [Rows.uptoBulk]
    | iface t d => simp [Rows.uptoBulk]
    | map entries => simp [Rows.uptoBulk]
    | held h => simp [Rows.uptoBulk]
theorem agg_of {cs : Array Value} {l : List Value} (h : cs.toList = l) : cs = l.toArray := by subst h; rfl
theorem below_of_ext {w w' : World} (h : Ext w w') : Below w.heap.size w w' := ⟨h.os, h.tape, h.output, h.size, fun k hk => Stp.blk h k hk (by simp)⟩
theorem contract (H : Type) (enc : TypeId × Value → H) (W : World) (base : Nat) (args : Array Value) (ds gs : List (DataW H)) (before : List MemPlace)
    (hval : ∀ (j : Nat) t v, Tryd.f6.params[j]? = some t → args[j]? = some v → Value.okWide Tryd.prog W .any base t v)
    (hW : DataW.Whole enc Tryd.prog Tryd.f6.params.toList Rows.relabelNoneSpec.vars false W args.toList ds gs before) (hL : laidMet Tryd.prog Rows.relabelNoneRow.laid W) :
    Calls Tryd.prog 6 args W fun e W' => ∃ v, e = .returned v ∧ Rows.relabelNoneSpec.post enc Tryd.prog Tryd.f6 false true false false W args v W' := by
  have hW' := hW
  have hB := bulkOk (H := H)
  obtain ⟨p, q, hA0, hV, rfl, hfz, hnd⟩ := hW
  have hA : DataW.TrodAll enc Tryd.prog W 0 (fun _ => true) true Tryd.f6.params.toList args.toList ds p := hA0
  rw [Tryd.params6] at hA hval
  obtain ⟨v0, vs0, d0, ds0, p0, q0, hargs, rfl, rfl, h0, r0⟩ := trodAll_cons hA
  obtain ⟨v1, vs1, d1, ds1, p1, q1, rfl, rfl, rfl, h1, r1⟩ := trodAll_cons r0
  obtain ⟨rfl, rfl, rfl⟩ := trodAll_nil r1
  obtain rfl : args = #[v0, v1] := by cases args; simp_all
  obtain ⟨rfl, rfl⟩ := trodVars_none hV
  have k0 := h0
  have lt0 : ∀ x ∈ p0, x.block < W.heap.size := by obtain ⟨m, hm⟩ := k0; exact DataW.trod_lt m _ _ _ hm
  obtain ⟨fuel0, t0⟩ := h0
  obtain ⟨x0, y0, g0⟩ := (Opn.sl hB Tryd.underlying22 (by kernel_rfl) (by decide) (Opn.struct hB (fun d => (d.Kind, d.Key, d.Glob, d.To, d.Val)) (fun x => api_Rule.mk x.1 x.2.1 x.2.2.1 x.2.2.2.1 x.2.2.2.2) (fun _ => rfl) Tryd.underlying28 (by kernel_rfl) (OpnF.cons rfl (by kernel_rfl) (Opn.i (bk := Rows.uptoBulk (H := H)) Tryd.underlying3) (OpnF.cons rfl (by kernel_rfl) (Opn.s (bk := Rows.uptoBulk (H := H)) Tryd.underlying9 hB.str) (OpnF.cons rfl (by kernel_rfl) (Opn.s (bk := Rows.uptoBulk (H := H)) Tryd.underlying9 hB.str) (OpnF.cons rfl (by kernel_rfl) (Opn.s (bk := Rows.uptoBulk (H := H)) Tryd.underlying9 hB.str) (OpnF.one rfl (by kernel_rfl) (Opn.s (bk := Rows.uptoBulk (H := H)) Tryd.underlying9 hB.str)))))))) 0 fuel0 _ _ t0
  obtain ⟨a0, len0, cap0, rfl⟩ := okWide_slice Tryd.underlying22 (hval 0 22 v0 rfl rfl)
  obtain ⟨u0, e0, s0⟩ := y0
  obtain rfl := (List.cons.inj e0).1
  have k1 := h1
  have lt1 : ∀ x ∈ p1, x.block < W.heap.size := by obtain ⟨m, hm⟩ := k1; exact DataW.trod_lt m _ _ _ hm
  obtain ⟨fuel1, t1⟩ := h1
  obtain ⟨x1, y1, g1⟩ := (Opn.struct hB (fun d => (d.Name, d.Attrs, d.Kind, d.Temp, d.Mono, d.Start, d.Time, d.Int_, d.Re, d.Im, d.Hist, d.Flags)) (fun x => api_Point.mk x.1 x.2.1 x.2.2.1 x.2.2.2.1 x.2.2.2.2.1 x.2.2.2.2.2.1 x.2.2.2.2.2.2.1 x.2.2.2.2.2.2.2.1 x.2.2.2.2.2.2.2.2.1 x.2.2.2.2.2.2.2.2.2.1 x.2.2.2.2.2.2.2.2.2.2.1 x.2.2.2.2.2.2.2.2.2.2.2) (fun _ => rfl) Tryd.underlying41 (by kernel_rfl) (OpnF.cons rfl (by kernel_rfl) (Opn.s (bk := Rows.uptoBulk (H := H)) Tryd.underlying9 hB.str) (OpnF.cons rfl (by kernel_rfl) (Opn.sl hB Tryd.underlying33 (by kernel_rfl) (by decide) (Opn.struct hB (fun d => (d.Key, d.Val)) (fun x => api_Pair.mk x.1 x.2) (fun _ => rfl) Tryd.underlying59 (by kernel_rfl) (OpnF.cons rfl (by kernel_rfl) (Opn.s (bk := Rows.uptoBulk (H := H)) Tryd.underlying9 hB.str) (OpnF.one rfl (by kernel_rfl) (Opn.s (bk := Rows.uptoBulk (H := H)) Tryd.underlying9 hB.str))))) (OpnF.cons rfl (by kernel_rfl) (Opn.i (bk := Rows.uptoBulk (H := H)) Tryd.underlying3) (OpnF.cons rfl (by kernel_rfl) (Opn.i (bk := Rows.uptoBulk (H := H)) Tryd.underlying3) (OpnF.cons rfl (by kernel_rfl) (Opn.B (bk := Rows.uptoBulk (H := H)) Tryd.underlying4) (OpnF.cons rfl (by kernel_rfl) (Opn.i (bk := Rows.uptoBulk (H := H)) Tryd.underlying3) (OpnF.cons rfl (by kernel_rfl) (Opn.i (bk := Rows.uptoBulk (H := H)) Tryd.underlying3) (OpnF.cons rfl (by kernel_rfl) (Opn.i (bk := Rows.uptoBulk (H := H)) Tryd.underlying3) (OpnF.cons rfl (by kernel_rfl) (Opn.u (bk := Rows.uptoBulk (H := H)) Tryd.underlying34) (OpnF.cons rfl (by kernel_rfl) (Opn.u (bk := Rows.uptoBulk (H := H)) Tryd.underlying34) (OpnF.cons rfl (by kernel_rfl) (Opn.struct hB (fun d => (d.Scale, d.Zero, d.Pos, d.Neg)) (fun x => api_Hist.mk x.1 x.2.1 x.2.2.1 x.2.2.2) (fun _ => rfl) Tryd.underlying39 (by kernel_rfl) (OpnF.cons rfl (by kernel_rfl) (Opn.i (bk := Rows.uptoBulk (H := H)) Tryd.underlying3) (OpnF.cons rfl (by kernel_rfl) (Opn.u (bk := Rows.uptoBulk (H := H)) Tryd.underlying34) (OpnF.cons rfl (by kernel_rfl) (Opn.struct hB (fun d => (d.Offset, d.Counts)) (fun x => api_Side.mk x.1 x.2) (fun _ => rfl) Tryd.underlying37 (by kernel_rfl) (OpnF.cons rfl (by kernel_rfl) (Opn.i (bk := Rows.uptoBulk (H := H)) Tryd.underlying3) (OpnF.one rfl (by kernel_rfl) (Opn.sl hB Tryd.underlying35 (by kernel_rfl) (by decide) (Opn.u (bk := Rows.uptoBulk (H := H)) Tryd.underlying34))))) (OpnF.one rfl (by kernel_rfl) (Opn.struct hB (fun d => (d.Offset, d.Counts)) (fun x => api_Side.mk x.1 x.2) (fun _ => rfl) Tryd.underlying37 (by kernel_rfl) (OpnF.cons rfl (by kernel_rfl) (Opn.i (bk := Rows.uptoBulk (H := H)) Tryd.underlying3) (OpnF.one rfl (by kernel_rfl) (Opn.sl hB Tryd.underlying35 (by kernel_rfl) (by decide) (Opn.u (bk := Rows.uptoBulk (H := H)) Tryd.underlying34)))))))))) (OpnF.one rfl (by kernel_rfl) (Opn.i (bk := Rows.uptoBulk (H := H)) Tryd.underlying3)))))))))))))) 0 fuel1 _ _ t1
  obtain ⟨cs1, rfl, _⟩ := okWide_struct Tryd.underlying41 (hval 1 41 v1 rfl rfl)
  obtain ⟨_, _, E1, rfl, ⟨_, _, rfl, ⟨u1_1, rfl, s1_1⟩, ⟨_, _, rfl, rfl, ⟨_, _, rfl, rfl, ⟨_, _, rfl, rfl, ⟨_, _, rfl, rfl, ⟨_, _, rfl, rfl, ⟨_, _, rfl, rfl, ⟨_, _, rfl, rfl, ⟨_, _, rfl, rfl, ⟨_, _, rfl, ⟨_, _, rfl, rfl, ⟨_, _, rfl, rfl, ⟨_, _, rfl, ⟨_, _, rfl, rfl, ⟨u1_2, rfl, s1_2⟩⟩, ⟨_, _, rfl, rfl, ⟨u1_3, rfl, s1_3⟩⟩⟩⟩⟩, rfl⟩⟩⟩⟩⟩⟩⟩⟩⟩⟩⟩ := y1
  have e1 : Value.agg cs1 = .agg [vs x1.Name, u1_1, vi x1.Kind, vi x1.Temp, .bool x1.Mono, vi x1.Start, vi x1.Time, vi x1.Int_, vu x1.Re, vu x1.Im, vi x1.Hist.Scale, vu x1.Hist.Zero, vi x1.Hist.Pos.Offset, u1_2, vi x1.Hist.Neg.Offset, u1_3, vi x1.Flags].toArray := congrArg Value.agg (agg_of E1)
  rw [e1]
  have plain : law33_RelabelNone x0 x1 = some true := relabelNone x0 x1 (by obtain ⟨_, _, _, _, _, _, _, _, _, _, _, _, _, _, _, _, _, _, _, _, _, _, _, _, _, _, _, _, _, _, _, _, _, hi, _, _, _, _, _, _, _, _, _, _, _, ⟨_, _, _, _, _, h1, _, _, _, _, _, _, _, ⟨_, _, _, _, _, h2, _⟩, ⟨_, _, _, _, _, h3, _⟩⟩, _⟩ := g1; exact ⟨hi, ⟨h1, h2, h3⟩⟩)
  have hG0 : CellsAt W 0 0 [vi 0, vi 0] := laid_struct (zs := [0, 0]) (k := .i64) (t := 102) hL (.head _) (by kernel_rfl) (by kernel_rfl) Tryd.underlying102 (by kernel_rfl) (fun i f hf => by match i, hf with
    | 0, hf => cases hf; exact ⟨Tryd.underlying3, rfl, by kernel_rfl⟩
    | 1, hf => cases hf; exact ⟨Tryd.underlying25, rfl, by kernel_rfl⟩
    | (k + 2), hf => simp at hf)
  have walk := c_law33_RelabelNone (w := W) (A := AllW) s0 s1_1 s1_2 s1_3 hG0 trivial plain
  clear hA0
  refine Calls.mono walk fun e W' ⟨v, he, hv, hx⟩ => ?_
  subst hv; subst he
  have bel := below_of_ext hx
  rw [← e1]
  exact ⟨_, rfl, _, _, _, [], _, [], hW', trodAll_mk1 (shut_bool Tryd.underlying4 _), (trodAll_cons_mk (Below.trod laidOut (by kernel_rfl) (of_decide_eq_true (by kernel_rfl)) k0 bel lt0) (trodAll_cons_mk (Below.trod laidOut (by kernel_rfl) (of_decide_eq_true (by kernel_rfl)) k1 bel lt1) trodAll_mk0)), rfl, bel.frame _, fun h => by cases h⟩
noncomputable def limWorld (os : Os) : World :=
  let w0 := World.holding Tryd.prog os ⟨#[], #[], []⟩
  { w0 with heap := (w0.heap.modify 0 fun | .cells _ t frozen => .cells #[.int .i64 0, .int .i64 0] t frozen | o => o) }
theorem laid_met (os : Os) (args : Array Value) : laidMet Tryd.prog Rows.relabelNoneRow.laid ((limWorld os).forCall (fun _ _ => 0) ⟨#[], args, []⟩).memory :=
  laidMet_of_run' 8 (by kernel_rfl) (by kernel_rfl)
theorem lifted (os : Os) (started : os.Started) (H : Type) (enc : TypeId × Value → H) :
    ReturnsInHanded {} Tryd.checked os 6 .any (fun w args => (Rows.relabelNoneSpec.pre enc Tryd.prog Tryd.f6 Rows.relabelNoneRow.domain false w args ∧ laidMet Tryd.prog Rows.relabelNoneRow.laid w) ∧ sizedMet enc Tryd.prog Tryd.f6 (OpenSpec.ofChange Rows.relabelNoneSpec) false w args)
      (Rows.relabelNoneSpec.post enc Tryd.prog Tryd.f6 false true false false) := by
  refine returnsInHanded_of_change_and (C := Tryd.checked) (X := fun w _ => laidMet Tryd.prog Rows.relabelNoneRow.laid w) (fun _ _ _ hh h => h.of_heap hh) own started (by kernel_rfl) Tryd.func6
    (ChangeSpec.witness_at (enc := enc) (C := Tryd.checked) (os := os) (X := fun w _ => laidMet Tryd.prog Rows.relabelNoneRow.laid w) false (limWorld os) #[.slice none 0 0, .agg #[.string ByteArray.empty, .slice none 0 0, .int .i64 0, .int .i64 0, .bool false, .int .i64 0, .int .i64 0, .int .i64 0, .int .u64 0, .int .u64 0, .int .i64 0, .int .u64 0, .int .i64 0, .slice none 0 0, .int .i64 0, .slice none 0 0, .int .i64 0]] 8 rfl (by kernel_rfl) (by kernel_rfl) (by kernel_rfl) (by kernel_rfl) (by kernel_rfl) (laid_met os _)) ?_
  intro W base args ds gs before hval hW _ _ hL _
  exact contract H enc W base args ds gs before hval hW hL
theorem row_holds : Rows.RelabelNoneSaid :=
  OpenClaim.holds_of_wide 6 Tryd.f6 rfl rfl rfl rfl rfl rfl rfl ⟨rfl, rfl, rfl, rfl, rfl⟩ rfl rfl rfl rfl rfl (by kernel_rfl) Tryd.func6 (by kernel_rfl)
    (of_decide_eq_true (by kernel_rfl)) (by unfold Func.isWrapper; first | (rw [if_pos (by decide +kernel)]; kernel_rfl) | (rw [if_neg (by decide +kernel)]; exact ⟨rfl, rfl⟩))
    (fun os started H enc _ => lifted os started H enc)
theorem proved : Rows.RelabelNoneCardSaid :=
  Claim7.holds_tied_plain_at .later [] [.data] true (true, "e1a3a1feb693588457d4d0a75cf1adfbdefd442c2f7a8b8bc09728911a8f54d8") false
    row_holds (fun _ h => by cases h) (by kernel_rfl) (fun _ h => by cases h) relabelNone_row_tie rfl ⟨rfl, rfl⟩ (by kernel_rfl) rfl
    (fun f fn hf hfn => by
      obtain rfl : f = 6 := Option.some.inj ((show Tryd.prog.funcNamed "limnograph/limnographlaw33.RelabelNone" = some 6 by kernel_rfl).symm.trans hf) |>.symm
      obtain rfl : fn = Tryd.f6 := (Option.some.inj (Tryd.func6.symm.trans hfn)).symm
      exact ⟨by kernel_rfl, fun j t ht => by
        rw [Tryd.params6] at ht
        match j, ht with
        | 0, ht => simp at ht; subst ht; exact (show Tryd.prog.wantsStandIn 22 = false by kernel_rfl)
        | 1, ht => simp at ht; subst ht; exact (show Tryd.prog.wantsStandIn 41 = false by kernel_rfl)
        | (k + 2), ht => simp at ht⟩)
    (by kernel_rfl)
#print axioms proved
end Go.Proofs.YtihlealbhlgikaaDoor.relabelNoneDone
