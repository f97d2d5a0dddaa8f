/- 'limnograph/limnographlaw31.OtlpBack' returns true, whatever the input; the input reads behind the call as it read before. The row's step; the walk and the plain law are in the texts that it imports. -/
import Derived.Test.YtihlealbhlgikaaRows
import Derived.Test.YtihlealbhlgikaaObLgObWOtlpBack
import Derived.Test.YtihlealbhlgikaaObLgPart2
import Derived.Test.YtihlealbhlgikaaObLgPart0
import Derived.WalkKit
import Derived.ProofKit
import Derived.OpenShut
import Derived.ShutString
import Derived.ChangeOld
import Derived.Below
import Derived.JoinedCond
set_option linter.unusedVariables false
namespace Go.Proofs.Ytihlealbhlgikaa.otlpBackDone
set_option linter.unusedVariables false
set_option maxRecDepth 100000
open Go.ChangeShapes Go.WideShapes Go.ChangeAt Go.RowKit Go.Lg
theorem own : ownKnob Try.prog.godebug = none := by kernel_rfl
theorem laidOut : laidOutB Try.prog = true := by kernel_rfl
theorem bulkAll {H : Type} : ∀ l : List (DataW H), Rows.uptoBulkAll l = (l.map Rows.uptoBulk).sum
  | [] => by simp [Rows.uptoBulkAll]
  | x :: l => by rw [Rows.uptoBulkAll, bulkAll l, List.map_cons, List.sum_cons]
theorem bulkOk {H : Type} : BulkOk (Rows.uptoBulk (H := H)) where
  str := fun l => by simp [Rows.uptoBulk]
  sl := fun es rs => by rw [Rows.uptoBulk, bulkAll]; omega
  ag := fun es => by rw [Rows.uptoBulk, bulkAll]; omega
  pos := fun d => by
    cases d with
    | lit l => cases l <;> simp [Rows.uptoBulk]
    | nil => simp [Rows.uptoBulk]
    | ptr d => simp [Rows.uptoBulk]
    | slice elems spare => simp [Rows.uptoBulk]
    | agg parts => simp [Rows.uptoBulk]
    | iface t d => simp [Rows.uptoBulk]
    | map entries => simp [Rows.uptoBulk]
    | held h => simp [Rows.uptoBulk]
theorem agg_of {cs : Array Value} {l : List Value} (h : cs.toList = l) : cs = l.toArray := by subst h; rfl
theorem below_of_ext {w w' : World} (h : Ext w w') : Below w.heap.size w w' := ⟨h.os, h.tape, h.output, h.size, fun k hk => Stp.blk h k hk (by simp)⟩
theorem contract (H : Type) (enc : TypeId × Value → H) (W : World) (base : Nat) (args : Array Value) (ds gs : List (DataW H)) (before : List MemPlace)
    (hval : ∀ (j : Nat) t v, Try.f5.params[j]? = some t → args[j]? = some v → Value.okWide Try.prog W .any base t v)
    (hW : DataW.Whole enc Try.prog Try.f5.params.toList Rows.otlpBackSpec.vars false W args.toList ds gs before) :
    Calls Try.prog 5 args W fun e W' => ∃ v, e = .returned v ∧ Rows.otlpBackSpec.post enc Try.prog Try.f5 false true false false W args v W' := by
  have hW' := hW
  have hB := bulkOk (H := H)
  obtain ⟨p, q, hA0, hV, rfl, hfz, hnd⟩ := hW
  have hA : DataW.TrodAll enc Try.prog W 0 (fun _ => true) true Try.f5.params.toList args.toList ds p := hA0
  rw [Try.params5] at hA hval
  obtain ⟨v0, vs0, d0, ds0, p0, q0, hargs, rfl, rfl, h0, r0⟩ := trodAll_cons hA
  obtain ⟨v1, vs1, d1, ds1, p1, q1, rfl, rfl, rfl, h1, r1⟩ := trodAll_cons r0
  obtain ⟨rfl, rfl, rfl⟩ := trodAll_nil r1
  obtain rfl : args = #[v0, v1] := by cases args; simp_all
  obtain ⟨rfl, rfl⟩ := trodVars_none hV
  have k0 := h0
  have lt0 : ∀ x ∈ p0, x.block < W.heap.size := by obtain ⟨m, hm⟩ := k0; exact DataW.trod_lt m _ _ _ hm
  obtain ⟨fuel0, t0⟩ := h0
  obtain ⟨x0, y0, g0⟩ := (Opn.sl hB Try.underlying22 (by kernel_rfl) (by decide) (Opn.struct hB (fun d => (d.Name, d.Attrs, d.Kind, d.Temp, d.Mono, d.Start, d.Time, d.Int_, d.Re, d.Im, d.Hist, d.Flags)) (fun x => api_Point.mk x.1 x.2.1 x.2.2.1 x.2.2.2.1 x.2.2.2.2.1 x.2.2.2.2.2.1 x.2.2.2.2.2.2.1 x.2.2.2.2.2.2.2.1 x.2.2.2.2.2.2.2.2.1 x.2.2.2.2.2.2.2.2.2.1 x.2.2.2.2.2.2.2.2.2.2.1 x.2.2.2.2.2.2.2.2.2.2.2) (fun _ => rfl) Try.underlying33 (by kernel_rfl) (OpnF.cons rfl (by kernel_rfl) (Opn.s (bk := Rows.uptoBulk (H := H)) Try.underlying9 hB.str) (OpnF.cons rfl (by kernel_rfl) (Opn.sl hB Try.underlying25 (by kernel_rfl) (by decide) (Opn.struct hB (fun d => (d.Key, d.Val)) (fun x => api_Pair.mk x.1 x.2) (fun _ => rfl) Try.underlying65 (by kernel_rfl) (OpnF.cons rfl (by kernel_rfl) (Opn.s (bk := Rows.uptoBulk (H := H)) Try.underlying9 hB.str) (OpnF.one rfl (by kernel_rfl) (Opn.s (bk := Rows.uptoBulk (H := H)) Try.underlying9 hB.str))))) (OpnF.cons rfl (by kernel_rfl) (Opn.i (bk := Rows.uptoBulk (H := H)) Try.underlying3) (OpnF.cons rfl (by kernel_rfl) (Opn.i (bk := Rows.uptoBulk (H := H)) Try.underlying3) (OpnF.cons rfl (by kernel_rfl) (Opn.B (bk := Rows.uptoBulk (H := H)) Try.underlying4) (OpnF.cons rfl (by kernel_rfl) (Opn.i (bk := Rows.uptoBulk (H := H)) Try.underlying3) (OpnF.cons rfl (by kernel_rfl) (Opn.i (bk := Rows.uptoBulk (H := H)) Try.underlying3) (OpnF.cons rfl (by kernel_rfl) (Opn.i (bk := Rows.uptoBulk (H := H)) Try.underlying3) (OpnF.cons rfl (by kernel_rfl) (Opn.u (bk := Rows.uptoBulk (H := H)) Try.underlying26) (OpnF.cons rfl (by kernel_rfl) (Opn.u (bk := Rows.uptoBulk (H := H)) Try.underlying26) (OpnF.cons rfl (by kernel_rfl) (Opn.struct hB (fun d => (d.Scale, d.Zero, d.Pos, d.Neg)) (fun x => api_Hist.mk x.1 x.2.1 x.2.2.1 x.2.2.2) (fun _ => rfl) Try.underlying31 (by kernel_rfl) (OpnF.cons rfl (by kernel_rfl) (Opn.i (bk := Rows.uptoBulk (H := H)) Try.underlying3) (OpnF.cons rfl (by kernel_rfl) (Opn.u (bk := Rows.uptoBulk (H := H)) Try.underlying26) (OpnF.cons rfl (by kernel_rfl) (Opn.struct hB (fun d => (d.Offset, d.Counts)) (fun x => api_Side.mk x.1 x.2) (fun _ => rfl) Try.underlying29 (by kernel_rfl) (OpnF.cons rfl (by kernel_rfl) (Opn.i (bk := Rows.uptoBulk (H := H)) Try.underlying3) (OpnF.one rfl (by kernel_rfl) (Opn.sl hB Try.underlying27 (by kernel_rfl) (by decide) (Opn.u (bk := Rows.uptoBulk (H := H)) Try.underlying26))))) (OpnF.one rfl (by kernel_rfl) (Opn.struct hB (fun d => (d.Offset, d.Counts)) (fun x => api_Side.mk x.1 x.2) (fun _ => rfl) Try.underlying29 (by kernel_rfl) (OpnF.cons rfl (by kernel_rfl) (Opn.i (bk := Rows.uptoBulk (H := H)) Try.underlying3) (OpnF.one rfl (by kernel_rfl) (Opn.sl hB Try.underlying27 (by kernel_rfl) (by decide) (Opn.u (bk := Rows.uptoBulk (H := H)) Try.underlying26)))))))))) (OpnF.one rfl (by kernel_rfl) (Opn.i (bk := Rows.uptoBulk (H := H)) Try.underlying3))))))))))))))) 0 fuel0 _ _ t0
  obtain ⟨a0, len0, cap0, rfl⟩ := okWide_slice Try.underlying22 (hval 0 22 v0 rfl rfl)
  obtain ⟨u0, e0, s0⟩ := y0
  obtain rfl := (List.cons.inj e0).1
  have k1 := h1
  have lt1 : ∀ x ∈ p1, x.block < W.heap.size := by obtain ⟨m, hm⟩ := k1; exact DataW.trod_lt m _ _ _ hm
  obtain ⟨fuel1, t1⟩ := h1
  obtain ⟨x1, y1, g1⟩ := (Opn.sl hB Try.underlying45 (by kernel_rfl) (by decide) (Opn.b (bk := Rows.uptoBulk (H := H)) Try.underlying5)) 0 fuel1 _ _ t1
  obtain ⟨a1, len1, cap1, rfl⟩ := okWide_slice Try.underlying45 (hval 1 45 v1 rfl rfl)
  obtain ⟨u1, e1, s1⟩ := y1
  obtain rfl := (List.cons.inj e1).1
  have plain : law31_OtlpBack x0 x1 = some true := otlpBack x0 x1 (fun y hy => by obtain ⟨_, _, g⟩ := g0.2.all hy; obtain ⟨_, _, _, _, _, _, _, _, _, _, _, _, _, _, _, _, _, _, _, _, _, _, _, _, _, _, _, _, _, _, _, _, _, hi, _, _, _, _, _, _, _, _, _, _, _, ⟨_, _, _, _, _, h1, _, _, _, _, _, _, _, ⟨_, _, _, _, _, h2, _⟩, ⟨_, _, _, _, _, h3, _⟩⟩, _⟩ := g; exact ⟨hi, ⟨h1, h2, h3⟩⟩)
  have walk := c_law31_OtlpBack (w := W) (A := AllW) s0 s1 plain
  clear hA0
  refine Calls.mono walk fun e W' ⟨v, he, hv, hx⟩ => ?_
  subst hv; subst he
  have bel := below_of_ext hx
  exact ⟨_, rfl, _, _, _, [], _, [], hW', trodAll_mk1 (shut_bool Try.underlying4 _), (trodAll_cons_mk (Below.trod laidOut (by kernel_rfl) (of_decide_eq_true (by kernel_rfl)) k0 bel lt0) (trodAll_cons_mk (Below.trod laidOut (by kernel_rfl) (of_decide_eq_true (by kernel_rfl)) k1 bel lt1) trodAll_mk0)), rfl, bel.frame _, fun h => by cases h⟩
theorem lifted (os : Os) (started : os.Started) (H : Type) (enc : TypeId × Value → H) :
    ReturnsInHanded {} Try.checked os 5 .any (Rows.otlpBackSpec.pre6 enc Try.prog Try.f5 Rows.otlpBackRow.domain false) (Rows.otlpBackSpec.post enc Try.prog Try.f5 false true false false) := by
  refine returnsInHanded_of_change (C := Try.checked) own started (by kernel_rfl) Try.func5
    (ChangeSpec.witness6 (enc := enc) (C := Try.checked) false ⟨#[], #[.slice none 0 0, .slice none 0 0], []⟩ 8 (by kernel_rfl) (by kernel_rfl) (by kernel_rfl) (by kernel_rfl)) ?_
  intro W base args ds gs before hval hW _ _
  exact contract H enc W base args ds gs before hval hW
theorem proved : Rows.OtlpBackSaid :=
  OpenClaim.holds_of_wide 5 Try.f5 rfl rfl rfl rfl rfl rfl rfl ⟨rfl, rfl, rfl, rfl, rfl⟩ rfl rfl rfl rfl rfl (by kernel_rfl) Try.func5 (by kernel_rfl)
    (of_decide_eq_true (by kernel_rfl)) (by unfold Func.isWrapper; first | (rw [if_pos (by decide +kernel)]; kernel_rfl) | (rw [if_neg (by decide +kernel)]; exact ⟨rfl, rfl⟩))
    (fun os started H enc _ => lifted os started H enc)
#print axioms proved
end Go.Proofs.Ytihlealbhlgikaa.otlpBackDone
