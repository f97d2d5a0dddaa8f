/- 'limnograph/limnographlaw10.HistbitsTakes' returns true, whatever the input; the input reads behind the call as it read before. The row's step; the walk and the plain law are in the texts that it imports. -/
import Derived.Test.YtdpokdaeekanjaaRows
import Derived.Test.YtdpokdaeekanjaaTkLgHbWHistbitsTakes
import Derived.Test.YtdpokdaeekanjaaTkLg10h
import Derived.Test.YtdpokdaeekanjaaTkLgOpen
import Derived.WalkKit
import Derived.ProofKit
import Derived.OpenShut
import Derived.ShutString
import Derived.ChangeOld
import Derived.Below
import Derived.JoinedCond
set_option linter.unusedVariables false
namespace Go.Proofs.Ytdpokdaeekanjaa.histbitsTakesDone
set_option linter.unusedVariables false
set_option maxRecDepth 100000
open Go.ChangeShapes Go.WideShapes Go.ChangeAt Go.RowKit Go.Lg
theorem own : ownKnob Try.prog.godebug = none := by kernel_rfl
theorem laidOut : laidOutB Try.prog = true := by kernel_rfl
theorem bulkAll {H : Type} : ∀ l : List (DataW H), Rows.uptoBulkAll l = (l.map Rows.uptoBulk).sum
  | [] => by simp [Rows.uptoBulkAll]
  | x :: l => by rw [Rows.uptoBulkAll, bulkAll l, List.map_cons, List.sum_cons]
theorem bulkOk {H : Type} : BulkOk (Rows.uptoBulk (H := H)) where
  str := fun l => by simp [Rows.uptoBulk]
  sl := fun es rs => by rw [Rows.uptoBulk, bulkAll]; omega
  ag := fun es => by rw [Rows.uptoBulk, bulkAll]; omega
  pos := fun d => by
    cases d with
    | lit l => cases l <;> simp [Rows.uptoBulk]
    | nil => simp [Rows.uptoBulk]
    | ptr d => simp [Rows.uptoBulk]
    | slice elems spare => simp [Rows.uptoBulk]
    | agg parts => simp [Rows.uptoBulk]
    | iface t d => simp [Rows.uptoBulk]
    | map entries => simp [Rows.uptoBulk]
    | held h => simp [Rows.uptoBulk]
theorem agg_of {cs : Array Value} {l : List Value} (h : cs.toList = l) : cs = l.toArray := by subst h; rfl
theorem below_of_ext {w w' : World} (h : Ext w w') : Below w.heap.size w w' := ⟨h.os, h.tape, h.output, h.size, fun k hk => Stp.blk h k hk (by simp)⟩
theorem contract (H : Type) (enc : TypeId × Value → H) (W : World) (base : Nat) (args : Array Value) (ds gs : List (DataW H)) (before : List MemPlace)
    (hval : ∀ (j : Nat) t v, Try.f13.params[j]? = some t → args[j]? = some v → Value.okWide Try.prog W .any base t v)
    (hW : DataW.Whole enc Try.prog Try.f13.params.toList Rows.histbitsTakesSpec.vars false W args.toList ds gs before) :
    Calls Try.prog 13 args W fun e W' => ∃ v, e = .returned v ∧ Rows.histbitsTakesSpec.post enc Try.prog Try.f13 false true false false W args v W' := by
  have hW' := hW
  have hB := bulkOk (H := H)
  obtain ⟨p, q, hA0, hV, rfl, hfz, hnd⟩ := hW
  have hA : DataW.TrodAll enc Try.prog W 0 (fun _ => true) true Try.f13.params.toList args.toList ds p := hA0
  rw [Try.params13] at hA hval
  obtain ⟨v0, vs0, d0, ds0, p0, q0, hargs, rfl, rfl, h0, r0⟩ := trodAll_cons hA
  obtain ⟨v1, vs1, d1, ds1, p1, q1, rfl, rfl, rfl, h1, r1⟩ := trodAll_cons r0
  obtain ⟨rfl, rfl, rfl⟩ := trodAll_nil r1
  obtain rfl : args = #[v0, v1] := by cases args; simp_all
  obtain ⟨rfl, rfl⟩ := trodVars_none hV
  have k0 := h0
  have lt0 : ∀ x ∈ p0, x.block < W.heap.size := by obtain ⟨m, hm⟩ := k0; exact DataW.trod_lt m _ _ _ hm
  obtain ⟨fuel0, t0⟩ := h0
  obtain ⟨x0, y0, g0⟩ := (Opn.sl hB Try.underlying60 (by kernel_rfl) (by decide) (Opn.b (bk := Rows.uptoBulk (H := H)) Try.underlying5)) 0 fuel0 _ _ t0
  obtain ⟨a0, len0, cap0, rfl⟩ := okWide_slice Try.underlying60 (hval 0 60 v0 rfl rfl)
  obtain ⟨u0, e0, s0⟩ := y0
  obtain rfl := (List.cons.inj e0).1
  have k1 := h1
  have lt1 : ∀ x ∈ p1, x.block < W.heap.size := by obtain ⟨m, hm⟩ := k1; exact DataW.trod_lt m _ _ _ hm
  obtain ⟨fuel1, t1⟩ := h1
  obtain ⟨x1, y1, g1⟩ := (Opn.i (bk := Rows.uptoBulk (H := H)) Try.underlying3) 0 fuel1 _ _ t1
  obtain ⟨n1, rfl⟩ := okWide_int Try.underlying3 (hval 1 3 v1 rfl rfl)
  have e1 := (List.cons.inj y1).1
  rw [e1]
  have plain : law10_HistbitsTakes x0 x1 = some true := histbitsTakes x0 x1
  have walk := c_law10_HistbitsTakes (w := W) (A := AllW) s0 plain
  clear hA0
  refine Calls.mono walk fun e W' ⟨v, he, hv, hx⟩ => ?_
  subst hv; subst he
  have bel := below_of_ext hx
  rw [← e1]
  exact ⟨_, rfl, _, _, _, [], _, [], hW', trodAll_mk1 (shut_bool Try.underlying4 _), (trodAll_cons_mk (Below.trod laidOut (by kernel_rfl) (of_decide_eq_true (by kernel_rfl)) k0 bel lt0) (trodAll_cons_mk (Below.trod laidOut (by kernel_rfl) (of_decide_eq_true (by kernel_rfl)) k1 bel lt1) trodAll_mk0)), rfl, bel.frame _, fun h => by cases h⟩
theorem lifted (os : Os) (started : os.Started) (H : Type) (enc : TypeId × Value → H) :
    ReturnsInHanded {} Try.checked os 13 .any (Rows.histbitsTakesSpec.pre6 enc Try.prog Try.f13 Rows.histbitsTakesRow.domain false) (Rows.histbitsTakesSpec.post enc Try.prog Try.f13 false true false false) := by
  refine returnsInHanded_of_change (C := Try.checked) own started (by kernel_rfl) Try.func13
    (ChangeSpec.witness6 (enc := enc) (C := Try.checked) false ⟨#[], #[.slice none 0 0, .int .i64 0], []⟩ 8 (by kernel_rfl) (by kernel_rfl) (by kernel_rfl) (by kernel_rfl)) ?_
  intro W base args ds gs before hval hW _ _
  exact contract H enc W base args ds gs before hval hW
theorem proved : Rows.HistbitsTakesSaid :=
  OpenClaim.holds_of_wide 13 Try.f13 rfl rfl rfl rfl rfl rfl rfl ⟨rfl, rfl, rfl, rfl, rfl⟩ rfl rfl rfl rfl rfl (by kernel_rfl) Try.func13 (by kernel_rfl)
    (of_decide_eq_true (by kernel_rfl)) (by unfold Func.isWrapper; first | (rw [if_pos (by decide +kernel)]; kernel_rfl) | (rw [if_neg (by decide +kernel)]; exact ⟨rfl, rfl⟩))
    (fun os started H enc _ => lifted os started H enc)
#print axioms proved
end Go.Proofs.Ytdpokdaeekanjaa.histbitsTakesDone
