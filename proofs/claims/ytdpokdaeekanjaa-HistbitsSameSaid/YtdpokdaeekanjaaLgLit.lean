/- Loops over a slice literal round by round; recursion. -/
import Derived.Test.YtdpokdaeekanjaaLgExt
import Derived.LoopN
set_option linter.unusedVariables false
namespace Go.Lg
open Go

/-! ### recursion -/
open Classical in
/-- the first answer that comes when one may call oneself so many times -/
noncomputable def fuel {α : Type} (f : Nat → Option α) : Option α := if h : ∃ k, (f k).isSome then f (Classical.choose h) else none
theorem fuel_some {α : Type} {f : Nat → Option α} {r : α} (h : fuel f = some r) : ∃ k, f k = some r := by
  unfold fuel at h
  split at h
  · exact ⟨_, h⟩
  · cases h
theorem fuel_of {α : Type} {f : Nat → Option α} {r : α} (hu : ∀ k x, f k = some x → x = r) {k : Nat} (h : f k = some r) : fuel f = some r := by
  have hx : ∃ k, (f k).isSome := ⟨k, by rw [h]; rfl⟩
  unfold fuel
  rw [dif_pos hx]
  obtain ⟨x, hq⟩ := Option.isSome_iff_exists.1 (Classical.choose_spec hx)
  rw [hq, hu _ _ hq]

section
variable {P : Program} {n : Nat} {ops : Array Oper} {Q : Exit → Act → World → Prop} {ρ : Env} {w : World} {rest : List Oper} {O : Own}
variable {d : Nat} {ty : TypeId} {pos : String} {aft : Array Edge} {x : Operand}

/-! ### a loop's rounds, one by one -/
theorem WC.unroll {c : Code} (k : Nat) (h : WC P n (Exit.then (Code.rounds P c Q k) Q) c ρ w) : WC P n Q (.loop c) ρ w :=
  fun a ha => wp_loop_rounds (k + 1) (h a ha)
theorem At.again {c : Code} {k : Nat} (h : WC P n (Exit.then (Code.rounds P c Q k) Q) c ρ w) : At n (Exit.then (Code.rounds P c Q (k + 1)) Q) .normal ρ w :=
  fun a ha => h a ha

/-! ### a slice literal as an object -/
theorem Y.lenv {t e : TypeId} {size bytes : Nat} {z : Value} {q : Option Addr} {l c : Nat}
    (ht : TyOk P t (.slice e) size bytes z) (hx : ev ρ x = some (.slice q l c)) : Y P (.call { callee := .builtin .len, args := #[x], argTypes := #[t] }) ty ρ w (vi ((l : Nat) : Int)) := by
  intro a n o ha ho _
  simp [execOp, ho, resolve, invoke, builtin, ha.eval hx, Builtin.len_, run_underlying ht.u, goInt]
theorem WL.buildLit (ℓ : Nat) {t e : TypeId} {len m sz0 by0 bytes : Nat} {z0 z : Value} {ed : TypeDesc} {parts : Array (Nat × Operand)} {vals : List (Nat × Value)} (cells : List Value)
    (ht : TyOk P t (.slice e) sz0 by0 z0) (he : TyOk P e ed m bytes z) (h0 : len * m ≠ 0) (hlen : len * m ≤ 65536)
    (hv : ∀ a n, Fits n ρ a → (parts.map fun (i, x) => (i, a.eval x)) = vals.toArray)
    (hf : Instr.fill (fun i => some (i * m, m)) ((Array.range (len * m)).map (z.cells[· % z.cells.size]!)) vals = some cells.toArray) (hd : Nat.blt d n = true)
    (h : ∀ b O' w', Stp [] O w O' w' → Blk ℓ O' w' b e cells → WL P n ops Q rest ((d, .slice (some ⟨b, 0, none⟩) len len) :: ρ) w') :
    WL P n ops Q (⟨some d, .buildSlice t len parts, ty, pos, aft, none⟩ :: rest) ρ w := by
  intro a ha
  refine wpList_plain rfl fun K hK => ?_
  obtain ⟨i, hi, hzz, hsz, hby⟩ := he.i
  have hrun : (Instr.buildSlice t len vals.toArray).run P w = .ok (.slice (some ⟨w.heap.size, 0, none⟩) len len) (w.alloc (.cells cells.toArray e)) := by
    have hf2 : Instr.fill (fun i => some (i * m, m)) ((Array.range (len * m)).map (z.cells[· % z.cells.size]!)) vals.toArray.toList = some cells.toArray := by simpa using hf
    have hq : ¬ (16777216 < len * m) := by omega
    simp [Instr.buildSlice, run_underlying ht.u, sizeOf, typeInfo, zeroValue, hi, hsz, hzz, h0, hq, newRow, hf2]
  unfold Oper.wp execOp
  simp only [hv a n ha, Sem.run_bind, hrun, Result.andThen_ok, Sem.run_pure]
  exact hK _ _ (h _ _ _ (stp_alloc _ ℓ) (blk_alloc ℓ e cells) _ (ha.put hd _))
end
end Go.Lg
