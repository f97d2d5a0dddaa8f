/- Calls walked where they stand, function values, several own rows given out at once. -/
import Derived.Test.YtdpokdaeekanjaaRkLgEq
set_option linter.unusedVariables false
namespace Go.Lg
open Go
section
variable {P : Program} {n : Nat} {ops : Array Oper} {Q : Exit → Act → World → Prop} {ρ : Env} {w : World} {rest : List Oper}
variable {d : Nat} {ty : TypeId} {pos : String} {aft : Array Edge} {ats : Array TypeId} {f : FuncId} {x : Operand} {xs : List Operand} {fv cv vals : List Value} {Post : Value → World → Prop}
theorem WL.callJ {σ : Type} (I : σ → World → Prop) (V : σ → Value) (hk : CallOk P f) (hargs : evs ρ xs = some vals) (hd : Nat.blt d n = true) (hc : Rets P f vals w (fun v w' => ∃ x, I x w' ∧ v = V x))
    (h : ∀ x w', I x w' → WL P n ops Q rest ((d, V x) :: ρ) w') : WL P n ops Q (⟨some d, .call { callee := .value (.func f), args := xs.toArray, argTypes := ats }, ty, pos, aft, none⟩ :: rest) ρ w :=
  WL.call hk hargs hd hc fun v w' ⟨x, hi, e⟩ => by subst e; exact h x w' hi
theorem run_callVal {a : Act} (hx : a.eval x = .func (.func f) fv.toArray cv.toArray) (hk : CallOk P f) (hargs : xs.map a.eval = vals) (dst : Option Tmp) :
    (execOp a.eval ⟨dst, .call { callee := .value x, args := xs.toArray, argTypes := ats }, ty, pos, aft, none⟩).run P w = .ok (.enter f (fv ++ vals ++ cv).toArray) w := by
  have e : (fv.toArray ++ xs.toArray.map a.eval ++ cv.toArray : Array Value) = (fv ++ vals ++ cv).toArray := by simp [← hargs]
  have h := hk (fv.toArray ++ xs.toArray.map a.eval ++ cv.toArray) w
  simp only [execOp, resolve, hx, Deferred.ofValue, Sem.run_bind, Sem.run_pure, Result.andThen_ok, invoke]
  rw [h, e]
theorem WL.callV {σ : Type} (I : σ → World → Prop) (V : σ → Value) (hk : CallOk P f) (hx : ev ρ x = some (.func (.func f) fv.toArray cv.toArray)) (hargs : evs ρ xs = some vals) (hd : Nat.blt d n = true)
    (hc : Rets P f (fv ++ vals ++ cv) w (fun v w' => ∃ x, I x w' ∧ v = V x))
    (h : ∀ x w', I x w' → WL P n ops Q rest ((d, V x) :: ρ) w') : WL P n ops Q (⟨some d, .call { callee := .value x, args := xs.toArray, argTypes := ats }, ty, pos, aft, none⟩ :: rest) ρ w := by
  intro a ha
  refine wpList_plain rfl fun K hK => ?_
  unfold Oper.wp
  rw [run_callVal (ha.eval hx) hk (ha.evals hargs), Oper.upon_enter]
  refine Calls.mono hc fun e w' ⟨v, he, x, hi, hv⟩ => ?_
  subst he; subst hv
  exact hK _ _ (h x w' hi _ (ha.put hd _))
theorem Y.mkfunc {fs cs : List Operand} (hf : evs ρ fs = some fv) (hc : evs ρ cs = some cv) : Y P (.makeFunc (.func f) fs.toArray cs.toArray) ty ρ w (.func (.func f) fv.toArray cv.toArray) := by
  intro a n o ha ho _
  have e1 := ha.evals hf
  have e2 := ha.evals hc
  simp [execOp, ho, Instr.makeFunc, ← e1, ← e2]
end
section
variable {α : Type} {R : Rep α} {w w' : World} {O O' : Own} {A B : Nat → Prop} {v u : Value} {xs : List α} {e : TypeId} {L : List Nat}
theorem not_own {ℓ k : Nat} (h : ∀ b, v.ownBlock = some b → O b = ℓ ∧ b < w.heap.size) (hl : Nat.ble 2 ℓ = true) (hk : O k ≤ 1) : v.ownBlock ≠ some k := fun e => by
  have hl' : 2 ≤ ℓ := by simpa using hl
  have := (h k e).1; omega
theorem not_nil {k : Nat} : (Value.slice none 0 0).ownBlock ≠ some k := fun e => by simp [Value.ownBlock] at e
theorem Sl.outIB (h : Sl R w' (imm O') u xs) (hs : Stp L O w O' w') (hO : Low O) (hA : ∀ k, O k ≤ 1 → A k) (hB : ∀ k, O' k ≤ 1 → B k) : Sl R w' (fun k => (k < w.heap.size ∧ A k) ∨ (w.heap.size ≤ k ∧ B k)) u xs :=
  h.mono fun k hk _ => ⟨by
    rcases Nat.lt_or_ge k w.heap.size with hl | hl
    · refine .inl ⟨hl, ?_⟩
      unfold imm at hk
      rw [hs.low k hl (hO k).1] at hk
      exact hA k hk
    · exact .inr ⟨hl, hB k hk⟩, rfl⟩
theorem Rows'.outIB {cs : List Value} (h : Rows' R w' (imm O') cs xs) (hs : Stp L O w O' w') (hO : Low O) (hA : ∀ k, O k ≤ 1 → A k) (hB : ∀ k, O' k ≤ 1 → B k) : Rows' R w' (fun k => (k < w.heap.size ∧ A k) ∨ (w.heap.size ≤ k ∧ B k)) cs xs :=
  h.mono fun k hk _ => ⟨by
    rcases Nat.lt_or_ge k w.heap.size with hl | hl
    · refine .inl ⟨hl, ?_⟩
      unfold imm at hk
      rw [hs.low k hl (hO k).1] at hk
      exact hA k hk
    · exact .inr ⟨hl, hB k hk⟩, rfl⟩
theorem immB {g : Nat → Nat} (hA : ∀ k, A k → imm O k) (hg : ∀ k, B k → g k = 1) (ho : ∀ k, k < w.heap.size → O' k = O k) (hn : ∀ k, w.heap.size ≤ k → O' k = g k) (k : Nat) (hk : (k < w.heap.size ∧ A k) ∨ (w.heap.size ≤ k ∧ B k)) : imm O' k := by
  unfold imm
  rcases hk with ⟨hl, hk⟩ | ⟨hl, hk⟩
  · rw [ho k hl]; exact hA k hk
  · rw [hn k hl, hg k hk]; exact Nat.le_refl _
theorem Sl.adoptIB {g : Nat → Nat} (h : Sl R w' (fun k => (k < w.heap.size ∧ A k) ∨ (w.heap.size ≤ k ∧ B k)) u xs) (hA : ∀ k, A k → imm O k) (hg : ∀ k, B k → g k = 1) (ho : ∀ k, k < w.heap.size → O' k = O k) (hn : ∀ k, w.heap.size ≤ k → O' k = g k) : Sl R w' (imm O') u xs :=
  h.mono fun k hk _ => ⟨immB hA hg ho hn k hk, rfl⟩
theorem Rows'.adoptIB {g : Nat → Nat} {cs : List Value} (h : Rows' R w' (fun k => (k < w.heap.size ∧ A k) ∨ (w.heap.size ≤ k ∧ B k)) cs xs) (hA : ∀ k, A k → imm O k) (hg : ∀ k, B k → g k = 1) (ho : ∀ k, k < w.heap.size → O' k = O k) (hn : ∀ k, w.heap.size ≤ k → O' k = g k) : Rows' R w' (imm O') cs xs :=
  h.mono fun k hk _ => ⟨immB hA hg ho hn k hk, rfl⟩
/-! ### package variables that are read alone -/
theorem CAt.idx {ls : List Nat} {b off : Nat} {cells : List Value} {i : Int} {x : α} (h : CAt ls O w b off cells) (hr : Rows' R w A cells xs) (hi : idx xs i = some x) :
    ∃ cs, CAt ls O w b (off + i.toNat * R.n) cs ∧ R.ok w A cs x ∧ 0 ≤ i ∧ i < xs.length := by
  have h0 : 0 ≤ i ∧ xs[i.toNat]? = some x := by
    unfold Lg.idx at hi; split at hi
    · exact ⟨by assumption, hi⟩
    · cases hi
  have h1 := Rows'.get i.toNat x hr h0.2
  have h2 := (List.getElem?_eq_some_iff.1 h0.2).1
  exact ⟨_, ⟨h.lab, h.lt, h.at_.sub _ _ (by rw [R.len h1])⟩, h1, h0.1, by omega⟩
theorem RowG.nil : RowG R e w w' v (.slice none 0 0) [] := ⟨RowF.nil (w := w).1, fun _ h => absurd h not_nil⟩
theorem RowF.g (h : RowF R e w w' u xs) : RowG R e w w' v u xs := ⟨h.1, fun b hb => .inr (h.2 b hb)⟩
end
section
variable {P : Program} {ρ : Env} {w : World} {ty t e : TypeId} {x y : Operand}
end
section
variable {P : Program} {n : Nat} {l : List Oper} {Q : Exit → Act → World → Prop} {L F S : List Nat} {f : Nat} {ρ : Env} {O : Own} {w : World}
end
section
variable {P : Program} {ρ : Env} {w : World} {ty t t' : TypeId} {x y : Operand} {a b : List UInt8}
end
/-! ### which block a label names, at the start -/
section
variable {O : Own} {A : Nat → Prop} {v u : Value} {b ℓ ℓ' : Nat}
theorem ln0 (h : Nat.ble 3 ℓ = true) : ∀ k, O0 A k ≠ ℓ := fun k => by
  have h' : 3 ≤ ℓ := by simpa using h
  unfold O0; split <;> omega
theorem lnB (h : ∀ k, O k ≠ ℓ) (hn : Nat.beq ℓ' ℓ = false) : ∀ k, OB b ℓ' O k ≠ ℓ := fun k e => by
  unfold OB at e
  split at e
  · subst e; simp at hn
  · exact h k e
theorem lnV (h : ∀ k, O k ≠ ℓ) (hn : Nat.beq ℓ' ℓ = false) : ∀ k, OV u ℓ' O k ≠ ℓ := fun k e => by
  unfold OV at e
  split at e
  · subst e; simp at hn
  · exact h k e
theorem lbV (h : ∀ k, O k ≠ ℓ) : ∀ k, OV v ℓ O k = ℓ → v.ownBlock = some k := fun k e => by
  unfold OV at e
  split at e
  · assumption
  · exact absurd e (h k)
theorem lsB (h : ∀ k, O k = ℓ → v.ownBlock = some k) (hn : Nat.beq ℓ' ℓ = false) : ∀ k, OB b ℓ' O k = ℓ → v.ownBlock = some k := fun k e => by
  unfold OB at e
  split at e
  · subst e; simp at hn
  · exact h k e
theorem lsV (h : ∀ k, O k = ℓ → v.ownBlock = some k) (hn : Nat.beq ℓ' ℓ = false) : ∀ k, OV u ℓ' O k = ℓ → v.ownBlock = some k := fun k e => by
  unfold OV at e
  split at e
  · subst e; simp at hn
  · exact h k e
end
theorem bswap {α β γ : Type} {a : Option α} {b : Option β} {F : α → β → Option γ} {r : γ} (h : (a.bind fun x => b.bind fun y => F x y) = some r) : (b.bind fun y => a.bind fun x => F x y) = some r := by
  cases a <;> cases b <;> first | exact h | cases h
end Go.Lg
