/- Calls walked where they stand, function values, several own rows given out at once. -/
import Derived.Test.YtdpokdaeekanjaaLgEq
set_option linter.unusedVariables false
namespace Go.Lg
open Go
section
variable {P : Program} {n : Nat} {ops : Array Oper} {Q : Exit → Act → World → Prop} {ρ : Env} {w : World} {rest : List Oper}
variable {d : Nat} {ty : TypeId} {pos : String} {aft : Array Edge} {ats : Array TypeId} {f : FuncId} {x : Operand} {xs : List Operand} {fv cv vals : List Value} {Post : Value → World → Prop}

theorem WL.callJ {σ : Type} (I : σ → World → Prop) (V : σ → Value) (hk : CallOk P f) (hargs : evs ρ xs = some vals) (hd : Nat.blt d n = true) (hc : Rets P f vals w (fun v w' => ∃ x, I x w' ∧ v = V x))
    (h : ∀ x w', I x w' → WL P n ops Q rest ((d, V x) :: ρ) w') : WL P n ops Q (⟨some d, .call { callee := .value (.func f), args := xs.toArray, argTypes := ats }, ty, pos, aft, none⟩ :: rest) ρ w :=
  WL.call hk hargs hd hc fun v w' ⟨x, hi, e⟩ => by subst e; exact h x w' hi
theorem WL.callJN {σ : Type} (I : σ → World → Prop) (V : σ → Value) (hk : CallOk P f) (hargs : evs ρ xs = some vals) (hc : Rets P f vals w (fun v w' => ∃ x, I x w' ∧ v = V x))
    (h : ∀ x w', I x w' → WL P n ops Q rest ρ w') : WL P n ops Q (⟨none, .call { callee := .value (.func f), args := xs.toArray, argTypes := ats }, ty, pos, aft, none⟩ :: rest) ρ w :=
  WL.callN hk hargs hc fun v w' ⟨x, hi, _⟩ => h x w' hi

theorem run_callVal {a : Act} (hx : a.eval x = .func (.func f) fv.toArray cv.toArray) (hk : CallOk P f) (hargs : xs.map a.eval = vals) (dst : Option Tmp) :
    (execOp a.eval ⟨dst, .call { callee := .value x, args := xs.toArray, argTypes := ats }, ty, pos, aft, none⟩).run P w = .ok (.enter f (fv ++ vals ++ cv).toArray) w := by
  have e : (fv.toArray ++ xs.toArray.map a.eval ++ cv.toArray : Array Value) = (fv ++ vals ++ cv).toArray := by simp [← hargs]
  have h := hk (fv.toArray ++ xs.toArray.map a.eval ++ cv.toArray) w
  simp only [execOp, resolve, hx, Deferred.ofValue, Sem.run_bind, Sem.run_pure, Result.andThen_ok, invoke]
  rw [h, e]
theorem WL.callV {σ : Type} (I : σ → World → Prop) (V : σ → Value) (hk : CallOk P f) (hx : ev ρ x = some (.func (.func f) fv.toArray cv.toArray)) (hargs : evs ρ xs = some vals) (hd : Nat.blt d n = true)
    (hc : Rets P f (fv ++ vals ++ cv) w (fun v w' => ∃ x, I x w' ∧ v = V x))
    (h : ∀ x w', I x w' → WL P n ops Q rest ((d, V x) :: ρ) w') : WL P n ops Q (⟨some d, .call { callee := .value x, args := xs.toArray, argTypes := ats }, ty, pos, aft, none⟩ :: rest) ρ w := by
  intro a ha
  refine wpList_plain rfl fun K hK => ?_
  unfold Oper.wp
  rw [run_callVal (ha.eval hx) hk (ha.evals hargs), Oper.upon_enter]
  refine Calls.mono hc fun e w' ⟨v, he, x, hi, hv⟩ => ?_
  subst he; subst hv
  exact hK _ _ (h x w' hi _ (ha.put hd _))
theorem WL.callVN {σ : Type} (I : σ → World → Prop) (V : σ → Value) (hk : CallOk P f) (hx : ev ρ x = some (.func (.func f) fv.toArray cv.toArray)) (hargs : evs ρ xs = some vals)
    (hc : Rets P f (fv ++ vals ++ cv) w (fun v w' => ∃ x, I x w' ∧ v = V x))
    (h : ∀ x w', I x w' → WL P n ops Q rest ρ w') : WL P n ops Q (⟨none, .call { callee := .value x, args := xs.toArray, argTypes := ats }, ty, pos, aft, none⟩ :: rest) ρ w := by
  intro a ha
  refine wpList_plain rfl fun K hK => ?_
  unfold Oper.wp
  rw [run_callVal (ha.eval hx) hk (ha.evals hargs), Oper.upon_enter]
  refine Calls.mono hc fun e w' ⟨v, he, x, hi, hv⟩ => ?_
  subst he
  exact hK _ _ (h x w' hi _ ha)

theorem Y.mkfunc {fs cs : List Operand} (hf : evs ρ fs = some fv) (hc : evs ρ cs = some cv) : Y P (.makeFunc (.func f) fs.toArray cs.toArray) ty ρ w (.func (.func f) fv.toArray cv.toArray) := by
  intro a n o ha ho _
  have e1 := ha.evals hf
  have e2 := ha.evals hc
  simp [execOp, ho, Instr.makeFunc, ← e1, ← e2]
theorem Y.nilCheckF {fv cv : Array Value} (hx : ev ρ x = some (.func (.func f) fv cv)) : Y P (.nilCheck x) ty ρ w (.func (.func f) fv cv) := by
  intro a n o ha ho _
  simp [execOp, ho, ha.eval hx]
end

section
variable {α : Type} {R : Rep α} {w w' : World} {O O' : Own} {A B : Nat → Prop} {v u : Value} {xs : List α} {e : TypeId} {L : List Nat}
theorem not_own {ℓ k : Nat} (h : ∀ b, v.ownBlock = some b → O b = ℓ ∧ b < w.heap.size) (hl : Nat.ble 2 ℓ = true) (hk : O k ≤ 1) : v.ownBlock ≠ some k := fun e => by
  have hl' : 2 ≤ ℓ := by simpa using hl
  have := (h k e).1; omega
theorem not_nil {k : Nat} : (Value.slice none 0 0).ownBlock ≠ some k := fun e => by simp [Value.ownBlock] at e
theorem not_blk {b ℓ k : Nat} (hb : O b = ℓ) (hl : Nat.ble 2 ℓ = true) (hk : O k ≤ 1) : k ≠ b := fun e => by
  have hl' : 2 ≤ ℓ := by simpa using hl
  subst e; omega
theorem Sl.outFB (h : Sl R w' (frs O') u xs) (hs : Stp L O w O' w') (hO : Low O) (hB : ∀ k, O' k ≤ 1 → B k) : Sl R w' (fun k => w.heap.size ≤ k ∧ B k) u xs :=
  h.mono fun k hk _ => ⟨⟨fresh_of hs hO (.inl hk), hB k (by unfold frs at hk; omega)⟩, rfl⟩
theorem Sl.outIB (h : Sl R w' (imm O') u xs) (hs : Stp L O w O' w') (hO : Low O) (hA : ∀ k, O k ≤ 1 → A k) (hB : ∀ k, O' k ≤ 1 → B k) : Sl R w' (fun k => (k < w.heap.size ∧ A k) ∨ (w.heap.size ≤ k ∧ B k)) u xs :=
  h.mono fun k hk _ => ⟨by
    rcases Nat.lt_or_ge k w.heap.size with hl | hl
    · refine .inl ⟨hl, ?_⟩
      unfold imm at hk
      rw [hs.low k hl (hO k).1] at hk
      exact hA k hk
    · exact .inr ⟨hl, hB k hk⟩, rfl⟩
theorem Rows'.outIB {cs : List Value} (h : Rows' R w' (imm O') cs xs) (hs : Stp L O w O' w') (hO : Low O) (hA : ∀ k, O k ≤ 1 → A k) (hB : ∀ k, O' k ≤ 1 → B k) : Rows' R w' (fun k => (k < w.heap.size ∧ A k) ∨ (w.heap.size ≤ k ∧ B k)) cs xs :=
  h.mono fun k hk _ => ⟨by
    rcases Nat.lt_or_ge k w.heap.size with hl | hl
    · refine .inl ⟨hl, ?_⟩
      unfold imm at hk
      rw [hs.low k hl (hO k).1] at hk
      exact hA k hk
    · exact .inr ⟨hl, hB k hk⟩, rfl⟩
theorem immB {g : Nat → Nat} (hA : ∀ k, A k → imm O k) (hg : ∀ k, B k → g k = 1) (ho : ∀ k, k < w.heap.size → O' k = O k) (hn : ∀ k, w.heap.size ≤ k → O' k = g k) (k : Nat) (hk : (k < w.heap.size ∧ A k) ∨ (w.heap.size ≤ k ∧ B k)) : imm O' k := by
  unfold imm
  rcases hk with ⟨hl, hk⟩ | ⟨hl, hk⟩
  · rw [ho k hl]; exact hA k hk
  · rw [hn k hl, hg k hk]; exact Nat.le_refl _
theorem Sl.adoptIB {g : Nat → Nat} (h : Sl R w' (fun k => (k < w.heap.size ∧ A k) ∨ (w.heap.size ≤ k ∧ B k)) u xs) (hA : ∀ k, A k → imm O k) (hg : ∀ k, B k → g k = 1) (ho : ∀ k, k < w.heap.size → O' k = O k) (hn : ∀ k, w.heap.size ≤ k → O' k = g k) : Sl R w' (imm O') u xs :=
  h.mono fun k hk _ => ⟨immB hA hg ho hn k hk, rfl⟩
theorem Rows'.adoptIB {g : Nat → Nat} {cs : List Value} (h : Rows' R w' (fun k => (k < w.heap.size ∧ A k) ∨ (w.heap.size ≤ k ∧ B k)) cs xs) (hA : ∀ k, A k → imm O k) (hg : ∀ k, B k → g k = 1) (ho : ∀ k, k < w.heap.size → O' k = O k) (hn : ∀ k, w.heap.size ≤ k → O' k = g k) : Rows' R w' (imm O') cs xs :=
  h.mono fun k hk _ => ⟨immB hA hg ho hn k hk, rfl⟩
/-! ### package variables that are read alone -/
theorem CAt.glob {b off : Nat} {cs : List Value} (h : CellsAt w b off cs) (hl : O b = 0) : CAt [0, 1] O w b off cs := CAt.imm h (by unfold Lg.imm; omega)
theorem CAt.inI {b off : Nat} {cs : List Value} (h : CAt [0, 1] O w b off cs) : Lg.imm O b := by
  have := h.lab; unfold Lg.imm; simp at this; omega
theorem CAt.inO {b off : Nat} {cs : List Value} (h : CAt [0, 1] O w b off cs) (h0 : L.contains 0 = false) (h1 : L.contains 1 = false) : out L O b := by
  have := h.lab; unfold out; simp at this; rcases this with e | e <;> rw [e] <;> assumption
theorem CAt.idx {ls : List Nat} {b off : Nat} {cells : List Value} {i : Int} {x : α} (h : CAt ls O w b off cells) (hr : Rows' R w A cells xs) (hi : idx xs i = some x) :
    ∃ cs, CAt ls O w b (off + i.toNat * R.n) cs ∧ R.ok w A cs x ∧ 0 ≤ i ∧ i < xs.length := by
  have h0 : 0 ≤ i ∧ xs[i.toNat]? = some x := by
    unfold Lg.idx at hi; split at hi
    · exact ⟨by assumption, hi⟩
    · cases hi
  have h1 := Rows'.get i.toNat x hr h0.2
  have h2 := (List.getElem?_eq_some_iff.1 h0.2).1
  exact ⟨_, ⟨h.lab, h.lt, h.at_.sub _ _ (by rw [R.len h1])⟩, h1, h0.1, by omega⟩
theorem rowsB : ∀ (xs : List UInt8), Rows' Rep.b w A (xs.map vb) xs
  | [] => rfl
  | x :: xs => ⟨[vb x], _, rfl, rfl, rowsB xs⟩
theorem rowsU : ∀ (xs : List UInt64), Rows' Rep.u w A (xs.map vu) xs
  | [] => rfl
  | x :: xs => ⟨[vu x], _, rfl, rfl, rowsU xs⟩
theorem rowsI : ∀ (xs : List Int), Rows' Rep.i w A (xs.map vi) xs
  | [] => rfl
  | x :: xs => ⟨[vi x], _, rfl, rfl, rowsI xs⟩
theorem RowG.nil : RowG R e w w' v (.slice none 0 0) [] := ⟨RowF.nil (w := w).1, fun _ h => absurd h not_nil⟩
theorem RowF.g (h : RowF R e w w' u xs) : RowG R e w w' v u xs := ⟨h.1, fun b hb => .inr (h.2 b hb)⟩
end
section
variable {P : Program} {ρ : Env} {w : World} {ty t e : TypeId} {x y : Operand}
theorem Y.neg_u {a : UInt64} (hx : ev ρ x = some (vu a)) : Y P (.unOp .neg t x) ty ρ w (vu (0 - a)) := by
  intro A n o ha ho _
  simp only [execOp, ho, ha.eval hx]
  have h := UInt64.toNat_lt a
  have : (vu (0 - a)) = .int .u64 ((-(a.toNat : Int)) % 18446744073709551616) := by
    unfold vu
    congr 1
    rw [UInt64.toNat_sub]
    simp
    omega
  rw [this]
  simp [Op.unary, vu, Op.intArith, wrap_u64]
theorem Y.indexAddrA {size bytes len m by1 : Nat} {z z' : Value} {ed : TypeDesc} {k : IntKind} {i : Int} {b off : Nat}
    (ht : TyOk P t (.array len e) size bytes z) (he : TyOk P e ed m by1 z') (hx : ev ρ x = some (.pointer (some ⟨b, off, none⟩))) (hy : ev ρ y = some (.int k i)) (h0 : 0 ≤ i) (hl : i < (len : Int)) :
    Y P (.indexAddr t x y) ty ρ w (.pointer (some ⟨b, off + i.toNat * m, none⟩)) := by
  intro A n o ha ho _
  simp [execOp, ho, ha.eval hx, ha.eval hy, Instr.indexAt, Instr.sureAddr, asIntOf, run_underlying ht.u, h0, hl, he.size, Addr_add]
end
theorem rhs1 {α : Type} {o : Option α} {r : α} (h : o = some r) : ∃ x, r = x ∧ o = some x := ⟨r, rfl, h⟩
section
variable {P : Program} {n : Nat} {l : List Oper} {Q : Exit → Act → World → Prop} {L F S : List Nat} {f : Nat} {ρ : Env} {O : Own} {w : World}
def heavyBs (l : List Oper) (F S R : List Nat) : Bool := decide (Region.ready .any l.toArray (done l.length S) = R) && !allIn F (done l.length S)
/-- three, none ahead of the other -/
theorem WD.heavy3 {o1 o2 o3 : Oper} (i j k : Nat) (hi : l[i]? = some o1) (hj : l[j]? = some o2) (hk : l[k]? = some o3) (hb : heavyBs l F S [i, j, k] = true) (h1 : WL P n l.toArray (DQ P l Q L F f (i :: S) O w) [o1] ρ w)
    (h2 : WL P n l.toArray (DQ P l Q L F f (j :: S) O w) [o2] ρ w) (h3 : WL P n l.toArray (DQ P l Q L F f (k :: S) O w) [o3] ρ w) : WD P n l Q L F (f + 1) S ρ O w := fun hc hkk a ha => by
  simp only [heavyBs, Bool.and_eq_true, decide_eq_true_eq, Bool.not_eq_true'] at hb
  refine wpAnyC_all (rs := [i, j, k]) hb.1 (by simp) hb.2 fun q hq => ?_
  have hq' : q = i ∨ q = j ∨ q = k := by simpa using hq
  rcases hq' with e | e | e
  · subst e; exact WD.one q hi hc (ready_done hkk (by rw [hb.1]; simp)) h1 ha
  · subst e; exact WD.one q hj hc (ready_done hkk (by rw [hb.1]; simp)) h2 ha
  · subst e; exact WD.one q hk hc (ready_done hkk (by rw [hb.1]; simp)) h3 ha
end
theorem sLess_tri : ∀ a b : List UInt8, (sLess a b || a == b) = !sLess b a
  | [], [] => rfl
  | [], _ :: _ => rfl
  | _ :: _, [] => rfl
  | a :: x, b :: y => by
    have ih := sLess_tri x y
    simp only [sLess, List.cons_beq_cons]
    by_cases h1 : a < b
    · have h2 : ¬ b < a := UInt8.lt_asymm h1
      have h3 : ¬ b = a := fun e => by subst e; exact UInt8.lt_irrefl _ h1
      simp [h1, h2, h3]
    · by_cases e : a = b
      · subst e
        simp [UInt8.lt_irrefl]
        simpa using ih
      · have h2 : b < a := by
          rcases UInt8.lt_or_lt_of_ne e with h | h
          · exact absurd h h1
          · exact h
        simp [h1, h2, e]
section
variable {P : Program} {ρ : Env} {w : World} {ty t t' : TypeId} {x y : Operand} {a b : List UInt8}
theorem Y.gtr_s (hx : ev ρ x = some (vs a)) (hy : ev ρ y = some (vs b)) : Y P (.binOp .gtr t x y t') ty ρ w (.bool (sLess b a)) :=
  Y.strop hx hy (by simp only [binOp, Op.stringOp, toList_vs, bytesLess_eq, sLess_tri, Bool.not_not]; rfl)
theorem Y.leq_s (hx : ev ρ x = some (vs a)) (hy : ev ρ y = some (vs b)) : Y P (.binOp .leq t x y t') ty ρ w (.bool (!sLess b a)) :=
  Y.strop hx hy (by simp only [binOp, Op.stringOp, toList_vs, bytesLess_eq, sLess_tri]; rfl)
end
/-! ### which block a label names, at the start -/
section
variable {O : Own} {A : Nat → Prop} {v u : Value} {b ℓ ℓ' : Nat}
theorem ln0 (h : Nat.ble 3 ℓ = true) : ∀ k, O0 A k ≠ ℓ := fun k => by
  have h' : 3 ≤ ℓ := by simpa using h
  unfold O0; split <;> omega
theorem lnB (h : ∀ k, O k ≠ ℓ) (hn : Nat.beq ℓ' ℓ = false) : ∀ k, OB b ℓ' O k ≠ ℓ := fun k e => by
  unfold OB at e
  split at e
  · subst e; simp at hn
  · exact h k e
theorem lnV (h : ∀ k, O k ≠ ℓ) (hn : Nat.beq ℓ' ℓ = false) : ∀ k, OV u ℓ' O k ≠ ℓ := fun k e => by
  unfold OV at e
  split at e
  · subst e; simp at hn
  · exact h k e
theorem lbV (h : ∀ k, O k ≠ ℓ) : ∀ k, OV v ℓ O k = ℓ → v.ownBlock = some k := fun k e => by
  unfold OV at e
  split at e
  · assumption
  · exact absurd e (h k)
theorem lsB (h : ∀ k, O k = ℓ → v.ownBlock = some k) (hn : Nat.beq ℓ' ℓ = false) : ∀ k, OB b ℓ' O k = ℓ → v.ownBlock = some k := fun k e => by
  unfold OB at e
  split at e
  · subst e; simp at hn
  · exact h k e
theorem lsV (h : ∀ k, O k = ℓ → v.ownBlock = some k) (hn : Nat.beq ℓ' ℓ = false) : ∀ k, OV u ℓ' O k = ℓ → v.ownBlock = some k := fun k e => by
  unfold OV at e
  split at e
  · subst e; simp at hn
  · exact h k e
end
theorem bswap {α β γ : Type} {a : Option α} {b : Option β} {F : α → β → Option γ} {r : γ} (h : (a.bind fun x => b.bind fun y => F x y) = some r) : (b.bind fun y => a.bind fun x => F x y) = some r := by
  cases a <;> cases b <;> first | exact h | cases h
end Go.Lg
