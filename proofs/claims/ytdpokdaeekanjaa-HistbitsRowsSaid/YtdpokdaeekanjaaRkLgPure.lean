/- The words in which the plain functions are written: numbers as Go has them, rows, and control. No program in sight. -/
set_option linter.unusedVariables false
namespace Go.Lg
def w64 (x : Int) : Int := (x + 9223372036854775808) % 18446744073709551616 - 9223372036854775808
def I64 (x : Int) : Prop := -9223372036854775808 ≤ x ∧ x ≤ 9223372036854775807
def toU64 (x : Int) : UInt64 := UInt64.ofNat (x % 18446744073709551616).toNat
def toU8 (x : Int) : UInt8 := UInt8.ofNat (x % 256).toNat
def shlU (a : UInt64) (n : Nat) : UInt64 := UInt64.ofNat (a.toNat * 2 ^ min n 64)
def shrU (a : UInt64) (n : Nat) : UInt64 := UInt64.ofNat (a.toNat / 2 ^ min n 64)
def shlB (a : UInt8) (n : Nat) : UInt8 := UInt8.ofNat (a.toNat * 2 ^ min n 8)
def shrB (a : UInt8) (n : Nat) : UInt8 := UInt8.ofNat (a.toNat / 2 ^ min n 8)
def shlI (a : Int) (n : Nat) : Int := w64 (a * 2 ^ min n 64)
def shrI (a : Int) (n : Nat) : Int := a / 2 ^ min n 64
def idx {α : Type} (xs : List α) (i : Int) : Option α := if 0 ≤ i then xs[i.toNat]? else none
/-- how many elements a slice may come to have by appending or making: far more than any machine bears at once, and few enough that the model's bound on bytes is kept -/
def LIM : Nat := 17179869184
def app {α : Type} (xs ys : List α) : Option (List α) := if xs.length + ys.length ≤ LIM then some (xs ++ ys) else none
def setI {α : Type} (xs : List α) (i : Int) (x : α) : Option (List α) := if 0 ≤ i ∧ i.toNat < xs.length then some (xs.set i.toNat x) else none
def slc {α : Type} (xs : List α) (lo hi : Int) : Option (List α) := if 0 ≤ lo ∧ lo ≤ hi ∧ hi ≤ xs.length then some ((xs.take hi.toNat).drop lo.toNat) else none
def mk {α : Type} (n : Int) (z : α) : Option (List α) := if 0 ≤ n ∧ n ≤ LIM then some (List.replicate n.toNat z) else none
def lett {α β : Type} (e : α) (f : α → Option β) : Option β := f e
/-- an outcome of a part that may leave the whole -/
inductive Flow (α ρ : Type) where
  | go (x : α)
  | out (r : ρ)
def flowK {α ρ : Type} (F : α → Option ρ) : Flow α ρ → Option ρ
  | .go x => F x
  | .out r => some r
def flow {α ρ : Type} (o : Option (Flow α ρ)) (F : α → Option ρ) : Option ρ := o.bind (flowK F)
def outs {α ρ : Type} (o : Option ρ) : Option (Flow α ρ) := o.bind fun r => some (.out r)
/-- what becomes of a round -/
inductive Rnd (σ β ρ : Type) where
  | next (s : σ)
  | brk (b : β)
  | out (r : ρ)
def outr {σ β ρ : Type} (o : Option ρ) : Option (Rnd σ β ρ) := o.bind fun r => some (.out r)
def loopN {σ β ρ : Type} : Nat → (σ → Option (Rnd σ β ρ)) → σ → Option (Flow β ρ)
  | 0, _, _ => none
  | k + 1, f, s => (f s).bind fun
    | .next s' => loopN k f s'
    | .brk b => some (.go b)
    | .out r => some (.out r)
theorem loopN_mono {σ β ρ : Type} {f : σ → Option (Rnd σ β ρ)} {p : Flow β ρ} : ∀ {k : Nat} {s : σ} (m : Nat), loopN k f s = some p → k ≤ m → loopN m f s = some p
  | 0, _, _, h, _ => by cases h
  | k + 1, s, 0, h, hm => by omega
  | k + 1, s, m + 1, h, hm => by
    simp only [loopN] at h ⊢
    cases hf : f s with
    | none => rw [hf] at h; cases h
    | some q =>
      rw [hf] at h
      cases q with
      | next s' => exact loopN_mono m h (by omega)
      | brk b => exact h
      | out r => exact h
open Classical in
/-- rounds till one of them ends it; none: a round has no outcome, or there is no end -/
noncomputable def loop {σ β ρ : Type} (f : σ → Option (Rnd σ β ρ)) (s : σ) : Option (Flow β ρ) :=
  if h : ∃ k, (loopN k f s).isSome then loopN (Classical.choose h) f s else none
theorem loop_some {σ β ρ : Type} {f : σ → Option (Rnd σ β ρ)} {s : σ} {p : Flow β ρ} (h : loop f s = some p) : ∃ k, loopN k f s = some p := by
  unfold loop at h
  split at h
  · exact ⟨_, h⟩
  · cases h
theorem loop_of {σ β ρ : Type} {f : σ → Option (Rnd σ β ρ)} {s : σ} {p : Flow β ρ} {k : Nat} (h : loopN k f s = some p) : loop f s = some p := by
  have hx : ∃ k, (loopN k f s).isSome := ⟨k, by rw [h]; rfl⟩
  unfold loop
  rw [dif_pos hx]
  have h1 := Classical.choose_spec hx
  obtain ⟨q, hq⟩ := Option.isSome_iff_exists.1 h1
  have h2 := loopN_mono (max (Classical.choose hx) k) hq (Nat.le_max_left _ _)
  have h3 := loopN_mono (max (Classical.choose hx) k) h (Nat.le_max_right _ _)
  rw [h2] at h3
  rw [hq]; exact h3
/-- a loop, round by round -/
theorem loop_eq {σ β ρ : Type} (f : σ → Option (Rnd σ β ρ)) (s : σ) : loop f s = (f s).bind fun
    | .next s' => loop f s'
    | .brk b => some (.go b)
    | .out r => some (.out r) := by
  cases hl : loop f s with
  | some p =>
    obtain ⟨k, hk⟩ := loop_some hl
    cases k with
    | zero => cases hk
    | succ k =>
      simp only [loopN] at hk
      cases hf : f s with
      | none => rw [hf] at hk; cases hk
      | some q =>
        rw [hf] at hk
        cases q with
        | next s' => exact (loop_of hk).symm
        | brk b => exact hk.symm
        | out r => exact hk.symm
  | none =>
    cases hf : f s with
    | none => rfl
    | some q =>
      cases q with
      | next s' =>
        show none = loop f s'
        cases hl' : loop f s' with
        | none => rfl
        | some p =>
          obtain ⟨k, hk⟩ := loop_some hl'
          have : loopN (k + 1) f s = some p := by simp only [loopN, hf]; exact hk
          rw [loop_of this] at hl; cases hl
      | brk b =>
        have : loopN 1 f s = some (.go b) := by simp only [loopN, hf]; rfl
        rw [loop_of this] at hl; cases hl
      | out r =>
        have : loopN 1 f s = some (.out r) := by simp only [loopN, hf]; rfl
        rw [loop_of this] at hl; cases hl
/-! ### taking such words apart -/
theorem bnd {α β : Type} {o : Option α} {f : α → Option β} {r : β} (h : o.bind f = some r) : ∃ x, o = some x ∧ f x = some r := by
  cases o with
  | none => cases h
  | some x => exact ⟨x, rfl, h⟩
theorem lt1 {α β : Type} {e : α} {f : α → Option β} {r : β} (h : lett e f = some r) : ∃ x, x = e ∧ f x = some r := ⟨e, rfl, h⟩
theorem cnd {β : Type} {c : Bool} {x y : Option β} {r : β} (h : (bif c then x else y) = some r) : (c = true ∧ x = some r) ∨ (c = false ∧ y = some r) := by
  cases c with
  | false => exact .inr ⟨rfl, h⟩
  | true => exact .inl ⟨rfl, h⟩
theorem flow1 {α ρ : Type} {o : Option (Flow α ρ)} {F : α → Option ρ} {r : ρ} (h : flow o F = some r) : ∃ p, o = some p ∧ flowK F p = some r := bnd h
theorem outs1 {α ρ : Type} {o : Option ρ} {F : α → Option ρ} {p : Flow α ρ} {r : ρ} (h : outs o = some p) (k : flowK F p = some r) : o = some r := by
  obtain ⟨x, hx, h⟩ := bnd h
  cases h; cases k; exact hx
theorem rnd0 {σ β ρ : Type} {f : σ → Option (Rnd σ β ρ)} {k : Nat} {s : σ} {p : Flow β ρ} (h : loopN k f s = some p) : ∃ j q, k = j + 1 ∧ f s = some q ∧
    (match q with | .next s' => loopN j f s' | .brk b => some (.go b) | .out r => some (.out r)) = some p := by
  cases k with
  | zero => cases h
  | succ j =>
    obtain ⟨q, hq, h⟩ := bnd h
    exact ⟨j, q, rfl, hq, by cases q <;> exact h⟩
theorem some1 {α : Type} {x y : α} (h : some x = some y) : x = y := by cases h; rfl
end Go.Lg
