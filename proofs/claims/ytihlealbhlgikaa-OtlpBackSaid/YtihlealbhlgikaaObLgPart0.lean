/- Lemmas about the given model and about plain data, which the rows stand on: no statement of the program by itself. -/
import Derived.WalkKit
import Derived.ProofKit
import Derived.Laws.Build
import Derived.Laws.Tables
import Derived.Laws.AppendOwn
import Derived.Laws.AppendOwnNone
import Derived.Laws.MakeOwn
import Derived.Laws.BytesArg
import Derived.Laws.OwnMore
import Derived.Great.BuildSlice
import Derived.BigCall
import Derived.Laws.Concat
import Derived.Laws.Strings
import Derived.Laws.IdiomStrings
import Derived.StillTail
import Derived.OrdersHeld
import Derived.Deep.RegionHeld3
import Derived.Laws.Externs
import Derived.LoopN
import Derived.Laws.StructEq
import Derived.ChangeKeysEq
import Derived.Laws.FloatArith
import Derived.ScopeJumps
import Derived.Lib.Builder
import Derived.Lib.UnsafeStr
import Derived.Lib.AppendStr
import Derived.MapKept
import Derived.OpenShut
import Derived.ShutString
import Derived.ChangeOld
import Derived.LaidLaws
set_option linter.unusedVariables false
namespace Go.Lg
def w64 (x : Int) : Int := (x + 9223372036854775808) % 18446744073709551616 - 9223372036854775808
def I64 (x : Int) : Prop := -9223372036854775808 ≤ x ∧ x ≤ 9223372036854775807
def toU64 (x : Int) : UInt64 := UInt64.ofNat (x % 18446744073709551616).toNat
def toU8 (x : Int) : UInt8 := UInt8.ofNat (x % 256).toNat
def shlU (a : UInt64) (n : Nat) : UInt64 := UInt64.ofNat (a.toNat * 2 ^ min n 64)
def shrU (a : UInt64) (n : Nat) : UInt64 := UInt64.ofNat (a.toNat / 2 ^ min n 64)
def shlB (a : UInt8) (n : Nat) : UInt8 := UInt8.ofNat (a.toNat * 2 ^ min n 8)
def shrB (a : UInt8) (n : Nat) : UInt8 := UInt8.ofNat (a.toNat / 2 ^ min n 8)
def shrI (a : Int) (n : Nat) : Int := a / 2 ^ min n 64
/-- which text stands ahead -/
def sLess : List UInt8 → List UInt8 → Bool
  | _, [] => false
  | [], _ :: _ => true
  | a :: x, b :: y => decide (a < b) || (decide (a = b) && sLess x y)
def idx {α : Type} (xs : List α) (i : Int) : Option α := if 0 ≤ i then xs[i.toNat]? else none
/-- how many elements a slice may come to have by appending or making: far more than any machine bears at once, and few enough that the model's bound on bytes is kept -/
def LIM : Nat := 17179869184
def app {α : Type} (xs ys : List α) : Option (List α) := if xs.length + ys.length ≤ LIM then some (xs ++ ys) else none
def setI {α : Type} (xs : List α) (i : Int) (x : α) : Option (List α) := if 0 ≤ i ∧ i.toNat < xs.length then some (xs.set i.toNat x) else none
def slc {α : Type} (xs : List α) (lo hi : Int) : Option (List α) := if 0 ≤ lo ∧ lo ≤ hi ∧ hi ≤ xs.length then some ((xs.take hi.toNat).drop lo.toNat) else none
def mk {α : Type} (n : Int) (z : α) : Option (List α) := if 0 ≤ n ∧ n ≤ LIM then some (List.replicate n.toNat z) else none
def lett {α β : Type} (e : α) (f : α → Option β) : Option β := f e
def chk {β : Type} (c : Bool) (r : Option β) : Option β := bif c then r else none
/-- an outcome of a part that may leave the whole -/
inductive Flow (α ρ : Type) where
  | go (x : α)
  | out (r : ρ)
def flowK {α ρ : Type} (F : α → Option ρ) : Flow α ρ → Option ρ
  | .go x => F x
  | .out r => some r
def flow {α ρ : Type} (o : Option (Flow α ρ)) (F : α → Option ρ) : Option ρ := o.bind (flowK F)
def outs {α ρ : Type} (o : Option ρ) : Option (Flow α ρ) := o.bind fun r => some (.out r)
/-- what becomes of a round -/
inductive Rnd (σ β ρ : Type) where
  | next (s : σ)
  | brk (b : β)
  | out (r : ρ)
def outr {σ β ρ : Type} (o : Option ρ) : Option (Rnd σ β ρ) := o.bind fun r => some (.out r)
def loopN {σ β ρ : Type} : Nat → (σ → Option (Rnd σ β ρ)) → σ → Option (Flow β ρ)
  | 0, _, _ => none
  | k + 1, f, s => (f s).bind fun
    | .next s' => loopN k f s'
    | .brk b => some (.go b)
    | .out r => some (.out r)
theorem loopN_mono {σ β ρ : Type} {f : σ → Option (Rnd σ β ρ)} {p : Flow β ρ} : ∀ {k : Nat} {s : σ} (m : Nat), loopN k f s = some p → k ≤ m → loopN m f s = some p
  | 0, _, _, h, _ => by cases h
  | k + 1, s, 0, h, hm => by omega
  | k + 1, s, m + 1, h, hm => by
    simp only [loopN] at h ⊢
    cases hf : f s with
    | none => rw [hf] at h; cases h
    | some q =>
      rw [hf] at h
      cases q with
      | next s' => exact loopN_mono m h (by omega)
      | brk b => exact h
      | out r => exact h
open Classical in
/-- rounds till one of them ends it; none: a round has no outcome, or there is no end -/
noncomputable def loop {σ β ρ : Type} (f : σ → Option (Rnd σ β ρ)) (s : σ) : Option (Flow β ρ) :=
  if h : ∃ k, (loopN k f s).isSome then loopN (Classical.choose h) f s else none
theorem loop_some {σ β ρ : Type} {f : σ → Option (Rnd σ β ρ)} {s : σ} {p : Flow β ρ} (h : loop f s = some p) : ∃ k, loopN k f s = some p := by
  unfold loop at h
  split at h
  · exact ⟨_, h⟩
  · cases h
theorem loop_of {σ β ρ : Type} {f : σ → Option (Rnd σ β ρ)} {s : σ} {p : Flow β ρ} {k : Nat} (h : loopN k f s = some p) : loop f s = some p := by
  have hx : ∃ k, (loopN k f s).isSome := ⟨k, by rw [h]; rfl⟩
  unfold loop
  rw [dif_pos hx]
  have h1 := Classical.choose_spec hx
  obtain ⟨q, hq⟩ := Option.isSome_iff_exists.1 h1
  have h2 := loopN_mono (max (Classical.choose hx) k) hq (Nat.le_max_left _ _)
  have h3 := loopN_mono (max (Classical.choose hx) k) h (Nat.le_max_right _ _)
  rw [h2] at h3
  rw [hq]; exact h3
/-- a loop, round by round -/
theorem loop_eq {σ β ρ : Type} (f : σ → Option (Rnd σ β ρ)) (s : σ) : loop f s = (f s).bind fun
    | .next s' => loop f s'
    | .brk b => some (.go b)
    | .out r => some (.out r) := by
  cases hl : loop f s with
  | some p =>
    obtain ⟨k, hk⟩ := loop_some hl
    cases k with
    | zero => cases hk
    | succ k =>
      simp only [loopN] at hk
      cases hf : f s with
      | none => rw [hf] at hk; cases hk
      | some q =>
        rw [hf] at hk
        cases q with
        | next s' => exact (loop_of hk).symm
        | brk b => exact hk.symm
        | out r => exact hk.symm
  | none =>
    cases hf : f s with
    | none => rfl
    | some q =>
      cases q with
      | next s' =>
        show none = loop f s'
        cases hl' : loop f s' with
        | none => rfl
        | some p =>
          obtain ⟨k, hk⟩ := loop_some hl'
          have : loopN (k + 1) f s = some p := by simp only [loopN, hf]; exact hk
          rw [loop_of this] at hl; cases hl
      | brk b =>
        have : loopN 1 f s = some (.go b) := by simp only [loopN, hf]; rfl
        rw [loop_of this] at hl; cases hl
      | out r =>
        have : loopN 1 f s = some (.out r) := by simp only [loopN, hf]; rfl
        rw [loop_of this] at hl; cases hl
/-! ### taking such words apart -/
theorem bnd {α β : Type} {o : Option α} {f : α → Option β} {r : β} (h : o.bind f = some r) : ∃ x, o = some x ∧ f x = some r := by
  cases o with
  | none => cases h
  | some x => exact ⟨x, rfl, h⟩
theorem lt1 {α β : Type} {e : α} {f : α → Option β} {r : β} (h : lett e f = some r) : ∃ x, x = e ∧ f x = some r := ⟨e, rfl, h⟩
theorem cnd {β : Type} {c : Bool} {x y : Option β} {r : β} (h : (bif c then x else y) = some r) : (c = true ∧ x = some r) ∨ (c = false ∧ y = some r) := by
  cases c with
  | false => exact .inr ⟨rfl, h⟩
  | true => exact .inl ⟨rfl, h⟩
theorem flow1 {α ρ : Type} {o : Option (Flow α ρ)} {F : α → Option ρ} {r : ρ} (h : flow o F = some r) : ∃ p, o = some p ∧ flowK F p = some r := bnd h
theorem outs1 {α ρ : Type} {o : Option ρ} {F : α → Option ρ} {p : Flow α ρ} {r : ρ} (h : outs o = some p) (k : flowK F p = some r) : o = some r := by
  obtain ⟨x, hx, h⟩ := bnd h
  cases h; cases k; exact hx
theorem rnd0 {σ β ρ : Type} {f : σ → Option (Rnd σ β ρ)} {k : Nat} {s : σ} {p : Flow β ρ} (h : loopN k f s = some p) : ∃ j q, k = j + 1 ∧ f s = some q ∧
    (match q with | .next s' => loopN j f s' | .brk b => some (.go b) | .out r => some (.out r)) = some p := by
  cases k with
  | zero => cases h
  | succ j =>
    obtain ⟨q, hq, h⟩ := bnd h
    exact ⟨j, q, rfl, hq, by cases q <;> exact h⟩
theorem some1 {α : Type} {x y : α} (h : some x = some y) : x = y := by cases h; rfl
end Go.Lg
namespace Go.Lg
open Go
/-! ### The frame as an association list -/
abbrev Env := List (Nat × Value)
def lk : Env → Nat → Option Value
  | [], _ => none
  | (j, v) :: r, i => bif Nat.beq j i then some v else lk r i
def ev (ρ : Env) : Operand → Option Value
  | .tmp t => lk ρ t
  | .const v => some v
  | .global g => some (.pointer (some ⟨g, 0, none⟩))
  | .func f => some (.func (.func f) #[] #[])
structure Fits (n : Nat) (ρ : Env) (a : Act) : Prop where
  defers : a.defers = []
  size : a.tmps.size = n
  get : ∀ i v, lk ρ i = some v → a.tmps[i]? = some v
theorem Fits.eval {n : Nat} {ρ : Env} {a : Act} (h : Fits n ρ a) {x : Operand} {v : Value} (hx : ev ρ x = some v) : a.eval x = v := by
  cases x with
  | tmp t => simp only [ev] at hx; have := h.get t v hx; simp only [Act.eval, Array.getD_eq_getD_getElem?, this, Option.getD_some]
  | const u => simp only [ev, Option.some.injEq] at hx; exact hx
  | global g => simp only [ev, Option.some.injEq] at hx; exact hx
  | func g => simp only [ev, Option.some.injEq] at hx; exact hx
theorem Fits.put {n d : Nat} {ρ : Env} {a : Act} (h : Fits n ρ a) (hd : Nat.blt d n = true) (v : Value) : Fits n ((d, v) :: ρ) (a.put (some d) v) := by
  have hd' : d < n := by simpa [Nat.blt_eq] using hd
  refine ⟨h.defers, by simpa [Act.put] using h.size, fun i u hu => ?_⟩
  simp only [lk] at hu
  by_cases e : d = i
  · subst e
    simp at hu
    subst hu
    simp [Act.put, h.size, hd']
  · have : Nat.beq d i = false := Bool.eq_false_iff.2 fun h => e (Nat.eq_of_beq_eq_true h)
    rw [this] at hu
    simp only [cond_false] at hu
    have := h.get i u hu
    simp only [Act.put, Array.getElem?_setIfInBounds, if_neg e]
    exact this
/-- every entry of ρ' is one of ρ -/
inductive Sub : Env → Env → Prop
  | nil {ρ : Env} : Sub [] ρ
  | cons {i : Nat} {v : Value} {ρ' ρ : Env} (h : lk ρ i = some v) (t : Sub ρ' ρ) : Sub ((i, v) :: ρ') ρ
theorem Sub.lk {ρ' ρ : Env} (h : Sub ρ' ρ) : ∀ i v, lk ρ' i = some v → lk ρ i = some v := by
  induction h with
  | nil => intro i v h; simp [Lg.lk] at h
  | @cons j u ρ' ρ hj _ ih =>
    intro i v h
    simp only [Lg.lk] at h
    by_cases e : j = i
    · subst e; simp at h; subst h; exact hj
    · have : Nat.beq j i = false := Bool.eq_false_iff.2 fun h => e (Nat.eq_of_beq_eq_true h)
      rw [this] at h
      exact ih i v h
theorem Fits.sub {n : Nat} {ρ ρ' : Env} {a : Act} (h : Fits n ρ a) (hs : Sub ρ' ρ) : Fits n ρ' a :=
  ⟨h.defers, h.size, fun i v hv => h.get i v (hs.lk i v hv)⟩
/-! ### The judgements -/
def WL (P : Program) (n : Nat) (ops : Array Oper) (Q : Exit → Act → World → Prop) (l : List Oper) (ρ : Env) (w : World) : Prop :=
  ∀ a, Fits n ρ a → wpList P ops Q l a w
def WC (P : Program) (n : Nat) (Q : Exit → Act → World → Prop) (c : Code) (ρ : Env) (w : World) : Prop :=
  ∀ a, Fits n ρ a → c.wp P Q a w
def At (n : Nat) (Q : Exit → Act → World → Prop) (e : Exit) (ρ : Env) (w : World) : Prop :=
  ∀ a, Fits n ρ a → Q e a w
section
variable {P : Program} {n : Nat} {ops : Array Oper} {Q : Exit → Act → World → Prop} {ρ : Env} {w : World}
theorem WC.seq {x y : Code} (h : WC P n (Exit.then (y.wp P Q) Q) x ρ w) : WC P n Q (Code.seq x y) ρ w := fun a ha => wp_seq (h a ha)
theorem WC.skip (h : At n Q .normal ρ w) : WC P n Q .skip ρ w := fun a ha => wp_skip (h a ha)
theorem WC.exit {id : Nat} (h : At n Q (.exit id) ρ w) : WC P n Q (.exit id) ρ w := fun a ha => wp_exit (h a ha)
theorem WC.ret (h : At n Q .ret ρ w) : WC P n Q .ret ρ w := fun a ha => wp_ret (h a ha)
theorem WC.block {id : Nat} {c : Code} (h : WC P n (Exit.inBlock id Q) c ρ w) : WC P n Q (.block id c) ρ w := fun a ha => wp_block (h a ha)
theorem WC.region {id : Nat} {l : List Oper} (h : WL P n l.toArray Q l ρ w) : WC P n Q (.region id l.toArray false) ρ w := fun a ha => wp_region_lit (h a ha)
theorem WC.condT {c : Operand} {x y : Code} (hc : ev ρ c = some (.bool true)) (h : WC P n Q x ρ w) : WC P n Q (.cond c x y) ρ w :=
  fun a ha => wp_cond_true (ha.eval hc) (h a ha)
theorem WC.condF {c : Operand} {x y : Code} (hc : ev ρ c = some (.bool false)) (h : WC P n Q y ρ w) : WC P n Q (.cond c x y) ρ w :=
  fun a ha => wp_cond_false (ha.eval hc) (h a ha)
theorem WL.nil (h : At n Q .normal ρ w) : WL P n ops Q [] ρ w := fun a ha => wpList_nil (h a ha)
theorem At.then {c : Code} (h : WC P n Q c ρ w) : At n (Exit.then (c.wp P Q) Q) .normal ρ w := fun a ha => h a ha
theorem At.thenR {K : Act → World → Prop} (h : At n Q .ret ρ w) : At n (Exit.then K Q) .ret ρ w := h
theorem At.thenX {K : Act → World → Prop} {i : Nat} (h : At n Q (.exit i) ρ w) : At n (Exit.then K Q) (.exit i) ρ w := h
theorem At.inBlock {id : Nat} (h : At n Q .normal ρ w) : At n (Exit.inBlock id Q) .normal ρ w := h
theorem At.inBlockR {id : Nat} (h : At n Q .ret ρ w) : At n (Exit.inBlock id Q) .ret ρ w := h
theorem At.inBlockHit {id : Nat} (h : At n Q .normal ρ w) : At n (Exit.inBlock id Q) (.exit id) ρ w := fun a ha => by simp only [Exit.inBlock, if_true]; exact h a ha
/-! ### Joins: what stands behind is asked once -/
def JQ (n : Nat) (Q : Exit → Act → World → Prop) {σ : Type} (I : σ → World → Prop) (env : σ → Env) : Exit → Act → World → Prop
  | .normal, a, w => ∃ s, I s w ∧ Fits n (env s) a
  | e, a, w => Q e a w
theorem WC.join {σ : Type} (I : σ → World → Prop) (env : σ → Env) {c : Code} (h : WC P n (JQ n Q I env) c ρ w) (hJ : ∀ s w', I s w' → At n Q .normal (env s) w') : WC P n Q c ρ w :=
  fun a ha => wp_mono (h a ha) fun e a' w' hq => by
    cases e with
    | normal => obtain ⟨s, hi, hf⟩ := hq; exact hJ s w' hi a' hf
    | _ => exact hq
/-- the join as a fact that is handed about: for codes with more than one way out -/
theorem At.join {σ : Type} {I : σ → World → Prop} {env : σ → Env} (s : σ) (hi : I s w) (hs : Sub (env s) ρ) : At n (JQ n Q I env) .normal ρ w := fun _ ha => ⟨s, hi, ha.sub hs⟩
theorem At.joinR {σ : Type} {I : σ → World → Prop} {env : σ → Env} (h : At n Q .ret ρ w) : At n (JQ n Q I env) .ret ρ w := h
/-! the same inside a region -/
omit w in
theorem wpList_append {Q : Exit → Act → World → Prop} {post : List Oper} : ∀ (pre : List Oper) (a : Act) (w : World),
    wpList P ops (Exit.then (wpList P ops Q post) Q) pre a w → wpList P ops Q (pre ++ post) a w
  | [], a, w, h => h
  | o :: pre, a, w, h => by
    simp only [wpList, List.cons_append] at h ⊢
    by_cases hw : Region.wanted o (yielded ops a.tmps) = true
    · simp only [hw, if_true] at h ⊢
      rcases h with h | h
      · refine .inl ?_
        unfold Oper.wp at h ⊢
        revert h
        generalize (execOp a.eval o).run P w = r
        intro h
        unfold Oper.upon at h ⊢
        split at h
        · exact wpList_append pre _ _ h
        · exact wpList_append pre _ _ h
        · exact wpList_append pre _ _ h
        · refine Calls.mono h ?_
          intro e w' h'
          cases e with
          | returned v => exact wpList_append pre _ _ h'
          | panicked c => exact h'
          | outgrown => exact h'
        · refine Rows.mono h ?_
          intro v w' h'
          exact wpList_append pre _ _ h'
        · exact h
        · exact h.elim
      · exact .inr ⟨h.1, h.2⟩
    · simp only [hw, if_false, Bool.false_eq_true] at h ⊢
      exact wpList_append pre _ _ h
theorem WL.cut {l : List Oper} (k : Nat) {σ : Type} (I : σ → World → Prop) (env : σ → Env)
    (h : WL P n ops (JQ n Q I env) (l.take k) ρ w) (hJ : ∀ s w', I s w' → WL P n ops Q (l.drop k) (env s) w') : WL P n ops Q l ρ w := by
  intro a ha
  rw [← List.take_append_drop k l]
  refine wpList_append _ _ _ ?_
  have h1 := h a ha
  have mono : ∀ (l : List Oper) (Q Q' : Exit → Act → World → Prop) (a : Act) (w : World), (∀ e a w, Q e a w → Q' e a w) → wpList P ops Q l a w → wpList P ops Q' l a w := by
    intro l Q Q'
    induction l with
    | nil => intro a w hq h; exact hq _ _ _ h
    | cons o l ih =>
      intro a w hq h
      simp only [wpList] at h ⊢
      by_cases hw : Region.wanted o (yielded ops a.tmps) = true
      · simp only [hw, if_true] at h ⊢
        rcases h with h | ⟨h1, a0, w0, h2⟩
        · refine .inl ?_
          unfold Oper.wp at h ⊢
          revert h
          generalize (execOp a.eval o).run P w = r
          intro h
          unfold Oper.upon at h ⊢
          split at h
          · exact ih _ _ hq h
          · exact ih _ _ hq h
          · exact ih _ _ hq h
          · refine Calls.mono h ?_
            intro e w' h'
            cases e with
            | returned v => exact ih _ _ hq h'
            | panicked c => exact hq _ _ _ h'
            | outgrown => obtain ⟨a0, w0, h2⟩ := h'; exact ⟨a0, w0, hq _ _ _ h2⟩
          · refine Rows.mono h ?_
            intro v w' h'
            exact ih _ _ hq h'
          · exact hq _ _ _ h
          · exact h.elim
        · exact .inr ⟨h1, a0, w0, hq _ _ _ h2⟩
      · simp only [hw, if_false, Bool.false_eq_true] at h ⊢
        exact ih _ _ hq h
  refine mono _ _ _ _ _ ?_ h1
  intro e a' w' hq
  cases e with
  | normal => obtain ⟨s, hi, hf⟩ := hq; exact hJ s w' hi a' hf
  | _ => exact hq
/-! ### Loops -/
theorem wp_loop_ex {a : Act} {c : Code} (I : Nat → Act → World → Prop) (m : Nat) (h0 : I m a w)
    (round : ∀ m a w, I m a w → c.wp P (Exit.then (fun a' w' => ∃ m', m' < m ∧ I m' a' w') Q) a w) : (Code.loop c).wp P Q a w := by
  intro b k cs
  have key : ∀ m a w, I m a w →
      ∃ e a' w', Q e a' w' ∧ Arrives P (lone (b.at a (.code c :: .inLoop c :: k)) cs w) b k cs e a' w' := by
    intro m
    induction m using Nat.strongRecOn with
    | _ m ih =>
      intro a w hI
      obtain ⟨e, a₁, w₁, hq, harr⟩ := round m a w hI b (.inLoop c :: k) cs
      cases e with
      | normal =>
        obtain ⟨m', hlt, hI₁⟩ := hq
        obtain ⟨e₂, a₂, w₂, hq₂, harr₂⟩ := ih m' hlt a₁ w₁ hI₁
        exact ⟨e₂, a₂, w₂, hq₂, .of_steps (Steps.trans harr (.one step_inLoop)) harr₂⟩
      | exit id => exact ⟨_, a₁, w₁, hq, .pass (x := .inLoop c) rfl (fun _ _ => .inl (by simp)) harr⟩
      | goto l => exact ⟨_, a₁, w₁, hq, .pass (x := .inLoop c) rfl (fun _ _ => .inl (by simp)) harr⟩
      | ret => exact ⟨_, a₁, w₁, hq, .pass (x := .inLoop c) rfl (fun _ _ => .inl (by simp)) harr⟩
      | panic ch => exact ⟨_, a₁, w₁, hq, .pass (x := .inLoop c) rfl (fun _ _ => .inl (by simp)) harr⟩
      | outgrown => exact ⟨_, a₁, w₁, hq, .pass (x := .inLoop c) rfl (fun _ _ => .inl (by simp)) harr⟩
  obtain ⟨e, a', w', hq, harr⟩ := key _ a w h0
  exact ⟨e, a', w', hq, .of_steps (.one step_loop) harr⟩
/-- behind a round: the invariant anew, at a smaller number -/
def LQ (n : Nat) (Q : Exit → Act → World → Prop) {σ : Type} (I : σ → Nat → World → Prop) (env : σ → Env) (k : Nat) : Exit → Act → World → Prop :=
  Exit.then (fun a w => ∃ k', k' < k ∧ ∃ s, I s k' w ∧ Fits n (env s) a) Q
theorem WC.loop {σ : Type} (I : σ → Nat → World → Prop) (env : σ → Env) (s : σ) (k : Nat) {c : Code} (hs : Sub (env s) ρ) (hi : I s k w)
    (h : ∀ s k w', I s k w' → WC P n (LQ n Q I env k) c (env s) w') : WC P n Q (.loop c) ρ w := by
  intro a ha
  exact wp_loop_ex (fun k a w => ∃ s, I s k w ∧ Fits n (env s) a) k ⟨s, hi, ha.sub hs⟩ fun k a w ⟨s, hi, hf⟩ => h s k w hi a hf
theorem At.round {σ : Type} {I : σ → Nat → World → Prop} {env : σ → Env} {k : Nat} (s : σ) (k' : Nat) (hk : k' < k) (hi : I s k' w) (hs : Sub (env s) ρ) :
    At n (LQ n Q I env k) .normal ρ w := fun _ ha => ⟨k', hk, s, hi, ha.sub hs⟩
theorem At.loopR {σ : Type} {I : σ → Nat → World → Prop} {env : σ → Env} {k : Nat} (h : At n Q .ret ρ w) : At n (LQ n Q I env k) .ret ρ w := h
theorem At.loopX {σ : Type} {I : σ → Nat → World → Prop} {env : σ → Env} {k i : Nat} (h : At n Q (.exit i) ρ w) : At n (LQ n Q I env k) (.exit i) ρ w := h
end
end Go.Lg
namespace Go.Lg
open Go
/-! ### Numbers as the model has them (w64, toU64 ..: LgPure) -/
theorem w64_eq (x : Int) : IntKind.i64.wrap x = w64 x := by
  simp only [IntKind.wrap, IntKind.bits, IntKind.signed, w64, Bool.true_and, ge_iff_le, decide_eq_true_eq]
  have e1 : ((2 : Int) ^ 64) = 18446744073709551616 := by decide
  have e2 : ((2 : Int) ^ (64 - 1)) = 9223372036854775808 := by decide
  rw [e1, e2]
  split <;> omega
abbrev vi (x : Int) : Value := .int .i64 x
abbrev vu (x : UInt64) : Value := .int .u64 (x.toNat : Int)
abbrev vb (x : UInt8) : Value := .int .u8 (x.toNat : Int)
abbrev vs (x : List UInt8) : Value := .string ⟨x.toArray⟩
/-- an operation that leaves the world alone and hands back v -/
def Y (P : Program) (op : Op) (ty : TypeId) (ρ : Env) (w : World) (v : Value) : Prop :=
  ∀ (a : Act) (n : Nat) (o : Oper), Fits n ρ a → o.op = op → o.type = ty → (execOp a.eval o).run P w = .ok (.value v) w
section
variable {P : Program} {n : Nat} {ops : Array Oper} {Q : Exit → Act → World → Prop} {ρ : Env} {w : World} {rest : List Oper}
variable {d : Nat} {op : Op} {ty : TypeId} {pos : String} {aft : Array Edge}
theorem WL.y {v : Value} (hy : Y P op ty ρ w v) (hd : Nat.blt d n = true) (h : WL P n ops Q rest ((d, v) :: ρ) w) : WL P n ops Q (⟨some d, op, ty, pos, aft, none⟩ :: rest) ρ w := by
  intro a ha
  refine wpList_plain rfl fun K hK => ?_
  unfold Oper.wp
  rw [hy a n _ ha rfl rfl]
  exact hK _ _ (h _ (ha.put hd v))
/-- another spelling of the value -/
theorem WL.yE {v v' : Value} (hy : Y P op ty ρ w v) (hv : v = v') (hd : Nat.blt d n = true) (h : WL P n ops Q rest ((d, v') :: ρ) w) : WL P n ops Q (⟨some d, op, ty, pos, aft, none⟩ :: rest) ρ w :=
  WL.y (hv ▸ hy) hd h
theorem yielded_of {a : Act} {l : List Oper} {j s : Nat} {b : Bool} (ha : Fits n ρ a) (hj : (l[j]?).bind (·.dst) = some s) (hs : lk ρ s = some (.bool b)) : yielded l.toArray a.tmps j = some b := by
  have h1 := ha.get s _ hs
  unfold yielded
  have : (l.toArray[j]?).bind (·.dst) = some s := by simpa using hj
  rw [this]
  simp [h1]
/-- a guard's value is parted on -/
theorem WL.part {l : List Oper} (s : Nat) {B : Bool} (hs : lk ρ s = some (.bool B)) (ht : B = true → WL P n ops Q l ((s, .bool true) :: ρ) w) (hf : B = false → WL P n ops Q l ((s, .bool false) :: ρ) w) : WL P n ops Q l ρ w := by
  have key : ∀ b, B = b → ∀ a, Fits n ρ a → Fits n ((s, .bool b) :: ρ) a := by
    rintro b rfl a ha
    refine ⟨ha.defers, ha.size, fun i v hv => ?_⟩
    simp only [lk] at hv
    by_cases e : s = i
    · subst e; simp at hv; subst hv; exact ha.get s _ hs
    · have : Nat.beq s i = false := Bool.eq_false_iff.2 fun h => e (Nat.eq_of_beq_eq_true h)
      rw [this] at hv
      exact ha.get i v hv
  intro a ha
  cases hB : B with
  | true => exact ht hB a (key _ hB a ha)
  | false => exact hf hB a (key _ hB a ha)
/-! ### The operations that leave the world alone -/
theorem Y.move {x : Operand} {v : Value} (hx : ev ρ x = some v) : Y P (.move x) ty ρ w v := by
  intro a n o ha ho _; simp [execOp, ho, ha.eval hx]
theorem Y.assign {x : Operand} {v : Value} (hx : ev ρ x = some v) : Y P (.assign x) ty ρ w v := by
  intro a n o ha ho _; simp [execOp, ho, ha.eval hx]
theorem Y.pick {c x y : Operand} {b : Bool} {v : Value} (hc : ev ρ c = some (.bool b)) (hv : ev ρ (bif b then x else y) = some v) : Y P (.pick c x y) ty ρ w v := by
  intro a n o ha ho _
  have h2 := ha.eval hv
  cases b <;> simp [execOp, ho, ha.eval hc, asBool, ← h2]
theorem Y.not {t : TypeId} {x : Operand} {b : Bool} (hx : ev ρ x = some (.bool b)) : Y P (.unOp .not t x) ty ρ w (.bool (!b)) := by
  intro a n o ha ho _; simp [execOp, ho, ha.eval hx, Op.unary]
section bin
variable {t t' : TypeId} {x y : Operand}
theorem Y.bin {k : IntKind} {a b : Int} {v : Value} {bop : BinOp} (hx : ev ρ x = some (.int k a)) (hy : ev ρ y = some (.int k b))
    (hr : (Go.binOp bop t (.int k a) (.int k b)).run P w = .ok v w) : Y P (.binOp bop t x y t') ty ρ w v := by
  intro A n o ha ho _
  simp only [execOp, ho, ha.eval hx, ha.eval hy]
  cases bop <;> simp [eqGuard, hr]
/-! i64 -/
theorem Y.add_i {a b : Int} (hx : ev ρ x = some (vi a)) (hy : ev ρ y = some (vi b)) : Y P (.binOp .add t x y t') ty ρ w (vi (w64 (a + b))) := Y.bin hx hy (by rw [← w64_eq]; rfl)
theorem Y.sub_i {a b : Int} (hx : ev ρ x = some (vi a)) (hy : ev ρ y = some (vi b)) : Y P (.binOp .sub t x y t') ty ρ w (vi (w64 (a - b))) := Y.bin hx hy (by rw [← w64_eq]; rfl)
theorem Y.mul_i {a b : Int} (hx : ev ρ x = some (vi a)) (hy : ev ρ y = some (vi b)) : Y P (.binOp .mul t x y t') ty ρ w (vi (w64 (a * b))) := Y.bin hx hy (by rw [← w64_eq]; rfl)
theorem Y.lss_i {a b : Int} (hx : ev ρ x = some (vi a)) (hy : ev ρ y = some (vi b)) : Y P (.binOp .lss t x y t') ty ρ w (.bool (decide (a < b))) := Y.bin hx hy rfl
theorem Y.leq_i {a b : Int} (hx : ev ρ x = some (vi a)) (hy : ev ρ y = some (vi b)) : Y P (.binOp .leq t x y t') ty ρ w (.bool (decide (a ≤ b))) := Y.bin hx hy rfl
theorem Y.gtr_i {a b : Int} (hx : ev ρ x = some (vi a)) (hy : ev ρ y = some (vi b)) : Y P (.binOp .gtr t x y t') ty ρ w (.bool (decide (b < a))) := Y.bin hx hy rfl
theorem Y.geq_i {a b : Int} (hx : ev ρ x = some (vi a)) (hy : ev ρ y = some (vi b)) : Y P (.binOp .geq t x y t') ty ρ w (.bool (decide (b ≤ a))) := Y.bin hx hy rfl
theorem Y.eql_i {a b : Int} (hx : ev ρ x = some (vi a)) (hy : ev ρ y = some (vi b)) : Y P (.binOp .eql t x y t') ty ρ w (.bool (decide (a = b))) :=
  Y.bin hx hy (by simp [binOp, Op.intCmp]; rfl)
theorem Y.neq_i {a b : Int} (hx : ev ρ x = some (vi a)) (hy : ev ρ y = some (vi b)) : Y P (.binOp .neq t x y t') ty ρ w (.bool (!decide (a = b))) :=
  Y.bin hx hy (by simp [binOp, Op.intCmp, bne]; rfl)
theorem Y.neg_i {a : Int} (hx : ev ρ x = some (vi a)) : Y P (.unOp .neg t x) ty ρ w (vi (w64 (0 - a))) := by
  intro A n o ha ho _; rw [← w64_eq]; simp [execOp, ho, ha.eval hx, Op.unary, Op.intArith]
/-! UInt64 -/
theorem wrap_u64 (x : Int) : IntKind.u64.wrap x = x % 18446744073709551616 := rfl
theorem wrap_u8 (x : Int) : IntKind.u8.wrap x = x % 256 := rfl
theorem Y.sub_u {a b : UInt64} (hx : ev ρ x = some (vu a)) (hy : ev ρ y = some (vu b)) : Y P (.binOp .sub t x y t') ty ρ w (vu (a - b)) :=
  Y.bin hx hy (by
    have h1 := a.toNat_lt; have h2 := b.toNat_lt
    simp only [binOp, Op.intArith, wrap_u64, vu, UInt64.toNat_sub]
    have : ((a.toNat : Int) - b.toNat) % 18446744073709551616 = (((2 ^ 64 - b.toNat + a.toNat) % 2 ^ 64 : Nat) : Int) := by omega
    simp [this])
theorem u64_lt (a b : UInt64) : decide ((a.toNat : Int) < b.toNat) = decide (a < b) := by simp [UInt64.lt_iff_toNat_lt]
theorem u64_eq (a b : UInt64) : ((a.toNat : Int) == b.toNat) = decide (a = b) := by
  by_cases h : a = b
  · simp [h]
  · have : (a.toNat : Int) ≠ b.toNat := fun e => h (UInt64.toNat_inj.1 (by omega))
    simp only [h, decide_false]; exact beq_eq_false_iff_ne.2 this
theorem Y.lss_u {a b : UInt64} (hx : ev ρ x = some (vu a)) (hy : ev ρ y = some (vu b)) : Y P (.binOp .lss t x y t') ty ρ w (.bool (decide (a < b))) :=
  Y.bin hx hy (by rw [← u64_lt]; rfl)
theorem Y.gtr_u {a b : UInt64} (hx : ev ρ x = some (vu a)) (hy : ev ρ y = some (vu b)) : Y P (.binOp .gtr t x y t') ty ρ w (.bool (decide (b < a))) :=
  Y.bin hx hy (by rw [← u64_lt]; rfl)
theorem Y.eql_u {a b : UInt64} (hx : ev ρ x = some (vu a)) (hy : ev ρ y = some (vu b)) : Y P (.binOp .eql t x y t') ty ρ w (.bool (decide (a = b))) :=
  Y.bin hx hy (by rw [← u64_eq]; rfl)
theorem Y.neq_u {a b : UInt64} (hx : ev ρ x = some (vu a)) (hy : ev ρ y = some (vu b)) : Y P (.binOp .neq t x y t') ty ρ w (.bool (!decide (a = b))) :=
  Y.bin hx hy (by rw [← u64_eq]; rfl)
theorem bv64 (a : UInt64) : BitVec.ofInt 64 (a.toNat : Int) = a.toBitVec := by
  apply BitVec.eq_of_toNat_eq
  have := a.toNat_lt
  simp only [BitVec.toNat_ofInt, UInt64.toNat_toBitVec]
  omega
theorem wrap_bv64 (v : BitVec 64) : IntKind.u64.wrap (v.toNat : Int) = v.toNat := by
  have := v.isLt; rw [wrap_u64]; omega
theorem Y.and_u {a b : UInt64} (hx : ev ρ x = some (vu a)) (hy : ev ρ y = some (vu b)) : Y P (.binOp .and t x y t') ty ρ w (vu (a &&& b)) :=
  Y.bin hx hy (by simp only [binOp, Op.intBits, IntKind.bits, vu, bv64, wrap_bv64]; rfl)
theorem Y.or_u {a b : UInt64} (hx : ev ρ x = some (vu a)) (hy : ev ρ y = some (vu b)) : Y P (.binOp .or t x y t') ty ρ w (vu (a ||| b)) :=
  Y.bin hx hy (by simp only [binOp, Op.intBits, IntKind.bits, vu, bv64, wrap_bv64]; rfl)
theorem Y.xor_u {a b : UInt64} (hx : ev ρ x = some (vu a)) (hy : ev ρ y = some (vu b)) : Y P (.binOp .xor t x y t') ty ρ w (vu (a ^^^ b)) :=
  Y.bin hx hy (by simp only [binOp, Op.intBits, IntKind.bits, vu, bv64, wrap_bv64]; rfl)
/-! UInt8 -/
theorem bv8 (a : UInt8) : BitVec.ofInt 8 (a.toNat : Int) = a.toBitVec := by
  apply BitVec.eq_of_toNat_eq
  have := a.toNat_lt
  simp only [BitVec.toNat_ofInt, UInt8.toNat_toBitVec]
  omega
theorem wrap_bv8 (v : BitVec 8) : IntKind.u8.wrap (v.toNat : Int) = v.toNat := by
  have := v.isLt; rw [wrap_u8]; omega
theorem u8_lt (a b : UInt8) : decide ((a.toNat : Int) < b.toNat) = decide (a < b) := by simp [UInt8.lt_iff_toNat_lt]
theorem u8_le (a b : UInt8) : decide ((a.toNat : Int) ≤ b.toNat) = decide (a ≤ b) := by simp [UInt8.le_iff_toNat_le]
theorem u8_eq (a b : UInt8) : ((a.toNat : Int) == b.toNat) = decide (a = b) := by
  by_cases h : a = b
  · simp [h]
  · have : (a.toNat : Int) ≠ b.toNat := fun e => h (UInt8.toNat_inj.1 (by omega))
    simp only [h, decide_false]; exact beq_eq_false_iff_ne.2 this
theorem Y.lss_b {a b : UInt8} (hx : ev ρ x = some (vb a)) (hy : ev ρ y = some (vb b)) : Y P (.binOp .lss t x y t') ty ρ w (.bool (decide (a < b))) :=
  Y.bin hx hy (by rw [← u8_lt]; rfl)
theorem Y.leq_b {a b : UInt8} (hx : ev ρ x = some (vb a)) (hy : ev ρ y = some (vb b)) : Y P (.binOp .leq t x y t') ty ρ w (.bool (decide (a ≤ b))) :=
  Y.bin hx hy (by rw [← u8_le]; rfl)
theorem Y.gtr_b {a b : UInt8} (hx : ev ρ x = some (vb a)) (hy : ev ρ y = some (vb b)) : Y P (.binOp .gtr t x y t') ty ρ w (.bool (decide (b < a))) :=
  Y.bin hx hy (by rw [← u8_lt]; rfl)
theorem Y.geq_b {a b : UInt8} (hx : ev ρ x = some (vb a)) (hy : ev ρ y = some (vb b)) : Y P (.binOp .geq t x y t') ty ρ w (.bool (decide (b ≤ a))) :=
  Y.bin hx hy (by rw [← u8_le]; rfl)
theorem Y.eql_b {a b : UInt8} (hx : ev ρ x = some (vb a)) (hy : ev ρ y = some (vb b)) : Y P (.binOp .eql t x y t') ty ρ w (.bool (decide (a = b))) :=
  Y.bin hx hy (by rw [← u8_eq]; rfl)
theorem Y.neq_b {a b : UInt8} (hx : ev ρ x = some (vb a)) (hy : ev ρ y = some (vb b)) : Y P (.binOp .neq t x y t') ty ρ w (.bool (!decide (a = b))) :=
  Y.bin hx hy (by rw [← u8_eq]; rfl)
theorem Y.and_b {a b : UInt8} (hx : ev ρ x = some (vb a)) (hy : ev ρ y = some (vb b)) : Y P (.binOp .and t x y t') ty ρ w (vb (a &&& b)) :=
  Y.bin hx hy (by simp only [binOp, Op.intBits, IntKind.bits, vb, bv8, wrap_bv8]; rfl)
theorem Y.or_b {a b : UInt8} (hx : ev ρ x = some (vb a)) (hy : ev ρ y = some (vb b)) : Y P (.binOp .or t x y t') ty ρ w (vb (a ||| b)) :=
  Y.bin hx hy (by simp only [binOp, Op.intBits, IntKind.bits, vb, bv8, wrap_bv8]; rfl)
/-! bools -/
theorem run_equalIn_bool (d : Nat) {a b : Bool} (hb : P.underlying t = some .bool) : (Op.equalIn (d + 1) t (.bool a) (.bool b)).run P w = .ok (a == b) w := by
  simp [Op.equalIn, run_underlying hb]
theorem Y.neqB {a b : Bool} (hx : ev ρ x = some (.bool a)) (hy : ev ρ y = some (.bool b)) (hb : P.underlying t = some .bool) : Y P (.binOp .neq t x y t') ty ρ w (.bool (!decide (a = b))) := by
  intro A n o ha ho _
  have : (Op.equal t (.bool a) (.bool b)).run P w = .ok (a == b) w := by
    exact run_equalIn_bool 9999 hb
  simp only [execOp, ho, ha.eval hx, ha.eval hy]
  simp [eqGuard, binOp, this]
  cases a <;> cases b <;> rfl
end bin
/-! ### shifts -/
section sh
variable {t t' : TypeId} {x y : Operand}
theorem run_shl (k yk : IntKind) (a : Int) (m : Nat) : (Op.shift .shl k a yk (m : Int)).run P w = .ok (.int k (k.wrap (a * 2 ^ min m k.bits))) w := by
  simp [Op.shift, show ¬ ((m : Int) < 0) by omega]
theorem run_shr (k yk : IntKind) (a : Int) (m : Nat) : (Op.shift .shr k a yk (m : Int)).run P w = .ok (.int k (a.fdiv (2 ^ min m k.bits))) w := by
  simp [Op.shift, show ¬ ((m : Int) < 0) by omega]
theorem Y.sh {k yk : IntKind} {a b : Int} {v : Value} {bop : BinOp} (hb : bop = .shl ∨ bop = .shr) (hx : ev ρ x = some (.int k a)) (hy : ev ρ y = some (.int yk b))
    (hr : (Op.shift bop k a yk b).run P w = .ok v w) : Y P (.binOp bop t x y t') ty ρ w v := by
  intro A n o ha ho _
  simp only [execOp, ho, ha.eval hx, ha.eval hy]
  rcases hb with rfl | rfl <;> simp [eqGuard, binOp, hr]
theorem natCast_shl (a m : Nat) : ((a : Int) * 2 ^ m) = ((a * 2 ^ m : Nat) : Int) := by simp
theorem vu_shl (a : UInt64) (m : Nat) : Value.int .u64 (IntKind.u64.wrap ((a.toNat : Int) * 2 ^ min m IntKind.u64.bits)) = vu (shlU a m) := by
  simp only [vu, shlU, IntKind.bits, natCast_shl, wrap_u64, UInt64.toNat_ofNat']; simp
theorem vu_shr (a : UInt64) (m : Nat) : Value.int .u64 (Int.fdiv (a.toNat : Int) (2 ^ min m IntKind.u64.bits)) = vu (shrU a m) := by
  have h := a.toNat_lt
  have h2 := Nat.div_le_self a.toNat (2 ^ min m 64)
  have e : (Int.fdiv (a.toNat : Int) (2 ^ min m 64)) = ((a.toNat / 2 ^ min m 64 : Nat) : Int) := by
    rw [show ((2 : Int) ^ min m 64) = ((2 ^ min m 64 : Nat) : Int) by simp]
    rw [Int.fdiv_eq_ediv_of_nonneg _ (Int.natCast_nonneg _)]; simp
  simp only [vu, shrU, IntKind.bits, e, UInt64.toNat_ofNat']
  rw [Nat.mod_eq_of_lt (Nat.lt_of_le_of_lt h2 h)]
theorem vi_shr (a : Int) (m : Nat) : Value.int .i64 (Int.fdiv a (2 ^ min m IntKind.i64.bits)) = vi (shrI a m) := by
  simp only [vi, shrI, IntKind.bits]
  rw [Int.fdiv_eq_ediv_of_nonneg _ (by exact Int.le_of_lt (Int.pow_pos (by omega)))]
/-- the count: of an unsigned kind, or of a signed one that is not below 0 -/
theorem Y.shl_uu {a : UInt64} {m : UInt64} (hx : ev ρ x = some (vu a)) (hy : ev ρ y = some (vu m)) : Y P (.binOp .shl t x y t') ty ρ w (vu (shlU a m.toNat)) :=
  Y.sh (.inl rfl) hx hy (by rw [run_shl, vu_shl])
theorem Y.shr_uu {a : UInt64} {m : UInt64} (hx : ev ρ x = some (vu a)) (hy : ev ρ y = some (vu m)) : Y P (.binOp .shr t x y t') ty ρ w (vu (shrU a m.toNat)) :=
  Y.sh (.inr rfl) hx hy (by rw [run_shr, vu_shr])
theorem Y.shr_iu {a : Int} {m : UInt64} (hx : ev ρ x = some (vi a)) (hy : ev ρ y = some (vu m)) : Y P (.binOp .shr t x y t') ty ρ w (vi (shrI a m.toNat)) :=
  Y.sh (.inr rfl) hx hy (by rw [run_shr, vi_shr])
end sh
/-! ### conversions among integers: the kinds of source and target are closed facts of the program -/
section conv
variable {s t : TypeId} {x : Operand}
theorem Y.conv {k k' : IntKind} {a : Int} {sd : TypeDesc} (hs : P.underlying s = some sd) (ht : P.underlying t = some (.int k')) (hx : ev ρ x = some (.int k a)) : Y P (.convert s t x) ty ρ w (.int k' (k'.wrap a)) := by
  intro A n o ha ho _
  simp only [execOp, ho, ha.eval hx]
  simp [convert, run_underlying hs, run_underlying ht, Conv.intToInt]
theorem toU64_toNat (a : Int) : ((toU64 a).toNat : Int) = a % 18446744073709551616 := by
  simp only [toU64, UInt64.toNat_ofNat']; omega
theorem Y.conv_iu {a : Int} {sd : TypeDesc} (hs : P.underlying s = some sd) (ht : P.underlying t = some (.int .u64)) (hx : ev ρ x = some (vi a)) : Y P (.convert s t x) ty ρ w (vu (toU64 a)) := by
  have := Y.conv (P := P) (ty := ty) (w := w) hs ht hx; simp only [wrap_u64] at this; simpa only [vu, toU64_toNat] using this
theorem Y.conv_ui {a : UInt64} {sd : TypeDesc} (hs : P.underlying s = some sd) (ht : P.underlying t = some (.int .i64)) (hx : ev ρ x = some (vu a)) : Y P (.convert s t x) ty ρ w (vi (w64 (a.toNat : Int))) := by rw [← w64_eq]; exact Y.conv hs ht hx
theorem Y.conv_ub {a : UInt64} {sd : TypeDesc} (hs : P.underlying s = some sd) (ht : P.underlying t = some (.int .u8)) (hx : ev ρ x = some (vu a)) : Y P (.convert s t x) ty ρ w (vb a.toUInt8) := by
  have := Y.conv (P := P) (ty := ty) (w := w) hs ht hx
  rw [wrap_u8, show (a.toNat : Int) % 256 = (a.toUInt8.toNat : Int) by simp] at this; exact this
theorem Y.conv_bu {a : UInt8} {sd : TypeDesc} (hs : P.underlying s = some sd) (ht : P.underlying t = some (.int .u64)) (hx : ev ρ x = some (vb a)) : Y P (.convert s t x) ty ρ w (vu a.toUInt64) := by
  have := Y.conv (P := P) (ty := ty) (w := w) hs ht hx
  have h := a.toNat_lt
  rw [wrap_u64, show (a.toNat : Int) % 18446744073709551616 = (a.toUInt64.toNat : Int) by simp; omega] at this; exact this
end conv
end
end Go.Lg
namespace Go.Lg
open Go
/-! ### Owners: each block has a label. 0: what came in and is not written; 1: made here and not written any more; others: objects -/
abbrev Own := Nat → Nat
structure Stp (L : List Nat) (O : Own) (w : World) (O' : Own) (w' : World) : Prop where
  os : w'.os = w.os
  tape : w'.tape = w.tape
  output : w'.output = w.output
  size : w.heap.size ≤ w'.heap.size
  lab : ∀ k, k < w.heap.size → O k ∉ L → O' k = O k
  low : ∀ k, k < w.heap.size → O k ≤ 9 → O' k = O k
  blk : ∀ k, k < w.heap.size → O k ∉ L → w'.heap[k]? = w.heap[k]?
theorem Stp.refl (L : List Nat) (O : Own) (w : World) : Stp L O w O w := ⟨rfl, rfl, rfl, Nat.le_refl _, fun _ _ _ => rfl, fun _ _ _ => rfl, fun _ _ _ => rfl⟩
theorem Stp.trans {L : List Nat} {O O' O'' : Own} {w w' w'' : World} (h : Stp L O w O' w') (k : Stp L O' w' O'' w'') : Stp L O w O'' w'' :=
  ⟨k.os.trans h.os, k.tape.trans h.tape, k.output.trans h.output, Nat.le_trans h.size k.size,
   fun i hi hl => by have e := h.lab i hi hl; rw [k.lab i (Nat.lt_of_lt_of_le hi h.size) (by rw [e]; exact hl), e],
   fun i hi hl => by have e := h.low i hi hl; rw [k.low i (Nat.lt_of_lt_of_le hi h.size) (by rw [e]; exact hl), e],
   fun i hi hl => by have e := h.lab i hi hl; rw [k.blk i (Nat.lt_of_lt_of_le hi h.size) (by rw [e]; exact hl), h.blk i hi hl]⟩
theorem Stp.mono {L L' : List Nat} {O O' : Own} {w w' : World} (h : Stp L O w O' w') (hs : ∀ x ∈ L, x ∈ L') : Stp L' O w O' w' :=
  ⟨h.os, h.tape, h.output, h.size, fun k hk hl => h.lab k hk (fun hm => hl (hs _ hm)), h.low, fun k hk hl => h.blk k hk (fun hm => hl (hs _ hm))⟩
/-- L ⊆ L', as a Bool -/
def sublist (L L' : List Nat) : Bool := L.all (L'.contains ·)
theorem Stp.up {L L' : List Nat} {O O' : Own} {w w' : World} (h : Stp L O w O' w') (hs : sublist L L' = true) : Stp L' O w O' w' :=
  h.mono fun x hx => by have := List.all_eq_true.1 hs x hx; simpa using this
/-- new blocks alone -/
def Ext (w w' : World) : Prop := Stp [] (fun _ => 0) w (fun _ => 0) w'
theorem Ext.refl (w : World) : Ext w w := Stp.refl _ _ _
theorem Ext.trans {w w' w'' : World} (h : Ext w w') (k : Ext w' w'') : Ext w w'' := Stp.trans h k
theorem blk_lt {w : World} {k : Nat} {o : Obj} (h : w.heap[k]? = some o) : k < w.heap.size := (Array.getElem?_eq_some_iff.1 h).1
/-- a block of one's own, its cells written out -/
structure Blk (ℓ : Nat) (O : Own) (w : World) (b : Nat) (t : TypeId) (cells : List Value) : Prop where
  lab : O b = ℓ
  blk : w.heap[b]? = some (.cells cells.toArray t (0, 0))
theorem Blk.st {ℓ : Nat} {O O' : Own} {w w' : World} {b : Nat} {t : TypeId} {cells : List Value} {L : List Nat} (h : Blk ℓ O w b t cells) (hs : Stp L O w O' w') (hl : L.contains ℓ = false) : Blk ℓ O' w' b t cells := by
  have hlt := blk_lt h.blk
  have hn : O b ∉ L := by rw [h.lab]; simpa using hl
  exact ⟨(hs.lab b hlt hn).trans h.lab, (hs.blk b hlt hn).trans h.blk⟩
/-! ### Representations: how a value's cells read as data; A: the blocks that it may read -/
structure Rep (α : Type) where
  n : Nat
  ok : World → (Nat → Prop) → List Value → α → Prop
  len : ∀ {w A cs d}, ok w A cs d → cs.length = n
  one : ∀ {w A cs d}, ok w A cs d → ∀ v ∈ cs, v.oneCell' = true
  mono : ∀ {w w' A A' cs d}, ok w A cs d → (∀ k, A k → k < w.heap.size → A' k ∧ w'.heap[k]? = w.heap[k]?) → ok w' A' cs d
def Rep.i : Rep Int := ⟨1, fun _ _ cs d => cs = [vi d], fun h => by rw [h]; rfl, fun h v hv => by rw [h] at hv; simp at hv; subst hv; rfl, fun h _ => h⟩
def Rep.u : Rep UInt64 := ⟨1, fun _ _ cs d => cs = [vu d], fun h => by rw [h]; rfl, fun h v hv => by rw [h] at hv; simp at hv; subst hv; rfl, fun h _ => h⟩
def Rep.b : Rep UInt8 := ⟨1, fun _ _ cs d => cs = [vb d], fun h => by rw [h]; rfl, fun h v hv => by rw [h] at hv; simp at hv; subst hv; rfl, fun h _ => h⟩
def Rep.B : Rep Bool := ⟨1, fun _ _ cs d => cs = [.bool d], fun h => by rw [h]; rfl, fun h v hv => by rw [h] at hv; simp at hv; subst hv; rfl, fun h _ => h⟩
def Rep.s : Rep (List UInt8) := ⟨1, fun _ _ cs d => cs = [vs d], fun h => by rw [h]; rfl, fun h v hv => by rw [h] at hv; simp at hv; subst hv; rfl, fun h _ => h⟩
def Rep.pair {α β : Type} (R : Rep α) (S : Rep β) : Rep (α × β) :=
  ⟨R.n + S.n, fun w A cs d => ∃ c1 c2, cs = c1 ++ c2 ∧ R.ok w A c1 d.1 ∧ S.ok w A c2 d.2,
   fun ⟨c1, c2, e, h1, h2⟩ => by rw [e, List.length_append, R.len h1, S.len h2],
   fun ⟨c1, c2, e, h1, h2⟩ v hv => by rw [e] at hv; exact (List.mem_append.1 hv).elim (R.one h1 v) (S.one h2 v),
   fun ⟨c1, c2, e, h1, h2⟩ hm => ⟨c1, c2, e, R.mono h1 hm, S.mono h2 hm⟩⟩
/-- by another type: a structure by its parts -/
def Rep.via {α β : Type} (R : Rep α) (f : β → α) : Rep β := ⟨R.n, fun w A cs d => R.ok w A cs (f d), R.len, R.one, R.mono⟩
/-- the cells of a row of elements -/
def Rows' {α : Type} (R : Rep α) (w : World) (A : Nat → Prop) : List Value → List α → Prop
  | cs, [] => cs = []
  | cs, x :: xs => ∃ c1 c2, cs = c1 ++ c2 ∧ R.ok w A c1 x ∧ Rows' R w A c2 xs
section
variable {α : Type} {R : Rep α}
theorem Rows'.len {w : World} {A : Nat → Prop} : ∀ {xs : List α} {cs : List Value}, Rows' R w A cs xs → cs.length = xs.length * R.n
  | [], cs, h => by rw [show cs = [] from h]; simp
  | x :: xs, cs, ⟨c1, c2, e, h1, h2⟩ => by rw [e, List.length_append, R.len h1, Rows'.len h2, List.length_cons, Nat.add_mul]; omega
theorem Rows'.one {w : World} {A : Nat → Prop} : ∀ {xs : List α} {cs : List Value}, Rows' R w A cs xs → ∀ v ∈ cs, v.oneCell' = true
  | [], cs, h, v, hv => by rw [show cs = [] from h] at hv; simp at hv
  | x :: xs, cs, ⟨c1, c2, e, h1, h2⟩, v, hv => by rw [e] at hv; exact (List.mem_append.1 hv).elim (R.one h1 v) (Rows'.one h2 v)
theorem Rows'.mono {w w' : World} {A A' : Nat → Prop} (hm : ∀ k, A k → k < w.heap.size → A' k ∧ w'.heap[k]? = w.heap[k]?) : ∀ {xs : List α} {cs : List Value}, Rows' R w A cs xs → Rows' R w' A' cs xs
  | [], cs, h => h
  | x :: xs, cs, ⟨c1, c2, e, h1, h2⟩ => ⟨c1, c2, e, R.mono h1 hm, Rows'.mono hm h2⟩
theorem Rows'.append {w : World} {A : Nat → Prop} {ys : List α} {ds : List Value} (k : Rows' R w A ds ys) : ∀ {xs : List α} {cs : List Value}, Rows' R w A cs xs → Rows' R w A (cs ++ ds) (xs ++ ys)
  | [], cs, h => by rw [show cs = [] from h]; exact k
  | x :: xs, cs, ⟨c1, c2, e, h1, h2⟩ => ⟨c1, c2 ++ ds, by rw [e, List.append_assoc], h1, Rows'.append k h2⟩
theorem Rows'.get {w : World} {A : Nat → Prop} : ∀ {xs : List α} {cs : List Value} (i : Nat) (x : α), Rows' R w A cs xs → xs[i]? = some x → R.ok w A ((cs.drop (i * R.n)).take R.n) x
  | [], cs, i, x, h, hx => by simp at hx
  | y :: xs, cs, 0, x, ⟨c1, c2, e, h1, h2⟩, hx => by
    simp at hx; subst hx
    have := R.len h1
    rw [e, Nat.zero_mul, List.drop_zero, ← this, List.take_left]; exact h1
  | y :: xs, cs, i + 1, x, ⟨c1, c2, e, h1, h2⟩, hx => by
    have := R.len h1
    have h3 := Rows'.get i x h2 (by simpa using hx)
    rw [e, show (i + 1) * R.n = c1.length + i * R.n by rw [Nat.add_mul, this]; omega, List.drop_append]
    simpa [List.drop_eq_nil_of_le] using h3
theorem Rows'.drop {w : World} {A : Nat → Prop} : ∀ (k : Nat) {xs : List α} {cs : List Value}, Rows' R w A cs xs → Rows' R w A (cs.drop (k * R.n)) (xs.drop k)
  | 0, xs, cs, h => by simpa using h
  | k + 1, [], cs, h => by rw [show cs = [] from h]; simp [Rows']
  | k + 1, x :: xs, cs, ⟨c1, c2, e, h1, h2⟩ => by
    have := R.len h1
    rw [e, show (k + 1) * R.n = c1.length + k * R.n by rw [Nat.add_mul, this]; omega, List.drop_append]
    simpa [List.drop_eq_nil_of_le] using Rows'.drop k h2
theorem Rows'.take {w : World} {A : Nat → Prop} : ∀ (k : Nat) {xs : List α} {cs : List Value}, Rows' R w A cs xs → Rows' R w A (cs.take (k * R.n)) (xs.take k)
  | 0, xs, cs, h => by simp [Rows']
  | k + 1, [], cs, h => by rw [show cs = [] from h]; simp [Rows']
  | k + 1, x :: xs, cs, ⟨c1, c2, e, h1, h2⟩ => by
    have := R.len h1
    rw [e, show (k + 1) * R.n = c1.length + k * R.n by rw [Nat.add_mul, this]; omega, List.take_append]
    refine ⟨c1, c2.take (k * R.n), ?_, h1, Rows'.take k h2⟩
    rw [List.take_of_length_le (by omega)]; simp
theorem Rows'.set {w : World} {A : Nat → Prop} {c : List Value} {y : α} (hc : R.ok w A c y) : ∀ {xs : List α} {cs : List Value} (i : Nat), Rows' R w A cs xs → i < xs.length →
    Rows' R w A (cs.take (i * R.n) ++ c ++ cs.drop ((i + 1) * R.n)) (xs.set i y)
  | [], cs, i, h, hi => by simp at hi
  | x :: xs, cs, 0, ⟨c1, c2, e, h1, h2⟩, hi => by
    have := R.len h1
    rw [e]; simp only [Nat.zero_mul, List.take_zero, List.nil_append, List.set_cons_zero, Nat.zero_add, Nat.one_mul]
    rw [← this, List.drop_left]
    exact ⟨c, c2, rfl, hc, h2⟩
  | x :: xs, cs, i + 1, ⟨c1, c2, e, h1, h2⟩, hi => by
    have := R.len h1
    have ih := Rows'.set hc i h2 (by simpa using hi)
    rw [e, show (i + 1) * R.n = c1.length + i * R.n by rw [Nat.add_mul, this]; omega, show (i + 1 + 1) * R.n = c1.length + (i + 1) * R.n by rw [Nat.add_mul (i + 1), this]; omega,
      List.take_append, List.drop_append]
    simp only [List.set_cons_succ]
    refine ⟨c1, _, ?_, h1, ih⟩
    rw [List.take_of_length_le (by omega), List.drop_eq_nil_of_le (by omega)]
    simp [List.append_assoc]
end
/-- a slice that reads as a list -/
def Sl {α : Type} (R : Rep α) (w : World) (A : Nat → Prop) (v : Value) (xs : List α) : Prop :=
  (v = .slice none 0 0 ∧ xs = []) ∨ (∃ q c, v = .slice (some q) 0 c ∧ xs = []) ∨
  ∃ b off cap cells t fr, v = .slice (some ⟨b, off, none⟩) xs.length cap ∧ A b ∧ w.heap[b]? = some (.cells cells t fr) ∧ xs.length ≤ cap ∧
    (off + xs.length * R.n ≤ cells.size) ∧ Rows' R w A ((cells.toList.drop off).take (xs.length * R.n)) xs
theorem Sl.mono {α : Type} {R : Rep α} {w w' : World} {A A' : Nat → Prop} {v : Value} {xs : List α} (h : Sl R w A v xs) (hm : ∀ k, A k → k < w.heap.size → A' k ∧ w'.heap[k]? = w.heap[k]?) : Sl R w' A' v xs := by
  rcases h with h | h | ⟨b, off, cap, cells, t, fr, e, ha, hb, hc, hs, hr⟩
  · exact .inl h
  · exact .inr (.inl h)
  · obtain ⟨h1, h2⟩ := hm b ha (blk_lt hb)
    exact .inr <| .inr ⟨b, off, cap, cells, t, fr, e, h1, h2.trans hb, hc, hs, Rows'.mono hm hr⟩
def Rep.sl {α : Type} (R : Rep α) : Rep (List α) :=
  ⟨1, fun w A cs d => ∃ v, cs = [v] ∧ Sl R w A v d, fun ⟨v, e, _⟩ => by rw [e]; rfl,
   fun ⟨v, e, h⟩ u hu => by rw [e] at hu; simp at hu; subst hu; rcases h with ⟨rfl, _⟩ | ⟨q, c, rfl, _⟩ | ⟨b, off, cap, cells, t, fr, rfl, _⟩ <;> rfl,
   fun ⟨v, e, h⟩ hm => ⟨v, e, h.mono hm⟩⟩
/-- what may be read and is not written while O stands: label 0 or 1; fresh: label 1 -/
def imm (O : Own) : Nat → Prop := fun k => O k ≤ 1
def frs (O : Own) : Nat → Prop := fun k => O k = 1
theorem imm_st {L : List Nat} {O O' : Own} {w w' : World} (hs : Stp L O w O' w') (h0 : L.contains 0 = false) (h1 : L.contains 1 = false) : ∀ k, imm O k → k < w.heap.size → imm O' k ∧ w'.heap[k]? = w.heap[k]? := by
  intro k hk hlt
  have hn : O k ∉ L := by
    have : O k = 0 ∨ O k = 1 := by unfold imm at hk; omega
    rcases this with e | e
    · rw [e]; simpa using h0
    · rw [e]; simpa using h1
  exact ⟨by unfold imm at *; rw [hs.lab k hlt hn]; exact hk, hs.blk k hlt hn⟩
theorem frs_st {L : List Nat} {O O' : Own} {w w' : World} (hs : Stp L O w O' w') (h1 : L.contains 1 = false) : ∀ k, frs O k → k < w.heap.size → frs O' k ∧ w'.heap[k]? = w.heap[k]? := by
  intro k hk hlt
  have hn : O k ∉ L := by unfold frs at hk; rw [hk]; simpa using h1
  exact ⟨by unfold frs at *; rw [hs.lab k hlt hn]; exact hk, hs.blk k hlt hn⟩
theorem frs_imm {O : Own} {w : World} : ∀ k, frs O k → k < w.heap.size → imm O k ∧ w.heap[k]? = w.heap[k]? := fun k h _ => ⟨by unfold frs imm at *; omega, rfl⟩
/-! ### Rows of one's own: they may grow and be written -/
def OwnSl {α : Type} (ℓ : Nat) (R : Rep α) (e : TypeId) (O : Own) (w : World) (v : Value) (xs : List α) : Prop :=
  ∃ cs, w.ownsRow 0 e R.n v xs.length cs ∧ Rows' R w (imm O) cs xs ∧ ∀ b, v.ownBlock = some b → O b = ℓ
theorem OwnSl.st {α : Type} {ℓ : Nat} {R : Rep α} {e : TypeId} {O O' : Own} {w w' : World} {v : Value} {xs : List α} {L : List Nat} (h : OwnSl ℓ R e O w v xs) (hs : Stp L O w O' w')
    (hl : L.contains ℓ = false) (h0 : L.contains 0 = false) (h1 : L.contains 1 = false) : OwnSl ℓ R e O' w' v xs := by
  obtain ⟨cs, ho, hr, hb⟩ := h
  refine ⟨cs, ⟨ho.1, ?_⟩, Rows'.mono (imm_st hs h0 h1) hr, fun b hv => ?_⟩
  · rcases ho.2 with hn | ⟨g, cap, cur, rfl, hbg, hg, rest⟩
    · exact .inl hn
    · refine .inr ⟨g, cap, cur, rfl, hbg, ?_, rest⟩
      rw [hs.blk g (blk_lt hg) (by rw [hb g rfl]; simpa using hl)]; exact hg
  · have := hb b hv
    rw [hs.lab b (ho.lt b hv).2 (by rw [this]; simpa using hl)]; exact this
/-- a slice whose cells may be read now: what an append takes -/
def Src {α : Type} (R : Rep α) (O : Own) (w : World) (u : Value) (ys : List α) : Prop :=
  (u = .slice none 0 0 ∧ ys = []) ∨ (∃ q c, u = .slice (some q) 0 c ∧ ys = []) ∨ ∃ b off cap cells t fr, u = .slice (some ⟨b, off, none⟩) ys.length cap ∧ w.heap[b]? = some (.cells cells t fr) ∧ ys.length ≤ cap ∧
    (off + ys.length * R.n ≤ cells.size) ∧ Rows' R w (imm O) ((cells.toList.drop off).take (ys.length * R.n)) ys
theorem Sl.src {α : Type} {R : Rep α} {O : Own} {w : World} {u : Value} {ys : List α} (h : Sl R w (imm O) u ys) : Src R O w u ys := by
  rcases h with h | h | ⟨b, off, cap, cells, t, fr, e, _, hb, hc, hs, hr⟩
  · exact .inl h
  · exact .inr (.inl h)
  · exact .inr <| .inr ⟨b, off, cap, cells, t, fr, e, hb, hc, hs, hr⟩
/-- what reads alike in every memory: numbers, bools, texts and structures of these -/
def Flat {α : Type} (R : Rep α) : Prop := ∀ {w w' A A' cs d}, R.ok w A cs d → R.ok w' A' cs d
theorem Flat.u : Flat Rep.u := fun h => h
theorem Flat.b : Flat Rep.b := fun h => h
theorem Flat.s : Flat Rep.s := fun h => h
theorem Flat.pair {α β : Type} {R : Rep α} {S : Rep β} (h : Flat R) (k : Flat S) : Flat (Rep.pair R S) := fun ⟨c1, c2, e, h1, h2⟩ => ⟨c1, c2, e, h h1, k h2⟩
theorem Flat.via {α β : Type} {R : Rep α} (h : Flat R) (f : β → α) : Flat (Rep.via R f) := fun {_ _ _ _ _ d} h' => h (d := f d) h'
theorem Flat.rows {α : Type} {R : Rep α} (hf : Flat R) {w w' : World} {A A' : Nat → Prop} : ∀ {xs : List α} {cs : List Value}, Rows' R w A cs xs → Rows' R w' A' cs xs
  | [], _, h => h
  | _ :: _, _, ⟨c1, c2, e, h1, h2⟩ => ⟨c1, c2, e, hf h1, hf.rows h2⟩
theorem OwnSl.src {α : Type} {ℓ : Nat} {R : Rep α} {e : TypeId} {O : Own} {w : World} {u : Value} {ys : List α} (h : OwnSl ℓ R e O w u ys) : Src R O w u ys := by
  obtain ⟨cs, ⟨hl, ho⟩, hr, hb⟩ := h
  rcases ho with ⟨rfl, hn⟩ | ⟨g, cap, cur, rfl, hbg, hg, hc, hm, hz, ht⟩
  · exact .inl ⟨rfl, List.eq_nil_of_length_eq_zero hn⟩
  · refine .inr <| .inr ⟨g, 0, cap, cur, e, (0, 0), rfl, hg, hc, ?_, ?_⟩
    · rw [hz, Nat.zero_add]; exact Nat.mul_le_mul_right _ hc
    · rw [List.drop_zero, ht]; exact hr
/-- read as a slice: of whatever blocks -/
theorem Src.sl {α : Type} {R : Rep α} {O : Own} {w : World} {u : Value} {ys : List α} (h : Src R O w u ys) : Sl R w (fun _ => True) u ys := by
  rcases h with h | h | ⟨b, off, cap, cells, t, fr, e, hb, hc, hs, hr⟩
  · exact .inl h
  · exact .inr (.inl h)
  · exact .inr <| .inr ⟨b, off, cap, cells, t, fr, e, trivial, hb, hc, hs, Rows'.mono (fun _ _ _ => ⟨trivial, rfl⟩) hr⟩
theorem Sl.all {α : Type} {R : Rep α} {w : World} {A : Nat → Prop} {u : Value} {ys : List α} (h : Sl R w A u ys) : Sl R w (fun _ => True) u ys :=
  h.mono fun _ _ _ => ⟨trivial, rfl⟩
/-- an object's label is given up: what it holds is not written any more -/
def frz (ℓ : Nat) (O : Own) : Own := fun k => if O k = ℓ then 1 else O k
theorem frz_st (ℓ : Nat) (hℓ : 10 ≤ ℓ) (O : Own) (w : World) : Stp [ℓ] O w (frz ℓ O) w :=
  ⟨rfl, rfl, rfl, Nat.le_refl _, fun k _ hl => by simp at hl; simp [frz, hl], fun k _ hl => by unfold frz; rw [if_neg (by omega)], fun _ _ _ => rfl⟩
theorem OwnSl.frzF {α : Type} {ℓ : Nat} {R : Rep α} {e : TypeId} {O : Own} {w : World} {u : Value} {ys : List α} (hf : Flat R) (h : OwnSl ℓ R e O w u ys) : Sl R w (frs (frz ℓ O)) u ys := by
  obtain ⟨cs, ⟨hl, ho⟩, hr, hb⟩ := h
  rcases ho with ⟨rfl, hn⟩ | ⟨g, cap, cur, rfl, hbg, hg, hc, hm, hz, ht⟩
  · exact .inl ⟨rfl, List.eq_nil_of_length_eq_zero hn⟩
  · refine .inr <| .inr ⟨g, 0, cap, cur, e, (0, 0), rfl, by simp [frs, frz, hb g rfl], hg, hc, ?_, ?_⟩
    · rw [hz, Nat.zero_add]; exact Nat.mul_le_mul_right _ hc
    · rw [List.drop_zero, ht]; exact hf.rows hr
end Go.Lg
namespace Go.Lg
open Go
/-! ### Closed facts of a program's types -/
structure TyOk (P : Program) (t : TypeId) (d : TypeDesc) (size bytes : Nat) (zero : Value) : Prop where
  u : P.underlying t = some d
  i : ∃ i, P.info? t = some i ∧ i.zero = some zero ∧ i.size = size ∧ i.bytes = bytes
theorem tyOk {P : Program} {t : TypeId} {d : TypeDesc} {size bytes : Nat} {zero : Value} (hu : P.underlying t = some d) (hi : (P.info? t).map (fun i => (i.zero, i.size, i.bytes)) = some (some zero, size, bytes)) : TyOk P t d size bytes zero :=
  ⟨hu, info_parts hi⟩
theorem TyOk.size {P : Program} {t : TypeId} {d : TypeDesc} {size bytes : Nat} {zero : Value} (h : TyOk P t d size bytes zero) {w : World} : (sizeOf t).run P w = .ok size w := by
  obtain ⟨i, hi, _, hs, _⟩ := h.i
  simp [sizeOf, typeInfo, hi, hs]
def isAggD : TypeDesc → Bool
  | .struct _ | .array _ _ => true
  | _ => false
def FieldOk (P : Program) (s : TypeId) (f off : Nat) : Prop := ∀ (b o : Nat) (w : World), (Instr.fieldAt s (.pointer (some ⟨b, o, none⟩)) f).run P w = .ok (.pointer (some ⟨b, o + off, none⟩)) w
theorem Addr_add (b o n : Nat) : (⟨b, o, none⟩ : Addr).add n = ⟨b, o + n, none⟩ := by unfold Addr.add; split <;> simp_all
theorem fieldOk {P : Program} {s : TypeId} {f off : Nat} {fs : Array Field} {fld : Field} (hu : P.underlying s = some (.struct fs)) (hf : fs[f]? = some fld) (ho : fld.offset = off)
    (hz : ((P.info? fld.type).map fun i => i.size != 0) = some true) : FieldOk P s f off := by
  intro b o w
  obtain ⟨i, hi, hi2⟩ := Option.map_eq_some_iff.1 hz
  have : i.size ≠ 0 := by simpa using hi2
  simp [Instr.fieldAt, run_underlying hu, hf, Instr.sureAddr, fieldPlace, sizeOf, typeInfo, hi, this, Addr_add, ho]
def CallOk (P : Program) (f : FuncId) : Prop := ∀ (args : Array Value) (w : World), (callFunc f args).run P w = .ok (.enter f args) w
theorem callOk {P : Program} {f : FuncId} {fn : Func} (hf : P.funcs[f]? = some fn) (hn : (fn.name == "runtime.NumGoroutine") = false) (hb : fn.body.isNone = false) : CallOk P f := by
  intro args w
  have hn' : ¬ (fn.name = "runtime.NumGoroutine") := by simpa using hn
  have hb' : ¬ (fn.body = none) := fun e => by simp [e] at hb
  simp [callFunc, hf, hn', hb']
/-! ### Reading and writing cells -/
/-- from place off on, block b holds these cells -/
def CellsAt (w : World) (b off : Nat) (cs : List Value) : Prop := ∃ cells t fr, w.heap[b]? = some (.cells cells t fr) ∧ (cells.toList.drop off).take cs.length = cs
theorem CellsAt.cell {w : World} {b off : Nat} {cs : List Value} (h : CellsAt w b off cs) : ∀ j v, cs[j]? = some v → w.cell? ((⟨b, off, none⟩ : Addr).add j) = some v := by
  obtain ⟨cells, t, fr, hb, hc⟩ := h
  intro j v hj
  rw [Addr_add]
  have : w.cell? ⟨b, off + j, none⟩ = cells[off + j]? := by simp [World.cell?, hb]
  rw [this]
  rw [← hc] at hj
  have hj2 := (List.getElem?_eq_some_iff.1 hj).1
  simp only [List.length_take] at hj2
  rw [List.getElem?_take, if_pos (by omega), List.getElem?_drop] at hj
  simpa using hj
theorem Blk.cells {ℓ : Nat} {O : Own} {w : World} {b : Nat} {t : TypeId} {cells : List Value} (h : Blk ℓ O w b t cells) (off : Nat) (cs : List Value) (hc : (cells.drop off).take cs.length = cs) : CellsAt w b off cs :=
  ⟨_, _, _, h.blk, by simpa using hc⟩
theorem Blk.cell {ℓ : Nat} {O : Own} {w : World} {b : Nat} {t : TypeId} {cells : List Value} (h : Blk ℓ O w b t cells) (off : Nat) (v : Value) (hc : cells[off]? = some v) : CellsAt w b off [v] :=
  ⟨_, _, _, h.blk, by
    have := (List.getElem?_eq_some_iff.1 hc)
    simp only [List.length_singleton]
    obtain ⟨h1, h2⟩ := this
    show List.take 1 (List.drop off cells) = [v]
    rw [List.drop_eq_getElem_cons h1, h2]
    rfl⟩
section
variable {P : Program} {w : World}
theorem run_loadSc {t : TypeId} {d : TypeDesc} {size bytes : Nat} {z : Value} (ht : TyOk P t d size bytes z) (hd : isAggD d = false) {b off : Nat} {v : Value} (hc : CellsAt w b off [v]) :
    (Instr.loadAt t (.pointer (some ⟨b, off, none⟩))).run P w = .ok v w := by
  have h := hc.cell 0 v rfl
  simp only [Addr_add, Nat.add_zero] at h
  have hg : (isAgg t).run P w = .ok false w := by
    simp only [isAgg, Sem.run_bind, run_underlying ht.u, Result.andThen_ok]
    cases d <;> first | rfl | simp [isAggD] at hd
  simp only [Instr.loadAt, Instr.sureAddr, loadVar, Sem.run_bind, Sem.run_pure, Result.andThen_ok, hg, Bool.false_eq_true, if_false, run_load, h]
theorem run_loadAg {t : TypeId} {d : TypeDesc} {size bytes : Nat} {z : Value} (ht : TyOk P t d size bytes z) (hd : isAggD d = true) {b off : Nat} {cs : List Value} (hc : CellsAt w b off cs) (hl : cs.length = size) :
    (Instr.loadAt t (.pointer (some ⟨b, off, none⟩))).run P w = .ok (.agg cs.toArray) w := by
  obtain ⟨i, hi, _, hs, _⟩ := ht.i
  have hg : (isAgg t).run P w = .ok true w := by
    simp only [isAgg, Sem.run_bind, run_underlying ht.u, Result.andThen_ok]
    cases d <;> first | rfl | simp [isAggD] at hd
  have h1 := run_loadCells_list (P := P) w ⟨b, off, none⟩ cs hc.cell
  rw [hl] at h1
  simp only [Instr.loadAt, Instr.sureAddr, loadVar, Sem.run_bind, Sem.run_pure, Result.andThen_ok, hg, if_true, ht.size, h1]
/-- the cells behind a store -/
def splice (cells : List Value) (off : Nat) (cs : List Value) : List Value := cells.take off ++ cs ++ cells.drop (off + cs.length)
theorem run_storeAt {t : TypeId} {d : TypeDesc} {size bytes : Nat} {z : Value} (ht : TyOk P t d size bytes z) {b off : Nat} {v : Value} {T : TypeId} {cells : List Value}
    (hb : w.heap[b]? = some (.cells cells.toArray T (0, 0))) (hl : v.cells.size = size) (ho : off + size ≤ cells.length) (h1 : ∀ u ∈ v.cells.toList, u.oneCell' = true) :
    (Instr.storeAt t (.pointer (some ⟨b, off, none⟩)) v).run P w = .ok () (w.setRow b (splice cells off v.cells.toList).toArray) := by
  have h2 := run_storeCells_at P b off T v.cells.toList 0 cells.toArray w hb (by simp; omega) h1
  simp only [Nat.add_zero] at h2
  simp only [Instr.storeAt, Instr.sureAddr, storeVar, Sem.run_bind, Sem.run_pure, Result.andThen_ok, ht.size, hl, ne_eq, not_true_eq_false, if_false, h2]
  rfl
theorem Blk.set {ℓ : Nat} {O : Own} {b : Nat} {T : TypeId} {cells cells' : List Value} (h : Blk ℓ O w b T cells) : Blk ℓ O (w.setRow b cells'.toArray) b T cells' :=
  ⟨h.lab, setRow_heap w b _ _ _ _ h.blk⟩
theorem stp_setRow {ℓ : Nat} {O : Own} {b : Nat} (hl : O b = ℓ) (cs : Array Value) : Stp [ℓ] O w O (w.setRow b cs) :=
  ⟨rfl, rfl, rfl, by simp, fun _ _ _ => rfl, fun _ _ _ => rfl, fun k _ hn => setRow_other w b k cs (fun e => hn (by subst e; simp [hl]))⟩
/-- a new block and its label -/
def upd (O : Own) (b ℓ : Nat) : Own := fun k => if k = b then ℓ else O k
theorem stp_alloc {O : Own} (o : Obj) (ℓ : Nat) : Stp [] O w (upd O w.heap.size ℓ) (w.alloc o) :=
  ⟨rfl, rfl, rfl, by show _ ≤ (w.heap.push o).size; simp, fun k hk _ => by simp [upd, Nat.ne_of_lt hk], fun k hk _ => by simp [upd, Nat.ne_of_lt hk], fun k hk _ => heap_alloc_old w o hk⟩
theorem stp_drew {O : Own} : Stp [] O w O w.drew := ⟨rfl, rfl, rfl, Nat.le_refl _, fun _ _ _ => rfl, fun _ _ _ => rfl, fun _ _ _ => rfl⟩
theorem blk_alloc {O : Own} (ℓ : Nat) (T : TypeId) (cells : List Value) : Blk ℓ (upd O w.heap.size ℓ) (w.alloc (.cells cells.toArray T)) w.heap.size T cells :=
  ⟨by simp [upd], heap_alloc_new w _⟩
end
/-! ### The rules -/
section rules
variable {P : Program} {n : Nat} {ops : Array Oper} {Q : Exit → Act → World → Prop} {ρ : Env} {w : World} {rest : List Oper} {O : Own}
variable {d : Nat} {ty : TypeId} {pos : String} {aft : Array Edge}
theorem Y.nilCheck {x : Operand} {a : Addr} (hx : ev ρ x = some (.pointer (some a))) : Y P (.nilCheck x) ty ρ w (.pointer (some a)) := by
  intro A n o ha ho _; simp [execOp, ho, ha.eval hx]
theorem Y.fieldAddr {s f off : Nat} {x : Operand} {b o : Nat} (hf : FieldOk P s f off) (hx : ev ρ x = some (.pointer (some ⟨b, o, none⟩))) : Y P (.fieldAddr s x f) ty ρ w (.pointer (some ⟨b, o + off, none⟩)) := by
  intro A n o' ha ho _; simp [execOp, ho, ha.eval hx, hf b o w]
theorem Y.loadSc {t : TypeId} {td : TypeDesc} {size bytes : Nat} {z : Value} {x : Operand} {b off : Nat} {v : Value} (ht : TyOk P t td size bytes z) (hd : isAggD td = false)
    (hx : ev ρ x = some (.pointer (some ⟨b, off, none⟩))) (hc : CellsAt w b off [v]) : Y P (.load t x) ty ρ w v := by
  intro A n o ha ho _; simp [execOp, ho, ha.eval hx, run_loadSc ht hd hc]
theorem Y.loadAg {t : TypeId} {td : TypeDesc} {size bytes : Nat} {z : Value} {x : Operand} {b off : Nat} {cs : List Value} (ht : TyOk P t td size bytes z) (hd : isAggD td = true)
    (hx : ev ρ x = some (.pointer (some ⟨b, off, none⟩))) (hc : CellsAt w b off cs) (hl : cs.length = size) : Y P (.load t x) ty ρ w (.agg cs.toArray) := by
  intro A n o ha ho _; simp [execOp, ho, ha.eval hx, run_loadAg ht hd hc hl]
theorem Y.build {t : TypeId} {parts : Array (Nat × Operand)} {vals : List (Nat × Value)} {cells : List Value} (hv : ∀ a n, Fits n ρ a → (parts.map fun (i, x) => (i, a.eval x)) = vals.toArray) (hb : P.built t vals = some cells.toArray) :
    Y P (.build t parts) ty ρ w (.agg cells.toArray) := by
  intro A n o ha ho _
  have := run_build (P := P) w t vals.toArray cells.toArray hb
  simp only [execOp, ho, hv A n ha, Sem.run_bind, this, Result.andThen_ok, Sem.run_pure]
theorem Y.extract {x : Operand} {i : Nat} {vs : Array Value} {v : Value} (hx : ev ρ x = some (.tuple vs)) (hv : vs[i]? = some v) : Y P (.extract x i) ty ρ w v := by
  intro A n o ha ho _; simp [execOp, ho, ha.eval hx, Instr.extract, hv]
theorem Sl.at {α : Type} {R : Rep α} {A : Nat → Prop} {v : Value} {xs : List α} {i : Int} {x : α} (h : Sl R w A v xs) (hi : idx xs i = some x) :
    ∃ b off cap cs, v = .slice (some ⟨b, off, none⟩) xs.length cap ∧ 0 ≤ i ∧ i < xs.length ∧ CellsAt w b (off + i.toNat * R.n) cs ∧ cs.length = R.n ∧ R.ok w A cs x := by
  unfold idx at hi
  split at hi
  case isFalse => cases hi
  rename_i h0
  have hlt := (List.getElem?_eq_some_iff.1 hi).1
  rcases h with ⟨_, rfl⟩ | ⟨_, _, _, rfl⟩ | ⟨b, off, cap, cells, t, fr, e, ha, hb, hc, hs, hr⟩
  · simp at hi
  · simp at hi
  · have hg := Rows'.get i.toNat x hr hi
    have hle : (i.toNat + 1) * R.n ≤ xs.length * R.n := Nat.mul_le_mul_right _ hlt
    rw [Nat.add_mul, Nat.one_mul] at hle
    refine ⟨b, off, cap, _, e, h0, by omega, ⟨cells, t, fr, hb, ?_⟩, R.len hg, hg⟩
    rw [R.len hg, List.drop_take, List.take_take, Nat.min_eq_left (by omega), List.drop_drop]
theorem Y.indexAddr {t e : TypeId} {size bytes size' bytes' : Nat} {z z' : Value} {ed : TypeDesc} {x y : Operand} {k : IntKind} {i : Int} {v : Value} {b off len cap : Nat}
    (ht : TyOk P t (.slice e) size bytes z) (he : TyOk P e ed size' bytes' z') (hx : ev ρ x = some v) (hv : v = .slice (some ⟨b, off, none⟩) len cap) (hy : ev ρ y = some (.int k i)) (h0 : 0 ≤ i) (hl : i < len) :
    Y P (.indexAddr t x y) ty ρ w (.pointer (some ⟨b, off + i.toNat * size', none⟩)) := by
  intro A n o ha ho _
  subst hv
  simp [execOp, ho, ha.eval hx, ha.eval hy, Instr.indexAt, asIntOf, run_underlying ht.u, h0, hl, he.size, Addr_add]
theorem Y.len {t e : TypeId} {size bytes : Nat} {z : Value} {x : Operand} {v : Value} {α : Type} {R : Rep α} {A : Nat → Prop} {xs : List α}
    (ht : TyOk P t (.slice e) size bytes z) (hx : ev ρ x = some v) (h : Sl R w A v xs) : Y P (.call { callee := .builtin .len, args := #[x], argTypes := #[t] }) ty ρ w (vi (xs.length : Int)) := by
  intro a n o ha ho _
  have : ∃ q cap, v = .slice q xs.length cap := by
    rcases h with ⟨rfl, rfl⟩ | ⟨q, c, rfl, rfl⟩ | ⟨b, off, cap, cells, t, fr, e, _⟩
    · exact ⟨_, _, rfl⟩
    · exact ⟨_, _, rfl⟩
    · exact ⟨_, _, e⟩
  obtain ⟨q, cap, rfl⟩ := this
  simp [execOp, ho, resolve, invoke, builtin, ha.eval hx, Builtin.len_, run_underlying ht.u, goInt]
theorem Y.len_s {t : TypeId} {size bytes : Nat} {z : Value} {x : Operand} {xs : List UInt8}
    (ht : TyOk P t .string size bytes z) (hx : ev ρ x = some (vs xs)) : Y P (.call { callee := .builtin .len, args := #[x], argTypes := #[t] }) ty ρ w (vi (xs.length : Int)) := by
  intro a n o ha ho _
  have hx' := ha.eval hx
  have e : ByteArray.size ⟨xs.toArray⟩ = xs.length := by simp [ByteArray.size]
  simp [execOp, ho, resolve, invoke, builtin, hx', Builtin.len_, run_underlying ht.u, goInt, e]
theorem Y.index_s {t : TypeId} {size bytes : Nat} {z : Value} {x y : Operand} {k : IntKind} {i : Int} {xs : List UInt8} {c : UInt8}
    (ht : TyOk P t .string size bytes z) (hx : ev ρ x = some (vs xs)) (hy : ev ρ y = some (.int k i)) (h : idx xs i = some c) : Y P (.index t x y) ty ρ w (vb c) := by
  intro a n o ha ho _
  unfold idx at h
  split at h
  case isFalse => cases h
  rename_i h0
  have e : (⟨xs.toArray⟩ : ByteArray)[i.toNat]? = some c := by
    have hlt := (List.getElem?_eq_some_iff.1 h)
    obtain ⟨h1, h2⟩ := hlt
    have : i.toNat < ByteArray.size ⟨xs.toArray⟩ := by simpa [ByteArray.size] using h1
    rw [getElem?_pos (⟨xs.toArray⟩ : ByteArray) i.toNat this]
    exact congrArg some h2
  simp [execOp, ho, ha.eval hx, ha.eval hy, Instr.index, asIntOf, run_underlying ht.u, h0, e]
/-! operations that make or write memory -/
theorem WL.box {T : TypeId} {x : Operand} {v : Value} (ℓ : Nat) (cells : List Value) (hx : ev ρ x = some v) (hc : v.cells = cells.toArray) (hd : Nat.blt d n = true)
    (h : ∀ b O' w', Stp [] O w O' w' → Blk ℓ O' w' b T cells → WL P n ops Q rest ((d, .pointer (some ⟨b, 0, none⟩)) :: ρ) w') : WL P n ops Q (⟨some d, .box T x, ty, pos, aft, none⟩ :: rest) ρ w := by
  intro a ha
  refine wpList_plain rfl fun K hK => ?_
  unfold Oper.wp
  have : (Instr.box T v).run P w = .ok (.pointer (some ⟨w.heap.size, 0, none⟩)) (w.alloc (.cells cells.toArray T)) := by
    simp [Instr.box, newVar, newRow, hc]
  simp only [execOp, ha.eval hx, Sem.run_bind, this, Result.andThen_ok, Sem.run_pure]
  exact hK _ _ (h _ _ _ (stp_alloc _ ℓ) (blk_alloc ℓ T cells) _ (ha.put hd _))
theorem WL.alloc {T : TypeId} {td : TypeDesc} {size bytes : Nat} {z : Value} (ℓ : Nat) (cells : List Value) (ht : TyOk P T td size bytes z) (hc : z.cells = cells.toArray) (hd : Nat.blt d n = true)
    (h : ∀ b O' w', Stp [] O w O' w' → Blk ℓ O' w' b T cells → WL P n ops Q rest ((d, .pointer (some ⟨b, 0, none⟩)) :: ρ) w') : WL P n ops Q (⟨some d, .alloc T, ty, pos, aft, none⟩ :: rest) ρ w := by
  intro a ha
  refine wpList_plain rfl fun K hK => ?_
  unfold Oper.wp
  obtain ⟨i, hi, hz, _, _⟩ := ht.i
  have : (Instr.alloc T true (.tuple #[])).run P w = .ok (.pointer (some ⟨w.heap.size, 0, none⟩)) (w.alloc (.cells cells.toArray T)) := by
    simp [Instr.alloc, zeroValue, typeInfo, hi, hz, newVar, newRow, hc]
  simp only [execOp, Sem.run_bind, this, Result.andThen_ok, Sem.run_pure]
  exact hK _ _ (h _ _ _ (stp_alloc _ ℓ) (blk_alloc ℓ T cells) _ (ha.put hd _))
theorem WL.store {t : TypeId} {td : TypeDesc} {size bytes : Nat} {z : Value} {x y : Operand} {b off ℓ : Nat} {v : Value} {T : TypeId} {cells cells' : List Value} (ht : TyOk P t td size bytes z)
    (hx : ev ρ x = some (.pointer (some ⟨b, off, none⟩))) (hy : ev ρ y = some v) (hb : Blk ℓ O w b T cells) (hl : v.cells.size = size) (ho : off + size ≤ cells.length)
    (h1 : v.cells.toList.all (·.oneCell') = true) (hc : splice cells off v.cells.toList = cells')
    (h : ∀ w', Stp [ℓ] O w O w' → Blk ℓ O w' b T cells' → WL P n ops Q rest ρ w') : WL P n ops Q (⟨none, .store t x y, ty, pos, aft, none⟩ :: rest) ρ w := by
  intro a ha
  refine wpList_plain rfl fun K hK => ?_
  unfold Oper.wp
  have := run_storeAt (w := w) (v := v) ht hb.blk hl ho (fun u hu => List.all_eq_true.1 h1 u hu)
  simp only [execOp, ha.eval hx, ha.eval hy, Sem.run_bind, this, Result.andThen_ok, Sem.run_pure]
  rw [hc]
  exact hK _ _ (h _ (stp_setRow hb.lab _) hb.set _ ha)
end rules
end Go.Lg
namespace Go.Lg
open Go
section app
variable {P : Program} {w : World}
theorem app_room {size sLen m : Nat} {g sCap : Nat} {e : TypeId} {cur : Array Value} {news : List Value} {xs : List Value} (hg : w.heap[g]? = some (.cells cur e (0, 0)))
    (hl : news.length = m * size) (hlx : xs.length = sLen * size) (htake : cur.toList.take (sLen * size) = xs) (hcs : cur.size = sCap * size) (hcm : sCap ≤ maxLen) (hroom : sLen + m ≤ sCap) :
    (w.setRow g (cur.toList.take (sLen * size) ++ news ++ cur.toList.drop (sLen * size + news.length)).toArray).ownsRow 0 e size (.slice (some ⟨g, 0, none⟩) (sLen + m) sCap) (sLen + m) (xs ++ news) := by
  have hlen : (xs ++ news).length = (sLen + m) * size := by rw [List.length_append, hlx, hl, Nat.add_mul]
  have hfit : sLen * size + news.length ≤ cur.size := by rw [hl, hcs, ← Nat.add_mul]; exact Nat.mul_le_mul_right _ hroom
  refine ⟨hlen, .inr ⟨g, sCap, _, rfl, Nat.zero_le _, setRow_heap w g cur _ e _ hg, hroom, hcm, ?_, ?_⟩⟩
  · simp only [List.size_toArray, List.length_append, List.length_take, List.length_drop, Array.length_toList]
    omega
  · rw [htake, ← hlen]
    exact List.take_left
theorem run_append_lab (t ty e : TypeId) (i : TypeInfo) (z : Value) (size bytes : Nat) (ht : P.underlying t = some (.slice e)) (hi : P.info? e = some i) (hz : i.zero = some z)
    (hsize : i.size = size) (hby : i.bytes = bytes) (hzs : z.cells.size = size)
    (v : Value) (n : Nat) (xs : List Value) (hown : w.ownsRow 0 e size v n xs)
    (a : Addr) (m c : Nat) (news : List Value) (hl : news.length = m * size) (hnews : ∀ j u, news[j]? = some u → w.cell? (a.add j) = some u) (h1 : ∀ u ∈ news, u.oneCell' = true)
    (h63 : n + m ≤ maxLen) (hbytes : (n + m) * bytes ≤ 140737488355328) :
    ∃ v' w', (Builtin.append_ #[t, t] ty #[v, .slice (some a) m c]).run P w = .ok v' w' ∧ w'.ownsRow 0 e size v' (n + m) (xs ++ news) ∧ w.grownBy w' v.ownBlock ∧
      (v'.ownBlock = v.ownBlock ∨ v'.ownBlock = some w.heap.size) := by
  subst hsize
  subst hby
  have hsmall : n + m ≤ 9223372036854775807 := by simp only [maxLen] at h63; omega
  have hlen : (xs ++ news).length = (n + m) * i.size := by rw [List.length_append, hown.1, hl, Nat.add_mul]
  have grown : ∀ (old : Nat), old < n + m → ∀ (row : Option Nat),
      (w.drew.alloc (.cells (xs.toArray ++ news.toArray ++ Builtin.zeroCells z.cells (grownCap w (n + m) old e - (n + m))) e)).ownsRow 0 e i.size
        (.slice (some ⟨w.heap.size, 0, none⟩) (n + m) (grownCap w (n + m) old e)) (n + m) (xs ++ news) ∧
      w.grownBy (w.drew.alloc (.cells (xs.toArray ++ news.toArray ++ Builtin.zeroCells z.cells (grownCap w (n + m) old e - (n + m))) e)) row := by
    intro old ho row
    have hge := grownCap_ge w (n + m) old e
    have hcm : grownCap w (n + m) old e ≤ maxLen := grownCap_le_maxLen w (n + m) old e h63
    refine ⟨⟨hlen, .inr ⟨w.heap.size, _, _, rfl, Nat.zero_le _, heap_alloc_new w.drew _, hge, hcm, ?_, ?_⟩⟩, ⟨rfl, rfl, rfl, by simp, fun k hk _ => heap_alloc_old w.drew _ hk⟩⟩
    · simp only [Array.size_append, List.size_toArray, size_zeroCells, hzs, hown.1, hl, ← Nat.add_mul]
      congr 1
      omega
    · simp only [Array.toList_append, List.append_assoc]
      rw [← List.append_assoc, ← hlen]
      exact List.take_left
  rcases hown.2 with ⟨rfl, rfl⟩ | ⟨g, cap, cur, rfl, hbg, hg, hnc, hcm, hcs, htake⟩
  · have hx : xs = [] := List.eq_nil_of_length_eq_zero (by simpa using hown.1)
    subst hx
    by_cases hm : m = 0
    · subst hm
      have hn : news = [] := List.eq_nil_of_length_eq_zero (by simpa using hl)
      subst hn
      refine ⟨.slice none 0 0, w, ?_, World.ownsRow_nil w 0 e i.size, ⟨rfl, rfl, rfl, Nat.le_refl _, fun _ _ _ => rfl⟩, .inl rfl⟩
      simp [Builtin.append_, run_underlying ht, sizeOf, typeInfo, hi, Builtin.lenOf, Builtin.firstCells, loadCells, loadCellsFrom]
    · have hr := run_append_nil (P := P) w t ty e i z ht hi hz a m c news hl hnews (by omega) (by omega) (by have hb := hbytes; simp only [Nat.zero_add] at hb; omega)
      have hgr := grown 0 (by omega) (Value.ownBlock (.slice none 0 0))
      simp only [Nat.zero_add, List.nil_append, Array.empty_append] at hgr ⊢
      exact ⟨_, _, hr, hgr.1, hgr.2, .inr rfl⟩
  · by_cases hroom : n + m ≤ cap
    · have hfit : n * i.size + news.length ≤ cur.size := by rw [hl, hcs, ← Nat.add_mul]; exact Nat.mul_le_mul_right _ hroom
      have hr := run_append_room (P := P) w t ty e i ht hi g n cap cur hg a m c news hl hnews h1 hroom hfit
      refine ⟨_, _, hr, app_room hg hl hown.1 htake hcs hcm hroom, ⟨rfl, rfl, rfl, by simp, fun k _ hk => setRow_other w g k _ (fun e => hk (by simp [Value.ownBlock, e]))⟩, .inl rfl⟩
    · have holds : ∀ j u, xs[j]? = some u → w.cell? ((⟨g, 0, none⟩ : Addr).add j) = some u := hown.cells (g := g) rfl
      have hr := run_append_grow (P := P) w t ty e i z ht hi hz ⟨g, 0, none⟩ n cap xs hown.1 holds a m c news hl hnews (by omega) (by omega) (growslice_fits (by omega) hbytes)
      have hgr := grown cap (by omega) (Value.ownBlock (.slice (some ⟨g, 0, none⟩) n cap))
      exact ⟨_, _, hr, hgr.1, hgr.2, .inr rfl⟩
end app
section rules
variable {P : Program} {n : Nat} {ops : Array Oper} {Q : Exit → Act → World → Prop} {ρ : Env} {w : World} {rest : List Oper} {O : Own}
variable {d : Nat} {ty : TypeId} {pos : String} {aft : Array Edge}
theorem stp_grown {ℓ : Nat} {v : Value} {w' : World} (hg : w.grownBy w' v.ownBlock) (hb : ∀ b, v.ownBlock = some b → O b = ℓ) : Stp [ℓ] O w (upd O w.heap.size ℓ) w' :=
  ⟨hg.os, hg.tape, hg.output, hg.size, fun k hk _ => by simp [upd, Nat.ne_of_lt hk], fun k hk _ => by simp [upd, Nat.ne_of_lt hk], fun k hk hn => hg.block k hk fun e => hn (by simp [hb k e.symm])⟩
theorem Src.cells {α : Type} {R : Rep α} {u : Value} {ys : List α} (h : Src R O w u ys) :
    (u = .slice none 0 0 ∧ ys = []) ∨ ∃ (q : Addr) (cap : Nat) (cs : List Value), u = .slice (some q) ys.length cap ∧ cs.length = ys.length * R.n ∧ (∀ j v, cs[j]? = some v → w.cell? (q.add j) = some v) ∧ Rows' R w (imm O) cs ys := by
  rcases h with h | ⟨q, c, h1, h2⟩ | ⟨b, off, cap, cells, t, fr, e, hb, hc, hs, hr⟩
  · exact .inl h
  · subst h2; exact .inr ⟨q, c, [], h1, by simp, fun j v h => by simp at h, rfl⟩
  · have hl : ((cells.toList.drop off).take (ys.length * R.n)).length = ys.length * R.n := by
      have e : cells.toList.length = cells.size := rfl
      rw [List.length_take, List.length_drop, e]; omega
    refine .inr ⟨⟨b, off, none⟩, cap, _, e, hl, CellsAt.cell ⟨cells, t, fr, hb, by rw [hl]⟩, hr⟩
/-- bytes of an element: what LIM of them come to fits -/
theorem WL.append {α : Type} {R : Rep α} {ℓ : Nat} {t e : TypeId} {sz0 by0 bytes : Nat} {z0 z : Value} {ed : TypeDesc} {s x : Operand} {v u : Value} {xs ys zs : List α}
    (hℓ : ℓ ≠ 0 ∧ ℓ ≠ 1) (ht : TyOk P t (.slice e) sz0 by0 z0) (he : TyOk P e ed R.n bytes z) (hz : z.cells.size = R.n) (hbytes : bytes ≤ 8192)
    (hs : ev ρ s = some v) (hx : ev ρ x = some u) (hown : OwnSl ℓ R e O w v xs) (hsrc : Src R O w u ys) (hap : app xs ys = some zs) (hd : Nat.blt d n = true)
    (h : ∀ v' O' w', Stp [ℓ] O w O' w' → OwnSl ℓ R e O' w' v' zs → WL P n ops Q rest ((d, v') :: ρ) w') :
    WL P n ops Q (⟨some d, .call { callee := .builtin .append, args := #[s, x], argTypes := #[t, t] }, ty, pos, aft, none⟩ :: rest) ρ w := by
  intro a ha
  refine wpList_plain rfl fun K hK => ?_
  unfold app at hap
  split at hap
  case isFalse => cases hap
  rename_i hlim
  simp only [Option.some.injEq] at hap
  subst hap
  obtain ⟨i, hi, hzz, hsz, hby⟩ := he.i
  obtain ⟨cs, ho, hr, hb⟩ := hown
  have h63 : xs.length + ys.length ≤ maxLen := by simp only [maxLen, LIM] at *; omega
  have hbb : (xs.length + ys.length) * bytes ≤ 140737488355328 := Nat.le_trans (Nat.mul_le_mul hlim hbytes) (by decide)
  have key : ∃ v' w', (Builtin.append_ #[t, t] ty #[v, u]).run P w = .ok v' w' ∧ OwnSl ℓ R e (upd O w.heap.size ℓ) w' v' (xs ++ ys) ∧ Stp [ℓ] O w (upd O w.heap.size ℓ) w' := by
    rcases hsrc.cells with ⟨rfl, rfl⟩ | ⟨q, cap, ds, rfl, hl, hc, hr2⟩
    · have hrun := run_append_owned_none (P := P) (w := w) 0 t ty e i R.n ht.u hi v xs.length cs ho
      refine ⟨v, w, hrun, ⟨cs, by simpa using ho, ?_, ?_⟩, ⟨rfl, rfl, rfl, Nat.le_refl _, fun k hk _ => by simp [upd, Nat.ne_of_lt hk], fun k hk _ => by simp [upd, Nat.ne_of_lt hk], fun _ _ _ => rfl⟩⟩
      · rw [List.append_nil]
        exact Rows'.mono (fun k hk hlt => ⟨by simpa [imm, upd, Nat.ne_of_lt hlt] using hk, rfl⟩) hr
      · intro b hv
        have := ho.lt b hv
        simp [upd, Nat.ne_of_lt this.2, hb b hv]
    · obtain ⟨v', w', h1, h2, h3, h4⟩ := run_append_lab (P := P) (w := w) t ty e i z R.n bytes ht.u hi hzz hsz hby hz v xs.length cs ho q ys.length cap ds hl hc (Rows'.one hr2) h63 hbb
      have hst := stp_grown (O := O) h3 hb
      have hm := imm_st hst (by simpa using Ne.symm hℓ.1) (by simpa using Ne.symm hℓ.2)
      refine ⟨v', w', h1, ⟨cs ++ ds, by simpa using h2, Rows'.append (Rows'.mono hm hr2) (Rows'.mono hm hr), ?_⟩, hst⟩
      intro g hv
      rcases h4 with h4 | h4
      · rw [hv] at h4
        have := ho.lt g h4.symm
        simp [upd, Nat.ne_of_lt this.2, hb g h4.symm]
      · rw [hv] at h4
        simp only [Option.some.injEq] at h4
        simp [upd, h4]
  obtain ⟨v', w', h1, h2, h3⟩ := key
  unfold Oper.wp execOp
  simp only [resolve, invoke, builtin, Sem.run_bind, Sem.run_pure, Result.andThen_ok, List.map_toArray, List.map_cons, List.map_nil, ha.eval hs, ha.eval hx, h1]
  exact hK _ _ (h v' _ w' h3 h2 _ (ha.put hd _))
/-- a nil slice is a row of one's own -/
theorem OwnSl.nil {α : Type} (ℓ : Nat) (R : Rep α) (e : TypeId) : OwnSl ℓ R e O w (.slice none 0 0) [] :=
  ⟨[], World.ownsRow_nil w 0 e R.n, rfl, fun b h => by simp [Value.ownBlock] at h⟩
theorem rows_replicate {α : Type} {R : Rep α} {A : Nat → Prop} {zs : List Value} {x : α} (hz : R.ok w A zs x) : ∀ m, Rows' R w A (List.replicate m zs).flatten (List.replicate m x)
  | 0 => rfl
  | m + 1 => ⟨zs, _, rfl, hz, rows_replicate hz m⟩
theorem madeCells_eq (z : Array Value) (hz : 0 < z.size) : ∀ m, (madeCells z (m * z.size)).toList = (List.replicate m z.toList).flatten := by
  intro m
  apply List.ext_getElem?
  intro j
  have h1 : (List.replicate m z.toList).flatten.length = m * z.size := by
    induction m with
    | zero => simp
    | succ m ih => simp [List.replicate_succ, Nat.add_mul]; omega
  by_cases hj : j < m * z.size
  · have h2 : (List.replicate m z.toList).flatten[j]? = z.toList[j % z.size]? := by
      clear h1
      induction m generalizing j with
      | zero => simp at hj
      | succ m ih =>
        rw [List.replicate_succ, List.flatten_cons, List.getElem?_append]
        by_cases hl : j < z.toList.length
        · rw [if_pos hl, Nat.mod_eq_of_lt (by simpa using hl)]
        · rw [if_neg hl, ih (j - z.toList.length) (by simp at hl ⊢; rw [Nat.add_mul] at hj; omega)]
          simp at hl
          simp only [Array.length_toList]
          rw [Nat.mod_eq_sub_mod hl]
    rw [h2]
    have hjm : j % z.size < z.size := Nat.mod_lt _ hz
    simp [madeCells, hj, hjm]
  · rw [List.getElem?_eq_none (by simp [madeCells]; omega), List.getElem?_eq_none (by rw [h1]; omega)]
theorem WL.make {α : Type} {R : Rep α} (ℓ : Nat) {t e : TypeId} {sz0 by0 bytes : Nat} {z0 z : Value} {ed : TypeDesc} {x y : Operand} {m : Int} {zx : α} {zs : List α}
    (hℓ : ℓ ≠ 0 ∧ ℓ ≠ 1) (ht : TyOk P t (.slice e) sz0 by0 z0) (he : TyOk P e ed R.n bytes z) (hz : z.cells.size = R.n) (hp : 0 < R.n) (hbytes : bytes ≤ 8192)
    (hx : ev ρ x = some (vi m)) (hy : ev ρ y = some (vi m)) (hzr : ∀ w A, R.ok w A z.cells.toList zx) (hmk : mk m zx = some zs) (hd : Nat.blt d n = true)
    (h : ∀ v' O' w', Stp [] O w O' w' → OwnSl ℓ R e O' w' v' zs → WL P n ops Q rest ((d, v') :: ρ) w') :
    WL P n ops Q (⟨some d, .makeSlice t x y, ty, pos, aft, none⟩ :: rest) ρ w := by
  intro a ha
  refine wpList_plain rfl fun K hK => ?_
  unfold mk at hmk
  split at hmk
  case isFalse => cases hmk
  rename_i hm
  simp only [Option.some.injEq] at hmk
  subst hmk
  obtain ⟨k, rfl⟩ := Int.eq_ofNat_of_zero_le hm.1
  obtain ⟨i, hi, hzz, hsz, hby⟩ := he.i
  have hk : k ≤ LIM := by simpa using hm.2
  have hbb : bytes * k ≤ 140737488355328 := Nat.le_trans (Nat.mul_le_mul hbytes hk) (by decide)
  have hb2 : (i.bytes : Int) * (k : Int) ≤ 281474976710656 := by
    have : ((bytes * k : Nat) : Int) ≤ 140737488355328 := by omega
    rw [Int.natCast_mul] at this
    rw [hby]; omega
  have hrun := run_make (P := P) w t e i z ht.u hi hzz .i64 .i64 (k : Int) (k : Int) (by omega) (Int.le_refl _) hb2 (by simp only [LIM] at hk; omega)
  simp only [Int.toNat_natCast, hsz] at hrun
  unfold Oper.wp execOp
  simp only [ha.eval hx, ha.eval hy, Sem.run_bind, hrun, Result.andThen_ok, Sem.run_pure]
  refine hK _ _ (h _ _ _ (stp_alloc _ ℓ) ⟨(List.replicate k z.cells.toList).flatten, ⟨?_, .inr ⟨w.heap.size, k, _, ?_, Nat.zero_le _, heap_alloc_new w _, ?_, ?_, ?_, ?_⟩⟩, ?_, ?_⟩ _ (ha.put hd _))
  · simp [hz]
  · simp
  · simp
  · simp only [LIM, maxLen] at *; omega
  · simp [size_madeCells]
  · rw [← hz, madeCells_eq z.cells (by omega)]
    rw [List.take_of_length_le (by simp)]
  · exact rows_replicate (hzr _ _) k
  · intro b hb
    simp only [Value.ownBlock, Option.some.injEq] at hb
    subst hb; simp [upd]
/-- a slice literal: a new row -/
theorem WL.buildSlice {α : Type} {R : Rep α} (ℓ : Nat) {t e : TypeId} {len sz0 by0 bytes : Nat} {z0 z : Value} {ed : TypeDesc} {parts : Array (Nat × Operand)} {vals : List (Nat × Value)} (cells : List Value) {xs : List α}
    (hℓ : ℓ ≠ 0 ∧ ℓ ≠ 1) (ht : TyOk P t (.slice e) sz0 by0 z0) (he : TyOk P e ed R.n bytes z) (hp : 0 < R.n) (hlen : len * R.n ≤ 65536)
    (hv : ∀ a n, Fits n ρ a → (parts.map fun (i, x) => (i, a.eval x)) = vals.toArray)
    (hf : Instr.fill (fun i => some (i * R.n, R.n)) ((Array.range (len * R.n)).map (z.cells[· % z.cells.size]!)) vals = some cells.toArray) (hl : xs.length = len) (hr : Rows' R w (imm O) cells xs) (hd : Nat.blt d n = true)
    (h : ∀ v' O' w', Stp [] O w O' w' → OwnSl ℓ R e O' w' v' xs → WL P n ops Q rest ((d, v') :: ρ) w') :
    WL P n ops Q (⟨some d, .buildSlice t len parts, ty, pos, aft, none⟩ :: rest) ρ w := by
  intro a ha
  refine wpList_plain rfl fun K hK => ?_
  obtain ⟨i, hi, hzz, hsz, hby⟩ := he.i
  have hcl := Rows'.len hr
  have hrun : (Instr.buildSlice t len vals.toArray).run P w = .ok (.slice (some ⟨w.heap.size, 0, none⟩) len len) (w.alloc (.cells cells.toArray e)) := by
    by_cases h0 : len * R.n = 0
    · have hl0 : len = 0 := by
        rcases Nat.mul_eq_zero.1 h0 with h | h
        · exact h
        · omega
      subst hl0
      have hx : xs = [] := List.eq_nil_of_length_eq_zero hl
      subst hx
      have hc : cells = [] := hr
      subst hc
      have hf' : Instr.fill (fun i => some (i * R.n, R.n)) #[] vals = some #[] := by simpa [Array.range_zero'] using hf
      simp [Instr.buildSlice, run_underlying ht.u, sizeOf, typeInfo, hi, hsz, newRow, Array.range_zero', hf']
    · have hf2 : Instr.fill (fun i => some (i * R.n, R.n)) ((Array.range (len * R.n)).map (z.cells[· % z.cells.size]!)) vals.toArray.toList = some cells.toArray := by simpa using hf
      have hq : ¬ (16777216 < len * R.n) := by omega
      simp [Instr.buildSlice, run_underlying ht.u, sizeOf, typeInfo, zeroValue, hi, hsz, hzz, h0, hq, newRow, hf2]
  unfold Oper.wp execOp
  simp only [hv a n ha, Sem.run_bind, hrun, Result.andThen_ok, Sem.run_pure]
  refine hK _ _ (h _ _ _ (stp_alloc _ ℓ) ⟨cells, ⟨hcl, .inr ⟨w.heap.size, len, cells.toArray, by rw [hl], Nat.zero_le _, heap_alloc_new w _, by omega, ?_, ?_, ?_⟩⟩, ?_, ?_⟩ _ (ha.put hd _))
  · have : len ≤ len * R.n := Nat.le_mul_of_pos_right _ hp
    simp only [maxLen]; omega
  · simp [hcl, hl]
  · rw [List.take_of_length_le (by simp [hcl])]
  · exact Rows'.mono (imm_st (stp_alloc _ ℓ) (by simp) (by simp)) hr
  · intro b hb
    simp only [Value.ownBlock, Option.some.injEq] at hb
    subst hb; simp [upd]
end rules
end Go.Lg
namespace Go.Lg
open Go
def evs (ρ : Env) : List Operand → Option (List Value)
  | [] => some []
  | x :: xs => (ev ρ x).bind fun v => (evs ρ xs).bind fun vs => some (v :: vs)
theorem Fits.evals {n : Nat} {ρ : Env} {a : Act} (h : Fits n ρ a) : ∀ {xs : List Operand} {vs : List Value}, evs ρ xs = some vs → xs.map a.eval = vs
  | [], vs, e => by simp [evs] at e; subst e; rfl
  | x :: xs, vs, e => by
    simp only [evs] at e
    obtain ⟨v, hv, e⟩ := bnd e
    obtain ⟨us, hu, e⟩ := bnd e
    simp only [Option.some.injEq] at e
    subst e
    simp only [List.map_cons, h.eval hv, h.evals hu]
/-- operands of a literal, by their places -/
def evp (ρ : Env) : List (Nat × Operand) → Option (List (Nat × Value))
  | [] => some []
  | (i, x) :: xs => (ev ρ x).bind fun v => (evp ρ xs).bind fun vs => some ((i, v) :: vs)
theorem Fits.evalp {ρ : Env} : ∀ {xs : List (Nat × Operand)} {vs : List (Nat × Value)}, evp ρ xs = some vs → ∀ (a : Act) (n : Nat), Fits n ρ a → (xs.toArray.map fun (i, x) => (i, a.eval x)) = vs.toArray := by
  intro xs
  induction xs with
  | nil => intro vs e a n _; simp [evp] at e; subst e; simp
  | cons p xs ih =>
    obtain ⟨i, x⟩ := p
    intro vs e a n h
    simp only [evp] at e
    obtain ⟨v, hv, e⟩ := bnd e
    obtain ⟨us, hu, e⟩ := bnd e
    simp only [Option.some.injEq] at e
    subst e
    have := ih hu a n h
    simp only [List.map_toArray] at this ⊢
    simp only [List.map_cons, h.eval hv]
    have h2 : List.map (fun x => (x.1, a.eval x.2)) xs = us := by
      have := congrArg Array.toList this
      simpa using this
    simp only [h2]
/-- it returns, and so -/
def Rets (P : Program) (f : FuncId) (args : List Value) (w : World) (Post : Value → World → Prop) : Prop :=
  Calls P f args.toArray w fun e w' => ∃ v, e = .returned v ∧ Post v w'
theorem Rets.mono {P : Program} {f : FuncId} {args : List Value} {w : World} {Post Post' : Value → World → Prop} (h : Rets P f args w Post) (hm : ∀ v w', Post v w' → Post' v w') : Rets P f args w Post' :=
  Calls.mono h fun _ _ ⟨v, e, hp⟩ => ⟨v, e, hm v _ hp⟩
section
variable {P : Program} {n : Nat} {ops : Array Oper} {Q : Exit → Act → World → Prop} {ρ : Env} {w : World} {rest : List Oper}
variable {d : Nat} {ty : TypeId} {pos : String} {aft : Array Edge} {ats : Array TypeId} {f : FuncId} {xs : List Operand} {vals : List Value} {Post : Value → World → Prop}
theorem WL.call (hk : CallOk P f) (hargs : evs ρ xs = some vals) (hd : Nat.blt d n = true) (hc : Rets P f vals w Post)
    (h : ∀ v w', Post v w' → WL P n ops Q rest ((d, v) :: ρ) w') : WL P n ops Q (⟨some d, .call { callee := .value (.func f), args := xs.toArray, argTypes := ats }, ty, pos, aft, none⟩ :: rest) ρ w := by
  intro a ha
  refine wpList_plain rfl fun K hK => ?_
  unfold Oper.wp
  rw [execOp_call_go]
  have e : (#[] ++ xs.toArray.map a.eval ++ #[] : Array Value) = vals.toArray := by simp [ha.evals hargs]
  rw [e, hk vals.toArray w, Oper.upon_enter]
  refine Calls.mono hc fun e w' ⟨v, he, hp⟩ => ?_
  subst he
  exact hK _ _ (h v w' hp _ (ha.put hd v))
/-! ### Entering and leaving -/
theorem undefs (args : List Value) (m : Nat) : ∀ i v, lk ((List.range args.length).zip args) i = some v → (args.toArray ++ Array.replicate m undef)[i]? = some v := by
  have key : ∀ (args : List Value) (k i : Nat) (v : Value), lk ((List.range' k args.length).zip args) i = some v → ∃ j, i = k + j ∧ args[j]? = some v := by
    intro args
    induction args with
    | nil => intro k i v h; simp [lk] at h
    | cons x args ih =>
      intro k i v h
      simp only [List.length_cons, List.range'_succ, List.zip_cons_cons, lk] at h
      by_cases e : k = i
      · subst e; simp at h; exact ⟨0, rfl, by simpa using h⟩
      · have : Nat.beq k i = false := Bool.eq_false_iff.2 fun h => e (Nat.eq_of_beq_eq_true h)
        rw [this] at h
        obtain ⟨j, hj, hv⟩ := ih (k + 1) i v h
        exact ⟨j + 1, by omega, by simpa using hv⟩
  intro i v h
  rw [List.range_eq_range'] at h
  obtain ⟨j, hj, hv⟩ := key args 0 i v h
  have : j = i := by omega
  subst this
  have hl := (List.getElem?_eq_some_iff.1 hv).1
  rw [Array.getElem?_append_left (by simpa using hl)]
  simpa using hv
theorem Rets.enter {fn : Func} {c : Code} {args : List Value} {Post : Value → World → Prop} (hf : P.funcs[f]? = some fn) (hb : fn.body = some c) (hn : Nat.ble args.length fn.ntmps = true)
    (h : WC P fn.ntmps (bodyPost P fn fun e w' => ∃ v, e = .returned v ∧ Post v w') c ((List.range args.length).zip args) w) : Rets P f args w Post := by
  refine calls_of_wp hf hb (h _ ⟨rfl, ?_, ?_⟩)
  · have : args.length ≤ fn.ntmps := by simpa using hn
    simp; omega
  · exact undefs args _
/-- the results, one by one -/
inductive ResOk (P : Program) (ρ : Env) (w : World) : List ResultVar → List Value → Prop
  | nil : ResOk P ρ w [] []
  | tmp {t : Tmp} {v : Value} {rs : List ResultVar} {vs : List Value} (h : lk ρ t = some v) (k : ResOk P ρ w rs vs) : ResOk P ρ w (.tmp t :: rs) (v :: vs)
  | cell {a : Tmp} {t : TypeId} {b off : Nat} {v : Value} {rs : List ResultVar} {vs : List Value} (h : lk ρ a = some (.pointer (some ⟨b, off, none⟩))) (hl : (Instr.loadAt t (.pointer (some ⟨b, off, none⟩))).run P w = .ok v w) (k : ResOk P ρ w rs vs) : ResOk P ρ w (.cell a t :: rs) (v :: vs)
def resF (tmps : Array Value) : ResultVar → Sem Value
  | .tmp t => pure (tmps.getD t undef)
  | .cell p t => do loadVar t (← asAddr (tmps.getD p undef))
theorem ResOk.run {ρ : Env} {a : Act} (ha : Fits n ρ a) {rs : List ResultVar} {vs : List Value} (h : ResOk P ρ w rs vs) : (rs.mapM (resF a.tmps)).run P w = .ok vs w := by
  induction h with
  | nil => simp
  | tmp h k ih =>
    have := ha.eval (x := .tmp _) (v := _) h
    simp only [Act.eval] at this
    simp only [List.mapM_cons, resF, Sem.run_bind, Sem.run_pure, ih, this, Result.andThen_ok]
  | @cell p t b off v rs vs h hl k ih =>
    have := ha.eval (x := .tmp _) (v := _) h
    simp only [Act.eval] at this
    have hl' := hl
    simp only [Instr.loadAt, Instr.sureAddr, Sem.run_bind, Sem.run_pure, Result.andThen_ok] at hl'
    have h2 : (asAddr (.pointer (some ⟨b, off, none⟩))).run P w = .ok ⟨b, off, none⟩ w := rfl
    simp only [List.mapM_cons, resF, Sem.run_bind, Sem.run_pure, ih, this, h2, hl', Result.andThen_ok]
def packed : List Value → Value
  | [v] => v
  | vs => .tuple vs.toArray
theorem At.res {fn : Func} {rs : List ResultVar} {vs : List Value} {Post : Value → World → Prop} {e : Exit} (he : e = .ret ∨ e = .normal) (hrs : fn.results = rs.toArray) (h : ResOk P ρ w rs vs) (hp : Post (packed vs) w) :
    At n (bodyPost P fn fun e w' => ∃ v, e = .returned v ∧ Post v w') e ρ w := by
  intro a ha
  have hr := h.run ha
  have : (results fn a.tmps).run P w = .ok (packed vs) w := by
    unfold results
    rw [hrs]
    show (do let vs ← rs.toArray.mapM (resF a.tmps); pure (if h : vs.size = 1 then vs[0] else .tuple vs) : Sem Value).run P w = _
    simp only [List.mapM_toArray, Sem.run_bind, Sem.run_map]
    rw [hr]
    simp only [Result.andThen_ok, Sem.run_pure]
    match vs with
    | [] => rfl
    | [v] => rfl
    | u :: v :: vs => simp [packed]
  rcases he with rfl | rfl
  · exact ⟨ha.defers, _, this, _, rfl, hp⟩
  · exact ⟨ha.defers, _, this, _, rfl, hp⟩
end
end Go.Lg
namespace Go.Lg
open Go
section rules
variable {P : Program} {n : Nat} {ops : Array Oper} {Q : Exit → Act → World → Prop} {ρ : Env} {w : World} {rest : List Oper} {O : Own}
variable {d : Nat} {ty : TypeId} {pos : String} {aft : Array Edge}
/-- a slot's value is spelled otherwise -/
theorem WL.ren {l : List Oper} {v v' : Value} (s : Nat) (hs : lk ρ s = some v) (hv : v = v') (h : WL P n ops Q l ((s, v') :: ρ) w) : WL P n ops Q l ρ w := by
  subst hv
  intro a ha
  refine h a ⟨ha.defers, ha.size, fun i u hu => ?_⟩
  simp only [lk] at hu
  by_cases e : s = i
  · subst e; simp at hu; subst hu; exact ha.get s _ hs
  · have : Nat.beq s i = false := Bool.eq_false_iff.2 fun h => e (Nat.eq_of_beq_eq_true h)
    rw [this] at hu
    exact ha.get i u hu
theorem WC.condT' {c : Operand} {x y : Code} {t : Bool} (hc : ev ρ c = some (.bool t)) (ht : t = true) (h : WC P n Q x ρ w) : WC P n Q (.cond c x y) ρ w := WC.condT (ht ▸ hc) h
theorem WC.condF' {c : Operand} {x y : Code} {t : Bool} (hc : ev ρ c = some (.bool t)) (ht : t = false) (h : WC P n Q y ρ w) : WC P n Q (.cond c x y) ρ w := WC.condF (ht ▸ hc) h
theorem CellsAt.sub {b off : Nat} {cs : List Value} (h : CellsAt w b off cs) (k : Nat) (ds : List Value) (hd : (cs.drop k).take ds.length = ds) : CellsAt w b (off + k) ds := by
  obtain ⟨cells, t, fr, hb, hc⟩ := h
  refine ⟨cells, t, fr, hb, ?_⟩
  rw [← List.drop_drop]
  have h1 : (cells.toList.drop off).take cs.length = cs := hc
  by_cases hz : ds = []
  · subst hz; simp
  have hlen : k + ds.length ≤ cs.length := by
    have := congrArg List.length hd
    simp only [List.length_take, List.length_drop] at this
    have hp : 0 < ds.length := List.length_pos_iff.2 hz
    omega
  have h2 : ((cs.drop k).take ds.length) = (((cells.toList.drop off).drop k).take ds.length) := by
    conv => lhs; rw [← h1]
    rw [List.drop_take, List.take_take, Nat.min_eq_left (by omega)]
  rw [← h2, hd]
/-! ### rows of one's own -/
theorem OwnSl.at {α : Type} {ℓ : Nat} {R : Rep α} {e : TypeId} {v : Value} {xs : List α} {i : Int} {x : α} (h : OwnSl ℓ R e O w v xs) (hi : idx xs i = some x) :
    ∃ b cap cs, v = .slice (some ⟨b, 0, none⟩) xs.length cap ∧ 0 ≤ i ∧ i < xs.length ∧ CellsAt w b (0 + i.toNat * R.n) cs ∧ R.ok w (imm O) cs x := by
  obtain ⟨cs, ⟨hl, ho⟩, hr, hb⟩ := h
  rcases ho with ⟨rfl, hn⟩ | ⟨g, cap, cur, rfl, hbg, hg, hc, hm, hz, ht⟩
  · have : xs = [] := List.eq_nil_of_length_eq_zero hn
    subst this; simp [idx] at hi
  · have hs : Sl R w (fun k => imm O k ∨ k = g) (.slice (some ⟨g, 0, none⟩) xs.length cap) xs :=
      .inr <| .inr ⟨g, 0, cap, cur, e, (0, 0), rfl, .inr rfl, hg, hc, by rw [hz, Nat.zero_add]; exact Nat.mul_le_mul_right _ hc, by
        rw [List.drop_zero, ht]; exact Rows'.mono (fun k hk _ => ⟨.inl hk, rfl⟩) hr⟩
    obtain ⟨b, off, cap', ds, e1, h0, h1, h2, h3, h4⟩ := hs.at hi
    cases e1
    have hx : xs[i.toNat]? = some x := by unfold idx at hi; rw [if_pos h0] at hi; exact hi
    have h5 := Rows'.get i.toNat x hr hx
    refine ⟨g, cap, _, rfl, h0, h1, ?_, h5⟩
    have hle : (i.toNat + 1) * R.n ≤ xs.length * R.n := Nat.mul_le_mul_right _ (by omega)
    rw [Nat.add_mul, Nat.one_mul] at hle
    refine ⟨cur, e, (0, 0), hg, ?_⟩
    rw [R.len h5, Nat.zero_add, ← ht, List.drop_take, List.take_take, Nat.min_eq_left (by omega)]
theorem OwnSl.giveF {α : Type} {ℓ : Nat} {R : Rep α} {e : TypeId} {v : Value} {xs : List α} (hℓ : Nat.ble 10 ℓ = true) (hf : Flat R) (h : OwnSl ℓ R e O w v xs) : ∃ O', Stp [ℓ] O w O' w ∧ Sl R w (frs O') v xs :=
  ⟨_, frz_st ℓ (by simpa using hℓ) O w, h.frzF hf⟩
def rlb (a b : Nat) (O : Own) : Own := fun k => if O k = a then b else O k
theorem rlb_st (a b : Nat) (ha : 10 ≤ a) : Stp [a] O w (rlb a b O) w := ⟨rfl, rfl, rfl, Nat.le_refl _, fun k _ hl => by simp at hl; simp [rlb, hl], fun k _ hl => by unfold rlb; rw [if_neg (by omega)], fun _ _ _ => rfl⟩
theorem OwnSl.rlb {α : Type} {a : Nat} (b : Nat) {R : Rep α} {e : TypeId} {v : Value} {xs : List α} (ha : Nat.ble 10 a = true) (h : OwnSl a R e O w v xs) : ∃ O', Stp [a] O w O' w ∧ OwnSl b R e O' w v xs := by
  have ha' : 10 ≤ a := by simpa using ha
  refine ⟨Lg.rlb a b O, rlb_st a b ha', ?_⟩
  obtain ⟨cs, ho, hr, hb⟩ := h
  refine ⟨cs, ho, Rows'.mono (fun k hk _ => ⟨?_, rfl⟩) hr, fun g hg => by simp [Lg.rlb, hb g hg]⟩
  unfold imm Lg.rlb at *
  rw [if_neg (by omega)]; exact hk
theorem WL.storeOwn {α : Type} {R : Rep α} {ℓ : Nat} {t e : TypeId} {td : TypeDesc} {bytes : Nat} {z : Value} {x y : Operand} {v sv : Value} {b len cap : Nat} {i : Int} {xs ys : List α} {u : α}
    (hℓ : ℓ ≠ 0 ∧ ℓ ≠ 1) (ht : TyOk P t td R.n bytes z) (hx : ev ρ x = some (.pointer (some ⟨b, 0 + i.toNat * R.n, none⟩))) (hy : ev ρ y = some v) (hv : R.ok w (imm O) v.cells.toList u)
    (hown : OwnSl ℓ R e O w sv xs) (hsv : sv = .slice (some ⟨b, 0, none⟩) len cap) (hset : setI xs i u = some ys)
    (h : ∀ w', Stp [ℓ] O w O w' → OwnSl ℓ R e O w' sv ys → WL P n ops Q rest ρ w') : WL P n ops Q (⟨none, .store t x y, ty, pos, aft, none⟩ :: rest) ρ w := by
  intro a ha
  refine wpList_plain rfl fun K hK => ?_
  unfold setI at hset
  split at hset
  case isFalse => cases hset
  rename_i hi
  simp only [Option.some.injEq] at hset
  subst hset
  subst hsv
  obtain ⟨cs, ⟨hl, ho⟩, hr, hb⟩ := hown
  rcases ho with ⟨h1, _⟩ | ⟨g, cap', cur, h1, hbg, hg, hc, hm, hz, htk⟩
  · cases h1
  cases h1
  have hlab := hb b rfl
  have hlen := R.len hv
  have hle : (i.toNat + 1) * R.n ≤ xs.length * R.n := Nat.mul_le_mul_right _ hi.2
  rw [Nat.add_mul, Nat.one_mul] at hle
  have hcm : xs.length * R.n ≤ cap * R.n := Nat.mul_le_mul_right _ hc
  have hcur : cur.toList.length = cur.size := rfl
  have hrun := run_storeAt (P := P) (w := w) (v := v) (cells := cur.toList) (off := 0 + i.toNat * R.n) ht (by simpa using hg) (by simpa using hlen) (by rw [hcur, hz]; omega) (fun q hq => R.one hv q hq)
  unfold Oper.wp
  simp only [execOp, ha.eval hx, ha.eval hy, Sem.run_bind, hrun, Result.andThen_ok, Sem.run_pure]
  have hst := stp_setRow (w := w) hlab (splice cur.toList (0 + i.toNat * R.n) v.cells.toList).toArray
  have hspl : ((splice cur.toList (0 + i.toNat * R.n) v.cells.toList).take (xs.length * R.n)) = cs.take (i.toNat * R.n) ++ v.cells.toList ++ cs.drop ((i.toNat + 1) * R.n) := by
    unfold splice
    rw [hlen, Nat.zero_add, ← htk]
    apply List.ext_getElem?
    intro j
    simp only [List.getElem?_take, List.getElem?_append, List.getElem?_drop, List.length_take, List.length_append, hcur, hz, hlen, Nat.add_mul, Nat.one_mul]
    by_cases h1 : j < i.toNat * R.n
    · rw [if_pos (by omega), if_pos (by omega), if_pos (by omega), if_pos h1, if_pos (by omega), if_pos (by omega), if_pos h1, if_pos (by omega)]
    · by_cases h2 : j < i.toNat * R.n + R.n
      · rw [if_pos (by omega), if_pos (by omega), if_neg (by omega), if_pos (by omega), if_neg (by omega)]
        congr 1; omega
      · by_cases h3 : j < xs.length * R.n
        · rw [if_pos h3, if_neg (by omega), if_neg (by omega), if_pos (by omega)]
          congr 1; omega
        · rw [if_neg h3, if_neg (by omega), if_neg (by omega)]
  refine hK _ _ (h _ hst ⟨cs.take (i.toNat * R.n) ++ v.cells.toList ++ cs.drop ((i.toNat + 1) * R.n), ⟨?_, .inr ⟨b, cap, _, by simp, Nat.zero_le _, setRow_heap w b _ _ _ _ (by simpa using hg), by simpa using hc, hm, ?_, ?_⟩⟩, ?_, ?_⟩ _ ha)
  · simp only [List.length_set, List.length_append, List.length_take, List.length_drop, hl, hlen, Nat.add_mul, Nat.one_mul]; omega
  · simp only [splice, List.size_toArray, List.length_append, List.length_take, List.length_drop, hcur, hz, hlen]; omega
  · rw [List.length_set]; exact hspl
  · have := Rows'.set (R.mono hv (imm_st hst (by simpa using Ne.symm hℓ.1) (by simpa using Ne.symm hℓ.2))) i.toNat (Rows'.mono (imm_st hst (by simpa using Ne.symm hℓ.1) (by simpa using Ne.symm hℓ.2)) hr) hi.2
    exact this
  · exact fun g hg => hb g hg
/-! ### arrays as values -/
theorem arrAt {α : Type} {R : Rep α} {A : Nat → Prop} {cells : List Value} {xs : List α} {i : Int} {x : α} (h : Rows' R w A cells xs) (hi : idx xs i = some x) : ∃ cs, (cells.drop (i.toNat * R.n)).take R.n = cs ∧ R.ok w A cs x := by
  unfold idx at hi
  split at hi
  case isFalse => cases hi
  exact ⟨_, rfl, Rows'.get i.toNat x h hi⟩
theorem idx_bd {α : Type} {xs : List α} {i : Int} {x : α} (hi : idx xs i = some x) : 0 ≤ i ∧ i < xs.length := by
  unfold idx at hi
  split at hi
  case isFalse => cases hi
  rename_i h0
  have := (List.getElem?_eq_some_iff.1 hi).1
  exact ⟨h0, by omega⟩
theorem Y.indexArrAg {α : Type} {t e : TypeId} {sz by0 by1 len nn : Nat} {z z' : Value} {ed : TypeDesc} {x y : Operand} {k : IntKind} {i : Int} {cells cs : List Value} {xs : List α} {u : α}
    (ht : TyOk P t (.array len e) sz by0 z) (he : TyOk P e ed nn by1 z') (hx : ev ρ x = some (.agg cells.toArray)) (hy : ev ρ y = some (.int k i)) (hc : (cells.drop (i.toNat * nn)).take nn = cs) (hi : idx xs i = some u)
    (hl : xs.length = len := by rfl) (hd : isAggD ed = true := by rfl) : Y P (.index t x y) ty ρ w (.agg cs.toArray) := by
  intro a n o ha ho _
  obtain ⟨h0, h1⟩ := idx_bd hi
  have hg : (isAgg e).run P w = .ok true w := by
    simp only [isAgg, Sem.run_bind, run_underlying he.u, Result.andThen_ok]
    cases ed <;> first | rfl | simp [isAggD] at hd
  have hv' : cells.toArray.extract (i.toNat * nn) (i.toNat * nn + nn) = cs.toArray := by
    rw [← hc]; simp [List.take_drop]
  simp only [execOp, ho, ha.eval hx, ha.eval hy, Instr.index, asIntOf, Sem.run_bind, Sem.run_pure, Result.andThen_ok, run_underlying ht.u]
  rw [if_pos ⟨h0, by omega⟩]
  simp only [Sem.run_bind, he.size, Result.andThen_ok, part, hg, if_true, hv', Sem.run_pure]
end rules
end Go.Lg
namespace Go.Lg
open Go
def evI (ρ : Env) : Option Operand → Int → Option Int
  | none, d => some d
  | some x, _ => match ev ρ x with
    | some (.int _ n) => some n
    | _ => none
section rules
variable {P : Program} {n : Nat} {ops : Array Oper} {Q : Exit → Act → World → Prop} {ρ : Env} {w : World} {rest : List Oper} {O : Own}
variable {d : Nat} {ty : TypeId} {pos : String} {aft : Array Edge}
theorem Fits.evalI {a : Act} (ha : Fits n ρ a) {x : Operand} {dd l : Int} (h : evI ρ (some x) dd = some l) : ∃ k, a.eval x = .int k l := by
  simp only [evI] at h
  split at h
  · rename_i k m he
    simp only [Option.some.injEq] at h
    subst h
    exact ⟨k, ha.eval he⟩
  · cases h
/-- 'x[lo:hi]' of a slice, run -/
theorem run_sliceAt {t e : TypeId} {sz0 by0 nn by1 : Nat} {z0 z : Value} {ed : TypeDesc} (ht : TyOk P t (.slice e) sz0 by0 z0) (he : TyOk P e ed nn by1 z) {a : Act} (ha : Fits n ρ a) {lo hi : Option Operand} {l h : Int}
    {q : Option Addr} {len cap : Nat} (hlo : evI ρ lo 0 = some l) (hhi : evI ρ hi len = some h) (h0 : 0 ≤ l) (h1 : l ≤ h) (h2 : h ≤ len) (hc : len ≤ cap) :
    (Instr.sliceAt t (.slice q len cap) (lo.map a.eval) (hi.map a.eval) none).run P w =
      .ok (.slice (if cap = l.toNat then q else q.map (·.add (l.toNat * nn))) (h.toNat - l.toNat) (cap - l.toNat)) w := by
  have hb : (Instr.sliceBounds true len cap (lo.map a.eval) (hi.map a.eval) none).run P w = .ok (l.toNat, h.toNat, cap) w := by
    cases lo with
    | none =>
      simp only [evI, Option.some.injEq] at hlo
      subst hlo
      cases hi with
      | none =>
        simp only [evI, Option.some.injEq] at hhi
        subst hhi
        simp [Instr.sliceBounds]
      | some y =>
        obtain ⟨k, hk⟩ := ha.evalI hhi
        have hcc : 0 ≤ h ∧ h ≤ (cap : Int) := by omega
        simp [Instr.sliceBounds, Instr.sliceBound, hk, asIntOf, hcc]
    | some x =>
      obtain ⟨kx, hkx⟩ := ha.evalI hlo
      cases hi with
      | none =>
        simp only [evI, Option.some.injEq] at hhi
        subst hhi
        have hcc : 0 ≤ l ∧ l ≤ (len : Int) := by omega
        simp [Instr.sliceBounds, Instr.sliceBound, hkx, asIntOf, hcc]
      | some y =>
        obtain ⟨k, hk⟩ := ha.evalI hhi
        have hcc : 0 ≤ h ∧ h ≤ (cap : Int) := by omega
        have hcl : 0 ≤ l ∧ l ≤ max h 0 := by omega
        simp [Instr.sliceBounds, Instr.sliceBound, hk, hkx, asIntOf, hcc, hcl]
  simp only [Instr.sliceAt, Sem.run_bind, run_underlying ht.u, Result.andThen_ok, Instr.slice, hb, he.size, Sem.run_pure]
theorem slc_spec {α : Type} {xs ys : List α} {l h : Int} (hs : slc xs l h = some ys) : 0 ≤ l ∧ l ≤ h ∧ h ≤ xs.length ∧ ys = (xs.take h.toNat).drop l.toNat := by
  unfold slc at hs
  split at hs
  · rename_i hc
    simp only [Option.some.injEq] at hs
    exact ⟨hc.1, hc.2.1, hc.2.2, hs.symm⟩
  · cases hs
theorem WL.sliceOwn {α : Type} {R : Rep α} {ℓ : Nat} {t e e' : TypeId} {sz0 by0 by1 : Nat} {z0 z : Value} {ed : TypeDesc} {x : Operand} {hi : Option Operand} {h : Int} {v : Value} {xs ys : List α}
    (ht : TyOk P t (.slice e) sz0 by0 z0) (he : TyOk P e ed R.n by1 z) (hx : ev ρ x = some v) (hlo : (0 : Int) = 0) (hhi : evI ρ hi xs.length = some h) (hsl : OwnSl ℓ R e' O w v xs) (hs : slc xs 0 h = some ys) (hd : Nat.blt d n = true)
    (hk : ∀ v', OwnSl ℓ R e' O w v' ys → WL P n ops Q rest ((d, v') :: ρ) w) : WL P n ops Q (⟨some d, .slice t x none hi none, ty, pos, aft, none⟩ :: rest) ρ w := by
  intro a ha
  refine wpList_plain rfl fun K hK => ?_
  obtain ⟨h0, h1, h2, rfl⟩ := slc_spec hs
  have key : ∃ v', (Instr.sliceAt t v none (hi.map a.eval) none).run P w = .ok v' w ∧ OwnSl ℓ R e' O w v' ((xs.take h.toNat).drop 0) := by
    obtain ⟨cs, ⟨hl, ho⟩, hr, hb⟩ := hsl
    have h7 := Rows'.take h.toNat hr
    have hlen : ((xs.take h.toNat).drop 0).length = h.toNat := by rw [List.length_drop, List.length_take]; omega
    rcases ho with ⟨rfl, hn⟩ | ⟨g, cap, cur, rfl, hbg, hg, hc, hm, hz, htk⟩
    · have hx0 : xs = [] := List.eq_nil_of_length_eq_zero hn
      subst hx0
      have hh : h = 0 := by simp at h2; omega
      subst hh
      refine ⟨_, run_sliceAt (w := w) (lo := none) ht he ha rfl hhi (Int.le_refl _) (Int.le_refl _) (by simp) (by simp), ?_⟩
      simpa using OwnSl.nil (O := O) (w := w) ℓ R e'
    · refine ⟨_, run_sliceAt (w := w) (lo := none) ht he ha rfl hhi (Int.le_refl _) h1 h2 hc, ?_⟩
      have e3 : (if cap = (0 : Int).toNat then some (⟨g, 0, none⟩ : Addr) else (some (⟨g, 0, none⟩ : Addr)).map (·.add ((0 : Int).toNat * R.n))) = some ⟨g, 0, none⟩ := by
        split <;> simp [Addr_add]
      rw [e3]
      have hmul : h.toNat * R.n ≤ xs.length * R.n := Nat.mul_le_mul_right _ (by omega)
      refine ⟨cs.take (h.toNat * R.n), ⟨by rw [hlen, List.length_take, hl]; omega, .inr ⟨g, cap, cur, by rw [hlen]; simp, hbg, hg, by rw [hlen]; omega, hm, hz, ?_⟩⟩, by simpa using h7, fun b hb' => hb b (by simpa [Value.ownBlock] using hb')⟩
      rw [hlen, ← htk, List.take_take, Nat.min_eq_left hmul]
  obtain ⟨v', hrun, hv'⟩ := key
  unfold Oper.wp
  simp only [execOp, ha.eval hx, Option.map_none, Sem.run_bind, hrun, Result.andThen_ok, Sem.run_pure]
  exact hK _ _ (hk v' hv' _ (ha.put hd _))
/-! ### texts -/
theorem toList_vs (xs : List UInt8) : ByteArray.toList ⟨xs.toArray⟩ = xs := by rw [ByteArray.toList_eq]
theorem bytesLess_eq : ∀ x y : List UInt8, Op.bytesLess x y = sLess x y
  | [], [] => rfl
  | _ :: _, [] => rfl
  | [], _ :: _ => rfl
  | a :: x, b :: y => by
    simp only [Op.bytesLess, sLess, bytesLess_eq x y]
    congr 1
theorem beq_dec (a b : List UInt8) : (a == b) = decide (a = b) := by
  by_cases h : a = b
  · simp [h]
  · simp [h]
theorem Y.strop {t t' : TypeId} {x y : Operand} {a b : List UInt8} {v : Value} {bop : BinOp} (hx : ev ρ x = some (vs a)) (hy : ev ρ y = some (vs b))
    (hr : (Go.binOp bop t (vs a) (vs b)).run P w = .ok v w) : Y P (.binOp bop t x y t') ty ρ w v := by
  intro A n o ha ho _
  simp only [execOp, ho, ha.eval hx, ha.eval hy]
  cases bop <;> simp [eqGuard, hr]
section
variable {t t' : TypeId} {x y : Operand} {a b c : List UInt8}
theorem Y.eql_s (hx : ev ρ x = some (vs a)) (hy : ev ρ y = some (vs b)) : Y P (.binOp .eql t x y t') ty ρ w (.bool (decide (a = b))) :=
  Y.strop hx hy (by simp only [binOp, Op.stringOp, toList_vs, beq_dec]; rfl)
theorem Y.neq_s (hx : ev ρ x = some (vs a)) (hy : ev ρ y = some (vs b)) : Y P (.binOp .neq t x y t') ty ρ w (.bool (!decide (a = b))) :=
  Y.strop hx hy (by simp only [binOp, Op.stringOp, toList_vs, beq_dec]; rfl)
theorem Y.lss_s (hx : ev ρ x = some (vs a)) (hy : ev ρ y = some (vs b)) : Y P (.binOp .lss t x y t') ty ρ w (.bool (sLess a b)) :=
  Y.strop hx hy (by simp only [binOp, Op.stringOp, toList_vs, bytesLess_eq]; rfl)
theorem rows_b {A : Nat → Prop} : ∀ {xs : List UInt8} {cs : List Value}, Rows' Rep.b w A cs xs → cs = xs.map vb
  | [], cs, h => h
  | x :: xs, cs, ⟨c1, c2, e, h1, h2⟩ => by
    have h1' : c1 = [vb x] := h1
    rw [e, h1', rows_b h2]; rfl
theorem push_all : ∀ (xs : List UInt8) (acc : ByteArray), (xs.map fun x : UInt8 => (x.toNat : Int)).foldl (fun (r : ByteArray) (n : Int) => r.push (UInt8.ofNat n.toNat)) acc = ⟨acc.data ++ xs.toArray⟩
  | [], acc => by simp
  | x :: xs, acc => by
    rw [List.map_cons, List.foldl_cons, push_all xs]
    apply ByteArray.ext
    simp [ByteArray.push]
theorem Y.b2s {A : Nat → Prop} {e : TypeId} {sz0 by0 by1 sz2 by2 : Nat} {z0 z z2 : Value} {v : Value} (ht : TyOk P t (.slice e) sz0 by0 z0) (he : TyOk P e (.int .u8) 1 by1 z) (hs : TyOk P t' .string sz2 by2 z2) (hx : ev ρ x = some v) (h : Sl Rep.b w A v a) :
    Y P (.convert t t' x) ty ρ w (vs a) := by
  intro B n o ha ho _
  have hrun : (Conv.bytesToString v).run P w = .ok (vs a) w := by
    rcases h with ⟨rfl, rfl⟩ | ⟨q, c, rfl, rfl⟩ | ⟨b, off, cap, cells, t, fr, rfl, hA, hb, hc, hz, hr⟩
    · simp [Conv.bytesToString]; rfl
    · simp [Conv.bytesToString, loadCells]; rfl
    · have hr' := rows_b hr
      have hn : Rep.b.n = 1 := rfl
      rw [hn, Nat.mul_one] at hr' hz
      have hl : (loadCells ⟨b, off, none⟩ a.length).run P w = .ok ((a.map fun x : UInt8 => (x.toNat : Int)).map (Value.int .u8)).toArray w := by
        have := run_loadCells_list (P := P) w ⟨b, off, none⟩ (a.map vb) (CellsAt.cell ⟨cells, t, fr, hb, by rw [List.length_map]; exact hr'⟩)
        rw [List.length_map] at this
        rw [this]
        simp only [List.map_map]
        rfl
      rw [run_bytesToString w _ _ _ _ hl, push_all]
      simp [ByteArray.empty, ByteArray.emptyWithCapacity]
      rfl
  have hconv : (convert t t' v).run P w = .ok (vs a) w := by
    have : ∃ q l c, v = .slice q l c := by
      rcases h with ⟨rfl, rfl⟩ | ⟨q, c, rfl, rfl⟩ | ⟨b, off, cap, cells, t, fr, rfl, _⟩ <;> exact ⟨_, _, _, rfl⟩
    obtain ⟨q, l, c, rfl⟩ := this
    rw [run_convert_bytes_string w t t' e q l c ht.u he.u hs.u, hrun]
  simp only [execOp, ho, ha.eval hx, Sem.run_bind, hconv, Result.andThen_ok, Sem.run_pure]
end
theorem rows_of_bytes {A : Nat → Prop} : ∀ xs : List UInt8, Rows' Rep.b w A (xs.map vb) xs
  | [] => rfl
  | x :: xs => ⟨[vb x], _, rfl, rfl, rows_of_bytes xs⟩
theorem WL.s2b {t t' e : TypeId} {sz by0 sz1 by1 by2 : Nat} {z z1 z2 : Value} {x : Operand} {xs : List UInt8} (hs : TyOk P t .string sz by0 z) (ht : TyOk P t' (.slice e) sz1 by1 z1) (he : TyOk P e (.int .u8) 1 by2 z2) (hx : ev ρ x = some (vs xs)) (hd : Nat.blt d n = true)
    (h : ∀ v O' w', Stp [] O w O' w' → Sl Rep.b w' (frs O') v xs → WL P n ops Q rest ((d, v) :: ρ) w') : WL P n ops Q (⟨some d, .convert t t' x, ty, pos, aft, none⟩ :: rest) ρ w := by
  intro a ha
  refine wpList_plain rfl fun K hK => ?_
  have e1 : ByteArray.size ⟨xs.toArray⟩ = xs.length := by simp [ByteArray.size]
  have hcap := grownCap_ge w xs.length 0 e
  have hrun := run_bytes_of_string (P := P) w t t' e ⟨xs.toArray⟩ hs.u ht.u he.u
  have hcells : (bytesRow ⟨xs.toArray⟩ (grownCap w xs.length 0 e)).toList = xs.map vb ++ List.replicate (grownCap w xs.length 0 e - xs.length) (.int .u8 0) := by
    simp [bytesRow, e1]
  rw [e1] at hrun
  unfold Oper.wp
  simp only [execOp, ha.eval hx, Sem.run_bind, hrun, Result.andThen_ok, Sem.run_pure]
  have hst : Stp [] O w (upd O w.heap.size 1) (w.drew.alloc (.cells (bytesRow ⟨xs.toArray⟩ (grownCap w xs.length 0 e)) e ((bytesRow ⟨xs.toArray⟩ (grownCap w xs.length 0 e)).size, (bytesRow ⟨xs.toArray⟩ (grownCap w xs.length 0 e)).size + 1))) :=
    (stp_drew (O := O) (w := w)).trans (stp_alloc (w := w.drew) _ 1)
  have hn : Rep.b.n = 1 := rfl
  refine hK _ _ (h _ _ _ hst (.inr <| .inr ⟨w.heap.size, 0, _, _, e, _, rfl, by simp [frs, upd], heap_alloc_new w.drew _, hcap, ?_, ?_⟩) _ (ha.put hd _))
  · have : (bytesRow ⟨xs.toArray⟩ (grownCap w xs.length 0 e)).size = (bytesRow ⟨xs.toArray⟩ (grownCap w xs.length 0 e)).toList.length := rfl
    rw [this, hcells, hn]; simp
  · rw [hcells, hn, Nat.mul_one, List.drop_zero, List.take_left' (by simp)]
    exact rows_of_bytes xs
end rules
end Go.Lg
namespace Go.Lg
open Go
/-! ### What a call does to memory, as its caller sees it -/
/-- what stood is as it was but for the blocks S -/
structure Mod (S : Nat → Prop) (w w' : World) : Prop where
  os : w'.os = w.os
  tape : w'.tape = w.tape
  output : w'.output = w.output
  size : w.heap.size ≤ w'.heap.size
  blk : ∀ k, k < w.heap.size → ¬ S k → w'.heap[k]? = w.heap[k]?
theorem Ext.mod {w w' : World} (h : Ext w w') : Mod (fun _ => False) w w' := ⟨h.os, h.tape, h.output, h.size, fun k hk _ => Stp.blk h k hk (by simp)⟩
section
variable {α : Type} {R : Rep α} {w w' w'' : World} {O O' : Own} {A : Nat → Prop} {v u : Value} {xs ys : List α} {e : TypeId} {L : List Nat}
/-- a row of one's own, without a label -/
def Row (R : Rep α) (e : TypeId) (w : World) (v : Value) (xs : List α) : Prop := ∃ cs, w.ownsRow 0 e R.n v xs.length cs ∧ Rows' R w (fun _ => True) cs xs
/-- one that was made since w -/
def RowF (R : Rep α) (e : TypeId) (w w' : World) (v : Value) (xs : List α) : Prop := Row R e w' v xs ∧ ∀ b, v.ownBlock = some b → w.heap.size ≤ b
theorem adopt {S : Nat → Prop} (O : Own) (g : Nat → Nat) (L : List Nat) (hm : Mod S w w') (hS : ∀ k, S k → k < w.heap.size → O k ∈ L) :
    ∃ O', (∀ k, k < w.heap.size → O' k = O k) ∧ (∀ k, w.heap.size ≤ k → O' k = g k) ∧ Stp L O w O' w' :=
  ⟨fun k => if k < w.heap.size then O k else g k, fun k hk => if_pos hk, fun k hk => if_neg (by omega),
   hm.os, hm.tape, hm.output, hm.size, fun k hk _ => if_pos hk, fun k hk _ => if_pos hk, fun k hk hn => hm.blk k hk fun hs => hn (hS k hs hk)⟩
theorem adoptE (O : Own) (g : Nat → Nat) (h : Ext w w') : ∃ O', (∀ k, k < w.heap.size → O' k = O k) ∧ (∀ k, w.heap.size ≤ k → O' k = g k) ∧ Stp [] O w O' w' :=
  adopt O g [] h.mod fun _ hk _ => hk.elim
theorem Sl.adoptF {g : Nat → Nat} {B : Nat → Prop} (h : Sl R w' B u xs) (hB : ∀ k, B k → w.heap.size ≤ k ∧ g k = 1) (hn : ∀ k, w.heap.size ≤ k → O' k = g k) : Sl R w' (frs O') u xs :=
  h.mono fun k hk _ => ⟨by unfold frs; rw [hn k (hB k hk).1]; exact (hB k hk).2, rfl⟩
theorem RowF.adopt {g : Nat → Nat} (ℓ : Nat) (hf : Flat R) (h : RowF R e w w' u xs) (hn : ∀ k, w.heap.size ≤ k → O' k = g k) (hg : ∀ k, u.ownBlock = some k → g k = ℓ) : OwnSl ℓ R e O' w' u xs := by
  obtain ⟨⟨cs, h1, h2⟩, h3⟩ := h
  exact ⟨cs, h1, hf.rows h2, fun b hb => by rw [hn b (h3 b hb), hg b hb]⟩
theorem Blk.adopt {ℓ b : Nat} {t t' : TypeId} {cs cs' : List Value} (h : Blk ℓ O w b t cs) (ho : ∀ k, k < w.heap.size → O' k = O k) (hb : w'.heap[b]? = some (.cells (List.toArray cs') t' (0, 0))) : Blk ℓ O' w' b t' cs' :=
  ⟨(ho b (blk_lt h.blk)).trans h.lab, hb⟩
theorem OwnSl.row {ℓ : Nat} (h : OwnSl ℓ R e O w v xs) : Row R e w v xs := by
  obtain ⟨cs, h1, h2, h3⟩ := h
  exact ⟨cs, h1, Rows'.mono (fun _ _ _ => ⟨trivial, rfl⟩) h2⟩
theorem OwnSl.labs {ℓ : Nat} (h : OwnSl ℓ R e O w v xs) : ∀ b, v.ownBlock = some b → O b = ℓ ∧ b < w.heap.size := by
  obtain ⟨cs, h1, h2, h3⟩ := h
  exact fun b hb => ⟨h3 b hb, (h1.lt b hb).2⟩
/-- read by whoever writes none of L -/
def out (L : List Nat) (O : Own) : Nat → Prop := fun k => L.contains (O k) = false
theorem Sl.notin (h : Sl R w (imm O) v xs) (h0 : L.contains 0 = false) (h1 : L.contains 1 = false) : Sl R w (out L O) v xs :=
  h.mono fun k hk _ => ⟨by
    have : O k = 0 ∨ O k = 1 := by unfold imm at hk; omega
    unfold out; rcases this with e | e <;> rw [e] <;> assumption, rfl⟩
theorem out_ne {b ℓ : Nat} (hl : O b = ℓ) (h : L.contains ℓ = true) : ∀ k, out L O k → k ≠ b := by
  intro k hk e; subst e; unfold out at hk; rw [hl, h] at hk; cases hk
/-! ### The start of a function -/
open Classical in
/-- what came in to be read: 0; all else that stood: 2 -/
noncomputable def O0 (A : Nat → Prop) : Own := fun k => if A k then 0 else 2
theorem Sl.start (h : Sl R w A v xs) : Sl R w (imm (O0 A)) v xs := h.mono fun k hk _ => ⟨by unfold imm O0; rw [if_pos hk]; exact Nat.zero_le _, rfl⟩
/-- an object that came in to be written -/
def OB (b ℓ : Nat) (O : Own) : Own := fun k => if k = b then ℓ else O k
def OV (v : Value) (ℓ : Nat) (O : Own) : Own := fun k => if v.ownBlock = some k then ℓ else O k
theorem Sl.OB {b ℓ : Nat} (h : Sl R w (imm O) v xs) (hA : ∀ k, O k ≤ 1 → k ≠ b) : Sl R w (imm (OB b ℓ O)) v xs :=
  h.mono fun k hk _ => ⟨by unfold imm Lg.OB; rw [if_neg (hA k hk)]; exact hk, rfl⟩
theorem Row.start {ℓ : Nat} (hf : Flat R) (h : Row R e w v xs) (hO : ∀ k, v.ownBlock = some k → O k = ℓ) : OwnSl ℓ R e O w v xs := by
  obtain ⟨cs, h1, h2⟩ := h
  exact ⟨cs, h1, hf.rows h2, hO⟩
/-! ### Its end -/
theorem Stp.ext (h : Stp L (O0 A) w O' w') (h0 : L.contains 0 = false) (h2 : L.contains 2 = false) : Ext w w' := by
  refine ⟨h.os, h.tape, h.output, h.size, fun _ _ _ => rfl, fun _ _ _ => rfl, fun k hk _ => h.blk k hk ?_⟩
  unfold O0
  split
  · simpa using h0
  · simpa using h2
/-- labels of what stood and is not written -/
theorem Stp.modL (h : Stp L O w O' w') {S : Nat → Prop} (hS : ∀ k, ¬ S k → O k = 0 ∨ O k = 2) (h0 : L.contains 0 = false) (h2 : L.contains 2 = false) : Mod S w w' := by
  refine ⟨h.os, h.tape, h.output, h.size, fun k hk hn => h.blk k hk ?_⟩
  rcases hS k hn with e | e <;> rw [e]
  · simpa using h0
  · simpa using h2
/-- the labels at the start: none of those of what was made since -/
def Low (O : Own) : Prop := ∀ k, O k ≤ 9 ∧ O k ≠ 1
theorem low0 : Low (O0 A) := fun k => by unfold O0; split <;> omega
theorem lowB {b ℓ : Nat} (h : Low O) (hl : Nat.ble ℓ 9 = true) (h1 : Nat.beq ℓ 1 = false) : Low (OB b ℓ O) := fun k => by
  have hl' : ℓ ≤ 9 := by simpa using hl
  have h1' : ℓ ≠ 1 := fun e => by subst e; simp at h1
  unfold OB
  split
  · exact ⟨hl', h1'⟩
  · exact h k
/-- what may be written and what not -/
theorem sB1 {b ℓ : Nat} : ∀ k, ¬ (k = b) → OB b ℓ (O0 A) k = 0 ∨ OB b ℓ (O0 A) k = 2 := fun k h => by
  unfold OB O0; rw [if_neg h]; split <;> simp
theorem sV1 {v' : Value} {ℓ : Nat} : ∀ k, ¬ (v'.ownBlock = some k) → OV v' ℓ (O0 A) k = 0 ∨ OV v' ℓ (O0 A) k = 2 := fun k h => by
  unfold OV O0; rw [if_neg h]; split <;> simp
theorem fresh_of {k : Nat} (hs : Stp L O w O' w') (hO : Low O) (hk : O' k = 1 ∨ 10 ≤ O' k) : w.heap.size ≤ k := by
  rcases Nat.lt_or_ge k w.heap.size with hl | hl
  · exfalso
    have := hO k
    rw [hs.low k hl this.1] at hk
    omega
  · exact hl
theorem Sl.outF (h : Sl R w' (frs O') u xs) (hs : Stp L O w O' w') (hO : Low O) : Sl R w' (fun k => w.heap.size ≤ k) u xs :=
  h.mono fun k hk _ => ⟨fresh_of hs hO (.inl hk), rfl⟩
theorem Rows'.outI {cs : List Value} (h : Rows' R w' (imm O') cs xs) (hs : Stp L O w O' w') (hO : Low O) (hA : ∀ k, O k ≤ 1 → A k) : Rows' R w' (fun k => A k ∨ w.heap.size ≤ k) cs xs :=
  h.mono fun k hk _ => ⟨by
    rcases Nat.lt_or_ge k w.heap.size with hl | hl
    · unfold imm at hk
      rw [hs.low k hl (hO k).1] at hk
      exact .inl (hA k hk)
    · exact .inr hl, rfl⟩
theorem OwnSl.outF {ℓ : Nat} (h : OwnSl ℓ R e O' w' u xs) (hs : Stp L O w O' w') (hO : Low O) (hl : Nat.ble 10 ℓ = true) : RowF R e w w' u xs :=
  ⟨h.row, fun b hb => fresh_of hs hO (.inr (by rw [(h.labs b hb).1]; simpa using hl))⟩
theorem RowF.nil : RowF R e w w' (.slice none 0 0) [] := ⟨⟨[], World.ownsRow_nil w' 0 e R.n, rfl⟩, fun b h => by simp [Value.ownBlock] at h⟩
theorem O0_A : ∀ k, O0 A k ≤ 1 → A k := by
  intro k h
  unfold O0 at h
  split at h
  · assumption
  · omega
end
section
variable {P : Program} {n : Nat} {ρ : Env} {w : World} {d : Nat} {ty : TypeId} {t t' e : TypeId} {x y : Operand}
end
end Go.Lg
namespace Go.Lg
open Go
/-! ### what the printed walks use beside -/
def rndK {σ β ρ : Type} (f : σ → Option (Rnd σ β ρ)) (j : Nat) : Rnd σ β ρ → Option (Flow β ρ)
  | .next s' => loopN j f s'
  | .brk b => some (.go b)
  | .out r => some (.out r)
theorem rnd1 {σ β ρ : Type} {f : σ → Option (Rnd σ β ρ)} {k : Nat} {s : σ} {p : Flow β ρ} (h : loopN k f s = some p) : ∃ j q, k = j + 1 ∧ f s = some q ∧ rndK f j q = some p := by
  obtain ⟨j, q, hk, hf, h⟩ := rnd0 h
  exact ⟨j, q, hk, hf, by cases q <;> exact h⟩
theorem next1 {σ β ρ : Type} {f : σ → Option (Rnd σ β ρ)} {j : Nat} {s : σ} {q : Rnd σ β ρ} {p : Flow β ρ} (h : some (Rnd.next s) = some q) (hn : rndK f j q = some p) : loopN j f s = some p := by cases h; exact hn
theorem brk1 {σ β ρ : Type} {f : σ → Option (Rnd σ β ρ)} {j : Nat} {b : β} {q : Rnd σ β ρ} {p : Flow β ρ} (h : some (Rnd.brk b) = some q) (hn : rndK f j q = some p) : p = .go b := by cases h; cases hn; rfl
theorem outr1 {σ β ρ : Type} {f : σ → Option (Rnd σ β ρ)} {j : Nat} {o : Option ρ} {q : Rnd σ β ρ} {p : Flow β ρ} {F : β → Option ρ} {r : ρ} (h : outr o = some q) (hn : rndK f j q = some p) (hk : flowK F p = some r) : o = some r := by
  obtain ⟨x, hx, h⟩ := bnd h
  cases h; cases hn; cases hk; exact hx
theorem go2 {α ρ : Type} {x : α} {p : Flow α ρ} (h : some (Flow.go x) = some p) : p = .go x := by cases h; rfl
theorem flowK_go {α ρ : Type} {F : α → Option ρ} {x : α} {r : ρ} (h : flowK F (.go x) = some r) : F x = some r := h
theorem tup2 {α β : Type} {a : α} {b : β} {c : α} {d : β} (h : some (a, b) = some (c, d)) : a = c ∧ b = d := by cases h; exact ⟨rfl, rfl⟩
theorem tup3 {α β γ : Type} {a a' : α} {b b' : β} {c c' : γ} (h : some (a, b, c) = some (a', b', c')) : a = a' ∧ b = b' ∧ c = c' := by cases h; exact ⟨rfl, rfl, rfl⟩
theorem andT {c x : Bool} (h : c = true) : x = (c && x) := by subst h; rfl
theorem andF {c x : Bool} (h : c = false) : false = (c && x) := by subst h; rfl
theorem orT {c x : Bool} (h : c = true) : true = (c || x) := by subst h; rfl
theorem orF {c x : Bool} (h : c = false) : x = (c || x) := by subst h; rfl
section
variable {P : Program} {n : Nat} {ops : Array Oper} {Q : Exit → Act → World → Prop} {ρ : Env} {w : World} {rest : List Oper}
variable {d : Nat} {ty : TypeId} {pos : String} {aft : Array Edge} {op : Op}
/-- a join at an exit -/
def JB (n : Nat) (Q : Exit → Act → World → Prop) (B : Nat) {σ : Type} (I : σ → World → Prop) (env : σ → Env) : Exit → Act → World → Prop
  | .exit id, a, w => if id = B then ∃ s, I s w ∧ Fits n (env s) a else Q (.exit id) a w
  | e, a, w => Q e a w
theorem WC.joinB {σ : Type} (B : Nat) (I : σ → World → Prop) (env : σ → Env) {c : Code} (h : WC P n (JB n Q B I env) c ρ w) (hJ : ∀ s w', I s w' → At n Q (.exit B) (env s) w') : WC P n Q c ρ w :=
  fun a ha => wp_mono (h a ha) fun e a' w' hq => by
    cases e with
    | exit id =>
      simp only [JB] at hq
      split at hq
      · rename_i e; subst e; obtain ⟨s, hi, hf⟩ := hq; exact hJ s w' hi a' hf
      · exact hq
    | _ => exact hq
theorem At.hitB {σ : Type} {B : Nat} {I : σ → World → Prop} {env : σ → Env} (s : σ) (hi : I s w) (hs : Sub (env s) ρ) : At n (JB n Q B I env) (.exit B) ρ w := fun a ha => by
  simp only [JB, if_true]; exact ⟨s, hi, ha.sub hs⟩
theorem At.joinBR {σ : Type} {B : Nat} {I : σ → World → Prop} {env : σ → Env} (h : At n Q .ret ρ w) : At n (JB n Q B I env) .ret ρ w := h
theorem skipped {l : List Oper} {j s : Nat} {b : Bool} {v : Value} {a : Act} (ha : Fits n ρ a) (hj : (l[j]?).bind (·.dst) = some s) (hs : lk ρ s = some v) (hb : (match v with | .bool c => c == b | _ => false) = false) :
    (yielded l.toArray a.tmps j == some b) = false := by
  have h1 := ha.get s _ hs
  unfold yielded
  have : (l.toArray[j]?).bind (·.dst) = some s := by simpa using hj
  rw [this]
  simp only [Option.bind_some, h1]
  cases v <;> first | rfl | simpa using hb
/-- an operation whose guard says no -/
theorem WL.gS {l : List Oper} {j s : Nat} {b : Bool} {v : Value} (hj : (l[j]?).bind (·.dst) = some s) (hs : lk ρ s = some v) (hb : (match v with | .bool c => c == b | _ => false) = false) (hd : Nat.blt d n = true)
    (h : WL P n l.toArray Q rest ((d, undef) :: ρ) w) : WL P n l.toArray Q (⟨some d, op, ty, pos, aft, some (j, b)⟩ :: rest) ρ w := by
  intro a ha
  refine wpList_step fun K hK => ?_
  have : ¬ Region.wanted ⟨some d, op, ty, pos, aft, some (j, b)⟩ (yielded l.toArray a.tmps) = true := by
    simp only [Region.wanted, skipped ha hj hs hb]; simp
  rw [if_neg this]
  exact hK _ _ (h _ (ha.put hd undef))
end
/-! ### regions that draw their order: a head that leaves the world alone, a tail in its order -/
def WS (P : Program) (n : Nat) (ops : Array Oper) (w : World) (G : Act → Prop) (l : List Oper) (ρ : Env) : Prop :=
  ∀ a, Fits n ρ a → wpStill P ops w G l a
section
variable {P : Program} {n : Nat} {ops : Array Oper} {Q : Exit → Act → World → Prop} {ρ : Env} {w : World} {rest : List Oper} {G : Act → Prop}
variable {d : Nat} {ty : TypeId} {pos : String} {aft : Array Edge} {op : Op}
theorem WC.draw {id : Nat} {l : List Oper} (k : Nat) (O : Own) (hm : P.follows .mixedOrders = true) (hB : Region.lexTailB .any l.toArray k = true)
    (h : ∀ w', Stp [] O w O w' → WS P n l.toArray w' (fun a' => wpList P l.toArray Q (l.drop k) a' w') (l.take k) ρ) : WC P n Q (.region id l.toArray true) ρ w :=
  fun a ha => wp_region_still_tail k hm hB (h _ stp_drew a ha)
theorem WS.tail {l : List Oper} (h : WL P n ops Q l ρ w) : WS P n ops w (fun a' => wpList P ops Q l a' w) [] ρ := fun a ha => h a ha
theorem WS.y {v : Value} (hy : Y P op ty ρ w v) (hd : Nat.blt d n = true) (h : WS P n ops w G rest ((d, v) :: ρ)) : WS P n ops w G (⟨some d, op, ty, pos, aft, none⟩ :: rest) ρ := by
  intro a ha
  refine wpStill_step fun K hK => ?_
  have : Region.wanted ⟨some d, op, ty, pos, aft, none⟩ (yielded ops a.tmps) = true := rfl
  rw [if_pos this]
  unfold Oper.still
  rw [hy a n _ ha rfl rfl]
  exact ⟨rfl, hK _ (h _ (ha.put hd v))⟩
end
/-! ### bits of signed numbers -/
def xorI (a b : Int) : Int := w64 ((BitVec.ofInt 64 a ^^^ BitVec.ofInt 64 b).toNat : Int)
section
variable {P : Program} {ρ : Env} {w : World} {ty t t' : TypeId} {x y : Operand} {a b : Int}
theorem Y.xor_i (hx : ev ρ x = some (vi a)) (hy : ev ρ y = some (vi b)) : Y P (.binOp .xor t x y t') ty ρ w (vi (xorI a b)) := Y.bin hx hy (by simp only [binOp, Op.intBits, IntKind.bits, w64_eq]; rfl)
theorem Blk.runAg {ℓ : Nat} {O : Own} {b : Nat} {T : TypeId} {cells : List Value} {d : TypeDesc} {size bytes : Nat} {z : Value} (h : Blk ℓ O w b T cells) (off : Nat) (cs : List Value) (ht : TyOk P t d size bytes z) (hd : isAggD d = true) (hc : (cells.drop off).take cs.length = cs) (hl : cs.length = size) :
    (Instr.loadAt t (.pointer (some ⟨b, off, none⟩))).run P w = .ok (.agg cs.toArray) w := run_loadAg ht hd (h.cells off cs hc) hl
end
end Go.Lg
namespace Go.Lg
open Go
end Go.Lg
namespace Go.Lg
open Go
theorem run_slnil (d : Nat) {P : Program} {w : World} {t e : TypeId} {p : Option Addr} {n c : Nat} (hu : P.underlying t = some (.slice e)) : (Op.equalIn (d + 1) t (.slice p n c) (.slice none 0 0)).run P w = .ok p.isNone w := by
  cases p <;> simp [Op.equalIn, run_underlying hu]
theorem Y.slnil {P : Program} {ρ : Env} {w : World} {ty t t' e : TypeId} {x y : Operand} {p : Option Addr} {n c : Nat} (hu : P.underlying t = some (.slice e)) (hx : ev ρ x = some (.slice p n c)) (hy : ev ρ y = some (.slice none 0 0)) :
    Y P (.binOp .eql t x y t') ty ρ w (.bool p.isNone) := by
  intro a n' o ha ho _
  have he : (Op.equal t (.slice p n c) (.slice none 0 0)).run P w = .ok p.isNone w := by
    exact run_slnil 9999 hu
  simp only [execOp, ho, ha.eval hx, ha.eval hy]
  simp [eqGuard, binOp, he]
theorem Sl.shape {α : Type} {R : Rep α} {w : World} {A : Nat → Prop} {v : Value} {xs : List α} (h : Sl R w A v xs) : ∃ p n c, v = .slice p n c := by
  rcases h with ⟨e, _⟩ | ⟨q, c, e, _⟩ | ⟨b, off, cap, cells, t, fr, e, _⟩
  · exact ⟨_, _, _, e⟩
  · exact ⟨_, _, _, e⟩
  · exact ⟨_, _, _, e⟩
theorem Sl.nilOr {α : Type} {R : Rep α} {w : World} {A : Nat → Prop} {v : Value} {xs : List α} (h : Sl R w A v xs) : (v = .slice none 0 0 ∧ xs = []) ∨ ∃ q n c, v = .slice (some q) n c := by
  rcases h with h | ⟨q, c, e, _⟩ | ⟨b, off, cap, cells, t, fr, e, _⟩
  · exact .inl h
  · exact .inr ⟨_, _, _, e⟩
  · exact .inr ⟨_, _, _, e⟩
theorem OwnSl.shape {α : Type} {ℓ : Nat} {R : Rep α} {e : TypeId} {O : Own} {w : World} {v : Value} {xs : List α} (h : OwnSl ℓ R e O w v xs) : ∃ p n c, v = .slice p n c := h.src.sl.shape
end Go.Lg
namespace Go.Lg
open Go
theorem memB {O : Own} {L : List Nat} {b ℓ n : Nat} (hl : O b = ℓ) (hc : L.contains ℓ = true) : ∀ k, k = b → k < n → O k ∈ L := by
  intro k e _; subst e; rw [hl]; simpa using hc
theorem memV {O : Own} {L : List Nat} {v : Value} {w : World} {ℓ n : Nat} (hv : ∀ b, v.ownBlock = some b → O b = ℓ ∧ b < w.heap.size) (hc : L.contains ℓ = true) : ∀ k, v.ownBlock = some k → k < n → O k ∈ L := by
  intro k e _; rw [(hv k e).1]; simpa using hc
end Go.Lg
namespace Go.Lg
open Go
theorem Rows'.adoptI {α : Type} {R : Rep α} {w w' : World} {O O' : Own} {A : Nat → Prop} {cs : List Value} {xs : List α} {g : Nat → Nat} (h : Rows' R w' (fun k => A k ∨ w.heap.size ≤ k) cs xs) (hA : ∀ k, A k → imm O k) (hg : ∀ k, w.heap.size ≤ k → g k ≤ 1) (ho : ∀ k, k < w.heap.size → O' k = O k) (hn : ∀ k, w.heap.size ≤ k → O' k = g k) : Rows' R w' (imm O') cs xs :=
  h.mono fun k hk _ => ⟨by
    unfold imm
    rcases Nat.lt_or_ge k w.heap.size with hl | hl
    · rw [ho k hl]
      rcases hk with hk | hk
      · exact hA k hk
      · omega
    · rw [hn k hl]; exact hg k hl, rfl⟩
end Go.Lg
namespace Go.Lg
open Go
/-! ### cells that are read, as a fact that is handed on -/
structure CAt (ls : List Nat) (O : Own) (w : World) (b off : Nat) (cs : List Value) : Prop where
  lab : O b ∈ ls
  lt : b < w.heap.size
  at_ : CellsAt w b off cs
theorem CAt.st {ls L : List Nat} {O O' : Own} {w w' : World} {b off : Nat} {cs : List Value} (h : CAt ls O w b off cs) (hs : Stp L O w O' w') (hd : ls.all (fun x => !L.contains x) = true) : CAt ls O' w' b off cs := by
  have hn : O b ∉ L := by
    have := List.all_eq_true.1 hd _ h.lab
    simpa using this
  refine ⟨by rw [hs.lab b h.lt hn]; exact h.lab, Nat.lt_of_lt_of_le h.lt hs.size, ?_⟩
  obtain ⟨cells, t, fr, hb, hc⟩ := h.at_
  exact ⟨cells, t, fr, (hs.blk b h.lt hn).trans hb, hc⟩
theorem CellsAt.lt {w : World} {b off : Nat} {cs : List Value} (h : CellsAt w b off cs) : b < w.heap.size := by
  obtain ⟨cells, t, fr, hb, hc⟩ := h; exact blk_lt hb
theorem Sl.at2 {α : Type} {R : Rep α} {A : Nat → Prop} {w : World} {v : Value} {xs : List α} {i : Int} {x : α} (h : Sl R w A v xs) (hi : idx xs i = some x) :
    ∃ b off cap cs, v = .slice (some ⟨b, off, none⟩) xs.length cap ∧ 0 ≤ i ∧ i < xs.length ∧ CellsAt w b (off + i.toNat * R.n) cs ∧ R.ok w A cs x ∧ A b := by
  obtain ⟨b, off, cap, cs, e, h0, h1, h2, _, h4⟩ := h.at hi
  refine ⟨b, off, cap, cs, e, h0, h1, h2, h4, ?_⟩
  rcases h with ⟨e2, rfl⟩ | ⟨_, _, _, rfl⟩ | ⟨b2, off2, cap2, cells, t, fr, e2, hA, _⟩
  · simp [idx] at hi
  · simp [idx] at hi
  · rw [e2] at e; cases e; exact hA
theorem CAt.imm {O : Own} {w : World} {b off : Nat} {cs : List Value} (h : CellsAt w b off cs) (hl : Lg.imm O b) : CAt [0, 1] O w b off cs :=
  ⟨by unfold Lg.imm at hl; simp; omega, h.lt, h⟩
theorem CAt.frs {O : Own} {w : World} {b off : Nat} {cs : List Value} (h : CellsAt w b off cs) (hl : Lg.frs O b) : CAt [0, 1] O w b off cs :=
  ⟨by unfold Lg.frs at hl; simp; omega, h.lt, h⟩
theorem CAt.own {α : Type} {ℓ : Nat} {R : Rep α} {e : TypeId} {O : Own} {w : World} {v : Value} {xs : List α} {b off len cap : Nat} {cs : List Value} (ho : OwnSl ℓ R e O w v xs) (hv : v = .slice (some ⟨b, 0, none⟩) len cap) (h : CellsAt w b off cs) : CAt [ℓ] O w b off cs :=
  ⟨by have := (ho.labs b (by rw [hv]; rfl)).1; simp [this], h.lt, h⟩
/-! ### Regions that draw their order -/
def HW (L : List Nat) (O : Own) (w : World) : World → Prop := fun w' => ∃ O', Stp L O w O' w'
/-! phases: F is what comes up before the cut; what waits beyond waits for all of F -/
def Closed (ops : Array Oper) (listed : Array Bool) : Prop := ∀ (k : Nat) (ok : Oper), ops[k]? = some ok → listed.getD k false = true → ∀ e ∈ ok.after, Region.binds .any e = true → listed.getD e.on false = true
def Waits (ops : Array Oper) (j i : Nat) : Prop := ∃ oj, ops[j]? = some oj ∧ ∃ e ∈ oj.after, Region.binds .any e = true ∧ e.on = i
def Cut (ops : Array Oper) (F : List Nat) : Prop := ∀ j, j < ops.size → j ∉ F → ∀ i ∈ F, Waits ops j i ∨ ∃ k ∈ F, Waits ops j k ∧ Waits ops k i
def waitsB (l : List Oper) (j i : Nat) : Bool := match l[j]? with
  | some o => o.after.toList.any fun e => Region.binds .any e && e.on == i
  | none => false
def cutB (l : List Oper) (F : List Nat) : Bool := (List.range l.length).all fun j => F.contains j || F.all fun i => waitsB l j i || F.any fun k => waitsB l j k && waitsB l k i
theorem waitsB_spec {l : List Oper} {j i : Nat} (h : waitsB l j i = true) : Waits l.toArray j i := by
  unfold waitsB at h
  split at h
  · rename_i o ho
    obtain ⟨e, he, h2⟩ := List.any_eq_true.1 h
    simp only [Bool.and_eq_true, beq_iff_eq] at h2
    exact ⟨o, by simpa using ho, e, by simpa using he, h2.1, h2.2⟩
  · cases h
theorem cutB_spec {l : List Oper} {F : List Nat} (h : cutB l F = true) : Cut l.toArray F := by
  intro j hj hn i hi
  have h1 := List.all_eq_true.1 h j (by simpa using hj)
  simp only [Bool.or_eq_true] at h1
  rcases h1 with h1 | h1
  · exact absurd (by simpa using h1) hn
  · have h2 := List.all_eq_true.1 h1 i hi
    simp only [Bool.or_eq_true] at h2
    rcases h2 with h2 | h2
    · exact .inl (waitsB_spec h2)
    · obtain ⟨k, hk, h3⟩ := List.any_eq_true.1 h2
      simp only [Bool.and_eq_true] at h3
      exact .inr ⟨k, hk, waitsB_spec h3.1, waitsB_spec h3.2⟩
theorem Closed.set {ops : Array Oper} {listed : Array Bool} {j : Nat} (h : Closed ops listed) (hj : j ∈ Region.ready .any ops listed) : Closed ops (listed.setIfInBounds j true) := by
  obtain ⟨_, oj, hoj, hall⟩ := mem_ready.1 hj
  intro k ok hk hl e he hb
  by_cases hjk : j = k
  · subst hjk
    rw [hoj] at hk; cases hk
    exact getD_set_true (hall e he hb)
  · rw [getD_set_ne false hjk] at hl
    exact getD_set_true (h k ok hk hl e he hb)
def allIn (F : List Nat) (listed : Array Bool) : Bool := F.all fun i => listed.getD i false
def wpAnyC (P : Program) (ops : Array Oper) (Q : Exit → Act → World → Prop) (S : World → Prop) (F : List Nat) : Nat → Array Bool → Act → World → Prop
  | 0, listed, a, w => allIn F listed = true ∧ wpAny P .any ops Q 0 listed a w
  | fuel + 1, listed, a, w => (allIn F listed = true ∧ wpAny P .any ops Q (fuel + 1) listed a w) ∨
    (allIn F listed = false ∧ Region.ready .any ops listed ≠ [] ∧ ∀ i ∈ Region.ready .any ops listed, wpOp P ops Q i (fun a' w' => S w' ∧ wpAnyC P ops Q S F fuel (listed.setIfInBounds i true) a' w') a w)
section
variable {P : Program} {ops : Array Oper} {Q : Exit → Act → World → Prop} {S S' : World → Prop} {F : List Nat}
theorem wpAny_of_C : ∀ (fuel : Nat) (listed : Array Bool) (a : Act) (w : World), wpAnyC P ops Q S F fuel listed a w → wpAny P .any ops Q fuel listed a w
  | 0, _, _, _, h => h.2
  | fuel + 1, _, _, _, .inl h => h.2
  | fuel + 1, _, _, _, .inr h => ⟨fun h0 => absurd h0 h.2.1, fun i hi => wpOp_mono (fun a' w' h' => wpAny_of_C fuel _ a' w' h'.2) (h.2.2 i hi)⟩
theorem wpAnyC_cut {listed : Array Bool} {a : Act} {w : World} (hF : allIn F listed = true) : ∀ fuel, wpAny P .any ops Q fuel listed a w → wpAnyC P ops Q S F fuel listed a w
  | 0, h => ⟨hF, h⟩
  | _ + 1, h => .inl ⟨hF, h⟩
theorem wpAnyC_mono (hS : ∀ w, S w → S' w) : ∀ (fuel : Nat) (listed : Array Bool) (a : Act) (w : World), wpAnyC P ops Q S F fuel listed a w → wpAnyC P ops Q S' F fuel listed a w
  | 0, _, _, _, h => h
  | fuel + 1, _, _, _, .inl h => .inl h
  | fuel + 1, _, _, _, .inr h => .inr ⟨h.1, h.2.1, fun i hi => wpOp_mono (fun a' w' h' => ⟨hS _ h'.1, wpAnyC_mono hS fuel _ a' w' h'.2⟩) (h.2.2 i hi)⟩
theorem getD_false {listed : Array Bool} {i : Nat} (h : listed.getD i true = false) : listed.getD i false = false := by
  rcases Nat.lt_or_ge i listed.size with h' | h'
  · simp [h'] at h ⊢; exact h
  · simp [Array.getElem?_eq_none h'] at h
theorem allIn_false {listed : Array Bool} {i : Nat} (hi : i ∈ F) (h : listed.getD i true = false) : allIn F listed = false := by
  cases hc : allIn F listed with
  | false => rfl
  | true =>
    have := List.all_eq_true.1 hc i hi
    rw [getD_false h] at this; cases this
theorem wpAnyC_first {i : Nat} {oi : Oper} {v : Value} (hi : ops[i]? = some oi) (hiF : i ∈ F) (hcut : Cut ops F) (hsel : ∀ (j : Nat) (o : Oper) cs b, ops[j]? = some o → o.op ≠ .select cs b)
    (hQ : ∀ c a w, Q (.panic c) (a.put oi.dst v) w → Q (.panic c) a w) :
    ∀ (fuel : Nat) (listed : Array Bool) (a : Act) (w : World), Closed ops listed →
      (∀ j oj, ops[j]? = some oj → j ≠ i → listed.getD j true = false → (∀ e ∈ oj.after, Region.binds .any e = true → e.on ≠ i) → oi.apart ops oj = true) →
      i ∈ Region.ready .any ops listed → YieldsIf P ops S oi v a → S w →
      wpAnyC P ops Q S F fuel (listed.setIfInBounds i true) (a.put oi.dst v) w → wpAnyC P ops Q S F (fuel + 1) listed a w := by
  intro fuel
  induction fuel with
  | zero =>
    intro listed a w _ _ hr hy hS H
    refine .inr ⟨allIn_false hiF (mem_ready.1 hr).1, (fun h => by rw [h] at hr; cases hr), fun j hj => ?_⟩
    by_cases hji : j = i
    · subst hji; exact hy.wpOp hi hS ⟨hS, H⟩
    · have := ready_mono hj hji
      rw [H.2.1] at this
      cases this
  | succ fuel ih =>
    intro listed a w hcl hfree hr hy hS H
    have hun : listed.getD i false = false := getD_false (mem_ready.1 hr).1
    refine .inr ⟨allIn_false hiF (mem_ready.1 hr).1, (fun h => by rw [h] at hr; cases hr), fun j hj => ?_⟩
    by_cases hji : j = i
    · subst hji; exact hy.wpOp hi hS ⟨hS, H⟩
    · obtain ⟨hjun, oj, hoj, hall⟩ := mem_ready.1 hj
      have hnot : ∀ e ∈ oj.after, Region.binds .any e = true → e.on ≠ i := fun e he hb heq => by
        have h1 := hall e he hb
        rw [heq, hun] at h1; cases h1
      rcases H with ⟨hF, _⟩ | ⟨_, _, H⟩
      · exfalso
        by_cases hjF : j ∈ F
        · have h1 := List.all_eq_true.1 hF j hjF
          rw [getD_set_ne false (Ne.symm hji)] at h1
          rw [getD_false hjun] at h1; cases h1
        · have hjl : j < ops.size := (Array.getElem?_eq_some_iff.1 hoj).1
          rcases hcut j hjl hjF i hiF with ⟨o2, h2, e, he, hb, hon⟩ | ⟨k, _, ⟨o2, h2, e, he, hb, hon⟩, ⟨o3, h3, e3, he3, hb3, hon3⟩⟩
          · rw [hoj] at h2; cases h2
            exact hnot e he hb hon
          · rw [hoj] at h2; cases h2
            have h4 := hall e he hb
            rw [hon] at h4
            have h5 := hcl k o3 h3 h4 e3 he3 hb3
            rw [hon3, hun] at h5; cases h5
      have h1 := H j (ready_mono hj hji)
      have h2 := wpOp_putIf hoj (hfree j oj hoj hji hjun hnot) (fun cs b => hsel i oi cs b hi) (fun cs b => hsel j oj cs b hoj) hQ hy h1
      have hfree' : ∀ k ok, ops[k]? = some ok → k ≠ i → (listed.setIfInBounds j true).getD k true = false →
          (∀ e ∈ ok.after, Region.binds .any e = true → e.on ≠ i) → oi.apart ops ok = true := fun k ok hk hki hun hno => by
        refine hfree k ok hk hki ?_ hno
        by_cases hjk : j = k
        · subst hjk; exact hjun
        · rw [getD_set_ne true hjk] at hun; exact hun
      refine wpOp_mono (fun a' w' h3 => ⟨h3.2.1, ih (listed.setIfInBounds j true) a' w' (hcl.set hj) hfree' (ready_mono hr (Ne.symm hji)) h3.1 h3.2.1 ?_⟩) h2
      rw [Array.setIfInBounds_comm _ _ hji]
      exact h3.2.2
theorem wpAnyC_all {rs : List Nat} {fuel : Nat} {listed : Array Bool} {a : Act} {w : World} (hr : Region.ready .any ops listed = rs) (hne : rs ≠ []) (hF : allIn F listed = false)
    (h : ∀ i ∈ rs, wpOp P ops Q i (fun a' w' => S w' ∧ wpAnyC P ops Q S F fuel (listed.setIfInBounds i true) a' w') a w) : wpAnyC P ops Q S F (fuel + 1) listed a w :=
  .inr ⟨hF, hr ▸ hne, hr ▸ h⟩
end
/-- which have come up -/
def done (m : Nat) (S : List Nat) : Array Bool := ((List.range m).map fun j => S.contains j).toArray
theorem done_set (m i : Nat) (S : List Nat) : (done m S).setIfInBounds i true = done m (i :: S) := by
  apply Array.ext
  · simp [done]
  · intro j h1 h2
    simp only [done, List.setIfInBounds_toArray, List.getElem_toArray, List.getElem_set, List.getElem_map, List.getElem_range, List.contains_cons]
    by_cases e : i = j
    · subst e; simp
    · have : (j == i) = false := by simpa using fun h => e h.symm
      simp [e, this]
theorem done_nil (m : Nat) : Array.replicate m false = done m [] := by
  apply Array.ext
  · simp [done]
  · intro j h1 h2; simp [done]
def WD (P : Program) (n : Nat) (l : List Oper) (Q : Exit → Act → World → Prop) (L F : List Nat) (f : Nat) (S : List Nat) (ρ : Env) (O : Own) (w : World) : Prop :=
  Cut l.toArray F → Closed l.toArray (done l.length S) → ∀ a, Fits n ρ a → wpAnyC P l.toArray (NoPanic Q) (HW L O w) F f (done l.length S) a w
def lightB (l : List Oper) (F S : List Nat) (i : Nat) : Bool :=
  F.contains i && Region.noSelect l.toArray && Region.free .any l.toArray (done l.length S) i && (Region.ready .any l.toArray (done l.length S)).contains i
def heavyB (l : List Oper) (F S : List Nat) (i : Nat) : Bool := decide (Region.ready .any l.toArray (done l.length S) = [i]) && !allIn F (done l.length S)
def endB (l : List Oper) (F S : List Nat) : Bool := (Region.ready .any l.toArray (done l.length S)).isEmpty && allIn F (done l.length S)
/-- behind a heavy operation -/
def DQ (P : Program) (l : List Oper) (Q : Exit → Act → World → Prop) (L F : List Nat) (f : Nat) (S : List Nat) (O : Own) (w : World) : Exit → Act → World → Prop
  | .normal, a, w' => ∃ O', Stp L O w O' w' ∧ (Cut l.toArray F → Closed l.toArray (done l.length S) → wpAnyC P l.toArray (NoPanic Q) (HW L O' w') F f (done l.length S) a w')
  | e, a, w' => NoPanic Q e a w'
section
variable {P : Program} {n : Nat} {l : List Oper} {Q : Exit → Act → World → Prop} {L F : List Nat} {f : Nat} {S : List Nat} {ρ : Env} {O : Own} {w : World}
variable {d : Nat} {ty : TypeId} {pos : String} {aft : Array Edge} {op : Op}
theorem closed_nil : Closed l.toArray (done l.length []) := by
  intro k ok hk hl
  exfalso
  rw [← done_nil] at hl
  have hlt : k < l.length := by have := (Array.getElem?_eq_some_iff.1 hk).1; simpa using this
  simp [hlt] at hl
theorem WC.drawH {id : Nat} (L F : List Nat) (O : Own) (m : Nat) (hm : P.follows .mixedOrders = true) (hl : l.length = m) (hc : cutB l F = true)
    (h : ∀ w', Stp [] O w O w' → WD P n l Q L F m [] ρ O w') : WC P n Q (.region id l.toArray true) ρ w := fun a ha => by
  refine wp_region_noPanic (wp_region_any hm (wpAny_of_C (S := HW L O w.drew) (F := F) _ _ _ _ ?_))
  have := h _ stp_drew (cutB_spec hc) closed_nil a ha
  rw [← hl] at this
  rw [show l.toArray.size = l.length by simp, done_nil]
  exact this
theorem WD.sub {ρ' : Env} (hs : Sub ρ' ρ) (h : WD P n l Q L F f S ρ' O w) : WD P n l Q L F f S ρ O w := fun hc hk a ha => h hc hk a (ha.sub hs)
theorem wpAny_end {ops : Array Oper} {Q : Exit → Act → World → Prop} {listed : Array Bool} {a : Act} (hr : Region.ready .any ops listed = []) (h : Q .normal a w) : ∀ fuel, wpAny P .any ops Q fuel listed a w
  | 0 => ⟨hr, h⟩
  | _ + 1 => ⟨fun _ => h, by rw [hr]; simp⟩
theorem WD.done_ (hb : endB l F S = true) (h : At n Q .normal ρ w) : WD P n l Q L F f S ρ O w := fun _ _ a ha => by
  simp only [endB, Bool.and_eq_true] at hb
  exact wpAnyC_cut (Q := NoPanic Q) hb.2 _ (wpAny_end (by simpa [List.isEmpty_iff] using hb.1) (show NoPanic Q .normal a w from h a ha) _)
/-- the phase is over: another begins -/
theorem WD.phase (L' F' : List Nat) (hb : allIn F (done l.length S) = true) (hc : cutB l F' = true) (h : WD P n l Q L' F' f S ρ O w) : WD P n l Q L F f S ρ O w := fun _ hk a ha =>
  wpAnyC_cut hb _ (wpAny_of_C _ _ _ _ (h (cutB_spec hc) hk a ha))
theorem npQ {dst : Option Tmp} {v : Value} : ∀ c (a : Act) (w : World), NoPanic Q (.panic c) (a.put dst v) w → NoPanic Q (.panic c) a w := fun _ _ _ h => h
theorem ready_done {i : Nat} (hk : Closed l.toArray (done l.length S)) (h : (Region.ready .any l.toArray (done l.length S)).contains i = true) : Closed l.toArray (done l.length (i :: S)) := by
  rw [← done_set]
  exact hk.set (by simpa using h)
theorem WD.take {o : Oper} {v : Value} (i : Nat) (hi : l[i]? = some o) (hb : lightB l F S i = true) {a : Act} (hc : Cut l.toArray F) (hk : Closed l.toArray (done l.length S))
    (hy : YieldsIf P l.toArray (HW L O w) o v a) (h : Closed l.toArray (done l.length (i :: S)) → wpAnyC P l.toArray (NoPanic Q) (HW L O w) F f (done l.length (i :: S)) (a.put o.dst v) w) :
    wpAnyC P l.toArray (NoPanic Q) (HW L O w) F (f + 1) (done l.length S) a w := by
  simp only [lightB, Bool.and_eq_true] at hb
  have hi' : l.toArray[i]? = some o := by simpa using hi
  refine wpAnyC_first hi' (by simpa using hb.1.1.1) hc (Region.noSelect_spec hb.1.1.2) npQ f _ a w hk (Region.free_spec hi' hb.1.2) (by simpa using hb.2) hy ⟨O, Stp.refl _ _ _⟩ ?_
  rw [done_set]; exact h (ready_done hk hb.2)
theorem WD.y {v : Value} (i : Nat) (hi : l[i]? = some ⟨some d, op, ty, pos, aft, none⟩) (hb : lightB l F S i = true) (hy : ∀ w' O', Stp L O w O' w' → Y P op ty ρ w' v) (hd : Nat.blt d n = true)
    (h : WD P n l Q L F f (i :: S) ((d, v) :: ρ) O w) : WD P n l Q L F (f + 1) S ρ O w := fun hc hk a ha => by
  refine WD.take i hi hb hc hk (.inl ⟨rfl, fun w' ⟨O', hs⟩ => ?_⟩) (fun hk' => h hc hk' _ (ha.put hd v))
  exact hy w' O' hs a n _ ha rfl rfl
theorem WD.gT {v : Value} (i : Nat) {j s : Nat} {b : Bool} (hi : l[i]? = some ⟨some d, op, ty, pos, aft, some (j, b)⟩) (hb : lightB l F S i = true) (hj : (l[j]?).bind (·.dst) = some s) (hs : lk ρ s = some (.bool b)) (hy : ∀ w' O', Stp L O w O' w' → Y P op ty ρ w' v) (hd : Nat.blt d n = true)
    (h : WD P n l Q L F f (i :: S) ((d, v) :: ρ) O w) : WD P n l Q L F (f + 1) S ρ O w := fun hc hk a ha => by
  refine WD.take i hi hb hc hk (.inl ⟨by simp [Region.wanted, yielded_of ha hj hs], fun w' ⟨O', hs⟩ => ?_⟩) (fun hk' => h hc hk' _ (ha.put hd v))
  exact hy w' O' hs a n _ ha rfl rfl
theorem WD.gS {v : Value} (i : Nat) {j s : Nat} {b : Bool} (hi : l[i]? = some ⟨some d, op, ty, pos, aft, some (j, b)⟩) (hb : lightB l F S i = true) (hj : (l[j]?).bind (·.dst) = some s) (hs : lk ρ s = some v) (hv : (match v with | .bool c => c == b | _ => false) = false) (hd : Nat.blt d n = true)
    (h : WD P n l Q L F f (i :: S) ((d, undef) :: ρ) O w) : WD P n l Q L F (f + 1) S ρ O w := fun hc hk a ha =>
  WD.take i hi hb hc hk (.inr ⟨by simp only [Region.wanted, skipped ha hj hs hv], rfl⟩) (fun hk' => h hc hk' _ (ha.put hd undef))
theorem WD.ren {v v' : Value} (s : Nat) (hs : lk ρ s = some v) (hv : v = v') (h : WD P n l Q L F f S ((s, v') :: ρ) O w) : WD P n l Q L F f S ρ O w := by
  subst hv
  intro hc hk a ha
  refine h hc hk a ⟨ha.defers, ha.size, fun i u hu => ?_⟩
  simp only [lk] at hu
  by_cases e : s = i
  · subst e; simp at hu; subst hu; exact ha.get s _ hs
  · have : Nat.beq s i = false := Bool.eq_false_iff.2 fun h => e (Nat.eq_of_beq_eq_true h)
    rw [this] at hu
    exact ha.get i u hu
theorem WD.one {o : Oper} (i : Nat) (hi : l[i]? = some o) (hc : Cut l.toArray F) (hk : Closed l.toArray (done l.length (i :: S))) (h : WL P n l.toArray (DQ P l Q L F f (i :: S) O w) [o] ρ w) {a : Act} (ha : Fits n ρ a) :
    wpOp P l.toArray (NoPanic Q) i (fun a' w' => HW L O w w' ∧ wpAnyC P l.toArray (NoPanic Q) (HW L O w) F f ((done l.length S).setIfInBounds i true) a' w') a w := by
  have h1 := h a ha
  have hi' : l.toArray[i]? = some o := by simpa using hi
  unfold wpOp
  simp only [hi']
  have key : ∀ (a' : Act) (w' : World), wpList P l.toArray (DQ P l Q L F f (i :: S) O w) [] a' w' → HW L O w w' ∧ wpAnyC P l.toArray (NoPanic Q) (HW L O w) F f ((done l.length S).setIfInBounds i true) a' w' := by
    intro a' w' h2
    obtain ⟨O', hs, h3⟩ := h2
    refine ⟨⟨O', hs⟩, ?_⟩
    rw [done_set]
    exact wpAnyC_mono (fun w'' ⟨O'', hs'⟩ => ⟨O'', hs.trans hs'⟩) _ _ _ _ (h3 hc hk)
  simp only [wpList] at h1
  split
  · rename_i hw
    rw [if_pos hw] at h1
    rcases h1 with h1 | ⟨h1, a0, w0, h2⟩
    · refine .inl ?_
      revert h1
      unfold Oper.wp
      generalize (execOp a.eval o).run P w = r
      intro h1
      unfold Oper.upon at h1 ⊢
      split at h1
      · exact key _ _ h1
      · exact key _ _ h1
      · exact key _ _ h1
      · refine Calls.mono h1 ?_
        intro e w' h'
        cases e with
        | returned v => exact key _ _ h'
        | panicked c => exact h'
        | outgrown => obtain ⟨a0, w0, h2⟩ := h'; exact ⟨a0, w0, h2⟩
      · refine Rows.mono h1 ?_
        intro v w' h'
        exact key _ _ h'
      · exact h1
      · exact h1.elim
    · exact .inr ⟨h1, a0, w0, h2⟩
  · rename_i hw
    rw [if_neg hw] at h1
    exact key _ _ h1
/-- a heavy one: none else may come up -/
theorem WD.heavy {o : Oper} (i : Nat) (hi : l[i]? = some o) (hb : heavyB l F S i = true) (h : WL P n l.toArray (DQ P l Q L F f (i :: S) O w) [o] ρ w) : WD P n l Q L F (f + 1) S ρ O w := fun hc hk a ha => by
  simp only [heavyB, Bool.and_eq_true, decide_eq_true_eq, Bool.not_eq_true'] at hb
  refine wpAnyC_all (rs := [i]) hb.1 (by simp) hb.2 fun j hj => ?_
  have : j = i := by simpa using hj
  subst this
  exact WD.one j hi hc (ready_done hk (by rw [hb.1]; simp)) h ha
def heavyB2 (l : List Oper) (F S : List Nat) (i j : Nat) : Bool := decide (Region.ready .any l.toArray (done l.length S) = [i, j]) && !allIn F (done l.length S)
/-- two, none ahead of the other -/
theorem WD.heavy2 {o o' : Oper} (i j : Nat) (hi : l[i]? = some o) (hj : l[j]? = some o') (hb : heavyB2 l F S i j = true) (h : WL P n l.toArray (DQ P l Q L F f (i :: S) O w) [o] ρ w) (h' : WL P n l.toArray (DQ P l Q L F f (j :: S) O w) [o'] ρ w) : WD P n l Q L F (f + 1) S ρ O w := fun hc hk a ha => by
  simp only [heavyB2, Bool.and_eq_true, decide_eq_true_eq, Bool.not_eq_true'] at hb
  refine wpAnyC_all (rs := [i, j]) hb.1 (by simp) hb.2 fun k hkm => ?_
  have hk' : k = i ∨ k = j := by simpa using hkm
  rcases hk' with e | e
  · subst e; exact WD.one k hi hc (ready_done hk (by rw [hb.1]; simp)) h ha
  · subst e; exact WD.one k hj hc (ready_done hk (by rw [hb.1]; simp)) h' ha
theorem WD.perm (S S' : List Nat) (hb : (List.range l.length).all (fun j => S.contains j == S'.contains j) = true) (h : WD P n l Q L F f S' ρ O w) : WD P n l Q L F f S ρ O w := by
  have e : done l.length S = done l.length S' := by
    unfold done
    congr 1
    apply List.map_congr_left
    intro j hj
    have := List.all_eq_true.1 hb j hj
    simpa using this
  unfold WD
  rw [e]
  exact h
theorem At.dq {O' : Own} {w' : World} {ρ' : Env} (hs : Stp L O w O' w') (h : WD P n l Q L F f S ρ' O' w') : At n (DQ P l Q L F f S O w) .normal ρ' w' := fun a ha => ⟨O', hs, fun hc hk => h hc hk a ha⟩
/-- ways that meet again -/
theorem WD.join {σ : Type} {f' : Nat} (S' : List Nat) (I : σ → Own → World → Prop) (env : σ → Env) (h : (∀ s O' w' ρ', I s O' w' → Sub (env s) ρ' → WD P n l Q L F f' S' ρ' O' w') → WD P n l Q L F f S ρ O w)
    (hJ : ∀ s O' w', I s O' w' → WD P n l Q L F f' S' (env s) O' w') : WD P n l Q L F f S ρ O w :=
  h fun s O' w' _ hi hs => (hJ s O' w' hi).sub hs
end
end Go.Lg
namespace Go.Lg
open Go
section
variable {P : Program} {n : Nat} {ops : Array Oper} {Q : Exit → Act → World → Prop} {ρ : Env} {w : World} {rest : List Oper} {O : Own}
theorem Sl.slice {α : Type} {R : Rep α} {A : Nat → Prop} {t e : TypeId} {sz0 by0 by1 : Nat} {z0 z : Value} {ed : TypeDesc} {x : Operand} {lo hi : Option Operand} {l h : Int} {v : Value} {xs ys : List α}
    (ht : TyOk P t (.slice e) sz0 by0 z0) (he : TyOk P e ed R.n by1 z) (hx : ev ρ x = some v) (hlo : evI ρ lo 0 = some l) (hhi : evI ρ hi xs.length = some h) (hsl : Sl R w A v xs) (hs : slc xs l h = some ys) :
    ∃ v', (∀ (w' : World) (ty : TypeId), Y P (.slice t x lo hi none) ty ρ w' v') ∧ Sl R w A v' ys := by
  obtain ⟨h0, h1, h2, rfl⟩ := slc_spec hs
  rcases hsl with ⟨rfl, rfl⟩ | ⟨q, c, rfl, rfl⟩ | ⟨b, off, cap, cells, t', fr, rfl, hA, hb, hc, hz, hr⟩
  · have hl : l = 0 := by simp at h2; omega
    have hh : h = 0 := by simp at h2; omega
    subst hl; subst hh
    refine ⟨.slice none 0 0, fun w' ty a n o ha ho _ => ?_, .inl ⟨rfl, by simp⟩⟩
    have := run_sliceAt (w := w') (q := none) (len := 0) (cap := 0) ht he ha hlo hhi (Int.le_refl _) (Int.le_refl _) (by simp) (by simp)
    simp only [execOp, ho, ha.eval hx, Option.map_none, Sem.run_bind, this, Result.andThen_ok, Sem.run_pure]
    simp
  · have hl : l = 0 := by simp at h2; omega
    have hh : h = 0 := by simp at h2; omega
    subst hl; subst hh
    refine ⟨.slice (if c = 0 then some q else (some q).map (·.add (0 * R.n))) 0 c, fun w' ty a n o ha ho _ => ?_, .inr (.inl ⟨if c = 0 then q else q.add (0 * R.n), c, by by_cases hc : c = 0 <;> simp [hc], by simp⟩)⟩
    have := run_sliceAt (w := w') (q := some q) (len := 0) (cap := c) ht he ha hlo hhi (Int.le_refl _) (Int.le_refl _) (by simp) (by simp)
    simp only [execOp, ho, ha.eval hx, Option.map_none, Sem.run_bind, this, Result.andThen_ok, Sem.run_pure]
    simp
  · have hlen : ((xs.take h.toNat).drop l.toNat).length = h.toNat - l.toNat := by rw [List.length_drop, List.length_take]; omega
    refine ⟨.slice (if cap = l.toNat then some (⟨b, off, none⟩ : Addr) else (some (⟨b, off, none⟩ : Addr)).map (·.add (l.toNat * R.n))) (h.toNat - l.toNat) (cap - l.toNat), fun w' ty a n o ha ho _ => ?_, ?_⟩
    rotate_left
    · have e3 : (if cap = l.toNat then some (⟨b, off, none⟩ : Addr) else (some (⟨b, off, none⟩ : Addr)).map (·.add (l.toNat * R.n))) = some ⟨b, if cap = l.toNat then off else off + l.toNat * R.n, none⟩ := by
        split <;> simp [Addr_add]
      rw [e3]
      have hmul : (l.toNat + (h.toNat - l.toNat)) * R.n ≤ xs.length * R.n := Nat.mul_le_mul_right _ (by omega)
      rw [Nat.add_mul] at hmul
      refine .inr <| .inr ⟨b, _, cap - l.toNat, cells, t', fr, by rw [hlen], hA, hb, by rw [hlen]; omega, ?_, ?_⟩
      · rw [hlen]
        split
        · have : h.toNat - l.toNat = 0 := by omega
          rw [this]; omega
        · omega
      · rw [hlen]
        by_cases hcl : cap = l.toNat
        · have h5 : h.toNat - l.toNat = 0 := by omega
          have h6 : (xs.take h.toNat).drop l.toNat = [] := by apply List.eq_nil_of_length_eq_zero; rw [hlen, h5]
          rw [h5, h6, Nat.zero_mul, List.take_zero]; rfl
        · rw [if_neg hcl]
          have h7 := Rows'.drop l.toNat (Rows'.take h.toNat hr)
          have e5 : ((((cells.toList.drop off).take (xs.length * R.n)).take (h.toNat * R.n)).drop (l.toNat * R.n)) = ((cells.toList.drop (off + l.toNat * R.n)).take ((h.toNat - l.toNat) * R.n)) := by
            have hm2 : h.toNat * R.n ≤ xs.length * R.n := Nat.mul_le_mul_right _ (by omega)
            rw [List.take_take, Nat.min_eq_left hm2, List.drop_take, List.drop_drop, Nat.sub_mul]
          rw [e5] at h7
          exact h7
    · have := run_sliceAt (w := w') ht he ha hlo hhi h0 h1 h2 hc (q := some ⟨b, off, none⟩)
      simp only [execOp, ho, ha.eval hx, Option.map_none, Sem.run_bind, this, Result.andThen_ok, Sem.run_pure]
/-- a guard that says yes: as if there were none -/
theorem WL.ung {l : List Oper} {j s : Nat} {b : Bool} {dst : Option Tmp} {op : Op} {ty : TypeId} {pos : String} {aft : Array Edge} (hj : (l[j]?).bind (·.dst) = some s) (hs : lk ρ s = some (.bool b))
    (h : WL P n l.toArray Q (⟨dst, op, ty, pos, aft, none⟩ :: rest) ρ w) : WL P n l.toArray Q (⟨dst, op, ty, pos, aft, some (j, b)⟩ :: rest) ρ w := by
  intro a ha
  have h1 := h a ha
  have e1 : Region.wanted ⟨dst, op, ty, pos, aft, some (j, b)⟩ (yielded l.toArray a.tmps) = true := by simp [Region.wanted, yielded_of ha hj hs]
  have e2 : Region.wanted ⟨dst, op, ty, pos, aft, none⟩ (yielded l.toArray a.tmps) = true := rfl
  simp only [wpList, e1, e2, if_true] at h1 ⊢
  exact h1
end
end Go.Lg
namespace Go.Lg
open Go
theorem Y.sub {P : Program} {op : Op} {ty : TypeId} {ρ ρ' : Env} {w : World} {v : Value} (hs : Sub ρ' ρ) (h : Y P op ty ρ' w v) : Y P op ty ρ w v :=
  fun a n o ha ho ht => h a n o (ha.sub hs) ho ht
end Go.Lg
namespace Go.Lg
open Go
end Go.Lg
namespace Go.Lg
open Go
def add64S (a b c : UInt64) : UInt64 := a + b + c
def add64C (a b c : UInt64) : UInt64 := UInt64.ofNat ((a.toNat + b.toNat + c.toNat) / 18446744073709551616)
def X64 (P : Program) (f : FuncId) : Prop := ∀ (a b c : UInt64) (w : World), c.toNat ≤ 1 → (callFunc f #[vu a, vu b, vu c]).run P w = .ok (.value (.tuple [vu (add64S a b c), vu (add64C a b c)].toArray)) w
theorem x64 {P : Program} {f : FuncId} {fn : Func} (hf : P.funcs[f]? = some fn) (h1 : (fn.name == "runtime.NumGoroutine") = false) (h2 : fn.body.isNone = true) (h3 : Extern.findNext fn = none) (h4 : Extern.find fn = some add64Entry) : X64 P f := by
  intro a b c w hc
  have ha := UInt64.toNat_lt a
  have hb := UInt64.toNat_lt b
  rw [run_callFunc_extern hf h1 h2 h3 h4, run_add64 _ _ _ (by omega) (by omega) (by omega) (by omega)]
  simp only [Result.andThen]
  have e1 : (((a.toNat : Int) + (b.toNat : Int) + (c.toNat : Int)) % 18446744073709551616) = ((add64S a b c).toNat : Int) := by
    unfold add64S
    rw [UInt64.toNat_add, UInt64.toNat_add]; omega
  have e2 : (((a.toNat : Int) + (b.toNat : Int) + (c.toNat : Int)) / 18446744073709551616) = ((add64C a b c).toNat : Int) := by
    unfold add64C
    rw [UInt64.toNat_ofNat']; omega
  rw [e1, e2]
section
variable {P : Program} {ρ : Env} {w : World} {ty : TypeId} {f : FuncId} {x y z : Operand} {ats : Array TypeId} {a b c : UInt64}
theorem Y.add64 (h : X64 P f) (hc : c.toNat ≤ 1) (hx : ev ρ x = some (vu a)) (hy : ev ρ y = some (vu b)) (hz : ev ρ z = some (vu c)) :
    Y P (.call { callee := .value (.func f), args := #[x, y, z], argTypes := ats }) ty ρ w (.tuple [vu (add64S a b c), vu (add64C a b c)].toArray) := by
  intro A n o ha ho ht
  obtain ⟨d, op, t, pos, aft, g⟩ := o
  simp only at ho ht
  subst ho
  rw [execOp_call_go]
  have e : (#[] ++ #[x, y, z].map A.eval ++ #[] : Array Value) = #[vu a, vu b, vu c] := by simp [ha.eval hx, ha.eval hy, ha.eval hz]
  rw [e]
  exact h a b c w hc
end
end Go.Lg
namespace Go.Lg
open Go
/-! ### recursion -/
open Classical in
/-- the first answer that comes when one may call oneself so many times -/
noncomputable def fuel {α : Type} (f : Nat → Option α) : Option α := if h : ∃ k, (f k).isSome then f (Classical.choose h) else none
theorem fuel_some {α : Type} {f : Nat → Option α} {r : α} (h : fuel f = some r) : ∃ k, f k = some r := by
  unfold fuel at h
  split at h
  · exact ⟨_, h⟩
  · cases h
theorem fuel_of {α : Type} {f : Nat → Option α} {r : α} (hu : ∀ k x, f k = some x → x = r) {k : Nat} (h : f k = some r) : fuel f = some r := by
  have hx : ∃ k, (f k).isSome := ⟨k, by rw [h]; rfl⟩
  unfold fuel
  rw [dif_pos hx]
  obtain ⟨x, hq⟩ := Option.isSome_iff_exists.1 (Classical.choose_spec hx)
  rw [hq, hu _ _ hq]
section
variable {P : Program} {n : Nat} {ops : Array Oper} {Q : Exit → Act → World → Prop} {ρ : Env} {w : World} {rest : List Oper} {O : Own}
variable {d : Nat} {ty : TypeId} {pos : String} {aft : Array Edge} {x : Operand}
/-! ### a loop's rounds, one by one -/
/-! ### a slice literal as an object -/
theorem Y.lenv {t e : TypeId} {size bytes : Nat} {z : Value} {q : Option Addr} {l c : Nat}
    (ht : TyOk P t (.slice e) size bytes z) (hx : ev ρ x = some (.slice q l c)) : Y P (.call { callee := .builtin .len, args := #[x], argTypes := #[t] }) ty ρ w (vi ((l : Nat) : Int)) := by
  intro a n o ha ho _
  simp [execOp, ho, resolve, invoke, builtin, ha.eval hx, Builtin.len_, run_underlying ht.u, goInt]
end
end Go.Lg
namespace Go.Lg
open Go
section
variable {P : Program} {ρ : Env} {w : World} {ty t t' : TypeId} {x y : Operand}
def EqV (P : Program) (d : Nat) (t : TypeId) (a b : Value) (r : Bool) : Prop := ∀ w, (Op.equalIn d t a b).run P w = .ok r w
def EqF (P : Program) (d : Nat) (xs ys : Array Value) (fs : List Field) (r : Bool) : Prop := ∀ w, (Op.eqFields d xs ys fs).run P w = .ok r w
theorem EqF.nil {d : Nat} {xs ys : Array Value} : EqF P d xs ys [] true := fun _ => rfl
theorem EqF.cons {d : Nat} {xs ys : Array Value} {f : Field} {fs : List Field} {a b : Value} {r r' : Bool} (hn : f.name ≠ "_") (ha : ∀ w, (part f.type xs f.offset).run P w = .ok a w) (hb : ∀ w, (part f.type ys f.offset).run P w = .ok b w)
    (he : EqV P d f.type a b r) (k : EqF P d xs ys fs r') : EqF P d xs ys (f :: fs) (r && r') := by
  intro w
  simp only [Op.eqFields, Sem.run_ite, Sem.run_bind, ha w, hb w, he w, Result.andThen_ok, if_pos hn]
  cases r
  · simp
  · simpa using k w
theorem EqV.s {d : Nat} {a b : List UInt8} (h : P.underlying t = some .string) : EqV P (d + 1) t (vs a) (vs b) (decide (a = b)) := fun w => by
  show (Op.equalIn (d + 1) t (.string ⟨a.toArray⟩) (.string ⟨b.toArray⟩)).run P w = _
  rw [run_equalIn_string w d t _ _ h, ByteArray.toList_eq, ByteArray.toList_eq]
  by_cases q : a = b
  · subst q; simp
  · simp [q]
/-- a structure's cells, both ways -/
structure AgOk (P : Program) (t : TypeId) (fs : Array Field) : Prop where
  u : P.underlying t = some (.struct fs)
  p : P.stoodInHeld t = false
  g : P.eqGuardType P.depth t = false
theorem Y.neq_ag {fs : Array Field} {xs ys : List Value} {r : Bool} (hk : AgOk P t fs) (hx : ev ρ x = some (.agg xs.toArray)) (hy : ev ρ y = some (.agg ys.toArray)) (h : EqF P 9999 xs.toArray ys.toArray fs.toList r) :
    Y P (.binOp .neq t x y t') ty ρ w (.bool (!r)) := by
  intro A n o ha ho _
  have hf : P.fieldsOf t = fs := by unfold Program.fieldsOf; rw [hk.u]
  have e1 := run_equalIn_agg w 9999 t xs.toArray ys.toArray (by rw [hf]; exact hk.u) hk.p
  rw [hf, h w] at e1
  simp only [execOp, ho, ha.eval hx, ha.eval hy, Sem.run_bind, run_eqGuard_agg w .neq t x y _ _ hk.g, Result.andThen_ok, run_neq_struct, e1, Sem.run_pure]
end
end Go.Lg
namespace Go.Lg
open Go
section
variable {P : Program} {n : Nat} {ops : Array Oper} {Q : Exit → Act → World → Prop} {ρ : Env} {w : World} {rest : List Oper}
variable {d : Nat} {ty : TypeId} {pos : String} {aft : Array Edge} {ats : Array TypeId} {f : FuncId} {x : Operand} {xs : List Operand} {fv cv vals : List Value} {Post : Value → World → Prop}
theorem WL.callJ {σ : Type} (I : σ → World → Prop) (V : σ → Value) (hk : CallOk P f) (hargs : evs ρ xs = some vals) (hd : Nat.blt d n = true) (hc : Rets P f vals w (fun v w' => ∃ x, I x w' ∧ v = V x))
    (h : ∀ x w', I x w' → WL P n ops Q rest ((d, V x) :: ρ) w') : WL P n ops Q (⟨some d, .call { callee := .value (.func f), args := xs.toArray, argTypes := ats }, ty, pos, aft, none⟩ :: rest) ρ w :=
  WL.call hk hargs hd hc fun v w' ⟨x, hi, e⟩ => by subst e; exact h x w' hi
theorem run_callVal {a : Act} (hx : a.eval x = .func (.func f) fv.toArray cv.toArray) (hk : CallOk P f) (hargs : xs.map a.eval = vals) (dst : Option Tmp) :
    (execOp a.eval ⟨dst, .call { callee := .value x, args := xs.toArray, argTypes := ats }, ty, pos, aft, none⟩).run P w = .ok (.enter f (fv ++ vals ++ cv).toArray) w := by
  have e : (fv.toArray ++ xs.toArray.map a.eval ++ cv.toArray : Array Value) = (fv ++ vals ++ cv).toArray := by simp [← hargs]
  have h := hk (fv.toArray ++ xs.toArray.map a.eval ++ cv.toArray) w
  simp only [execOp, resolve, hx, Deferred.ofValue, Sem.run_bind, Sem.run_pure, Result.andThen_ok, invoke]
  rw [h, e]
theorem WL.callV {σ : Type} (I : σ → World → Prop) (V : σ → Value) (hk : CallOk P f) (hx : ev ρ x = some (.func (.func f) fv.toArray cv.toArray)) (hargs : evs ρ xs = some vals) (hd : Nat.blt d n = true)
    (hc : Rets P f (fv ++ vals ++ cv) w (fun v w' => ∃ x, I x w' ∧ v = V x))
    (h : ∀ x w', I x w' → WL P n ops Q rest ((d, V x) :: ρ) w') : WL P n ops Q (⟨some d, .call { callee := .value x, args := xs.toArray, argTypes := ats }, ty, pos, aft, none⟩ :: rest) ρ w := by
  intro a ha
  refine wpList_plain rfl fun K hK => ?_
  unfold Oper.wp
  rw [run_callVal (ha.eval hx) hk (ha.evals hargs), Oper.upon_enter]
  refine Calls.mono hc fun e w' ⟨v, he, x, hi, hv⟩ => ?_
  subst he; subst hv
  exact hK _ _ (h x w' hi _ (ha.put hd _))
theorem Y.mkfunc {fs cs : List Operand} (hf : evs ρ fs = some fv) (hc : evs ρ cs = some cv) : Y P (.makeFunc (.func f) fs.toArray cs.toArray) ty ρ w (.func (.func f) fv.toArray cv.toArray) := by
  intro a n o ha ho _
  have e1 := ha.evals hf
  have e2 := ha.evals hc
  simp [execOp, ho, Instr.makeFunc, ← e1, ← e2]
end
section
variable {α : Type} {R : Rep α} {w w' : World} {O O' : Own} {A B : Nat → Prop} {v u : Value} {xs : List α} {e : TypeId} {L : List Nat}
/-! ### package variables that are read alone -/
end
section
variable {P : Program} {ρ : Env} {w : World} {ty t e : TypeId} {x y : Operand}
end
section
variable {P : Program} {n : Nat} {l : List Oper} {Q : Exit → Act → World → Prop} {L F S : List Nat} {f : Nat} {ρ : Env} {O : Own} {w : World}
end
theorem sLess_tri : ∀ a b : List UInt8, (sLess a b || a == b) = !sLess b a
  | [], [] => rfl
  | [], _ :: _ => rfl
  | _ :: _, [] => rfl
  | a :: x, b :: y => by
    have ih := sLess_tri x y
    simp only [sLess, List.cons_beq_cons]
    by_cases h1 : a < b
    · have h2 : ¬ b < a := UInt8.lt_asymm h1
      have h3 : ¬ b = a := fun e => by subst e; exact UInt8.lt_irrefl _ h1
      simp [h1, h2, h3]
    · by_cases e : a = b
      · subst e
        simp [UInt8.lt_irrefl]
        simpa using ih
      · have h2 : b < a := by
          rcases UInt8.lt_or_lt_of_ne e with h | h
          · exact absurd h h1
          · exact h
        simp [h1, h2, e]
section
variable {P : Program} {ρ : Env} {w : World} {ty t t' : TypeId} {x y : Operand} {a b : List UInt8}
theorem Y.gtr_s (hx : ev ρ x = some (vs a)) (hy : ev ρ y = some (vs b)) : Y P (.binOp .gtr t x y t') ty ρ w (.bool (sLess b a)) :=
  Y.strop hx hy (by simp only [binOp, Op.stringOp, toList_vs, bytesLess_eq, sLess_tri, Bool.not_not]; rfl)
end
/-! ### which block a label names, at the start -/
section
variable {O : Own} {A : Nat → Prop} {v u : Value} {b ℓ ℓ' : Nat}
end
end Go.Lg
namespace Go.Lg
open Go
/-- read of such blocks alone -/
def Rep.fr {α : Type} (R : Rep α) (B : Nat → Prop) : Rep α :=
  ⟨R.n, fun w A cs d => R.ok w (fun k => A k ∧ B k) cs d, fun h => R.len h, fun h => R.one h, fun h hm => R.mono h fun k hk hl => ⟨⟨(hm k hk.1 hl).1, hk.2⟩, (hm k hk.1 hl).2⟩⟩
abbrev imB (O : Own) (n : Nat) : Nat → Prop := fun k => imm O k ∧ n ≤ k
abbrev frR {α : Type} (R : Rep α) (n : Nat) : Rep α := Rep.fr R fun k => n ≤ k
section
variable {α : Type} {R : Rep α} {w w' : World} {O O' : Own} {A B : Nat → Prop} {v u : Value} {xs : List α} {e : TypeId} {L : List Nat} {n : Nat}
theorem Rows'.unfr : ∀ {xs : List α} {cs : List Value}, Rows' (Rep.fr R B) w A cs xs → Rows' R w A cs xs
  | [], _, h => h
  | _ :: _, _, ⟨c1, c2, e, h1, h2⟩ => ⟨c1, c2, e, R.mono h1 (fun k hk _ => ⟨hk.1, rfl⟩), Rows'.unfr h2⟩
theorem Rows'.toFr : ∀ {xs : List α} {cs : List Value}, Rows' R w (fun k => A k ∧ B k) cs xs → Rows' (Rep.fr R B) w A cs xs
  | [], _, h => h
  | _ :: _, _, ⟨c1, c2, e, h1, h2⟩ => ⟨c1, c2, e, h1, Rows'.toFr h2⟩
theorem Rows'.ofFr : ∀ {xs : List α} {cs : List Value}, Rows' (Rep.fr R B) w A cs xs → Rows' R w (fun k => A k ∧ B k) cs xs
  | [], _, h => h
  | _ :: _, _, ⟨c1, c2, e, h1, h2⟩ => ⟨c1, c2, e, h1, Rows'.ofFr h2⟩
theorem Sl.unfr (h : Sl (Rep.fr R B) w A v xs) : Sl R w A v xs := by
  rcases h with h | h | ⟨b, off, cap, cells, t, fr, e, h1, h2, h3, h4, h5⟩
  · exact .inl h
  · exact .inr (.inl h)
  · exact .inr <| .inr ⟨b, off, cap, cells, t, fr, e, h1, h2, h3, h4, h5.unfr⟩
theorem Sl.toFr (h : Sl R w (fun k => A k ∧ B k) v xs) : Sl (Rep.fr R B) w A v xs := by
  rcases h with h | h | ⟨b, off, cap, cells, t, fr, e, h1, h2, h3, h4, h5⟩
  · exact .inl h
  · exact .inr (.inl h)
  · exact .inr <| .inr ⟨b, off, cap, cells, t, fr, e, h1.1, h2, h3, h4, h5.toFr⟩
theorem Sl.frB (h : Sl R w' (frs O') v xs) (hs : Stp L O w O' w') (hO : Low O) : Sl R w' (imB O' w.heap.size) v xs :=
  h.mono fun k hk _ => ⟨⟨by unfold frs at hk; unfold imm; omega, fresh_of hs hO (.inl hk)⟩, rfl⟩
theorem Sl.frbI (h : Sl R w (imB O n) v xs) : Sl R w (imm O) v xs := h.mono fun k hk _ => ⟨hk.1, rfl⟩
theorem Sl.frb_st (h : Sl R w (imB O n) v xs) (hs : Stp L O w O' w') (h0 : L.contains 0 = false) (h1 : L.contains 1 = false) : Sl R w' (imB O' n) v xs :=
  h.mono fun k hk hl => ⟨⟨(imm_st hs h0 h1 k hk.1 hl).1, hk.2⟩, (imm_st hs h0 h1 k hk.1 hl).2⟩
theorem Sl.srcB (h : Sl R w (imB O n) v xs) : Src (frR R n) O w v xs := Sl.src (Sl.toFr h)
theorem OwnSl.giveB {ℓ : Nat} {O0 : Own} {w0 : World} (hℓ : Nat.ble 10 ℓ = true) (h : OwnSl ℓ (frR R w0.heap.size) e O w v xs) (hs : Stp L O0 w0 O w) (hO : Low O0) : ∃ O', Stp [ℓ] O w O' w ∧ Sl R w (imB O' w0.heap.size) v xs := by
  have hℓ' : 10 ≤ ℓ := by simpa using hℓ
  refine ⟨_, frz_st ℓ hℓ' O w, ?_⟩
  obtain ⟨cs, ⟨hl, ho⟩, hr, hb⟩ := h
  rcases ho with ⟨rfl, hn⟩ | ⟨g, cap, cur, rfl, hbg, hg, hc, hm, hz, ht⟩
  · exact .inl ⟨rfl, List.eq_nil_of_length_eq_zero hn⟩
  · have hgl := hb g rfl
    refine .inr <| .inr ⟨g, 0, cap, cur, e, (0, 0), rfl, ⟨by simp [imm, Lg.frz, hgl], fresh_of hs hO (.inr (by omega))⟩, hg, hc, ?_, ?_⟩
    · rw [hz, Nat.zero_add]; exact Nat.mul_le_mul_right _ hc
    · rw [List.drop_zero]
      have ht' : cur.toList.take (xs.length * R.n) = cs := ht
      rw [ht']
      exact Rows'.mono (fun k hk _ => ⟨⟨by have := hk.1; unfold imm Lg.frz at *; split <;> omega, hk.2⟩, rfl⟩) hr.ofFr
theorem Sl.outFb (h : Sl R w' (imB O' n) u xs) : Sl R w' (fun k => n ≤ k) u xs := h.mono fun k hk _ => ⟨hk.2, rfl⟩
end
end Go.Lg
namespace Go.Lg
open Go
def fE (n : Nat) : Nat := n / 4503599627370496 % 2048
def fM (n : Nat) : Nat := n % 4503599627370496
def fS (n : Nat) : Bool := decide (9223372036854775808 ≤ n)
/-- is that not a number? -/
def fOdd (n : Nat) : Bool := decide (fE n = 2047 ∧ fM n ≠ 0)
/-- the sum's bits; of what is no sum the odd one's -/
def fAdd (a b : UInt64) : UInt64 := match Ieee.double.add a.toNat b.toNat with
  | some r => UInt64.ofNat r
  | none => 9221120237041090561
def fLess (a b : UInt64) : Bool := Ieee.double.order a.toNat b.toNat == some .lt
section
variable {P : Program} {n : Nat} {ops : Array Oper} {Q : Exit → Act → World → Prop} {ρ : Env} {w : World} {rest : List Oper} {O : Own}
variable {d : Nat} {ty t t' : TypeId} {pos : String} {aft : Array Edge} {x y : Operand} {a b : Nat}
theorem Y.fless (hx : ev ρ x = some (.float .f64 a)) (hy : ev ρ y = some (.float .f64 b)) : Y P (.binOp .lss t x y t') ty ρ w (.bool (Ieee.double.order a b == some .lt)) := by
  intro A n o ha ho _
  simp [execOp, ho, ha.eval hx, ha.eval hy, eqGuard, Go.binOp, Op.floatCmp, FloatKind.format]
/-! the calls that the model answers -/
def XFrom (P : Program) (f : FuncId) : Prop := ∀ (a : UInt64) (w : World), (callFunc f #[vu a]).run P w = .ok (.value (.float .f64 a.toNat)) w
theorem xfrom {f : FuncId} {fn : Func} (hf : P.funcs[f]? = some fn) (h1 : (fn.name == "runtime.NumGoroutine") = false) (h2 : fn.body.isNone = true) (h3 : Extern.findNext fn = none) (h4 : Extern.find fn = some Extern.MathFloatBits.float64frombits) : XFrom P f := by
  intro a w
  rw [run_callFunc_extern hf h1 h2 h3 h4]; rfl
theorem Y.ffrom {f : FuncId} {ats : Array TypeId} {a : UInt64} (h : XFrom P f) (hx : ev ρ x = some (vu a)) : Y P (.call { callee := .value (.func f), args := #[x], argTypes := ats }) ty ρ w (.float .f64 a.toNat) := by
  intro A n o ha ho ht
  obtain ⟨d, op, t, pos, aft, g⟩ := o
  simp only at ho ht
  subst ho
  rw [execOp_call_go]
  have e : (#[] ++ #[x].map A.eval ++ #[] : Array Value) = #[vu a] := by simp [ha.eval hx]
  rw [e]
  exact h a w
end
end Go.Lg
namespace Go.Lg
open Go
section
variable {P : Program} {n : Nat} {ops : Array Oper} {Q : Exit → Act → World → Prop} {ρ : Env} {w : World} {rest : List Oper} {O : Own}
variable {d : Nat} {ty t t' : TypeId} {pos : String} {aft : Array Edge} {x y : Operand} {a b c e : Nat} {ats : Array TypeId}
end
end Go.Lg
namespace Go.Lg
open Go
section
variable {P : Program} {n : Nat} {Q : Exit → Act → World → Prop} {ρ : Env} {w : World}
end
end Go.Lg
namespace Go.Lg
open Go
def up4 (i j : Int) (x y : UInt64) : UInt64 := bif decide (i = j) then x else y
section
variable {P : Program} {n : Nat} {ops : Array Oper} {Q : Exit → Act → World → Prop} {ρ : Env} {w : World} {rest : List Oper} {O : Own} {ty : TypeId} {pos : String} {aft : Array Edge}
end
end Go.Lg
namespace Go.Lg
open Go
section
variable {P : Program} {ρ : Env} {w : World} {ty : TypeId} {f : FuncId} {x y : Operand} {ats : Array TypeId} {s t t' e u T : TypeId} {v : Value}
end
section
variable {P : Program} {w : World}
end
section rules
variable {P : Program} {n : Nat} {ops : Array Oper} {Q : Exit → Act → World → Prop} {ρ : Env} {w : World} {rest : List Oper} {O : Own}
variable {d : Nat} {ty : TypeId} {pos : String} {aft : Array Edge}
end rules
end Go.Lg
namespace Go.Lg
open Go
/-- a pointer that may be nil, to cells that are read alone -/
def Pr {α : Type} (R : Rep α) (t : TypeId) (w : World) (A : Nat → Prop) (v : Value) (d : Option α) : Prop :=
  (v = .pointer none ∧ d = none) ∨ ∃ b cs x, v = .pointer (some ⟨b, 0, none⟩) ∧ d = some x ∧ A b ∧ w.heap[b]? = some (.cells (List.toArray cs) t (0, 0)) ∧ R.ok w A cs x
section
variable {α : Type} {R : Rep α} {t : TypeId} {w w' : World} {O O' : Own} {A B : Nat → Prop} {v u : Value} {d : Option α} {L : List Nat} {n : Nat}
theorem Pr.mono (h : Pr R t w A v d) (hm : ∀ k, A k → k < w.heap.size → B k ∧ w'.heap[k]? = w.heap[k]?) : Pr R t w' B v d := by
  rcases h with h | ⟨b, cs, x, e, hd, ha, hb, hr⟩
  · exact .inl h
  · obtain ⟨h1, h2⟩ := hm b ha (blk_lt hb)
    exact .inr ⟨b, cs, x, e, hd, h1, h2.trans hb, R.mono hr hm⟩
def Rep.ptr {α : Type} (R : Rep α) (t : TypeId) : Rep (Option α) :=
  ⟨1, fun w A cs d => ∃ v, cs = [v] ∧ Pr R t w A v d, fun ⟨v, e, _⟩ => by rw [e]; rfl,
   fun ⟨v, e, h⟩ u hu => by rw [e] at hu; simp at hu; subst hu; rcases h with ⟨rfl, _⟩ | ⟨b, cs, x, rfl, _⟩ <;> rfl,
   fun ⟨v, e, h⟩ hm => ⟨v, e, h.mono hm⟩⟩
theorem out_lab {b ℓ : Nat} (h : O b = ℓ) (hl : L.contains ℓ = false) : out L O b := by unfold out; rw [h]; exact hl
/-- a block that is read alone -/
structure BlkI (O : Own) (w : World) (b : Nat) (t : TypeId) (cells : List Value) : Prop where
  le : O b ≤ 1
  blk : w.heap[b]? = some (.cells cells.toArray t (0, 0))
end
section
variable {P : Program} {n : Nat} {ops : Array Oper} {Q : Exit → Act → World → Prop} {ρ : Env} {w : World} {rest : List Oper} {O : Own} {ty : TypeId} {pos : String} {aft : Array Edge}
/-! ### a part of a structure's value -/
theorem run_partSc {e : TypeId} {d : TypeDesc} {size bytes : Nat} {z v : Value} {xs : Array Value} {off : Nat} (ht : TyOk P e d size bytes z) (hd : isAggD d = false) (hx : xs[off]? = some v) : (part e xs off).run P w = .ok v w := by
  have hg : (isAgg e).run P w = .ok false w := by
    simp only [isAgg, Sem.run_bind, run_underlying ht.u, Result.andThen_ok]
    cases d <;> first | rfl | simp [isAggD] at hd
  simp [part, hg, hx]
theorem Y.fieldSc {t e : TypeId} {fs : Array Field} {fd : Field} {f off : Nat} {d : TypeDesc} {size bytes : Nat} {z v : Value} {x : Operand} {cells : List Value} (hu : P.underlying t = some (.struct fs)) (hf : fs[f]? = some fd) (hft : fd.type = e) (ho : fd.offset = off)
    (ht : TyOk P e d size bytes z) (hd : isAggD d = false) (hx : ev ρ x = some (.agg cells.toArray)) (hv : cells[off]? = some v) : Y P (.field t x f) ty ρ w v := by
  intro a n o ha ho' _
  subst hft ho
  simp [execOp, ho', ha.eval hx, Instr.field, run_underlying hu, hf, asAgg, run_partSc ht hd (xs := cells.toArray) (by simpa using hv)]
/-! ### clear of a row's tail -/
theorem zeroRows {α : Type} {R : Rep α} {z : Array Value} {A : Nat → Prop} {u : α} (hz : R.ok w A z.toList u) (hs : z.size = R.n) (hp : 0 < R.n) : ∀ m, Rows' R w A (Builtin.zeroCells z m).toList (List.replicate m u)
  | 0 => by simp [Builtin.zeroCells, Rows']
  | m + 1 => by
    have ih := zeroRows hz hs hp m
    rw [List.replicate_succ']
    have e : (Builtin.zeroCells z (m + 1)).toList = (Builtin.zeroCells z m).toList ++ z.toList := by
      apply List.ext_getElem
      · simp [Builtin.zeroCells, Nat.add_mul]
      · intro i h1 h2
        have hzl : z.toList.length = z.size := rfl
        simp [Builtin.zeroCells] at h1
        by_cases hi : i < m * z.size
        · rw [List.getElem_append_left (by simpa [Builtin.zeroCells] using hi)]
          simp [Builtin.zeroCells]
        · rw [List.getElem_append_right (by simpa [Builtin.zeroCells] using hi)]
          have h3 : i < m * z.size + z.size := by rw [Nat.add_mul, Nat.one_mul] at h1; exact h1
          have h4 : i % z.size = i - m * z.size := by
            have : i = (i - m * z.size) + m * z.size := by omega
            rw [this, Nat.add_mul_mod_self_right, Nat.mod_eq_of_lt (by omega)]; omega
          have h5 : i - m * z.size < z.size := by omega
          simp [Builtin.zeroCells, h4, h5]
    rw [e]
    exact Rows'.append (show Rows' R w A z.toList [u] from ⟨z.toList, [], by simp, hz, rfl⟩) ih
end
end Go.Lg
namespace Go.Lg
open Go Go.MapKept
theorem bndU {β : Type} {o : Option β} {r : β} (h : o = some r) : ∃ x : Unit, some () = some x ∧ o = some r := ⟨(), rfl, h⟩
/-- the object of a map whose entries came in this order -/
def entA : List (Int × Int) → Nat → List MapEntry
  | [], _ => []
  | x :: xs, i => ⟨vi x.1, vi x.2, i⟩ :: entA xs (i + 1)
def mapOb (es : List (Int × Int)) : Obj := .map (entA es 0).toArray es.length
def mget (es : List (Int × Int)) (k : Int) : Option Int := (es.find? fun x => decide (x.1 = k)).map (·.2)
theorem entA_snoc (x : Int × Int) : ∀ (es : List (Int × Int)) (i : Nat), entA (es ++ [x]) i = entA es i ++ [⟨vi x.1, vi x.2, i + es.length⟩]
  | [], i => by simp [entA]
  | y :: ys, i => by
    simp only [List.cons_append, entA, List.length_cons, entA_snoc x ys (i + 1)]
    rw [show i + 1 + ys.length = i + (ys.length + 1) by omega]
theorem find_ent {kind : TypeDesc} {k : Int} (hk : kind = .int .i64) : ∀ (es : List (Int × Int)) (i j : Nat), ∃ r, Instr.findNow kind (vi k) (entA es i) j = some r ∧ r.map (·.2) = (mget es k).map vi
  | [], i, j => ⟨none, rfl, rfl⟩
  | x :: xs, i, j => by
    subst hk
    by_cases h : x.1 = k
    · refine ⟨some (j, vi x.2), ?_, ?_⟩
      · simp [entA, Instr.findNow, Instr.sameNow, h]
      · simp [mget, h]
    · obtain ⟨r, h1, h2⟩ := find_ent (kind := .int .i64) (k := k) rfl xs (i + 1) (j + 1)
      refine ⟨r, ?_, ?_⟩
      · have h' : (k == x.1) = false := by simpa using fun e : k = x.1 => h e.symm
        simp [entA, Instr.findNow, Instr.sameNow, h', h1]
      · rw [h2]; simp [mget, List.find?_cons, h]
structure MBlk (ℓ : Nat) (O : Own) (w : World) (r : Nat) (es : List (Int × Int)) : Prop where
  lab : O r = ℓ
  blk : w.heap[r]? = some (mapOb es)
def Mi (w : World) (A : Nat → Prop) (v : Value) (es : List (Int × Int)) : Prop := ∃ r, v = .map (some r) ∧ A r ∧ w.heap[r]? = some (mapOb es)
section
variable {w w' : World} {O O' : Own} {A B : Nat → Prop} {v : Value} {es : List (Int × Int)} {L : List Nat} {n : Nat}
theorem Mi.mono (h : Mi w A v es) (hm : ∀ k, A k → k < w.heap.size → B k ∧ w'.heap[k]? = w.heap[k]?) : Mi w' B v es := by
  obtain ⟨r, e, ha, hb⟩ := h
  obtain ⟨h1, h2⟩ := hm r ha (blk_lt hb)
  exact ⟨r, e, h1, h2.trans hb⟩
theorem Mi.i (h : Mi w (imm O) v es) (s : Stp L O w O' w') (h1 : L.contains 0 = false) (h2 : L.contains 1 = false) : Mi w' (imm O') v es := h.mono (imm_st s h1 h2)
theorem Mi.all (h : Mi w A v es) : Mi w (fun _ => True) v es := h.mono fun _ _ _ => ⟨trivial, rfl⟩
theorem Mi.start (h : Mi w A v es) : Mi w (imm (O0 A)) v es := h.mono fun k hk _ => ⟨by unfold imm O0; rw [if_pos hk]; exact Nat.zero_le _, rfl⟩
theorem Mi.OB {b ℓ : Nat} (h : Mi w (imm O) v es) (hA : ∀ k, O k ≤ 1 → k ≠ b) : Mi w (imm (OB b ℓ O)) v es :=
  h.mono fun k hk _ => ⟨by unfold imm Lg.OB; rw [if_neg (hA k hk)]; exact hk, rfl⟩
end
section
variable {P : Program} {n : Nat} {ops : Array Oper} {Q : Exit → Act → World → Prop} {ρ : Env} {w : World} {rest : List Oper} {O : Own} {ty : TypeId} {pos : String} {aft : Array Edge} {d : Nat}
theorem WL.makeMap (ℓ : Nat) {t : TypeId} (hd : Nat.blt d n = true) (h : ∀ r O' w', Stp [] O w O' w' → MBlk ℓ O' w' r [] → WL P n ops Q rest ((d, .map (some r)) :: ρ) w') :
    WL P n ops Q (⟨some d, .makeMap t none, ty, pos, aft, none⟩ :: rest) ρ w := by
  intro a ha
  refine wpList_plain rfl fun K hK => ?_
  have hrun : (Instr.makeMap t none).run P w = .ok (.map (some w.heap.size)) (w.alloc (.map #[] 0)) := rfl
  unfold Oper.wp
  simp only [execOp, Option.map_none, Sem.run_bind, hrun, Result.andThen_ok, Sem.run_pure]
  exact hK _ _ (h _ _ _ (stp_alloc _ ℓ) ⟨by simp [upd], heap_alloc_new w _⟩ _ (ha.put hd _))
theorem stp_setObj {ℓ r : Nat} {o o' : Obj} (hl : O r = ℓ) (hb : w.heap[r]? = some o) : Stp [ℓ] O w O { w with heap := w.heap.setIfInBounds r o' } := by
  refine ⟨rfl, rfl, rfl, by simp, fun _ _ _ => rfl, fun _ _ _ => rfl, fun k _ hn => ?_⟩
  exact (heap_set hb).2 k fun e => hn (by subst e; simp [hl])
theorem WL.insert {ℓ : Nat} {t kt et : TypeId} {m k x : Operand} {r : Nat} {a b : Int} {es : List (Int × Int)} (hu : P.underlying t = some (.map kt et)) (hk : P.underlying kt = some (.int .i64))
    (hm : ev ρ m = some (.map (some r))) (hka : ev ρ k = some (vi a)) (hx : ev ρ x = some (vi b)) (hb : MBlk ℓ O w r es) (hn : mget es a = none)
    (h : ∀ w', Stp [ℓ] O w O w' → MBlk ℓ O w' r (es ++ [(a, b)]) → WL P n ops Q rest ρ w') : WL P n ops Q (⟨none, .insert t m k x, ty, pos, aft, none⟩ :: rest) ρ w := by
  intro ac ha
  refine wpList_plain rfl fun K hK => ?_
  have hb' : w.heap[r]? = some (.map (entA es 0).toArray es.length) := hb.blk
  obtain ⟨q, hq, hq2⟩ := find_ent (kind := .int .i64) (k := a) rfl es 0 0
  rw [hn] at hq2
  have hq0 : q = none := by cases q <;> simp_all
  subst hq0
  have hrun : (Instr.mapUpdate t (.map (some r)) (vi a) (vi b)).run P w = .ok () { w with heap := w.heap.setIfInBounds r (mapOb (es ++ [(a, b)])) } := by
    have hf : (Instr.findKey kt (vi a) (entA es 0).toArray.toList).run P w = .ok none w := run_findKey hk (by simpa using hq)
    have hck := run_checkKey (P := P) (w := w) (k := vi a) hk (by simp [IsKey]) false 9999
    have hob : mapOb (es ++ [(a, b)]) = .map ((entA es 0).toArray.push ⟨vi a, vi b, es.length⟩) (es.length + 1) := by
      unfold mapOb
      rw [entA_snoc]; simp
    rw [hob]
    simp only [Instr.mapUpdate, Sem.run_bind, run_underlying hu, Result.andThen_ok, Go.MapKept.run_getObj_map hb', hck, hf, run_setObj_map _ hb']
  unfold Oper.wp
  simp only [execOp, ha.eval hm, ha.eval hka, ha.eval hx, Sem.run_bind, hrun, Result.andThen_ok, Sem.run_pure]
  exact hK _ _ (h _ (stp_setObj hb.lab hb') ⟨hb.lab, (heap_set hb').1⟩ _ ha)
theorem run_lookup {t kt et : TypeId} {A : Nat → Prop} {v : Value} {es : List (Int × Int)} {a : Int} {ok : Bool} {sz by0 : Nat} (hu : P.underlying t = some (.map kt et)) (hk : P.underlying kt = some (.int .i64)) (he : TyOk P et (.int .i64) sz by0 (vi 0)) (hm : Mi w A v es) :
    (Instr.lookup t v (vi a) ok).run P w = .ok (if ok then .tuple #[vi ((mget es a).getD 0), .bool (mget es a).isSome] else vi ((mget es a).getD 0)) w := by
  obtain ⟨r, rfl, _, hb⟩ := hm
  have hb' : w.heap[r]? = some (.map (entA es 0).toArray es.length) := hb
  obtain ⟨q, hq, hq2⟩ := find_ent (kind := .int .i64) (k := a) rfl es 0 0
  have hf : (Instr.findKey kt (vi a) (entA es 0).toArray.toList).run P w = .ok q w := run_findKey hk (by simpa using hq)
  have hck := run_checkKey (P := P) (w := w) (k := vi a) hk (by simp [IsKey]) (entA es 0).toArray.isEmpty 9999
  have hz : (zeroValue et).run P w = .ok (vi 0) w := by
    obtain ⟨i, hi, hzz, _⟩ := he.i
    simp [zeroValue, typeInfo, hi, hzz]
  simp only [Instr.lookup, Sem.run_bind, run_underlying hu, Result.andThen_ok, Go.MapKept.run_getObj_map hb', hck, hf, Sem.run_pure]
  cases q with
  | none =>
    have : mget es a = none := by cases h : mget es a <;> simp_all
    rw [this]
    simp only [hz, Result.andThen_ok, Sem.run_bind, Sem.run_pure]
    rfl
  | some x =>
    cases hg : mget es a with
    | none => rw [hg] at hq2; cases hq2
    | some y =>
      rw [hg] at hq2
      have hx : x.2 = vi y := by simpa using hq2
      obtain ⟨i, z⟩ := x
      dsimp only at hx
      subst hx
      simp
theorem Y.lookup2 {t kt et : TypeId} {m k : Operand} {A : Nat → Prop} {v : Value} {es : List (Int × Int)} {a : Int} {sz by0 : Nat} (hu : P.underlying t = some (.map kt et)) (hk : P.underlying kt = some (.int .i64)) (he : TyOk P et (.int .i64) sz by0 (vi 0))
    (hm : ev ρ m = some v) (hka : ev ρ k = some (vi a)) (h : Mi w A v es) : Y P (.lookup t m k true) ty ρ w (.tuple #[vi ((mget es a).getD 0), .bool (mget es a).isSome]) := by
  intro ac n o ha ho _
  simp [execOp, ho, ha.eval hm, ha.eval hka, run_lookup hu hk he h]
theorem Y.lookup1 {t kt et : TypeId} {m k : Operand} {A : Nat → Prop} {v : Value} {es : List (Int × Int)} {a : Int} {sz by0 : Nat} (hu : P.underlying t = some (.map kt et)) (hk : P.underlying kt = some (.int .i64)) (he : TyOk P et (.int .i64) sz by0 (vi 0))
    (hm : ev ρ m = some v) (hka : ev ρ k = some (vi a)) (h : Mi w A v es) : Y P (.lookup t m k false) ty ρ w (vi ((mget es a).getD 0)) := by
  intro ac n o ha ho _
  simp [execOp, ho, ha.eval hm, ha.eval hka, run_lookup hu hk he h]
/-! ### slices.Grow of nil -/
theorem Y.cap {t e : TypeId} {size bytes l c : Nat} {z : Value} {q : Option Addr} {x : Operand} (ht : TyOk P t (.slice e) size bytes z) (hx : ev ρ x = some (.slice q l c)) :
    Y P (.call { callee := .builtin .cap, args := #[x], argTypes := #[t] }) ty ρ w (vi ((c : Nat) : Int)) := by
  intro a n o ha ho _
  simp [execOp, ho, resolve, invoke, builtin, ha.eval hx, Builtin.cap_, run_underlying ht.u, goInt]
theorem Y.sliceNil {t e : TypeId} {sz0 by0 nn by1 : Nat} {z0 z : Value} {ed : TypeDesc} {x y : Operand} (ht : TyOk P t (.slice e) sz0 by0 z0) (he : TyOk P e ed nn by1 z) (hx : ev ρ x = some (.slice none 0 0)) (hy : ev ρ y = some (vi 0)) :
    Y P (.slice t x none (some y) none) ty ρ w (.slice none 0 0) := by
  intro a n o ha ho _
  have h := run_sliceAt (w := w) (lo := none) (hi := some y) (l := 0) (h := 0) (q := none) (len := 0) (cap := 0) ht he ha rfl (by simp [evI, hy]) (Int.le_refl _) (Int.le_refl _) (by simp) (Nat.le_refl _)
  simp only [Option.map_none, Option.map_some] at h
  simp [execOp, ho, ha.eval hx, h]
theorem WL.appendMk {α : Type} {R : Rep α} (ℓ : Nat) {t ti e : TypeId} {sz0 by0 bytes : Nat} {z0 z : Value} {ed : TypeDesc} {s x : Operand} {m : Int} {u : α}
    (hℓ : ℓ ≠ 0 ∧ ℓ ≠ 1) (ht : TyOk P t (.slice e) sz0 by0 z0) (hti : P.underlying ti = some (.int .i64)) (he : TyOk P e ed R.n bytes z) (hz : z.cells.size = R.n) (hp : 0 < R.n) (hbytes : bytes ≤ 8192)
    (hs : ev ρ s = some (.slice none 0 0)) (hx : ev ρ x = some (vi m)) (hm : 0 < m ∧ m ≤ LIM) (hzr : ∀ w A, R.ok w A z.cells.toList u) (hd : Nat.blt d n = true)
    (h : ∀ v' O' w', Stp [] O w O' w' → OwnSl ℓ R e O' w' v' (List.replicate m.toNat u) → WL P n ops Q rest ((d, v') :: ρ) w') :
    WL P n ops Q (⟨some d, .call { callee := .builtin .append, args := #[s, x], argTypes := #[t, ti] }, ty, pos, aft, none⟩ :: rest) ρ w := by
  intro a ha
  refine wpList_plain rfl fun K hK => ?_
  obtain ⟨k, rfl⟩ := Int.eq_ofNat_of_zero_le (show 0 ≤ m by omega)
  obtain ⟨i, hi, hzz, hsz, hby⟩ := he.i
  have hk : k ≤ LIM ∧ 0 < k := by omega
  have hbb : k * bytes ≤ 140737488355328 := Nat.le_trans (Nat.mul_le_mul hk.1 hbytes) (by decide)
  have hlim := hk.1
  unfold LIM at hlim
  have hw : IntKind.i64.wrap (k : Int) = (k : Int) := by rw [w64_eq]; unfold w64; omega
  have hzs : 0 < z.cells.size := by omega
  have hrun : (Builtin.append_ #[t, ti] ty #[.slice none 0 0, vi (k : Int)]).run P w =
      .ok (.slice (some ⟨w.heap.size, 0, none⟩) k (grownCap w k 0 e)) (w.drew.alloc (.cells (Builtin.zeroCells z.cells k ++ Builtin.zeroCells z.cells (grownCap w k 0 e - k)) e)) := by
    have hn : k ≠ 0 := by omega
    have hn2 : ¬ (k * i.size = 0) := by rw [hsz]; exact Nat.ne_of_gt (Nat.mul_pos hk.2 hp)
    have h0 : ¬ ((k : Int) < 0) := by omega
    have hs0 : i.size ≠ 0 := by omega
    have h48 : ¬ (281474976710656 < (k : Int) * (i.bytes : Int)) := by
      have : ((k * bytes : Nat) : Int) ≤ 140737488355328 := by omega
      rw [Int.natCast_mul] at this
      rw [hby]; omega
    have h63' : ¬ (9223372036854775807 < (k : Int)) := by omega
    have h48' : ¬ (281474976710656 < Builtin.nextslicecap k 0 * i.bytes) := by rw [nextslicecap_zero hk.2, hby]; omega
    simp [Builtin.append_, run_underlying ht.u, run_underlying hti, sizeOf, typeInfo, zeroValue, hi, hzz, asInt, asIntOf, hs0, hw, h0, h48, hn, hn2, h63', h48', Question.forced, run_firstCells_none, newRow, grownCap]
  unfold Oper.wp execOp
  simp only [resolve, invoke, builtin, Sem.run_bind, Sem.run_pure, Result.andThen_ok, List.map_toArray, List.map_cons, List.map_nil, ha.eval hs, ha.eval hx, hrun]
  have hge := grownCap_ge w k 0 e
  have hcm : grownCap w k 0 e ≤ maxLen := grownCap_le_maxLen w k 0 e (by simp only [maxLen]; omega)
  refine hK _ _ (h _ _ _ (Stp.trans stp_drew (stp_alloc (w := w.drew) _ ℓ)) ⟨(Builtin.zeroCells z.cells k).toList, ⟨?_, .inr ⟨w.heap.size, _, _, ?_, Nat.zero_le _, heap_alloc_new w.drew _, ?_, hcm, ?_, ?_⟩⟩, ?_, ?_⟩ _ (ha.put hd _))
  · simp [size_zeroCells, hz]
  · simp
  · simpa using hge
  · simp only [Array.size_append, size_zeroCells, hz, ← Nat.add_mul]
    congr 1; omega
  · simp only [List.length_replicate, Int.toNat_natCast, Array.toList_append]
    rw [List.take_append_of_le_length (by simp [size_zeroCells, hz])]
    exact List.take_of_length_le (by simp [size_zeroCells, hz])
  · exact zeroRows (hzr _ _) hz hp k
  · intro b hb
    simp only [Value.ownBlock, Option.some.injEq] at hb
    subst hb; simp [upd]
def minU (a b : UInt64) : UInt64 := if b < a then b else a
theorem Y.min_u {x y : Operand} {a b : UInt64} {ats : Array TypeId} (hx : ev ρ x = some (vu a)) (hy : ev ρ y = some (vu b)) : Y P (.call { callee := .builtin .min, args := #[x, y], argTypes := ats }) ty ρ w (vu (minU a b)) := by
  intro A n o ha ho _
  have e2 : (if b.toNat < a.toNat then (b.toNat : Int) else (a.toNat : Int)) = ((minU a b).toNat : Int) := by
    unfold minU
    by_cases h : b < a
    · rw [if_pos h, if_pos (by rw [UInt64.lt_iff_toNat_lt] at h; omega)]
    · rw [if_neg h, if_neg (by rw [UInt64.lt_iff_toNat_lt] at h; omega)]
  simp [execOp, ho, resolve, invoke, builtin, ha.eval hx, ha.eval hy, Builtin.min_, Builtin.min2, e2]
end
end Go.Lg
namespace Go.Lg
open Go
universe u
abbrev pt (b o : Nat) : Value := .pointer (some ⟨b, o, none⟩)
abbrev sn : Value := .slice none 0 0
abbrev vl (p : Option Addr) (n c : Nat) : Value := .slice p n c
abbrev ag (l : List Value) : Value := .agg l.toArray
abbrev tp (l : List Value) : Value := .tuple l.toArray
abbrev ob (v : Value) := v.ownBlock
abbrev vB (b : Bool) : Value := .bool b
theorem z {α : Sort u} {a : α} : a = a := rfl
section
variable {α : Type} {R : Rep α} {w w' : World} {O O' : Own} {v : Value} {xs : List α} {L : List Nat}
theorem Sl.i (h : Sl R w (imm O) v xs) (s : Stp L O w O' w') (h1 : L.contains 0 = false) (h2 : L.contains 1 = false) : Sl R w' (imm O') v xs := h.mono (imm_st s h1 h2)
theorem Sl.f (h : Sl R w (frs O) v xs) (s : Stp L O w O' w') (h1 : L.contains 1 = false) : Sl R w' (frs O') v xs := h.mono (frs_st s h1)
theorem Rows'.i {cs : List Value} (h : Rows' R w (imm O) cs xs) (s : Stp L O w O' w') (h1 : L.contains 0 = false) (h2 : L.contains 1 = false) : Rows' R w' (imm O') cs xs := Rows'.mono (imm_st s h1 h2) h
theorem Rows'.f {cs : List Value} (h : Rows' R w (frs O) cs xs) (s : Stp L O w O' w') (h1 : L.contains 1 = false) : Rows' R w' (frs O') cs xs := Rows'.mono (frs_st s h1) h
end
theorem sq : type_of% @WC.seq := @WC.seq
theorem rg : type_of% @WC.region := @WC.region
theorem nl : type_of% @WL.nil := @WL.nil
theorem th : type_of% @At.then := @At.then
theorem wY : type_of% @WL.y := @WL.y
theorem su_ : type_of% @Stp.up := @Stp.up
theorem tr_ : type_of% @Stp.trans := @Stp.trans
theorem sk : type_of% @WC.skip := @WC.skip
theorem ug : type_of% @WL.ung := @WL.ung
theorem rt : type_of% @WC.ret := @WC.ret
theorem ym : type_of% @Y.move := @Y.move
theorem ya : type_of% @Y.assign := @Y.assign
theorem yf : type_of% @Y.fieldAddr := @Y.fieldAddr
theorem yl : type_of% @Y.loadSc := @Y.loadSc
theorem yn : type_of% @Y.nilCheck := @Y.nilCheck
theorem le_ : type_of% @Nat.le_of_ble_eq_true := @Nat.le_of_ble_eq_true
theorem se_ : type_of% @Stp.ext := @Stp.ext
theorem sr_ : type_of% @Stp.refl := @Stp.refl
theorem yL : type_of% @Y.loadAg := @Y.loadAg
theorem yb : type_of% @Y.build := @Y.build
theorem yx : type_of% @Y.extract := @Y.extract
theorem fe_ : type_of% @Fits.evalp := @Fits.evalp
end Go.Lg
namespace Go.Lg
open Go Go.ChangeShapes Go.WideShapes
/-! ### What came in, read as plain data -/
def AllW : Nat → Prop := fun _ => True
section
variable {H : Type} {enc : TypeId × Value → H} {P : Program} {w : World} {base : Nat}
/-- a reading of type t is a datum of R; G: what is known of it, m: what the bulk measure B says of it -/
def Opn {α : Type} (enc : TypeId × Value → H) (P : Program) (w : World) (bk : DataW H → Nat) (t : TypeId) (R : Rep α) (G : α → Nat → Prop) : Prop :=
  ∀ (base fuel : Nat) (cs : List Value) (x : DataW H × List MemPlace), DataW.trod enc P w base (fun _ => true) true fuel t cs = some x → ∃ d, R.ok w AllW cs d ∧ G d (bk x.1)
variable {bk : DataW H → Nat}
theorem Opn.i {t : TypeId} (ht : P.underlying t = some (.int .i64)) : Opn enc P w bk t Rep.i (fun x _ => I64 x) := by
  intro base fuel cs x h
  obtain ⟨n, rfl, _, hw⟩ := DataW.trod_int ht h
  refine ⟨n, rfl, ?_⟩
  simpa [Lit.wf, IntKind.min, IntKind.max, IntKind.signed, IntKind.bits, I64] using hw
theorem Opn.u {t : TypeId} (ht : P.underlying t = some (.int .u64)) : Opn enc P w bk t Rep.u (fun _ _ => True) := by
  intro base fuel cs x h
  obtain ⟨n, rfl, _, hw⟩ := DataW.trod_int ht h
  have hw' : 0 ≤ n ∧ n ≤ 18446744073709551615 := by simpa [Lit.wf, IntKind.min, IntKind.max, IntKind.signed, IntKind.bits] using hw
  refine ⟨UInt64.ofNat n.toNat, ?_, trivial⟩
  have : ((UInt64.ofNat n.toNat).toNat : Int) = n := by
    rw [UInt64.toNat_ofNat']; omega
  show [Value.int .u64 n] = [Value.int .u64 _]
  rw [this]
theorem Opn.b {t : TypeId} (ht : P.underlying t = some (.int .u8)) : Opn enc P w bk t Rep.b (fun _ _ => True) := by
  intro base fuel cs x h
  obtain ⟨n, rfl, _, hw⟩ := DataW.trod_int ht h
  have hw' : 0 ≤ n ∧ n ≤ 255 := by simpa [Lit.wf, IntKind.min, IntKind.max, IntKind.signed, IntKind.bits] using hw
  refine ⟨UInt8.ofNat n.toNat, ?_, trivial⟩
  have : ((UInt8.ofNat n.toNat).toNat : Int) = n := by
    rw [UInt8.toNat_ofNat']; omega
  show [Value.int .u8 n] = [Value.int .u8 _]
  rw [this]
theorem Opn.B {t : TypeId} (ht : P.underlying t = some .bool) : Opn enc P w bk t Rep.B (fun _ _ => True) := by
  intro base fuel cs x h
  obtain ⟨b, rfl, _⟩ := DataW.trod_bool ht h
  exact ⟨b, rfl, trivial⟩
theorem Opn.s {t : TypeId} (ht : P.underlying t = some .string) (hB : ∀ l : List UInt8, l.length ≤ bk (.lit (.string l))) : Opn enc P w bk t Rep.s (fun x k => x.length ≤ maxLen ∧ x.length ≤ k) := by
  intro base fuel cs x h
  obtain ⟨s, rfl, rfl, hs⟩ := DataW.trod_string ht h
  refine ⟨s.data.toList, ?_, ?_, hB _⟩
  · show [Value.string s] = [Value.string _]
    simp
  · exact hs
theorem cells_at {a : Addr} {n : Nat} {cs : List Value} (h : w.cells? base a n = some cs) (hn : 0 < n) : a.spot = none ∧ CellsAt w a.block a.off cs := by
  obtain ⟨hb, hl, hc⟩ := World.cells?_some h
  have h0 := hc 0 hn
  have e0 : cs[0]? = some cs[0] := List.getElem?_eq_getElem (by omega)
  rw [e0] at h0
  have hs := World.cell?_spot h0
  have hsp : a.spot = none := by
    simpa [Addr.add] using hs
  refine ⟨hsp, ?_⟩
  obtain ⟨blk, off, sp⟩ := a
  simp only at hsp
  subst hsp
  have hcell : ∀ i, i < n → ∃ cells t fr, w.heap[blk]? = some (.cells cells t fr) ∧ cells[off + i]? = cs[i]? := by
    intro i hi
    have h1 := hc i hi
    rw [Addr_add] at h1
    have e1 : cs[i]? = some cs[i] := List.getElem?_eq_getElem (by omega)
    rw [e1] at h1 ⊢
    unfold World.cell? at h1
    simp only at h1
    split at h1
    · rename_i cells t fr hh
      exact ⟨cells, t, fr, hh, by simpa using h1⟩
    · cases h1
  obtain ⟨cells, t, fr, hh, _⟩ := hcell 0 hn
  refine ⟨cells, t, fr, hh, ?_⟩
  apply List.ext_getElem?
  intro i
  rw [List.getElem?_take]
  split
  · rename_i hi
    obtain ⟨c', t', fr', hh', he⟩ := hcell i (by omega)
    rw [hh] at hh'
    cases hh'
    rw [List.getElem?_drop, ← he]
    simp
  · rw [List.getElem?_eq_none (by omega)]
theorem opn_rows {α : Type} {t : TypeId} {R : Rep α} {G : α → Nat → Prop} (he : Opn enc P w bk t R G) (hn : 0 < R.n) (a : Addr) (hspa : a.spot = none) {n : Nat} {cells : Array Value} {t' : TypeId} {fr : Nat × Nat} (hblk : w.heap[a.block]? = some (.cells cells t' fr)) :
    ∀ (els : List (DataW H × List MemPlace)) (k : Nat), (∀ i y, els[i]? = some y → (w.cells? base (a.add ((k + i) * R.n)) R.n).bind (DataW.trod enc P w base (fun _ => true) true n t) = some y) →
      ∃ xs : List α, xs.length = els.length ∧ Rows' R w AllW ((cells.toList.drop (a.off + k * R.n)).take (xs.length * R.n)) xs ∧ (a.off + k * R.n + xs.length * R.n ≤ cells.size ∨ xs = []) ∧
        (∀ (i : Nat) (x : α) (y : DataW H × List MemPlace), xs[i]? = some x → els[i]? = some y → G x (bk y.1))
  | [], k, _ => ⟨[], rfl, by simp [Rows'], .inr rfl, fun i x y h => by simp at h⟩
  | y :: els, k, h => by
    have h0 := h 0 y rfl
    obtain ⟨cs, hcs, hy⟩ := Option.bind_eq_some_iff.1 h0
    obtain ⟨d, hd, hG⟩ := he base n cs y hy
    obtain ⟨hsp, cells', t'', fr', hh, hc⟩ := cells_at hcs hn
    have hbl : (a.add ((k + 0) * R.n)).block = a.block := block_add _ _
    rw [hbl, hblk] at hh
    cases hh
    have hoff : (a.add ((k + 0) * R.n)).off = a.off + k * R.n := by
      obtain ⟨b, o, s⟩ := a
      simp only at hspa
      subst hspa
      rw [Addr_add]; simp
    rw [hoff] at hc
    have hlen := R.len hd
    rw [hlen] at hc
    obtain ⟨xs, hl, hr, hz, hg⟩ := opn_rows he hn a hspa hblk els (k + 1) (fun i y' hi => by
      have := h (i + 1) y' (by simpa using hi)
      rw [show k + 1 + i = k + (i + 1) by omega]; exact this)
    have hcl : R.n ≤ cells.size - (a.off + k * R.n) := by
      have := congrArg List.length hc
      simp only [List.length_take, List.length_drop, hlen] at this
      have e : cells.toList.length = cells.size := rfl
      rw [e] at this; omega
    refine ⟨d :: xs, by simp [hl], ⟨cs, _, ?_, hd, hr⟩, ?_, ?_⟩
    · rw [List.length_cons, show (xs.length + 1) * R.n = R.n + xs.length * R.n by rw [Nat.add_mul]; omega, List.take_add, hc, List.drop_drop, Nat.add_mul, Nat.one_mul, Nat.add_assoc]
    · left
      rw [List.length_cons, Nat.add_mul, Nat.one_mul]
      rcases hz with hz | hz
      · rw [Nat.add_mul, Nat.one_mul] at hz; omega
      · subst hz; simp; omega
    · intro i x y' hx hy'
      cases i with
      | zero => simp at hx hy'; subst hx; subst hy'; exact hG
      | succ i => exact hg i x y' (by simpa using hx) (by simpa using hy')
/-- what the measure says of a slice: at least its elements together -/
structure BulkOk (bk : DataW H → Nat) : Prop where
  str : ∀ l : List UInt8, l.length ≤ bk (.lit (.string l))
  sl : ∀ (es rs : List (DataW H)), (es.map bk).sum + 1 ≤ bk (.slice es rs)
  ag : ∀ (es : List (DataW H)), (es.map bk).sum + 1 ≤ bk (.agg es)
  pos : ∀ d, 1 ≤ bk d
/-- the sum of what is known of the elements -/
def SumG {α : Type} (G : α → Nat → Prop) (xs : List α) (k : Nat) : Prop := ∃ ks : List Nat, ks.length = xs.length ∧ (∀ j ∈ ks, 1 ≤ j) ∧ ks.sum ≤ k ∧ ∀ (i : Nat) (x : α) (j : Nat), xs[i]? = some x → ks[i]? = some j → G x j
theorem SumG.all {α : Type} {G : α → Nat → Prop} {xs : List α} {k : Nat} (h : SumG G xs k) {x : α} (hx : x ∈ xs) : ∃ j, j ≤ k ∧ G x j := by
  obtain ⟨ks, h1, h2, h3, h4⟩ := h
  obtain ⟨i, hi, rfl⟩ := List.getElem_of_mem hx
  have hj : i < ks.length := by omega
  refine ⟨ks[i], ?_, h4 i _ _ (List.getElem?_eq_getElem hi) (List.getElem?_eq_getElem hj)⟩
  have : ∀ (l : List Nat) (i : Nat) (h : i < l.length), l[i] ≤ l.sum := by
    intro l
    induction l with
    | nil => intro i h; simp at h
    | cons a l ih =>
      intro i h
      cases i with
      | zero => simp
      | succ i => have := ih i (by simpa using h); simp only [List.getElem_cons_succ, List.sum_cons]; omega
  have := this ks i hj
  omega
theorem Opn.sl {α : Type} {t e : TypeId} {R : Rep α} {G : α → Nat → Prop} (hB : BulkOk bk) (ht : P.underlying t = some (.slice e)) (hc : P.cellsOf e = R.n) (hn : 0 < R.n) (he : Opn enc P w bk e R G) :
    Opn enc P w bk t (Rep.sl R) (fun xs k => xs.length ≤ maxLen ∧ SumG G xs k) := by
  intro base fuel cs x h
  rcases DataW.trod_slice ht h with ⟨rfl, rfl⟩ | ⟨a, len, cap, elems, rest, n, _, rfl, rfl, hb, hl, hm, hlen, hel, hsp, _⟩
  · exact ⟨[], ⟨_, rfl, .inl ⟨rfl, rfl⟩⟩, Nat.zero_le _, [], rfl, by simp, by simp, fun i x j h => by simp at h⟩
  rw [hc] at hel
  by_cases h0 : len = 0
  · subst h0
    refine ⟨[], ⟨_, rfl, .inr (.inl ⟨_, _, rfl, rfl⟩)⟩, Nat.zero_le _, [], rfl, by simp, by simp, fun i x j h => by simp at h⟩
  have hblk : ∃ cells t' fr, w.heap[a.block]? = some (.cells cells t' fr) ∧ a.spot = none := by
    have h1 := hel 0 (by omega)
    rw [Nat.zero_mul, List.getElem?_eq_getElem (by omega)] at h1
    obtain ⟨cs, hcs, _⟩ := Option.bind_eq_some_iff.1 h1
    obtain ⟨hs, cells, t', fr, hh, _⟩ := cells_at hcs hn
    rw [block_add] at hh
    exact ⟨cells, t', fr, hh, by simpa [Addr.add] using hs⟩
  obtain ⟨cells, t', fr, hblk, hspa⟩ := hblk
  obtain ⟨xs, hxl, hr, hz, hg⟩ := opn_rows (base := base) (n := n) he hn a hspa hblk elems 0 (fun i y hi => by
    have hi' := (List.getElem?_eq_some_iff.1 hi).1
    rw [Nat.zero_add, hel i (by omega), hi])
  obtain ⟨b, o, s⟩ := a
  simp only at hspa
  subst hspa
  simp only [Nat.zero_mul, Nat.add_zero] at hr hz hblk
  have hxl' : xs.length = len := by omega
  refine ⟨xs, ⟨_, rfl, .inr (.inr ⟨b, o, cap, cells, t', fr, by rw [hxl'], trivial, hblk, by omega, ?_, hr⟩)⟩, by omega, (elems.map (·.1)).map bk, by simp [hxl], ?_, ?_, ?_⟩
  · rcases hz with hz | hz
    · exact hz
    · rw [hz] at hxl'; simp at hxl'; omega
  · intro j hj
    obtain ⟨d, _, rfl⟩ := List.mem_map.1 hj
    exact hB.pos d
  · have := hB.sl (elems.map (·.1)) (rest.map (·.1))
    simp only at this ⊢; omega
  · intro i x j hx hj
    simp only [List.getElem?_map, Option.map_eq_some_iff] at hj
    obtain ⟨d, ⟨y, hy, rfl⟩, rfl⟩ := hj
    exact hg i x y hx hy
/-- the fields of a structure from one on -/
def OpnF {α : Type} (enc : TypeId × Value → H) (P : Program) (w : World) (bk : DataW H → Nat) (fs : List Field) (off : Nat) (R : Rep α) (G : α → Nat → Prop) : Prop :=
  ∀ (base n : Nat) (cs : List Value) (xs : List (DataW H × List MemPlace)), xs.length = fs.length → off + R.n = cs.length →
    (∀ (i : Nat) (f : Field), fs[i]? = some f → DataW.trod enc P w base (fun _ => true) true n f.type ((cs.drop f.offset).take (P.cellsOf f.type)) = xs[i]?) →
    ∃ d, R.ok w AllW (cs.drop off) d ∧ G d ((xs.map fun x => bk x.1).sum)
theorem OpnF.one {α : Type} {f : Field} {off : Nat} {R : Rep α} {G : α → Nat → Prop} (ho : f.offset = off) (hc : P.cellsOf f.type = R.n) (h : Opn enc P w bk f.type R G) : OpnF enc P w bk [f] off R G := by
  intro base n cs xs hx hl hi
  have h0 := hi 0 f rfl
  match xs, hx with
  | [x], _ =>
    rw [ho, hc] at h0
    obtain ⟨d, hd, hg⟩ := h _ _ _ _ h0
    refine ⟨d, ?_, by simpa using hg⟩
    rwa [List.take_of_length_le (by rw [List.length_drop]; omega)] at hd
theorem OpnF.cons {α β : Type} {f : Field} {fs : List Field} {off : Nat} {R : Rep α} {S : Rep β} {G : α → Nat → Prop} {G' : β → Nat → Prop} (ho : f.offset = off) (hc : P.cellsOf f.type = R.n) (h : Opn enc P w bk f.type R G) (k : OpnF enc P w bk fs (off + R.n) S G') :
    OpnF enc P w bk (f :: fs) off (Rep.pair R S) (fun d j => ∃ a b, a + b ≤ j ∧ G d.1 a ∧ G' d.2 b) := by
  intro base n cs xs hx hl hi
  have h0 := hi 0 f rfl
  match xs, hx with
  | x :: xs, hx =>
    rw [ho, hc] at h0
    obtain ⟨d, hd, hg⟩ := h _ _ _ _ h0
    have hn : (Rep.pair R S).n = R.n + S.n := rfl
    rw [hn] at hl
    obtain ⟨d', hd', hg'⟩ := k base n cs xs (by simpa using hx) (by omega) (fun i f' hf => by simpa using hi (i + 1) f' (by simpa using hf))
    refine ⟨(d, d'), ⟨_, _, ?_, hd, hd'⟩, _, _, ?_, hg, hg'⟩
    · rw [← List.drop_drop, List.take_append_drop]
    · simp
theorem Opn.struct {α β : Type} {t : TypeId} {fs : Array Field} {R : Rep α} {G : α → Nat → Prop} (hB : BulkOk bk) (f : β → α) (g : α → β) (hfg : ∀ x, f (g x) = x) (ht : P.underlying t = some (.struct fs)) (hc : P.cellsOf t = R.n) (h : OpnF enc P w bk fs.toList 0 R G) :
    Opn enc P w bk t (Rep.via R f) (fun d j => ∃ k, k < j ∧ G (f d) k) := by
  intro base fuel cs x hx
  obtain ⟨xs, n, _, rfl, hl, hxl, hi⟩ := DataW.trod_struct ht hx
  obtain ⟨d, hd, hg⟩ := h base n cs xs (by simpa using hxl) (by omega) (fun i f' hf => hi i f' (by simpa using hf))
  refine ⟨g d, ?_, _, ?_, by rw [hfg]; exact hg⟩
  · show R.ok w AllW cs (f (g d))
    rw [hfg]; simpa using hd
  · have := hB.ag (xs.map (·.1))
    simp only [List.map_map] at this
    exact this
end
end Go.Lg
namespace Go.Lg
open Go Go.ChangeShapes
section
variable {H : Type} {enc : TypeId × Value → H} {P : Program} {w : World} {base : Nat} {sp : Nat → Bool} {held : Bool}
end
section
variable {P : Program} {w : World} {l : List (String × DataW Unit)} {n : String} {zs : List Int} {k : IntKind} {t e : TypeId} {g m : Nat} {fs : Array Field}
end
end Go.Lg
namespace Go.Lg
/-! ### loops, round by round -/
section
variable {σ β ρ : Type} {f : σ → Option (Rnd σ β ρ)}
theorem loop_next {s s' : σ} (h : f s = some (.next s')) : loop f s = loop f s' := by rw [loop_eq, h]; rfl
theorem loop_brk {s : σ} {b : β} (h : f s = some (.brk b)) : loop f s = some (.go b) := by rw [loop_eq, h]; rfl
theorem loop_out {s : σ} {r : ρ} (h : f s = some (.out r)) : loop f s = some (.out r) := by rw [loop_eq, h]; rfl
/-- .. and that goes on to its end -/
theorem loop_for (st : Nat → σ) (n : Nat) {b : β} (h : ∀ i, i < n → f (st i) = some (.next (st (i + 1)))) (he : f (st n) = some (.brk b)) : loop f (st 0) = some (.go b) := by
  have : ∀ k i, i + k = n → loop f (st i) = some (.go b) := by
    intro k
    induction k with
    | zero => intro i hi; obtain rfl : i = n := by omega
              exact loop_brk he
    | succ k ih => intro i hi; rw [loop_next (h i (by omega))]; exact ih (i + 1) (by omega)
  exact this n 0 (by omega)
end
/-! ### numbers -/
theorem w64_id {x : Int} (h : -9223372036854775808 ≤ x) (h' : x ≤ 9223372036854775807) : w64 x = x := by unfold w64; omega
theorem toU64_val {x : Int} (h : 0 ≤ x) (h' : x < 18446744073709551616) : (toU64 x).toNat = x.toNat := by
  unfold toU64; rw [UInt64.toNat_ofNat']; omega
theorem toU64_nat {x : Nat} (h' : x < 18446744073709551616) : (toU64 (x : Int)).toNat = x := by rw [toU64_val] <;> omega
theorem w64_nat {a : Nat} (h : a < 9223372036854775808) : w64 (a : Int) = (a : Int) := w64_id (by omega) (by omega)
theorem w64_addN {a b : Nat} (h : a + b < 9223372036854775808) : w64 ((a : Int) + (b : Int)) = ((a + b : Nat) : Int) := by rw [w64_id] <;> omega
theorem w64_subN {a b : Nat} (h : b ≤ a) (ha : a < 9223372036854775808) : w64 ((a : Int) - (b : Int)) = ((a - b : Nat) : Int) := by rw [w64_id] <;> omega
theorem w64_succ {a : Nat} (h : a + 1 < 9223372036854775808) : w64 ((a : Int) + 1) = ((a + 1 : Nat) : Int) := by rw [w64_id] <;> omega
theorem idx_nat {α : Type} {xs : List α} {i : Nat} (h : i < xs.length) : idx xs (i : Int) = some xs[i] := by
  unfold idx; rw [if_pos (by omega)]; simp [h]
theorem idx_of {α : Type} {xs : List α} {i : Int} {n : Nat} (hi : i = n) (h : n < xs.length) : idx xs i = some xs[n] := by subst hi; exact idx_nat h
theorem idx_0 {α : Type} {xs : List α} (h : 0 < xs.length) : idx xs 0 = some xs[0] := idx_nat h
theorem bifTd {α : Type} {p : Prop} [Decidable p] {x y : α} (h : p) : (bif decide p then x else y) = x := by rw [decide_eq_true h]; rfl
theorem bifFd {α : Type} {p : Prop} [Decidable p] {x y : α} (h : ¬ p) : (bif decide p then x else y) = y := by rw [decide_eq_false h]; rfl
theorem app_ok {α : Type} {xs ys : List α} (h : xs.length + ys.length ≤ 17179869184) : app xs ys = some (xs ++ ys) := by
  unfold app LIM; rw [if_pos h]
theorem setI_nat {α : Type} {xs : List α} {i : Nat} {x : α} (h : i < xs.length) : setI xs (i : Int) x = some (xs.set i x) := by
  unfold setI; rw [if_pos (by constructor <;> omega)]; simp
theorem slc_nat {α : Type} {xs : List α} {i j : Nat} (h : i ≤ j) (h' : j ≤ xs.length) : slc xs (i : Int) (j : Int) = some ((xs.take j).drop i) := by
  unfold slc; rw [if_pos (by omega)]; simp
theorem bind_some {α β : Type} (x : α) (f : α → Option β) : (some x).bind f = f x := rfl
theorem flow_go {α ρ : Type} (x : α) (F : α → Option ρ) : flow (some (.go x)) F = F x := rfl
theorem flow_out {α ρ : Type} (r : ρ) (F : α → Option ρ) : flow (some (.out r)) F = some r := rfl
theorem lett_eq {α β : Type} (e : α) (f : α → Option β) : lett e f = f e := rfl
theorem bifT {α : Type} {c : Bool} {x y : α} (h : c = true) : (bif c then x else y) = x := by subst h; rfl
theorem bifF {α : Type} {c : Bool} {x y : α} (h : c = false) : (bif c then x else y) = y := by subst h; rfl
/-- two numbers, one put behind the other -/
theorem or_add {a b i : Nat} (h : b < 2 ^ i) : a * 2 ^ i ||| b = a * 2 ^ i + b := by
  rw [← Nat.shiftLeft_eq, Nat.shiftLeft_add_eq_or_of_lt h]
/-! ### bytes as one number, the first the highest -/
def bv (l : List UInt8) : Nat := l.foldl (fun a x => a * 256 + x.toNat) 0
theorem u8_lt' (x : UInt8) : x.toNat < 256 := UInt8.toNat_lt x
/-! ### rows of noughts and ones -/
def dv (l : List Int) : Nat := l.foldl (fun a x => 2 * a + x.toNat) 0
def Bit (l : List Int) : Prop := ∀ x ∈ l, x = 0 ∨ x = 1
end Go.Lg
namespace Go.Lg
structure bitio_Writer where
  b : List UInt8
  n : Int
  deriving DecidableEq
structure bitio_Reader where
  b : List UInt8
  n : Int
  at_ : Int
  deriving DecidableEq
structure law01_Put where
  Kind : Int
  V : UInt64
  N : Int
  B : List UInt8
  deriving DecidableEq
structure vary_Row where
  n : Int
  last : UInt64
  step : UInt64
  deriving DecidableEq
structure ref06_Got where
  V : UInt64
  N : Int
  E : Int
  deriving DecidableEq
def bytes_Clone (a0 : List UInt8) : Option (List UInt8) := app [] a0
noncomputable def pack_Zig (a0 : Int) : Option UInt64 :=
 lett (((shlU (toU64 a0) ((1 : UInt64).toNat)) ^^^ (toU64 (shrI a0 ((63 : UInt64).toNat))))) fun t11 =>
 some t11
noncomputable def ref02_Zig (a0 : Int) : Option UInt64 :=
 bif decide (0 ≤ a0) then
 lett (((2 : UInt64) * (toU64 a0))) fun t12 =>
 some t12
 else
 lett ((((2 : UInt64) * (toU64 (w64 ((-1) - a0)))) + 1)) fun t14 =>
 some t14
noncomputable def pack_Zag (a0 : UInt64) : Option Int :=
 lett (xorI (w64 ((shrU a0 ((1 : UInt64).toNat)).toNat : Int)) (w64 (0 - (w64 ((a0 &&& 1).toNat : Int))))) fun t11 =>
 some t11
end Go.Lg
namespace Go.Lg
attribute [local irreducible] w64 toU64 toU8 shlU shrU shlB shrB
theorem shrU_nat (a : UInt64) {n : Nat} (h : n ≤ 64) : (shrU a n).toNat = a.toNat / 2 ^ n := by
  unfold shrU
  rw [Nat.min_eq_left h, UInt64.toNat_ofNat', Nat.mod_eq_of_lt]
  exact Nat.lt_of_le_of_lt (Nat.div_le_self _ _) (UInt64.toNat_lt a)
theorem shlU_nat (a : UInt64) {n : Nat} (h : n ≤ 64) (h' : a.toNat * 2 ^ n < 2 ^ 64) : (shlU a n).toNat = a.toNat * 2 ^ n := by
  unfold shlU
  rw [Nat.min_eq_left h, UInt64.toNat_ofNat', Nat.mod_eq_of_lt h']
/-- the writer holds N bits, V as a number -/
structure WA (b : List UInt8) (N V : Nat) : Prop where
  le : N ≤ 8 * b.length
  lt : 8 * b.length < N + 8
  val : bv b = V * 2 ^ (8 * b.length - N)
/-! ### the document's rows -/
/-- a byte's bits -/
def byteBits (x : UInt8) : List Int := [128, 64, 32, 16, 8, 4, 2, 1].map fun k : Nat => ((x.toNat / k % 2 : Nat) : Int)
def bitsOf (b : List UInt8) : List Int := b.flatMap byteBits
/-! ### a row of bits as bytes -/
/-! ### which bytes are a row -/
/-! ### the reader -/
/-! ### the document's waking call -/
/-! ### LAW 01, BitsTake -/
/-! ### LAW 01, BitsPut -/
/-! ### LAW 01, BitsBack -/
theorem getD_lt {α : Type} {l : List α} {i : Nat} (h : i < l.length) (d : α) : l.getD i d = l[i] := by simp [List.getD, h]
end Go.Lg
namespace Go.Lg
attribute [local irreducible] w64 toU64 toU8 shlU shrU shlB shrB
/-! ### a writer that holds a row of bits; a reader of one -/
structure WR (w : bitio_Writer) (L : List Int) : Prop where
  n : w.n = (L.length : Int)
  a : WA w.b L.length (dv L)
  bit : Bit L
  small : L.length ≤ 1000000
structure RA (r : bitio_Reader) (A : List Int) (p : Nat) : Prop where
  n : r.n = (A.length : Int)
  at_ : r.at_ = (p : Int)
  le : p ≤ A.length
  len : A.length ≤ 8 * r.b.length
  small : r.b.length ≤ 1000000
  bits : (bitsOf r.b).take A.length = A
/-! ### signed and unsigned -/
def sg (u : UInt64) : Int := w64 (u.toNat : Int)
theorem sg_val (u : UInt64) : sg u = if u.toNat < 9223372036854775808 then (u.toNat : Int) else (u.toNat : Int) - 18446744073709551616 := by
  have := UInt64.toNat_lt u
  unfold sg w64
  split <;> omega
theorem sg_I64 (u : UInt64) : I64 (sg u) := by
  have := UInt64.toNat_lt u
  rw [sg_val]; unfold I64
  split <;> omega
theorem sg_toU64 {x : Int} (h : I64 x) : sg (toU64 x) = x := by
  unfold I64 at h
  have h2 := toU64_toNat x
  have h3 := UInt64.toNat_lt (toU64 x)
  rw [sg_val]
  split <;> omega
theorem u64_ofNat {n : Nat} (h : n < 18446744073709551616) : (UInt64.ofNat n).toNat = n := by rw [UInt64.toNat_ofNat']; omega
end Go.Lg
namespace Go.Lg
attribute [local irreducible] w64 toU64 toU8 shlU shrU shlB shrB
/-! ### classes -/
def sz : Nat → Nat | 0 => 0 | 1 => 7 | 2 => 20 | _ => 64
/-! ### the small form -/
theorem toU64_n {x : Nat} (h : x < 18446744073709551616) : toU64 (x : Int) = UInt64.ofNat x := by
  apply UInt64.toNat_inj.1; rw [toU64_nat h, u64_ofNat h]
/-- what the document reads -/
structure GotS where
  v : Nat
  n : Nat
  e : Int
/-! ### signed as unsigned -/
def zz (x : Int) : Nat := if 0 ≤ x then (2 * x).toNat else (-2 * x - 1).toNat
def zag (u : Nat) : Int := if u % 2 = 0 then ((u / 2 : Nat) : Int) else -1 - ((u / 2 : Nat) : Int)
theorem zz_lt {x : Int} (h : I64 x) : zz x < 18446744073709551616 := by unfold I64 at h; unfold zz; split <;> omega
theorem zag_I64 {u : Nat} (h : u < 18446744073709551616) : I64 (zag u) := by unfold I64 zag; split <;> omega
theorem zag_zz (x : Int) : zag (zz x) = x := by unfold zag zz; split <;> split <;> omega
theorem refZig_eq {x : Int} (h : I64 x) : ref02_Zig x = some (UInt64.ofNat (zz x)) := by
  have h' := h
  unfold I64 at h
  unfold ref02_Zig zz
  by_cases h0 : 0 ≤ x
  · rw [bifTd h0, if_pos h0, lett_eq]
    congr 1
    apply UInt64.toNat_inj.1
    rw [UInt64.toNat_mul, toU64_val h0 (by omega), u64_ofNat (by omega), show (2 : UInt64).toNat = 2 from rfl]
    omega
  · rw [bifFd h0, if_neg h0, lett_eq, w64_id (x := -1 - x) (by omega) (by omega)]
    congr 1
    apply UInt64.toNat_inj.1
    rw [UInt64.toNat_add, UInt64.toNat_mul, toU64_val (by omega) (by omega), u64_ofNat (by omega), show (2 : UInt64).toNat = 2 from rfl, show (1 : UInt64).toNat = 1 from rfl]
    omega
theorem xorAll (x : UInt64) : (x ^^^ (18446744073709551615 : UInt64)).toNat = 18446744073709551615 - x.toNat := by
  have : (x ^^^ (18446744073709551615 : UInt64)) = ~~~ x := by
    apply UInt64.toBitVec_inj.1
    rw [UInt64.toBitVec_xor, UInt64.toBitVec_not]
    exact BitVec.xor_allOnes
  rw [this, UInt64.toNat_not]; rfl
theorem zig_eq {x : Int} (h : I64 x) : pack_Zig x = some (UInt64.ofNat (zz x)) := by
  have h' := h
  unfold I64 at h
  unfold pack_Zig
  rw [lett_eq]
  congr 1
  have e1 : (1 : UInt64).toNat = 1 := rfl
  have e63 : (63 : UInt64).toNat = 63 := rfl
  have hu := toU64_toNat x
  have hs : (shlU (toU64 x) 1).toNat = ((toU64 x).toNat * 2) % 18446744073709551616 := by
    unfold shlU
    rw [UInt64.toNat_ofNat']; rfl
  have hsh : shrI x 63 = if 0 ≤ x then 0 else -1 := by
    unfold shrI
    rw [show (2 : Int) ^ min 63 64 = 9223372036854775808 by decide]
    split <;> omega
  rw [e1, e63, hsh]
  apply UInt64.toNat_inj.1
  rw [u64_ofNat (zz_lt h')]
  unfold zz
  by_cases h0 : 0 ≤ x
  · rw [if_pos h0, if_pos h0]
    have : toU64 0 = 0 := by apply UInt64.toNat_inj.1; exact toU64_nat (x := 0) (by omega)
    rw [this, UInt64.xor_zero, hs]
    omega
  · rw [if_neg h0, if_neg h0]
    have : toU64 (-1) = 18446744073709551615 := by
      apply UInt64.toNat_inj.1
      have := toU64_toNat (-1)
      have e : (18446744073709551615 : UInt64).toNat = 18446744073709551615 := rfl
      omega
    rw [this, xorAll, hs]
    omega
theorem zag_eq (u : UInt64) : pack_Zag u = some (zag u.toNat) := by
  have hu := UInt64.toNat_lt u
  have e1 : (1 : UInt64).toNat = 1 := rfl
  have hd : (shrU u 1).toNat = u.toNat / 2 := shrU_nat u (by omega)
  have ha : (u &&& 1).toNat = u.toNat % 2 := by
    rw [UInt64.toNat_and]
    exact Nat.and_two_pow_sub_one_eq_mod u.toNat 1
  unfold pack_Zag zag
  rw [lett_eq, e1, hd, ha, w64_nat (by omega), w64_nat (by omega)]
  congr 1
  by_cases h0 : u.toNat % 2 = 0
  · rw [if_pos h0, h0, w64_id (by omega) (by omega)]
    unfold xorI
    rw [show ((0 : Int) - ((0 : Nat) : Int)) = 0 from rfl, show BitVec.ofInt 64 0 = 0#64 from rfl, BitVec.xor_zero, BitVec.toNat_ofInt, w64_id (by omega) (by omega)]
    omega
  · rw [if_neg h0, show u.toNat % 2 = 1 by omega, w64_id (by omega) (by omega)]
    unfold xorI
    rw [show ((0 : Int) - ((1 : Nat) : Int)) = -1 from rfl, show BitVec.ofInt 64 (-1) = BitVec.allOnes 64 from rfl, BitVec.xor_allOnes, BitVec.toNat_not, BitVec.toNat_ofInt]
    unfold w64
    omega
/-! ### ways -/
/-! ### a difference's bits -/
/-! ### a row's state -/
/-- the state behind i numbers -/
structure RowS (x : vary_Row) (l : List Int) : Prop where
  n : x.n = (l.length : Int)
  last : ∀ (h : 0 < l.length), x.last = toU64 (l[l.length - 1])
  last0 : l.length = 0 → x.last = 0
  step : ∀ (h : 2 ≤ l.length), x.step = toU64 (l[l.length - 1]) - toU64 (l[l.length - 2])
  all : ∀ y ∈ l, I64 y
  small : l.length ≤ 1000000
end Go.Lg
namespace Go.Lg
attribute [local irreducible] w64 toU64 toU8 shlU shrU shlB shrB
/-! ### a difference is read -/
/-! ### the row's next number -/
structure GotU where
  v : UInt64
  n : Nat
  e : Int
end Go.Lg
namespace Go.Lg
attribute [local irreducible] w64 toU64 toU8 shlU shrU shlB shrB
/-! ### what is put is read, and the other way round -/
end Go.Lg
namespace Go.Lg
attribute [local irreducible] w64 toU64 toU8 shlU shrU shlB shrB
/-! ### LAW 06 -/
/-! all the bits of a row -/
/-! ### VaryRows -/
end Go.Lg
namespace Go.Lg
structure api_Side where
  Offset : Int
  Counts : List UInt64
  deriving DecidableEq
structure api_Hist where
  Scale : Int
  Zero : UInt64
  Pos : api_Side
  Neg : api_Side
  deriving DecidableEq
structure histbits_Row where
  n : Int
  last : api_Hist
  deriving DecidableEq
structure histbits_shape where
  scale : Int
  posAt : Int
  posSize : Int
  negAt : Int
  negSize : Int
  deriving DecidableEq
structure anon_struct_to_api_Side_a_api_Side_b_api_Side where
  to : Option api_Side
  a : api_Side
  b : api_Side
  deriving DecidableEq
structure ref09_Pair where
  X : api_Hist
  Y : api_Hist
  E : Int
  deriving DecidableEq
structure ref10_State where
  L : List Int
  At : Int
  E : Int
  deriving DecidableEq
structure ref10_Got where
  H : api_Hist
  N : Int
  E : Int
  deriving DecidableEq
structure histbits_reader where
  r : Option bitio_Reader
  e : Int
  deriving DecidableEq
noncomputable def hist_sides (a0 : api_Hist) : Option (List api_Side) :=
 some [a0.Pos, a0.Neg]
noncomputable def hist_Total_lp2 (e67 : api_Side) : (UInt64 × UInt64 × Int) → Option (Rnd (UInt64 × UInt64 × Int) (UInt64 × UInt64) (UInt64 × UInt64)) := fun (sum91, over92, x93) =>
 bif decide (x93 < (e67.Counts.length : Int)) then
 (idx e67.Counts x93).bind fun e103 =>
 lett ((add64S sum91 e103 (0 : UInt64))) fun sum115 =>
 lett ((add64C sum91 e103 (0 : UInt64))) fun carry116 =>
 lett ((over92 ||| carry116)) fun over117 =>
 some (.next (sum115, over117, w64 (x93 + 1)))
 else
 some (.brk (sum91, over92))
noncomputable def hist_Total_lp1 (r28 : List api_Side) : (UInt64 × UInt64 × Int) → Option (Rnd (UInt64 × UInt64 × Int) (UInt64 × UInt64) (UInt64 × UInt64)) := fun (sum48, over49, x50) =>
 bif decide (x50 < 2) then
 (idx r28 x50).bind fun e67 =>
 (flow (loop (hist_Total_lp2 e67) (sum48, over49, 0)) fun (sum94, over95) =>
 some (sum94, over95)).bind fun (sum87, over88) =>
 some (.next (sum87, over88, w64 (x50 + 1)))
 else
 some (.brk (sum48, over49))
noncomputable def hist_Total (a0 : api_Hist) : Option (UInt64 × Bool) :=
 (hist_sides a0).bind fun r28 =>
 (flow (loop (hist_Total_lp1 r28) (a0.Zero, 0, 0)) fun (sum54, over55) =>
 some (sum54, over55)).bind fun (sum41, over42) =>
 bif (!decide (over42 = 0)) then
 some (0, false)
 else
 some (sum41, true)
noncomputable def hist_check (a0 : api_Side) : Option Int :=
 lett ((a0.Counts.length : Int)) fun nv22 =>
 lett (decide (160 < nv22)) fun t23 =>
 bif t23 then
 some 4
 else
 lett (((decide (nv22 = 0)) && (!decide (a0.Offset = 0)))) fun t27 =>
 bif t27 then
 some 3
 else
 lett (decide (nv22 = 0)) fun t30 =>
 bif t30 then
 some 0
 else
 (idx a0.Counts 0).bind fun e33 =>
 (bif decide (e33 = 0) then
 some true
 else
 (idx a0.Counts (w64 (nv22 - 1))).bind fun e49 =>
 some (decide (e49 = 0))).bind fun x45 =>
 bif x45 then
 some 3
 else
 lett (((decide (a0.Offset < (-1073741824))) || (decide (w64 (1073741824 - (w64 (nv22 - 1))) < a0.Offset)))) fun t64 =>
 bif t64 then
 some 1
 else
 some 0
noncomputable def hist_Check_lp1 (r31 : List api_Side) : Int → Option (Rnd Int Unit (Flow Unit Int)) := fun x49 =>
 bif decide (x49 < 2) then
 (idx r31 x49).bind fun e64 =>
 (hist_check e64).bind fun r84 =>
 bif (!decide (r84 = 0)) then
 outr (outs (some r84))
 else
 some (.next (w64 (x49 + 1)))
 else
 some (.brk ())
noncomputable def hist_Check (a0 : api_Hist) : Option Int :=
 bif ((decide (a0.Scale < (-10))) || (decide (20 < a0.Scale))) then
 some 1
 else
 (hist_sides a0).bind fun r31 =>
 flow (flow (loop (hist_Check_lp1 r31) 0) fun (_ : Unit) =>
 some (.go ())) fun (_ : Unit) =>
 (hist_Total a0).bind fun (r101, r102) =>
 bif (!r102) then
 some 4
 else
 some 0
noncomputable def hist_span (a0 : api_Side) (a1 : UInt64) : Option Int :=
 lett ((a0.Counts.length : Int)) fun nv22 =>
 bif decide (nv22 = 0) then
 some 0
 else
 lett (w64 ((w64 ((shrI (w64 ((w64 (a0.Offset + nv22)) - 1)) a1.toNat) - (shrI a0.Offset a1.toNat))) + 1)) fun t25 =>
 some t25
noncomputable def hist_down_lp1 (a0 : api_Side) (a1 : UInt64) : (List UInt64 × Int) → Option (Rnd (List UInt64 × Int) (List UInt64) api_Side) := fun (c204, x207) =>
 bif decide (x207 < (a0.Counts.length : Int)) then
 (idx a0.Counts x207).bind fun e228 =>
 (idx c204 (w64 ((shrI (w64 (a0.Offset + x207)) a1.toNat) - (shrI a0.Offset a1.toNat)))).bind fun e243 =>
 (idx c204 (w64 ((shrI (w64 (a0.Offset + x207)) a1.toNat) - (shrI a0.Offset a1.toNat)))).bind fun e253 =>
 lett ((e243 + e228)) fun t263 =>
 (setI c204 (w64 ((shrI (w64 (a0.Offset + x207)) a1.toNat) - (shrI a0.Offset a1.toNat))) t263).bind fun xs264 =>
 some (.next (xs264, w64 (x207 + 1)))
 else
 some (.brk c204)
noncomputable def hist_down (a0 : api_Side) (a1 : UInt64) : Option api_Side :=
 bif decide ((a0.Counts.length : Int) = 0) then
 some (api_Side.mk 0 [])
 else
 ((hist_span a0 a1).bind fun r70 =>
 ((mk r70 (0 : UInt64)).bind fun t90 =>
 some t90).bind fun x81 =>
 some x81).bind fun x60 =>
 flow (loop (hist_down_lp1 a0 a1) (x60, 0)) fun c211 =>
 some (api_Side.mk (shrI a0.Offset a1.toNat) c211)
noncomputable def hist_Down (a0 : api_Hist) (a1 : Int) : Option (api_Hist × Int) :=
 (hist_Check a0).bind fun r36 =>
 bif (!decide (r36 = 0)) then
 some ((api_Hist.mk 0 0 (api_Side.mk 0 []) (api_Side.mk 0 [])), r36)
 else
 bif ((decide (a1 < 0)) || (decide (w64 (a0.Scale - (-10)) < a1))) then
 some ((api_Hist.mk 0 0 (api_Side.mk 0 []) (api_Side.mk 0 [])), 1)
 else
 (hist_down a0.Pos (toU64 a1)).bind fun r117 =>
 (hist_down a0.Neg (toU64 a1)).bind fun r132 =>
 some ((api_Hist.mk (w64 (a0.Scale - a1)) a0.Zero r117 r132), 0)
noncomputable def hist_At (a0 : api_Side) (a1 : Int) : Option UInt64 :=
 bif ((decide (a1 < a0.Offset)) || (decide (toU64 (a0.Counts.length : Int) ≤ ((toU64 a1) - (toU64 a0.Offset))))) then
 some 0
 else
 (idx a0.Counts (w64 (a1 - a0.Offset))).bind fun e25 =>
 some e25
noncomputable def ref08_Light (a0 : api_Hist) : Option Bool :=
 lett (((decide ((a0.Pos.Counts.length : Int) ≤ 300)) && (decide ((a0.Neg.Counts.length : Int) ≤ 300)))) fun t29 =>
 some t29
noncomputable def ref08_sum_lp1 (a1 : List UInt64) : (UInt64 × Int) → Option (Rnd (UInt64 × Int) UInt64 (UInt64 × Bool)) := fun (a12, i13) =>
 bif decide (i13 < (a1.length : Int)) then
 (idx a1 i13).bind fun e22 =>
 bif decide (((18446744073709551615 : UInt64) - a12) < e22) then
 outr (some (0, false))
 else
 (idx a1 i13).bind fun e36 =>
 lett ((a12 + e36)) fun a48 =>
 lett (w64 (i13 + 1)) fun i49 =>
 some (.next (a48, i49))
 else
 some (.brk a12)
noncomputable def ref08_sum (a0 : UInt64) (a1 : List UInt64) : Option (UInt64 × Bool) :=
 flow (loop (ref08_sum_lp1 a1) (a0, 0)) fun a14 =>
 some (a14, true)
noncomputable def ref08_Total (a0 : api_Hist) : Option (UInt64 × Bool) :=
 (ref08_sum a0.Zero a0.Pos.Counts).bind fun (r27, r28) =>
 bif (!r28) then
 some (0, false)
 else
 (ref08_sum r27 a0.Neg.Counts).bind fun (r42, r43) =>
 some (r42, r43)
noncomputable def ref08_side (a0 : api_Side) : Option Int :=
 lett ((a0.Counts.length : Int)) fun nv22 =>
 bif decide (160 < nv22) then
 some 4
 else
 bif decide (nv22 = 0) then
 bif (!decide (a0.Offset = 0)) then
 some 3
 else
 some 0
 else
 (idx a0.Counts 0).bind fun e29 =>
 (bif decide (e29 = 0) then
 some true
 else
 (idx a0.Counts (w64 (nv22 - 1))).bind fun e45 =>
 some (decide (e45 = 0))).bind fun x41 =>
 bif x41 then
 some 3
 else
 bif (((decide (a0.Offset < (-1073741824))) || (decide (1073741824 < a0.Offset))) || (decide (1073741824 < w64 ((w64 (a0.Offset + nv22)) - 1)))) then
 some 1
 else
 some 0
noncomputable def ref08_Check (a0 : api_Hist) : Option Int :=
 bif ((decide (a0.Scale < (-10))) || (decide (20 < a0.Scale))) then
 some 1
 else
 (ref08_side a0.Pos).bind fun r30 =>
 bif (!decide (r30 = 0)) then
 some r30
 else
 (ref08_side a0.Neg).bind fun r44 =>
 bif (!decide (r44 = 0)) then
 some r44
 else
 (ref08_Total a0).bind fun (r59, r60) =>
 bif (!r60) then
 some 4
 else
 some 0
noncomputable def ref08_SameSide_lp1 (a0 : api_Side) (a1 : api_Side) : Int → Option (Rnd Int Unit Bool) := fun i39 =>
 bif decide (i39 < (a0.Counts.length : Int)) then
 (idx a0.Counts i39).bind fun e60 =>
 (idx a1.Counts i39).bind fun e75 =>
 bif (!decide (e60 = e75)) then
 outr (some false)
 else
 lett (w64 (i39 + 1)) fun i92 =>
 some (.next i92)
 else
 some (.brk ())
noncomputable def ref08_SameSide (a0 : api_Side) (a1 : api_Side) : Option Bool :=
 bif ((!decide (a0.Offset = a1.Offset)) || (!decide ((a0.Counts.length : Int) = (a1.Counts.length : Int)))) then
 some false
 else
 flow (loop (ref08_SameSide_lp1 a0 a1) 0) fun (_ : Unit) =>
 some true
noncomputable def ref08_Same (a0 : api_Hist) (a1 : api_Hist) : Option Bool :=
 (bif ((decide (a0.Scale = a1.Scale)) && (decide (a0.Zero = a1.Zero))) then
 (ref08_SameSide a0.Pos a1.Pos).bind fun r55 =>
 some r55
 else
 some false).bind fun x45 =>
 (bif x45 then
 (ref08_SameSide a0.Neg a1.Neg).bind fun r78 =>
 some r78
 else
 some false).bind fun x64 =>
 some x64
noncomputable def hist_Fit_lp1 (a0 : api_Hist) (a1 : Int) : Int → Option (Rnd Int Unit (api_Hist × Int)) := fun by51 =>
 bif decide (by51 ≤ w64 (a0.Scale - (-10))) then
 (hist_span a0.Pos (toU64 by51)).bind fun r103 =>
 (hist_span a0.Neg (toU64 by51)).bind fun r116 =>
 bif decide ((max r103 r116) ≤ a1) then
 (hist_Down a0 by51).bind fun (r138, r139) =>
 outr (some (r138, r139))
 else
 lett (w64 (by51 + 1)) fun by174 =>
 some (.next by174)
 else
 some (.brk ())
noncomputable def hist_Fit (a0 : api_Hist) (a1 : Int) : Option (api_Hist × Int) :=
 (hist_Check a0).bind fun r36 =>
 bif (!decide (r36 = 0)) then
 some ((api_Hist.mk 0 0 (api_Side.mk 0 []) (api_Side.mk 0 [])), r36)
 else
 flow (loop (hist_Fit_lp1 a0 a1) 0) fun (_ : Unit) =>
 some ((api_Hist.mk 0 0 (api_Side.mk 0 []) (api_Side.mk 0 [])), 4)
noncomputable def fold_Level_lp1 (a0 : api_Hist) (a1 : api_Hist) : Int → Option (Rnd Int Unit (Flow Unit (api_Hist × api_Hist × Int))) := fun x63 =>
 bif decide (x63 < 2) then
 (idx [a0, a1] x63).bind fun e95 =>
 (hist_Check e95).bind fun r123 =>
 bif (!decide (r123 = 0)) then
 outr (outs (some ((api_Hist.mk 0 0 (api_Side.mk 0 []) (api_Side.mk 0 [])), (api_Hist.mk 0 0 (api_Side.mk 0 []) (api_Side.mk 0 [])), r123)))
 else
 some (.next (w64 (x63 + 1)))
 else
 some (.brk ())
noncomputable def fold_Level (a0 : api_Hist) (a1 : api_Hist) : Option (api_Hist × api_Hist × Int) :=
 flow (flow (loop (fold_Level_lp1 a0 a1) 0) fun (_ : Unit) =>
 some (.go ())) fun (_ : Unit) =>
 lett ((min a0.Scale a1.Scale)) fun scale153 =>
 (hist_Down a0 (w64 (a0.Scale - scale153))).bind fun (r164, r165) =>
 (hist_Down a1 (w64 (a1.Scale - scale153))).bind fun (r208, r209) =>
 some (r164, r208, 0)
noncomputable def fold_ends (a0 : api_Side) : Option (Int × Int) :=
 lett (w64 (a0.Offset + (a0.Counts.length : Int))) fun to26 =>
 some (a0.Offset, to26)
noncomputable def fold_cover (a0 : api_Side) (a1 : api_Side) : Option (Int × Int) :=
 bif decide ((a0.Counts.length : Int) = 0) then
 lett ((a1.Counts.length : Int)) fun nv41 =>
 some (a1.Offset, nv41)
 else
 bif decide ((a1.Counts.length : Int) = 0) then
 lett ((a0.Counts.length : Int)) fun nv49 =>
 some (a0.Offset, nv49)
 else
 (fold_ends a0).bind fun (r51, r52) =>
 (fold_ends a1).bind fun (r63, r64) =>
 lett ((min r51 r63)) fun from73 =>
 lett ((max r52 r64)) fun end74 =>
 lett (w64 (end74 - from73)) fun nv75 =>
 some (from73, nv75)
def rep_api_Side : Rep api_Side := Rep.via (Rep.pair Rep.i (Rep.sl Rep.u)) fun d => (d.Offset, d.Counts)
def rep_api_Hist : Rep api_Hist := Rep.via (Rep.pair Rep.i (Rep.pair Rep.u (Rep.pair rep_api_Side rep_api_Side))) fun d => (d.Scale, d.Zero, d.Pos, d.Neg)
end Go.Lg
