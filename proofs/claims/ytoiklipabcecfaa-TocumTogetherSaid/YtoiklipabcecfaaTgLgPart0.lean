/- Lemmas about the given model and about plain data, which the rows stand on: no statement of the program by itself. -/
import Derived.WalkKit
import Derived.ProofKit
import Derived.Laws.Build
import Derived.Laws.Tables
import Derived.Laws.AppendOwn
import Derived.Laws.AppendOwnNone
set_option linter.unusedVariables false
namespace Go.Lg
def w64 (x : Int) : Int := (x + 9223372036854775808) % 18446744073709551616 - 9223372036854775808
def I64 (x : Int) : Prop := -9223372036854775808 ≤ x ∧ x ≤ 9223372036854775807
def toU64 (x : Int) : UInt64 := UInt64.ofNat (x % 18446744073709551616).toNat
def toU8 (x : Int) : UInt8 := UInt8.ofNat (x % 256).toNat
def shlU (a : UInt64) (n : Nat) : UInt64 := UInt64.ofNat (a.toNat * 2 ^ min n 64)
def shrU (a : UInt64) (n : Nat) : UInt64 := UInt64.ofNat (a.toNat / 2 ^ min n 64)
def shlB (a : UInt8) (n : Nat) : UInt8 := UInt8.ofNat (a.toNat * 2 ^ min n 8)
def shrB (a : UInt8) (n : Nat) : UInt8 := UInt8.ofNat (a.toNat / 2 ^ min n 8)
def shlI (a : Int) (n : Nat) : Int := w64 (a * 2 ^ min n 64)
def shrI (a : Int) (n : Nat) : Int := a / 2 ^ min n 64
def idx {α : Type} (xs : List α) (i : Int) : Option α := if 0 ≤ i then xs[i.toNat]? else none
/-- how many elements a slice may come to have by appending or making: far more than any machine bears at once, and few enough that the model's bound on bytes is kept -/
def LIM : Nat := 17179869184
def app {α : Type} (xs ys : List α) : Option (List α) := if xs.length + ys.length ≤ LIM then some (xs ++ ys) else none
def setI {α : Type} (xs : List α) (i : Int) (x : α) : Option (List α) := if 0 ≤ i ∧ i.toNat < xs.length then some (xs.set i.toNat x) else none
def slc {α : Type} (xs : List α) (lo hi : Int) : Option (List α) := if 0 ≤ lo ∧ lo ≤ hi ∧ hi ≤ xs.length then some ((xs.take hi.toNat).drop lo.toNat) else none
def mk {α : Type} (n : Int) (z : α) : Option (List α) := if 0 ≤ n ∧ n ≤ LIM then some (List.replicate n.toNat z) else none
def lett {α β : Type} (e : α) (f : α → Option β) : Option β := f e
def chk {β : Type} (c : Bool) (r : Option β) : Option β := bif c then r else none
/-- an outcome of a part that may leave the whole -/
inductive Flow (α ρ : Type) where
  | go (x : α)
  | out (r : ρ)
def flowK {α ρ : Type} (F : α → Option ρ) : Flow α ρ → Option ρ
  | .go x => F x
  | .out r => some r
def flow {α ρ : Type} (o : Option (Flow α ρ)) (F : α → Option ρ) : Option ρ := o.bind (flowK F)
def outs {α ρ : Type} (o : Option ρ) : Option (Flow α ρ) := o.bind fun r => some (.out r)
/-- what becomes of a round -/
inductive Rnd (σ β ρ : Type) where
  | next (s : σ)
  | brk (b : β)
  | out (r : ρ)
def outr {σ β ρ : Type} (o : Option ρ) : Option (Rnd σ β ρ) := o.bind fun r => some (.out r)
def loopN {σ β ρ : Type} : Nat → (σ → Option (Rnd σ β ρ)) → σ → Option (Flow β ρ)
  | 0, _, _ => none
  | k + 1, f, s => (f s).bind fun
    | .next s' => loopN k f s'
    | .brk b => some (.go b)
    | .out r => some (.out r)
theorem loopN_mono {σ β ρ : Type} {f : σ → Option (Rnd σ β ρ)} {p : Flow β ρ} : ∀ {k : Nat} {s : σ} (m : Nat), loopN k f s = some p → k ≤ m → loopN m f s = some p
  | 0, _, _, h, _ => by cases h
  | k + 1, s, 0, h, hm => by omega
  | k + 1, s, m + 1, h, hm => by
    simp only [loopN] at h ⊢
    cases hf : f s with
    | none => rw [hf] at h; cases h
    | some q =>
      rw [hf] at h
      cases q with
      | next s' => exact loopN_mono m h (by omega)
      | brk b => exact h
      | out r => exact h
open Classical in
/-- rounds till one of them ends it; none: a round has no outcome, or there is no end -/
noncomputable def loop {σ β ρ : Type} (f : σ → Option (Rnd σ β ρ)) (s : σ) : Option (Flow β ρ) :=
  if h : ∃ k, (loopN k f s).isSome then loopN (Classical.choose h) f s else none
theorem loop_some {σ β ρ : Type} {f : σ → Option (Rnd σ β ρ)} {s : σ} {p : Flow β ρ} (h : loop f s = some p) : ∃ k, loopN k f s = some p := by
  unfold loop at h
  split at h
  · exact ⟨_, h⟩
  · cases h
theorem loop_of {σ β ρ : Type} {f : σ → Option (Rnd σ β ρ)} {s : σ} {p : Flow β ρ} {k : Nat} (h : loopN k f s = some p) : loop f s = some p := by
  have hx : ∃ k, (loopN k f s).isSome := ⟨k, by rw [h]; rfl⟩
  unfold loop
  rw [dif_pos hx]
  have h1 := Classical.choose_spec hx
  obtain ⟨q, hq⟩ := Option.isSome_iff_exists.1 h1
  have h2 := loopN_mono (max (Classical.choose hx) k) hq (Nat.le_max_left _ _)
  have h3 := loopN_mono (max (Classical.choose hx) k) h (Nat.le_max_right _ _)
  rw [h2] at h3
  rw [hq]; exact h3
/-- a loop, round by round -/
theorem loop_eq {σ β ρ : Type} (f : σ → Option (Rnd σ β ρ)) (s : σ) : loop f s = (f s).bind fun
    | .next s' => loop f s'
    | .brk b => some (.go b)
    | .out r => some (.out r) := by
  cases hl : loop f s with
  | some p =>
    obtain ⟨k, hk⟩ := loop_some hl
    cases k with
    | zero => cases hk
    | succ k =>
      simp only [loopN] at hk
      cases hf : f s with
      | none => rw [hf] at hk; cases hk
      | some q =>
        rw [hf] at hk
        cases q with
        | next s' => exact (loop_of hk).symm
        | brk b => exact hk.symm
        | out r => exact hk.symm
  | none =>
    cases hf : f s with
    | none => rfl
    | some q =>
      cases q with
      | next s' =>
        show none = loop f s'
        cases hl' : loop f s' with
        | none => rfl
        | some p =>
          obtain ⟨k, hk⟩ := loop_some hl'
          have : loopN (k + 1) f s = some p := by simp only [loopN, hf]; exact hk
          rw [loop_of this] at hl; cases hl
      | brk b =>
        have : loopN 1 f s = some (.go b) := by simp only [loopN, hf]; rfl
        rw [loop_of this] at hl; cases hl
      | out r =>
        have : loopN 1 f s = some (.out r) := by simp only [loopN, hf]; rfl
        rw [loop_of this] at hl; cases hl
/-! ### taking such words apart -/
theorem bnd {α β : Type} {o : Option α} {f : α → Option β} {r : β} (h : o.bind f = some r) : ∃ x, o = some x ∧ f x = some r := by
  cases o with
  | none => cases h
  | some x => exact ⟨x, rfl, h⟩
theorem lt1 {α β : Type} {e : α} {f : α → Option β} {r : β} (h : lett e f = some r) : ∃ x, x = e ∧ f x = some r := ⟨e, rfl, h⟩
theorem cnd {β : Type} {c : Bool} {x y : Option β} {r : β} (h : (bif c then x else y) = some r) : (c = true ∧ x = some r) ∨ (c = false ∧ y = some r) := by
  cases c with
  | false => exact .inr ⟨rfl, h⟩
  | true => exact .inl ⟨rfl, h⟩
theorem flow1 {α ρ : Type} {o : Option (Flow α ρ)} {F : α → Option ρ} {r : ρ} (h : flow o F = some r) : ∃ p, o = some p ∧ flowK F p = some r := bnd h
theorem outs1 {α ρ : Type} {o : Option ρ} {F : α → Option ρ} {p : Flow α ρ} {r : ρ} (h : outs o = some p) (k : flowK F p = some r) : o = some r := by
  obtain ⟨x, hx, h⟩ := bnd h
  cases h; cases k; exact hx
theorem rnd0 {σ β ρ : Type} {f : σ → Option (Rnd σ β ρ)} {k : Nat} {s : σ} {p : Flow β ρ} (h : loopN k f s = some p) : ∃ j q, k = j + 1 ∧ f s = some q ∧
    (match q with | .next s' => loopN j f s' | .brk b => some (.go b) | .out r => some (.out r)) = some p := by
  cases k with
  | zero => cases h
  | succ j =>
    obtain ⟨q, hq, h⟩ := bnd h
    exact ⟨j, q, rfl, hq, by cases q <;> exact h⟩
theorem some1 {α : Type} {x y : α} (h : some x = some y) : x = y := by cases h; rfl
end Go.Lg
namespace Go.Lg
open Go
/-! ### The frame as an association list -/
abbrev Env := List (Nat × Value)
def lk : Env → Nat → Option Value
  | [], _ => none
  | (j, v) :: r, i => bif Nat.beq j i then some v else lk r i
def ev (ρ : Env) : Operand → Option Value
  | .tmp t => lk ρ t
  | .const v => some v
  | .global g => some (.pointer (some ⟨g, 0, none⟩))
  | .func f => some (.func (.func f) #[] #[])
structure Fits (n : Nat) (ρ : Env) (a : Act) : Prop where
  defers : a.defers = []
  size : a.tmps.size = n
  get : ∀ i v, lk ρ i = some v → a.tmps[i]? = some v
theorem Fits.eval {n : Nat} {ρ : Env} {a : Act} (h : Fits n ρ a) {x : Operand} {v : Value} (hx : ev ρ x = some v) : a.eval x = v := by
  cases x with
  | tmp t => simp only [ev] at hx; have := h.get t v hx; simp only [Act.eval, Array.getD_eq_getD_getElem?, this, Option.getD_some]
  | const u => simp only [ev, Option.some.injEq] at hx; exact hx
  | global g => simp only [ev, Option.some.injEq] at hx; exact hx
  | func g => simp only [ev, Option.some.injEq] at hx; exact hx
theorem Fits.put {n d : Nat} {ρ : Env} {a : Act} (h : Fits n ρ a) (hd : Nat.blt d n = true) (v : Value) : Fits n ((d, v) :: ρ) (a.put (some d) v) := by
  have hd' : d < n := by simpa [Nat.blt_eq] using hd
  refine ⟨h.defers, by simpa [Act.put] using h.size, fun i u hu => ?_⟩
  simp only [lk] at hu
  by_cases e : d = i
  · subst e
    simp at hu
    subst hu
    simp [Act.put, h.size, hd']
  · have : Nat.beq d i = false := Bool.eq_false_iff.2 fun h => e (Nat.eq_of_beq_eq_true h)
    rw [this] at hu
    simp only [cond_false] at hu
    have := h.get i u hu
    simp only [Act.put, Array.getElem?_setIfInBounds, if_neg e]
    exact this
/-- every entry of ρ' is one of ρ -/
inductive Sub : Env → Env → Prop
  | nil {ρ : Env} : Sub [] ρ
  | cons {i : Nat} {v : Value} {ρ' ρ : Env} (h : lk ρ i = some v) (t : Sub ρ' ρ) : Sub ((i, v) :: ρ') ρ
theorem Sub.lk {ρ' ρ : Env} (h : Sub ρ' ρ) : ∀ i v, lk ρ' i = some v → lk ρ i = some v := by
  induction h with
  | nil => intro i v h; simp [Lg.lk] at h
  | @cons j u ρ' ρ hj _ ih =>
    intro i v h
    simp only [Lg.lk] at h
    by_cases e : j = i
    · subst e; simp at h; subst h; exact hj
    · have : Nat.beq j i = false := Bool.eq_false_iff.2 fun h => e (Nat.eq_of_beq_eq_true h)
      rw [this] at h
      exact ih i v h
theorem Fits.sub {n : Nat} {ρ ρ' : Env} {a : Act} (h : Fits n ρ a) (hs : Sub ρ' ρ) : Fits n ρ' a :=
  ⟨h.defers, h.size, fun i v hv => h.get i v (hs.lk i v hv)⟩
/-! ### The judgements -/
def WL (P : Program) (n : Nat) (ops : Array Oper) (Q : Exit → Act → World → Prop) (l : List Oper) (ρ : Env) (w : World) : Prop :=
  ∀ a, Fits n ρ a → wpList P ops Q l a w
def WC (P : Program) (n : Nat) (Q : Exit → Act → World → Prop) (c : Code) (ρ : Env) (w : World) : Prop :=
  ∀ a, Fits n ρ a → c.wp P Q a w
def At (n : Nat) (Q : Exit → Act → World → Prop) (e : Exit) (ρ : Env) (w : World) : Prop :=
  ∀ a, Fits n ρ a → Q e a w
section
variable {P : Program} {n : Nat} {ops : Array Oper} {Q : Exit → Act → World → Prop} {ρ : Env} {w : World}
theorem WL.sub {l : List Oper} {ρ' : Env} (hs : Sub ρ' ρ) (h : WL P n ops Q l ρ' w) : WL P n ops Q l ρ w := fun a ha => h a (ha.sub hs)
theorem WC.sub {c : Code} {ρ' : Env} (hs : Sub ρ' ρ) (h : WC P n Q c ρ' w) : WC P n Q c ρ w := fun a ha => h a (ha.sub hs)
theorem At.sub {e : Exit} {ρ' : Env} (hs : Sub ρ' ρ) (h : At n Q e ρ' w) : At n Q e ρ w := fun a ha => h a (ha.sub hs)
theorem WC.seq {x y : Code} (h : WC P n (Exit.then (y.wp P Q) Q) x ρ w) : WC P n Q (Code.seq x y) ρ w := fun a ha => wp_seq (h a ha)
theorem WC.skip (h : At n Q .normal ρ w) : WC P n Q .skip ρ w := fun a ha => wp_skip (h a ha)
theorem WC.exit {id : Nat} (h : At n Q (.exit id) ρ w) : WC P n Q (.exit id) ρ w := fun a ha => wp_exit (h a ha)
theorem WC.ret (h : At n Q .ret ρ w) : WC P n Q .ret ρ w := fun a ha => wp_ret (h a ha)
theorem WC.block {id : Nat} {c : Code} (h : WC P n (Exit.inBlock id Q) c ρ w) : WC P n Q (.block id c) ρ w := fun a ha => wp_block (h a ha)
theorem WC.region {id : Nat} {l : List Oper} (h : WL P n l.toArray Q l ρ w) : WC P n Q (.region id l.toArray false) ρ w := fun a ha => wp_region_lit (h a ha)
theorem WC.condT {c : Operand} {x y : Code} (hc : ev ρ c = some (.bool true)) (h : WC P n Q x ρ w) : WC P n Q (.cond c x y) ρ w :=
  fun a ha => wp_cond_true (ha.eval hc) (h a ha)
theorem WC.condF {c : Operand} {x y : Code} (hc : ev ρ c = some (.bool false)) (h : WC P n Q y ρ w) : WC P n Q (.cond c x y) ρ w :=
  fun a ha => wp_cond_false (ha.eval hc) (h a ha)
theorem WC.cond {c : Operand} {x y : Code} {t : Bool} (hc : ev ρ c = some (.bool t)) (h1 : t = true → WC P n Q x ρ w) (h2 : t = false → WC P n Q y ρ w) : WC P n Q (.cond c x y) ρ w :=
  fun a ha => wp_cond_split (ha.eval hc) (fun e => h1 e a ha) (fun e => h2 e a ha)
theorem WL.nil (h : At n Q .normal ρ w) : WL P n ops Q [] ρ w := fun a ha => wpList_nil (h a ha)
theorem At.then {c : Code} (h : WC P n Q c ρ w) : At n (Exit.then (c.wp P Q) Q) .normal ρ w := fun a ha => h a ha
theorem At.thenR {K : Act → World → Prop} (h : At n Q .ret ρ w) : At n (Exit.then K Q) .ret ρ w := h
theorem At.thenX {K : Act → World → Prop} {i : Nat} (h : At n Q (.exit i) ρ w) : At n (Exit.then K Q) (.exit i) ρ w := h
theorem At.inBlock {id : Nat} (h : At n Q .normal ρ w) : At n (Exit.inBlock id Q) .normal ρ w := h
theorem At.inBlockR {id : Nat} (h : At n Q .ret ρ w) : At n (Exit.inBlock id Q) .ret ρ w := h
theorem At.inBlockHit {id : Nat} (h : At n Q .normal ρ w) : At n (Exit.inBlock id Q) (.exit id) ρ w := fun a ha => by simp only [Exit.inBlock, if_true]; exact h a ha
/-! ### Joins: what stands behind is asked once -/
def JQ (n : Nat) (Q : Exit → Act → World → Prop) {σ : Type} (I : σ → World → Prop) (env : σ → Env) : Exit → Act → World → Prop
  | .normal, a, w => ∃ s, I s w ∧ Fits n (env s) a
  | e, a, w => Q e a w
theorem WC.join {σ : Type} (I : σ → World → Prop) (env : σ → Env) {c : Code} (h : WC P n (JQ n Q I env) c ρ w) (hJ : ∀ s w', I s w' → At n Q .normal (env s) w') : WC P n Q c ρ w :=
  fun a ha => wp_mono (h a ha) fun e a' w' hq => by
    cases e with
    | normal => obtain ⟨s, hi, hf⟩ := hq; exact hJ s w' hi a' hf
    | _ => exact hq
/-- the join as a fact that is handed about: for codes with more than one way out -/
theorem At.join {σ : Type} {I : σ → World → Prop} {env : σ → Env} (s : σ) (hi : I s w) (hs : Sub (env s) ρ) : At n (JQ n Q I env) .normal ρ w := fun _ ha => ⟨s, hi, ha.sub hs⟩
theorem At.joinR {σ : Type} {I : σ → World → Prop} {env : σ → Env} (h : At n Q .ret ρ w) : At n (JQ n Q I env) .ret ρ w := h
/-! the same inside a region -/
omit w in
theorem wpList_append {Q : Exit → Act → World → Prop} {post : List Oper} : ∀ (pre : List Oper) (a : Act) (w : World),
    wpList P ops (Exit.then (wpList P ops Q post) Q) pre a w → wpList P ops Q (pre ++ post) a w
  | [], a, w, h => h
  | o :: pre, a, w, h => by
    simp only [wpList, List.cons_append] at h ⊢
    by_cases hw : Region.wanted o (yielded ops a.tmps) = true
    · simp only [hw, if_true] at h ⊢
      rcases h with h | h
      · refine .inl ?_
        unfold Oper.wp at h ⊢
        revert h
        generalize (execOp a.eval o).run P w = r
        intro h
        unfold Oper.upon at h ⊢
        split at h
        · exact wpList_append pre _ _ h
        · exact wpList_append pre _ _ h
        · exact wpList_append pre _ _ h
        · refine Calls.mono h ?_
          intro e w' h'
          cases e with
          | returned v => exact wpList_append pre _ _ h'
          | panicked c => exact h'
          | outgrown => exact h'
        · refine Rows.mono h ?_
          intro v w' h'
          exact wpList_append pre _ _ h'
        · exact h
        · exact h.elim
      · exact .inr ⟨h.1, h.2⟩
    · simp only [hw, if_false, Bool.false_eq_true] at h ⊢
      exact wpList_append pre _ _ h
theorem WL.cut {l : List Oper} (k : Nat) {σ : Type} (I : σ → World → Prop) (env : σ → Env)
    (h : WL P n ops (JQ n Q I env) (l.take k) ρ w) (hJ : ∀ s w', I s w' → WL P n ops Q (l.drop k) (env s) w') : WL P n ops Q l ρ w := by
  intro a ha
  rw [← List.take_append_drop k l]
  refine wpList_append _ _ _ ?_
  have h1 := h a ha
  have mono : ∀ (l : List Oper) (Q Q' : Exit → Act → World → Prop) (a : Act) (w : World), (∀ e a w, Q e a w → Q' e a w) → wpList P ops Q l a w → wpList P ops Q' l a w := by
    intro l Q Q'
    induction l with
    | nil => intro a w hq h; exact hq _ _ _ h
    | cons o l ih =>
      intro a w hq h
      simp only [wpList] at h ⊢
      by_cases hw : Region.wanted o (yielded ops a.tmps) = true
      · simp only [hw, if_true] at h ⊢
        rcases h with h | ⟨h1, a0, w0, h2⟩
        · refine .inl ?_
          unfold Oper.wp at h ⊢
          revert h
          generalize (execOp a.eval o).run P w = r
          intro h
          unfold Oper.upon at h ⊢
          split at h
          · exact ih _ _ hq h
          · exact ih _ _ hq h
          · exact ih _ _ hq h
          · refine Calls.mono h ?_
            intro e w' h'
            cases e with
            | returned v => exact ih _ _ hq h'
            | panicked c => exact hq _ _ _ h'
            | outgrown => obtain ⟨a0, w0, h2⟩ := h'; exact ⟨a0, w0, hq _ _ _ h2⟩
          · refine Rows.mono h ?_
            intro v w' h'
            exact ih _ _ hq h'
          · exact hq _ _ _ h
          · exact h.elim
        · exact .inr ⟨h1, a0, w0, hq _ _ _ h2⟩
      · simp only [hw, if_false, Bool.false_eq_true] at h ⊢
        exact ih _ _ hq h
  refine mono _ _ _ _ _ ?_ h1
  intro e a' w' hq
  cases e with
  | normal => obtain ⟨s, hi, hf⟩ := hq; exact hJ s w' hi a' hf
  | _ => exact hq
/-! ### Loops -/
theorem wp_loop_ex {a : Act} {c : Code} (I : Nat → Act → World → Prop) (m : Nat) (h0 : I m a w)
    (round : ∀ m a w, I m a w → c.wp P (Exit.then (fun a' w' => ∃ m', m' < m ∧ I m' a' w') Q) a w) : (Code.loop c).wp P Q a w := by
  intro b k cs
  have key : ∀ m a w, I m a w →
      ∃ e a' w', Q e a' w' ∧ Arrives P (lone (b.at a (.code c :: .inLoop c :: k)) cs w) b k cs e a' w' := by
    intro m
    induction m using Nat.strongRecOn with
    | _ m ih =>
      intro a w hI
      obtain ⟨e, a₁, w₁, hq, harr⟩ := round m a w hI b (.inLoop c :: k) cs
      cases e with
      | normal =>
        obtain ⟨m', hlt, hI₁⟩ := hq
        obtain ⟨e₂, a₂, w₂, hq₂, harr₂⟩ := ih m' hlt a₁ w₁ hI₁
        exact ⟨e₂, a₂, w₂, hq₂, .of_steps (Steps.trans harr (.one step_inLoop)) harr₂⟩
      | exit id => exact ⟨_, a₁, w₁, hq, .pass (x := .inLoop c) rfl (fun _ _ => .inl (by simp)) harr⟩
      | goto l => exact ⟨_, a₁, w₁, hq, .pass (x := .inLoop c) rfl (fun _ _ => .inl (by simp)) harr⟩
      | ret => exact ⟨_, a₁, w₁, hq, .pass (x := .inLoop c) rfl (fun _ _ => .inl (by simp)) harr⟩
      | panic ch => exact ⟨_, a₁, w₁, hq, .pass (x := .inLoop c) rfl (fun _ _ => .inl (by simp)) harr⟩
      | outgrown => exact ⟨_, a₁, w₁, hq, .pass (x := .inLoop c) rfl (fun _ _ => .inl (by simp)) harr⟩
  obtain ⟨e, a', w', hq, harr⟩ := key _ a w h0
  exact ⟨e, a', w', hq, .of_steps (.one step_loop) harr⟩
/-- behind a round: the invariant anew, at a smaller number -/
def LQ (n : Nat) (Q : Exit → Act → World → Prop) {σ : Type} (I : σ → Nat → World → Prop) (env : σ → Env) (k : Nat) : Exit → Act → World → Prop :=
  Exit.then (fun a w => ∃ k', k' < k ∧ ∃ s, I s k' w ∧ Fits n (env s) a) Q
theorem WC.loop {σ : Type} (I : σ → Nat → World → Prop) (env : σ → Env) (s : σ) (k : Nat) {c : Code} (hs : Sub (env s) ρ) (hi : I s k w)
    (h : ∀ s k w', I s k w' → WC P n (LQ n Q I env k) c (env s) w') : WC P n Q (.loop c) ρ w := by
  intro a ha
  exact wp_loop_ex (fun k a w => ∃ s, I s k w ∧ Fits n (env s) a) k ⟨s, hi, ha.sub hs⟩ fun k a w ⟨s, hi, hf⟩ => h s k w hi a hf
theorem At.round {σ : Type} {I : σ → Nat → World → Prop} {env : σ → Env} {k : Nat} (s : σ) (k' : Nat) (hk : k' < k) (hi : I s k' w) (hs : Sub (env s) ρ) :
    At n (LQ n Q I env k) .normal ρ w := fun _ ha => ⟨k', hk, s, hi, ha.sub hs⟩
theorem At.loopR {σ : Type} {I : σ → Nat → World → Prop} {env : σ → Env} {k : Nat} (h : At n Q .ret ρ w) : At n (LQ n Q I env k) .ret ρ w := h
theorem At.loopX {σ : Type} {I : σ → Nat → World → Prop} {env : σ → Env} {k i : Nat} (h : At n Q (.exit i) ρ w) : At n (LQ n Q I env k) (.exit i) ρ w := h
end
end Go.Lg
namespace Go.Lg
open Go
/-! ### Numbers as the model has them (w64, toU64 ..: LgPure) -/
theorem w64_eq (x : Int) : IntKind.i64.wrap x = w64 x := by
  simp only [IntKind.wrap, IntKind.bits, IntKind.signed, w64, Bool.true_and, ge_iff_le, decide_eq_true_eq]
  have e1 : ((2 : Int) ^ 64) = 18446744073709551616 := by decide
  have e2 : ((2 : Int) ^ (64 - 1)) = 9223372036854775808 := by decide
  rw [e1, e2]
  split <;> omega
abbrev vi (x : Int) : Value := .int .i64 x
abbrev vu (x : UInt64) : Value := .int .u64 (x.toNat : Int)
abbrev vb (x : UInt8) : Value := .int .u8 (x.toNat : Int)
abbrev vs (x : List UInt8) : Value := .string ⟨x.toArray⟩
/-- an operation that leaves the world alone and hands back v -/
def Y (P : Program) (op : Op) (ty : TypeId) (ρ : Env) (w : World) (v : Value) : Prop :=
  ∀ (a : Act) (n : Nat) (o : Oper), Fits n ρ a → o.op = op → o.type = ty → (execOp a.eval o).run P w = .ok (.value v) w
section
variable {P : Program} {n : Nat} {ops : Array Oper} {Q : Exit → Act → World → Prop} {ρ : Env} {w : World} {rest : List Oper}
variable {d : Nat} {op : Op} {ty : TypeId} {pos : String} {aft : Array Edge}
theorem WL.y {v : Value} (hy : Y P op ty ρ w v) (hd : Nat.blt d n = true) (h : WL P n ops Q rest ((d, v) :: ρ) w) : WL P n ops Q (⟨some d, op, ty, pos, aft, none⟩ :: rest) ρ w := by
  intro a ha
  refine wpList_plain rfl fun K hK => ?_
  unfold Oper.wp
  rw [hy a n _ ha rfl rfl]
  exact hK _ _ (h _ (ha.put hd v))
/-- another spelling of the value -/
theorem WL.yE {v v' : Value} (hy : Y P op ty ρ w v) (hv : v = v') (hd : Nat.blt d n = true) (h : WL P n ops Q rest ((d, v') :: ρ) w) : WL P n ops Q (⟨some d, op, ty, pos, aft, none⟩ :: rest) ρ w :=
  WL.y (hv ▸ hy) hd h
theorem yielded_of {a : Act} {l : List Oper} {j s : Nat} {b : Bool} (ha : Fits n ρ a) (hj : (l[j]?).bind (·.dst) = some s) (hs : lk ρ s = some (.bool b)) : yielded l.toArray a.tmps j = some b := by
  have h1 := ha.get s _ hs
  unfold yielded
  have : (l.toArray[j]?).bind (·.dst) = some s := by simpa using hj
  rw [this]
  simp [h1]
theorem WL.gT {l : List Oper} {v : Value} {j s : Nat} {b : Bool} (hj : (l[j]?).bind (·.dst) = some s) (hs : lk ρ s = some (.bool b)) (hy : Y P op ty ρ w v) (hd : Nat.blt d n = true)
    (h : WL P n l.toArray Q rest ((d, v) :: ρ) w) : WL P n l.toArray Q (⟨some d, op, ty, pos, aft, some (j, b)⟩ :: rest) ρ w := by
  intro a ha
  refine wpList_step fun K hK => ?_
  have : Region.wanted ⟨some d, op, ty, pos, aft, some (j, b)⟩ (yielded l.toArray a.tmps) = true := by simp [Region.wanted, yielded_of ha hj hs]
  rw [if_pos this]
  unfold Oper.wp
  rw [hy a n _ ha rfl rfl]
  exact hK _ _ (h _ (ha.put hd v))
/-- a guard's value is parted on -/
theorem WL.part {l : List Oper} (s : Nat) {B : Bool} (hs : lk ρ s = some (.bool B)) (ht : B = true → WL P n ops Q l ((s, .bool true) :: ρ) w) (hf : B = false → WL P n ops Q l ((s, .bool false) :: ρ) w) : WL P n ops Q l ρ w := by
  have key : ∀ b, B = b → ∀ a, Fits n ρ a → Fits n ((s, .bool b) :: ρ) a := by
    rintro b rfl a ha
    refine ⟨ha.defers, ha.size, fun i v hv => ?_⟩
    simp only [lk] at hv
    by_cases e : s = i
    · subst e; simp at hv; subst hv; exact ha.get s _ hs
    · have : Nat.beq s i = false := Bool.eq_false_iff.2 fun h => e (Nat.eq_of_beq_eq_true h)
      rw [this] at hv
      exact ha.get i v hv
  intro a ha
  cases hB : B with
  | true => exact ht hB a (key _ hB a ha)
  | false => exact hf hB a (key _ hB a ha)
/-! ### The operations that leave the world alone -/
theorem Y.move {x : Operand} {v : Value} (hx : ev ρ x = some v) : Y P (.move x) ty ρ w v := by
  intro a n o ha ho _; simp [execOp, ho, ha.eval hx]
theorem Y.assign {x : Operand} {v : Value} (hx : ev ρ x = some v) : Y P (.assign x) ty ρ w v := by
  intro a n o ha ho _; simp [execOp, ho, ha.eval hx]
theorem Y.pick {c x y : Operand} {b : Bool} {v : Value} (hc : ev ρ c = some (.bool b)) (hv : ev ρ (bif b then x else y) = some v) : Y P (.pick c x y) ty ρ w v := by
  intro a n o ha ho _
  have h2 := ha.eval hv
  cases b <;> simp [execOp, ho, ha.eval hc, asBool, ← h2]
theorem Y.not {t : TypeId} {x : Operand} {b : Bool} (hx : ev ρ x = some (.bool b)) : Y P (.unOp .not t x) ty ρ w (.bool (!b)) := by
  intro a n o ha ho _; simp [execOp, ho, ha.eval hx, Op.unary]
section bin
variable {t t' : TypeId} {x y : Operand}
theorem Y.bin {k : IntKind} {a b : Int} {v : Value} {bop : BinOp} (hx : ev ρ x = some (.int k a)) (hy : ev ρ y = some (.int k b))
    (hr : (Go.binOp bop t (.int k a) (.int k b)).run P w = .ok v w) : Y P (.binOp bop t x y t') ty ρ w v := by
  intro A n o ha ho _
  simp only [execOp, ho, ha.eval hx, ha.eval hy]
  cases bop <;> simp [eqGuard, hr]
/-! i64 -/
theorem Y.add_i {a b : Int} (hx : ev ρ x = some (vi a)) (hy : ev ρ y = some (vi b)) : Y P (.binOp .add t x y t') ty ρ w (vi (w64 (a + b))) := Y.bin hx hy (by rw [← w64_eq]; rfl)
theorem Y.sub_i {a b : Int} (hx : ev ρ x = some (vi a)) (hy : ev ρ y = some (vi b)) : Y P (.binOp .sub t x y t') ty ρ w (vi (w64 (a - b))) := Y.bin hx hy (by rw [← w64_eq]; rfl)
theorem Y.quo_i {a b : Int} (hb : b ≠ 0) (hx : ev ρ x = some (vi a)) (hy : ev ρ y = some (vi b)) : Y P (.binOp .quo t x y t') ty ρ w (vi (w64 (a.tdiv b))) :=
  Y.bin hx hy (by rw [← w64_eq]; simp [binOp, Op.intDiv, hb])
theorem Y.lss_i {a b : Int} (hx : ev ρ x = some (vi a)) (hy : ev ρ y = some (vi b)) : Y P (.binOp .lss t x y t') ty ρ w (.bool (decide (a < b))) := Y.bin hx hy rfl
theorem Y.leq_i {a b : Int} (hx : ev ρ x = some (vi a)) (hy : ev ρ y = some (vi b)) : Y P (.binOp .leq t x y t') ty ρ w (.bool (decide (a ≤ b))) := Y.bin hx hy rfl
theorem Y.gtr_i {a b : Int} (hx : ev ρ x = some (vi a)) (hy : ev ρ y = some (vi b)) : Y P (.binOp .gtr t x y t') ty ρ w (.bool (decide (b < a))) := Y.bin hx hy rfl
theorem Y.geq_i {a b : Int} (hx : ev ρ x = some (vi a)) (hy : ev ρ y = some (vi b)) : Y P (.binOp .geq t x y t') ty ρ w (.bool (decide (b ≤ a))) := Y.bin hx hy rfl
theorem Y.eql_i {a b : Int} (hx : ev ρ x = some (vi a)) (hy : ev ρ y = some (vi b)) : Y P (.binOp .eql t x y t') ty ρ w (.bool (decide (a = b))) :=
  Y.bin hx hy (by simp [binOp, Op.intCmp]; rfl)
theorem Y.neq_i {a b : Int} (hx : ev ρ x = some (vi a)) (hy : ev ρ y = some (vi b)) : Y P (.binOp .neq t x y t') ty ρ w (.bool (!decide (a = b))) :=
  Y.bin hx hy (by simp [binOp, Op.intCmp, bne]; rfl)
/-! UInt64 -/
theorem wrap_u64 (x : Int) : IntKind.u64.wrap x = x % 18446744073709551616 := rfl
theorem Y.add_u {a b : UInt64} (hx : ev ρ x = some (vu a)) (hy : ev ρ y = some (vu b)) : Y P (.binOp .add t x y t') ty ρ w (vu (a + b)) :=
  Y.bin hx hy (by simp only [binOp, Op.intArith, wrap_u64, vu, UInt64.toNat_add]; simp)
theorem Y.sub_u {a b : UInt64} (hx : ev ρ x = some (vu a)) (hy : ev ρ y = some (vu b)) : Y P (.binOp .sub t x y t') ty ρ w (vu (a - b)) :=
  Y.bin hx hy (by
    have h1 := a.toNat_lt; have h2 := b.toNat_lt
    simp only [binOp, Op.intArith, wrap_u64, vu, UInt64.toNat_sub]
    have : ((a.toNat : Int) - b.toNat) % 18446744073709551616 = (((2 ^ 64 - b.toNat + a.toNat) % 2 ^ 64 : Nat) : Int) := by omega
    simp [this])
theorem u64_lt (a b : UInt64) : decide ((a.toNat : Int) < b.toNat) = decide (a < b) := by simp [UInt64.lt_iff_toNat_lt]
theorem u64_le (a b : UInt64) : decide ((a.toNat : Int) ≤ b.toNat) = decide (a ≤ b) := by simp [UInt64.le_iff_toNat_le]
theorem u64_eq (a b : UInt64) : ((a.toNat : Int) == b.toNat) = decide (a = b) := by
  by_cases h : a = b
  · simp [h]
  · have : (a.toNat : Int) ≠ b.toNat := fun e => h (UInt64.toNat_inj.1 (by omega))
    simp only [h, decide_false]; exact beq_eq_false_iff_ne.2 this
theorem Y.gtr_u {a b : UInt64} (hx : ev ρ x = some (vu a)) (hy : ev ρ y = some (vu b)) : Y P (.binOp .gtr t x y t') ty ρ w (.bool (decide (b < a))) :=
  Y.bin hx hy (by rw [← u64_lt]; rfl)
theorem Y.geq_u {a b : UInt64} (hx : ev ρ x = some (vu a)) (hy : ev ρ y = some (vu b)) : Y P (.binOp .geq t x y t') ty ρ w (.bool (decide (b ≤ a))) :=
  Y.bin hx hy (by rw [← u64_le]; rfl)
theorem Y.eql_u {a b : UInt64} (hx : ev ρ x = some (vu a)) (hy : ev ρ y = some (vu b)) : Y P (.binOp .eql t x y t') ty ρ w (.bool (decide (a = b))) :=
  Y.bin hx hy (by rw [← u64_eq]; rfl)
theorem Y.neq_u {a b : UInt64} (hx : ev ρ x = some (vu a)) (hy : ev ρ y = some (vu b)) : Y P (.binOp .neq t x y t') ty ρ w (.bool (!decide (a = b))) :=
  Y.bin hx hy (by rw [← u64_eq]; rfl)
theorem bv64 (a : UInt64) : BitVec.ofInt 64 (a.toNat : Int) = a.toBitVec := by
  apply BitVec.eq_of_toNat_eq
  have := a.toNat_lt
  simp only [BitVec.toNat_ofInt, UInt64.toNat_toBitVec]
  omega
theorem wrap_bv64 (v : BitVec 64) : IntKind.u64.wrap (v.toNat : Int) = v.toNat := by
  have := v.isLt; rw [wrap_u64]; omega
theorem Y.and_u {a b : UInt64} (hx : ev ρ x = some (vu a)) (hy : ev ρ y = some (vu b)) : Y P (.binOp .and t x y t') ty ρ w (vu (a &&& b)) :=
  Y.bin hx hy (by simp only [binOp, Op.intBits, IntKind.bits, vu, bv64, wrap_bv64]; rfl)
theorem Y.or_u {a b : UInt64} (hx : ev ρ x = some (vu a)) (hy : ev ρ y = some (vu b)) : Y P (.binOp .or t x y t') ty ρ w (vu (a ||| b)) :=
  Y.bin hx hy (by simp only [binOp, Op.intBits, IntKind.bits, vu, bv64, wrap_bv64]; rfl)
theorem Y.andNot_u {a b : UInt64} (hx : ev ρ x = some (vu a)) (hy : ev ρ y = some (vu b)) : Y P (.binOp .andNot t x y t') ty ρ w (vu (a &&& ~~~b)) :=
  Y.bin hx hy (by simp only [binOp, Op.intBits, IntKind.bits, vu, bv64, wrap_bv64]; rfl)
/-! UInt8 -/
theorem u8_lt (a b : UInt8) : decide ((a.toNat : Int) < b.toNat) = decide (a < b) := by simp [UInt8.lt_iff_toNat_lt]
theorem u8_le (a b : UInt8) : decide ((a.toNat : Int) ≤ b.toNat) = decide (a ≤ b) := by simp [UInt8.le_iff_toNat_le]
theorem u8_eq (a b : UInt8) : ((a.toNat : Int) == b.toNat) = decide (a = b) := by
  by_cases h : a = b
  · simp [h]
  · have : (a.toNat : Int) ≠ b.toNat := fun e => h (UInt8.toNat_inj.1 (by omega))
    simp only [h, decide_false]; exact beq_eq_false_iff_ne.2 this
theorem Y.lss_b {a b : UInt8} (hx : ev ρ x = some (vb a)) (hy : ev ρ y = some (vb b)) : Y P (.binOp .lss t x y t') ty ρ w (.bool (decide (a < b))) :=
  Y.bin hx hy (by rw [← u8_lt]; rfl)
theorem Y.leq_b {a b : UInt8} (hx : ev ρ x = some (vb a)) (hy : ev ρ y = some (vb b)) : Y P (.binOp .leq t x y t') ty ρ w (.bool (decide (a ≤ b))) :=
  Y.bin hx hy (by rw [← u8_le]; rfl)
theorem Y.gtr_b {a b : UInt8} (hx : ev ρ x = some (vb a)) (hy : ev ρ y = some (vb b)) : Y P (.binOp .gtr t x y t') ty ρ w (.bool (decide (b < a))) :=
  Y.bin hx hy (by rw [← u8_lt]; rfl)
theorem Y.geq_b {a b : UInt8} (hx : ev ρ x = some (vb a)) (hy : ev ρ y = some (vb b)) : Y P (.binOp .geq t x y t') ty ρ w (.bool (decide (b ≤ a))) :=
  Y.bin hx hy (by rw [← u8_le]; rfl)
theorem Y.eql_b {a b : UInt8} (hx : ev ρ x = some (vb a)) (hy : ev ρ y = some (vb b)) : Y P (.binOp .eql t x y t') ty ρ w (.bool (decide (a = b))) :=
  Y.bin hx hy (by rw [← u8_eq]; rfl)
theorem Y.neq_b {a b : UInt8} (hx : ev ρ x = some (vb a)) (hy : ev ρ y = some (vb b)) : Y P (.binOp .neq t x y t') ty ρ w (.bool (!decide (a = b))) :=
  Y.bin hx hy (by rw [← u8_eq]; rfl)
/-! bools -/
theorem run_equalIn_bool (d : Nat) {a b : Bool} (hb : P.underlying t = some .bool) : (Op.equalIn (d + 1) t (.bool a) (.bool b)).run P w = .ok (a == b) w := by
  simp [Op.equalIn, run_underlying hb]
theorem Y.neqB {a b : Bool} (hx : ev ρ x = some (.bool a)) (hy : ev ρ y = some (.bool b)) (hb : P.underlying t = some .bool) : Y P (.binOp .neq t x y t') ty ρ w (.bool (!decide (a = b))) := by
  intro A n o ha ho _
  have : (Op.equal t (.bool a) (.bool b)).run P w = .ok (a == b) w := by
    exact run_equalIn_bool 9999 hb
  simp only [execOp, ho, ha.eval hx, ha.eval hy]
  simp [eqGuard, binOp, this]
  cases a <;> cases b <;> rfl
end bin
/-! ### shifts -/
section sh
variable {t t' : TypeId} {x y : Operand}
theorem run_shr (k yk : IntKind) (a : Int) (m : Nat) : (Op.shift .shr k a yk (m : Int)).run P w = .ok (.int k (a.fdiv (2 ^ min m k.bits))) w := by
  simp [Op.shift, show ¬ ((m : Int) < 0) by omega]
theorem Y.sh {k yk : IntKind} {a b : Int} {v : Value} {bop : BinOp} (hb : bop = .shl ∨ bop = .shr) (hx : ev ρ x = some (.int k a)) (hy : ev ρ y = some (.int yk b))
    (hr : (Op.shift bop k a yk b).run P w = .ok v w) : Y P (.binOp bop t x y t') ty ρ w v := by
  intro A n o ha ho _
  simp only [execOp, ho, ha.eval hx, ha.eval hy]
  rcases hb with rfl | rfl <;> simp [eqGuard, binOp, hr]
theorem vi_shr (a : Int) (m : Nat) : Value.int .i64 (Int.fdiv a (2 ^ min m IntKind.i64.bits)) = vi (shrI a m) := by
  simp only [vi, shrI, IntKind.bits]
  rw [Int.fdiv_eq_ediv_of_nonneg _ (by exact Int.le_of_lt (Int.pow_pos (by omega)))]
theorem Y.shr_iu {a : Int} {m : UInt64} (hx : ev ρ x = some (vi a)) (hy : ev ρ y = some (vu m)) : Y P (.binOp .shr t x y t') ty ρ w (vi (shrI a m.toNat)) :=
  Y.sh (.inr rfl) hx hy (by rw [run_shr, vi_shr])
end sh
/-! ### conversions among integers: the kinds of source and target are closed facts of the program -/
section conv
variable {s t : TypeId} {x : Operand}
theorem Y.conv {k k' : IntKind} {a : Int} {sd : TypeDesc} (hs : P.underlying s = some sd) (ht : P.underlying t = some (.int k')) (hx : ev ρ x = some (.int k a)) : Y P (.convert s t x) ty ρ w (.int k' (k'.wrap a)) := by
  intro A n o ha ho _
  simp only [execOp, ho, ha.eval hx]
  simp [convert, run_underlying hs, run_underlying ht, Conv.intToInt]
theorem toU64_toNat (a : Int) : ((toU64 a).toNat : Int) = a % 18446744073709551616 := by
  simp only [toU64, UInt64.toNat_ofNat']; omega
theorem Y.conv_iu {a : Int} {sd : TypeDesc} (hs : P.underlying s = some sd) (ht : P.underlying t = some (.int .u64)) (hx : ev ρ x = some (vi a)) : Y P (.convert s t x) ty ρ w (vu (toU64 a)) := by
  have := Y.conv (P := P) (ty := ty) (w := w) hs ht hx; simp only [wrap_u64] at this; simpa only [vu, toU64_toNat] using this
end conv
end
end Go.Lg
namespace Go.Lg
open Go
/-! ### Owners: each block has a label. 0: what came in and is not written; 1: made here and not written any more; others: objects -/
abbrev Own := Nat → Nat
structure Stp (L : List Nat) (O : Own) (w : World) (O' : Own) (w' : World) : Prop where
  os : w'.os = w.os
  tape : w'.tape = w.tape
  output : w'.output = w.output
  size : w.heap.size ≤ w'.heap.size
  lab : ∀ k, k < w.heap.size → O k ∉ L → O' k = O k
  low : ∀ k, k < w.heap.size → O k ≤ 9 → O' k = O k
  blk : ∀ k, k < w.heap.size → O k ∉ L → w'.heap[k]? = w.heap[k]?
theorem Stp.refl (L : List Nat) (O : Own) (w : World) : Stp L O w O w := ⟨rfl, rfl, rfl, Nat.le_refl _, fun _ _ _ => rfl, fun _ _ _ => rfl, fun _ _ _ => rfl⟩
theorem Stp.trans {L : List Nat} {O O' O'' : Own} {w w' w'' : World} (h : Stp L O w O' w') (k : Stp L O' w' O'' w'') : Stp L O w O'' w'' :=
  ⟨k.os.trans h.os, k.tape.trans h.tape, k.output.trans h.output, Nat.le_trans h.size k.size,
   fun i hi hl => by have e := h.lab i hi hl; rw [k.lab i (Nat.lt_of_lt_of_le hi h.size) (by rw [e]; exact hl), e],
   fun i hi hl => by have e := h.low i hi hl; rw [k.low i (Nat.lt_of_lt_of_le hi h.size) (by rw [e]; exact hl), e],
   fun i hi hl => by have e := h.lab i hi hl; rw [k.blk i (Nat.lt_of_lt_of_le hi h.size) (by rw [e]; exact hl), h.blk i hi hl]⟩
theorem Stp.mono {L L' : List Nat} {O O' : Own} {w w' : World} (h : Stp L O w O' w') (hs : ∀ x ∈ L, x ∈ L') : Stp L' O w O' w' :=
  ⟨h.os, h.tape, h.output, h.size, fun k hk hl => h.lab k hk (fun hm => hl (hs _ hm)), h.low, fun k hk hl => h.blk k hk (fun hm => hl (hs _ hm))⟩
/-- L ⊆ L', as a Bool -/
def sublist (L L' : List Nat) : Bool := L.all (L'.contains ·)
theorem Stp.up {L L' : List Nat} {O O' : Own} {w w' : World} (h : Stp L O w O' w') (hs : sublist L L' = true) : Stp L' O w O' w' :=
  h.mono fun x hx => by have := List.all_eq_true.1 hs x hx; simpa using this
theorem Stp.step {L L1 L2 : List Nat} {O O' O'' : Own} {w w' w'' : World} (h : Stp L1 O w O' w') (k : Stp L2 O' w' O'' w'') (h1 : sublist L1 L = true) (h2 : sublist L2 L = true) : Stp L O w O'' w'' :=
  (h.up h1).trans (k.up h2)
/-- new blocks alone -/
def Ext (w w' : World) : Prop := Stp [] (fun _ => 0) w (fun _ => 0) w'
theorem Ext.refl (w : World) : Ext w w := Stp.refl _ _ _
theorem Ext.trans {w w' w'' : World} (h : Ext w w') (k : Ext w' w'') : Ext w w'' := Stp.trans h k
theorem Ext.blk {w w' : World} (h : Ext w w') {k : Nat} {o : Obj} (hk : w.heap[k]? = some o) : w'.heap[k]? = some o := by
  rw [Stp.blk h k (Array.getElem?_eq_some_iff.1 hk).1 (by simp)]; exact hk
theorem blk_lt {w : World} {k : Nat} {o : Obj} (h : w.heap[k]? = some o) : k < w.heap.size := (Array.getElem?_eq_some_iff.1 h).1
/-- a block of one's own, its cells written out -/
structure Blk (ℓ : Nat) (O : Own) (w : World) (b : Nat) (t : TypeId) (cells : List Value) : Prop where
  lab : O b = ℓ
  blk : w.heap[b]? = some (.cells cells.toArray t (0, 0))
theorem Blk.st {ℓ : Nat} {O O' : Own} {w w' : World} {b : Nat} {t : TypeId} {cells : List Value} {L : List Nat} (h : Blk ℓ O w b t cells) (hs : Stp L O w O' w') (hl : L.contains ℓ = false) : Blk ℓ O' w' b t cells := by
  have hlt := blk_lt h.blk
  have hn : O b ∉ L := by rw [h.lab]; simpa using hl
  exact ⟨(hs.lab b hlt hn).trans h.lab, (hs.blk b hlt hn).trans h.blk⟩
/-! ### Representations: how a value's cells read as data; A: the blocks that it may read -/
structure Rep (α : Type) where
  n : Nat
  ok : World → (Nat → Prop) → List Value → α → Prop
  len : ∀ {w A cs d}, ok w A cs d → cs.length = n
  one : ∀ {w A cs d}, ok w A cs d → ∀ v ∈ cs, v.oneCell' = true
  mono : ∀ {w w' A A' cs d}, ok w A cs d → (∀ k, A k → k < w.heap.size → A' k ∧ w'.heap[k]? = w.heap[k]?) → ok w' A' cs d
def Rep.i : Rep Int := ⟨1, fun _ _ cs d => cs = [vi d], fun h => by rw [h]; rfl, fun h v hv => by rw [h] at hv; simp at hv; subst hv; rfl, fun h _ => h⟩
def Rep.u : Rep UInt64 := ⟨1, fun _ _ cs d => cs = [vu d], fun h => by rw [h]; rfl, fun h v hv => by rw [h] at hv; simp at hv; subst hv; rfl, fun h _ => h⟩
def Rep.b : Rep UInt8 := ⟨1, fun _ _ cs d => cs = [vb d], fun h => by rw [h]; rfl, fun h v hv => by rw [h] at hv; simp at hv; subst hv; rfl, fun h _ => h⟩
def Rep.B : Rep Bool := ⟨1, fun _ _ cs d => cs = [.bool d], fun h => by rw [h]; rfl, fun h v hv => by rw [h] at hv; simp at hv; subst hv; rfl, fun h _ => h⟩
def Rep.s : Rep (List UInt8) := ⟨1, fun _ _ cs d => cs = [vs d], fun h => by rw [h]; rfl, fun h v hv => by rw [h] at hv; simp at hv; subst hv; rfl, fun h _ => h⟩
def Rep.pair {α β : Type} (R : Rep α) (S : Rep β) : Rep (α × β) :=
  ⟨R.n + S.n, fun w A cs d => ∃ c1 c2, cs = c1 ++ c2 ∧ R.ok w A c1 d.1 ∧ S.ok w A c2 d.2,
   fun ⟨c1, c2, e, h1, h2⟩ => by rw [e, List.length_append, R.len h1, S.len h2],
   fun ⟨c1, c2, e, h1, h2⟩ v hv => by rw [e] at hv; exact (List.mem_append.1 hv).elim (R.one h1 v) (S.one h2 v),
   fun ⟨c1, c2, e, h1, h2⟩ hm => ⟨c1, c2, e, R.mono h1 hm, S.mono h2 hm⟩⟩
/-- by another type: a structure by its parts -/
def Rep.via {α β : Type} (R : Rep α) (f : β → α) : Rep β := ⟨R.n, fun w A cs d => R.ok w A cs (f d), R.len, R.one, R.mono⟩
/-- the cells of a row of elements -/
def Rows' {α : Type} (R : Rep α) (w : World) (A : Nat → Prop) : List Value → List α → Prop
  | cs, [] => cs = []
  | cs, x :: xs => ∃ c1 c2, cs = c1 ++ c2 ∧ R.ok w A c1 x ∧ Rows' R w A c2 xs
section
variable {α : Type} {R : Rep α}
theorem Rows'.len {w : World} {A : Nat → Prop} : ∀ {xs : List α} {cs : List Value}, Rows' R w A cs xs → cs.length = xs.length * R.n
  | [], cs, h => by rw [show cs = [] from h]; simp
  | x :: xs, cs, ⟨c1, c2, e, h1, h2⟩ => by rw [e, List.length_append, R.len h1, Rows'.len h2, List.length_cons, Nat.add_mul]; omega
theorem Rows'.one {w : World} {A : Nat → Prop} : ∀ {xs : List α} {cs : List Value}, Rows' R w A cs xs → ∀ v ∈ cs, v.oneCell' = true
  | [], cs, h, v, hv => by rw [show cs = [] from h] at hv; simp at hv
  | x :: xs, cs, ⟨c1, c2, e, h1, h2⟩, v, hv => by rw [e] at hv; exact (List.mem_append.1 hv).elim (R.one h1 v) (Rows'.one h2 v)
theorem Rows'.mono {w w' : World} {A A' : Nat → Prop} (hm : ∀ k, A k → k < w.heap.size → A' k ∧ w'.heap[k]? = w.heap[k]?) : ∀ {xs : List α} {cs : List Value}, Rows' R w A cs xs → Rows' R w' A' cs xs
  | [], cs, h => h
  | x :: xs, cs, ⟨c1, c2, e, h1, h2⟩ => ⟨c1, c2, e, R.mono h1 hm, Rows'.mono hm h2⟩
theorem Rows'.append {w : World} {A : Nat → Prop} {ys : List α} {ds : List Value} (k : Rows' R w A ds ys) : ∀ {xs : List α} {cs : List Value}, Rows' R w A cs xs → Rows' R w A (cs ++ ds) (xs ++ ys)
  | [], cs, h => by rw [show cs = [] from h]; exact k
  | x :: xs, cs, ⟨c1, c2, e, h1, h2⟩ => ⟨c1, c2 ++ ds, by rw [e, List.append_assoc], h1, Rows'.append k h2⟩
theorem Rows'.get {w : World} {A : Nat → Prop} : ∀ {xs : List α} {cs : List Value} (i : Nat) (x : α), Rows' R w A cs xs → xs[i]? = some x → R.ok w A ((cs.drop (i * R.n)).take R.n) x
  | [], cs, i, x, h, hx => by simp at hx
  | y :: xs, cs, 0, x, ⟨c1, c2, e, h1, h2⟩, hx => by
    simp at hx; subst hx
    have := R.len h1
    rw [e, Nat.zero_mul, List.drop_zero, ← this, List.take_left]; exact h1
  | y :: xs, cs, i + 1, x, ⟨c1, c2, e, h1, h2⟩, hx => by
    have := R.len h1
    have h3 := Rows'.get i x h2 (by simpa using hx)
    rw [e, show (i + 1) * R.n = c1.length + i * R.n by rw [Nat.add_mul, this]; omega, List.drop_append]
    simpa [List.drop_eq_nil_of_le] using h3
theorem Rows'.drop {w : World} {A : Nat → Prop} : ∀ (k : Nat) {xs : List α} {cs : List Value}, Rows' R w A cs xs → Rows' R w A (cs.drop (k * R.n)) (xs.drop k)
  | 0, xs, cs, h => by simpa using h
  | k + 1, [], cs, h => by rw [show cs = [] from h]; simp [Rows']
  | k + 1, x :: xs, cs, ⟨c1, c2, e, h1, h2⟩ => by
    have := R.len h1
    rw [e, show (k + 1) * R.n = c1.length + k * R.n by rw [Nat.add_mul, this]; omega, List.drop_append]
    simpa [List.drop_eq_nil_of_le] using Rows'.drop k h2
theorem Rows'.take {w : World} {A : Nat → Prop} : ∀ (k : Nat) {xs : List α} {cs : List Value}, Rows' R w A cs xs → Rows' R w A (cs.take (k * R.n)) (xs.take k)
  | 0, xs, cs, h => by simp [Rows']
  | k + 1, [], cs, h => by rw [show cs = [] from h]; simp [Rows']
  | k + 1, x :: xs, cs, ⟨c1, c2, e, h1, h2⟩ => by
    have := R.len h1
    rw [e, show (k + 1) * R.n = c1.length + k * R.n by rw [Nat.add_mul, this]; omega, List.take_append]
    refine ⟨c1, c2.take (k * R.n), ?_, h1, Rows'.take k h2⟩
    rw [List.take_of_length_le (by omega)]; simp
theorem Rows'.set {w : World} {A : Nat → Prop} {c : List Value} {y : α} (hc : R.ok w A c y) : ∀ {xs : List α} {cs : List Value} (i : Nat), Rows' R w A cs xs → i < xs.length →
    Rows' R w A (cs.take (i * R.n) ++ c ++ cs.drop ((i + 1) * R.n)) (xs.set i y)
  | [], cs, i, h, hi => by simp at hi
  | x :: xs, cs, 0, ⟨c1, c2, e, h1, h2⟩, hi => by
    have := R.len h1
    rw [e]; simp only [Nat.zero_mul, List.take_zero, List.nil_append, List.set_cons_zero, Nat.zero_add, Nat.one_mul]
    rw [← this, List.drop_left]
    exact ⟨c, c2, rfl, hc, h2⟩
  | x :: xs, cs, i + 1, ⟨c1, c2, e, h1, h2⟩, hi => by
    have := R.len h1
    have ih := Rows'.set hc i h2 (by simpa using hi)
    rw [e, show (i + 1) * R.n = c1.length + i * R.n by rw [Nat.add_mul, this]; omega, show (i + 1 + 1) * R.n = c1.length + (i + 1) * R.n by rw [Nat.add_mul (i + 1), this]; omega,
      List.take_append, List.drop_append]
    simp only [List.set_cons_succ]
    refine ⟨c1, _, ?_, h1, ih⟩
    rw [List.take_of_length_le (by omega), List.drop_eq_nil_of_le (by omega)]
    simp [List.append_assoc]
end
/-- a slice that reads as a list -/
def Sl {α : Type} (R : Rep α) (w : World) (A : Nat → Prop) (v : Value) (xs : List α) : Prop :=
  (v = .slice none 0 0 ∧ xs = []) ∨ (∃ q c, v = .slice (some q) 0 c ∧ xs = []) ∨
  ∃ b off cap cells t fr, v = .slice (some ⟨b, off, none⟩) xs.length cap ∧ A b ∧ w.heap[b]? = some (.cells cells t fr) ∧ xs.length ≤ cap ∧
    (off + xs.length * R.n ≤ cells.size) ∧ Rows' R w A ((cells.toList.drop off).take (xs.length * R.n)) xs
theorem Sl.mono {α : Type} {R : Rep α} {w w' : World} {A A' : Nat → Prop} {v : Value} {xs : List α} (h : Sl R w A v xs) (hm : ∀ k, A k → k < w.heap.size → A' k ∧ w'.heap[k]? = w.heap[k]?) : Sl R w' A' v xs := by
  rcases h with h | h | ⟨b, off, cap, cells, t, fr, e, ha, hb, hc, hs, hr⟩
  · exact .inl h
  · exact .inr (.inl h)
  · obtain ⟨h1, h2⟩ := hm b ha (blk_lt hb)
    exact .inr <| .inr ⟨b, off, cap, cells, t, fr, e, h1, h2.trans hb, hc, hs, Rows'.mono hm hr⟩
def Rep.sl {α : Type} (R : Rep α) : Rep (List α) :=
  ⟨1, fun w A cs d => ∃ v, cs = [v] ∧ Sl R w A v d, fun ⟨v, e, _⟩ => by rw [e]; rfl,
   fun ⟨v, e, h⟩ u hu => by rw [e] at hu; simp at hu; subst hu; rcases h with ⟨rfl, _⟩ | ⟨q, c, rfl, _⟩ | ⟨b, off, cap, cells, t, fr, rfl, _⟩ <;> rfl,
   fun ⟨v, e, h⟩ hm => ⟨v, e, h.mono hm⟩⟩
/-- what may be read and is not written while O stands: label 0 or 1; fresh: label 1 -/
def imm (O : Own) : Nat → Prop := fun k => O k ≤ 1
def frs (O : Own) : Nat → Prop := fun k => O k = 1
theorem imm_st {L : List Nat} {O O' : Own} {w w' : World} (hs : Stp L O w O' w') (h0 : L.contains 0 = false) (h1 : L.contains 1 = false) : ∀ k, imm O k → k < w.heap.size → imm O' k ∧ w'.heap[k]? = w.heap[k]? := by
  intro k hk hlt
  have hn : O k ∉ L := by
    have : O k = 0 ∨ O k = 1 := by unfold imm at hk; omega
    rcases this with e | e
    · rw [e]; simpa using h0
    · rw [e]; simpa using h1
  exact ⟨by unfold imm at *; rw [hs.lab k hlt hn]; exact hk, hs.blk k hlt hn⟩
theorem frs_st {L : List Nat} {O O' : Own} {w w' : World} (hs : Stp L O w O' w') (h1 : L.contains 1 = false) : ∀ k, frs O k → k < w.heap.size → frs O' k ∧ w'.heap[k]? = w.heap[k]? := by
  intro k hk hlt
  have hn : O k ∉ L := by unfold frs at hk; rw [hk]; simpa using h1
  exact ⟨by unfold frs at *; rw [hs.lab k hlt hn]; exact hk, hs.blk k hlt hn⟩
theorem frs_imm {O : Own} {w : World} : ∀ k, frs O k → k < w.heap.size → imm O k ∧ w.heap[k]? = w.heap[k]? := fun k h _ => ⟨by unfold frs imm at *; omega, rfl⟩
/-! ### Rows of one's own: they may grow and be written -/
def OwnSl {α : Type} (ℓ : Nat) (R : Rep α) (e : TypeId) (O : Own) (w : World) (v : Value) (xs : List α) : Prop :=
  ∃ cs, w.ownsRow 0 e R.n v xs.length cs ∧ Rows' R w (imm O) cs xs ∧ ∀ b, v.ownBlock = some b → O b = ℓ
theorem OwnSl.st {α : Type} {ℓ : Nat} {R : Rep α} {e : TypeId} {O O' : Own} {w w' : World} {v : Value} {xs : List α} {L : List Nat} (h : OwnSl ℓ R e O w v xs) (hs : Stp L O w O' w')
    (hl : L.contains ℓ = false) (h0 : L.contains 0 = false) (h1 : L.contains 1 = false) : OwnSl ℓ R e O' w' v xs := by
  obtain ⟨cs, ho, hr, hb⟩ := h
  refine ⟨cs, ⟨ho.1, ?_⟩, Rows'.mono (imm_st hs h0 h1) hr, fun b hv => ?_⟩
  · rcases ho.2 with hn | ⟨g, cap, cur, rfl, hbg, hg, rest⟩
    · exact .inl hn
    · refine .inr ⟨g, cap, cur, rfl, hbg, ?_, rest⟩
      rw [hs.blk g (blk_lt hg) (by rw [hb g rfl]; simpa using hl)]; exact hg
  · have := hb b hv
    rw [hs.lab b (ho.lt b hv).2 (by rw [this]; simpa using hl)]; exact this
/-- a slice whose cells may be read now: what an append takes -/
def Src {α : Type} (R : Rep α) (O : Own) (w : World) (u : Value) (ys : List α) : Prop :=
  (u = .slice none 0 0 ∧ ys = []) ∨ (∃ q c, u = .slice (some q) 0 c ∧ ys = []) ∨ ∃ b off cap cells t fr, u = .slice (some ⟨b, off, none⟩) ys.length cap ∧ w.heap[b]? = some (.cells cells t fr) ∧ ys.length ≤ cap ∧
    (off + ys.length * R.n ≤ cells.size) ∧ Rows' R w (imm O) ((cells.toList.drop off).take (ys.length * R.n)) ys
theorem Sl.src {α : Type} {R : Rep α} {O : Own} {w : World} {u : Value} {ys : List α} (h : Sl R w (imm O) u ys) : Src R O w u ys := by
  rcases h with h | h | ⟨b, off, cap, cells, t, fr, e, _, hb, hc, hs, hr⟩
  · exact .inl h
  · exact .inr (.inl h)
  · exact .inr <| .inr ⟨b, off, cap, cells, t, fr, e, hb, hc, hs, hr⟩
/-- what reads alike in every memory: numbers, bools, texts and structures of these -/
def Flat {α : Type} (R : Rep α) : Prop := ∀ {w w' A A' cs d}, R.ok w A cs d → R.ok w' A' cs d
theorem Flat.i : Flat Rep.i := fun h => h
theorem Flat.u : Flat Rep.u := fun h => h
theorem Flat.b : Flat Rep.b := fun h => h
theorem Flat.B : Flat Rep.B := fun h => h
theorem Flat.s : Flat Rep.s := fun h => h
theorem Flat.pair {α β : Type} {R : Rep α} {S : Rep β} (h : Flat R) (k : Flat S) : Flat (Rep.pair R S) := fun ⟨c1, c2, e, h1, h2⟩ => ⟨c1, c2, e, h h1, k h2⟩
theorem Flat.via {α β : Type} {R : Rep α} (h : Flat R) (f : β → α) : Flat (Rep.via R f) := fun {_ _ _ _ _ d} h' => h (d := f d) h'
theorem Flat.rows {α : Type} {R : Rep α} (hf : Flat R) {w w' : World} {A A' : Nat → Prop} : ∀ {xs : List α} {cs : List Value}, Rows' R w A cs xs → Rows' R w' A' cs xs
  | [], _, h => h
  | _ :: _, _, ⟨c1, c2, e, h1, h2⟩ => ⟨c1, c2, e, hf h1, hf.rows h2⟩
theorem OwnSl.src {α : Type} {ℓ : Nat} {R : Rep α} {e : TypeId} {O : Own} {w : World} {u : Value} {ys : List α} (h : OwnSl ℓ R e O w u ys) : Src R O w u ys := by
  obtain ⟨cs, ⟨hl, ho⟩, hr, hb⟩ := h
  rcases ho with ⟨rfl, hn⟩ | ⟨g, cap, cur, rfl, hbg, hg, hc, hm, hz, ht⟩
  · exact .inl ⟨rfl, List.eq_nil_of_length_eq_zero hn⟩
  · refine .inr <| .inr ⟨g, 0, cap, cur, e, (0, 0), rfl, hg, hc, ?_, ?_⟩
    · rw [hz, Nat.zero_add]; exact Nat.mul_le_mul_right _ hc
    · rw [List.drop_zero, ht]; exact hr
/-- read as a slice: of whatever blocks -/
theorem Src.sl {α : Type} {R : Rep α} {O : Own} {w : World} {u : Value} {ys : List α} (h : Src R O w u ys) : Sl R w (fun _ => True) u ys := by
  rcases h with h | h | ⟨b, off, cap, cells, t, fr, e, hb, hc, hs, hr⟩
  · exact .inl h
  · exact .inr (.inl h)
  · exact .inr <| .inr ⟨b, off, cap, cells, t, fr, e, trivial, hb, hc, hs, Rows'.mono (fun _ _ _ => ⟨trivial, rfl⟩) hr⟩
theorem Sl.all {α : Type} {R : Rep α} {w : World} {A : Nat → Prop} {u : Value} {ys : List α} (h : Sl R w A u ys) : Sl R w (fun _ => True) u ys :=
  h.mono fun _ _ _ => ⟨trivial, rfl⟩
theorem Rep.all {α : Type} {R : Rep α} {w : World} {A : Nat → Prop} {cs : List Value} {d : α} (h : R.ok w A cs d) : R.ok w (fun _ => True) cs d :=
  R.mono h fun _ _ _ => ⟨trivial, rfl⟩
/-- an object's label is given up: what it holds is not written any more -/
def frz (ℓ : Nat) (O : Own) : Own := fun k => if O k = ℓ then 1 else O k
theorem frz_st (ℓ : Nat) (hℓ : 10 ≤ ℓ) (O : Own) (w : World) : Stp [ℓ] O w (frz ℓ O) w :=
  ⟨rfl, rfl, rfl, Nat.le_refl _, fun k _ hl => by simp at hl; simp [frz, hl], fun k _ hl => by unfold frz; rw [if_neg (by omega)], fun _ _ _ => rfl⟩
theorem OwnSl.frzF {α : Type} {ℓ : Nat} {R : Rep α} {e : TypeId} {O : Own} {w : World} {u : Value} {ys : List α} (hf : Flat R) (h : OwnSl ℓ R e O w u ys) : Sl R w (frs (frz ℓ O)) u ys := by
  obtain ⟨cs, ⟨hl, ho⟩, hr, hb⟩ := h
  rcases ho with ⟨rfl, hn⟩ | ⟨g, cap, cur, rfl, hbg, hg, hc, hm, hz, ht⟩
  · exact .inl ⟨rfl, List.eq_nil_of_length_eq_zero hn⟩
  · refine .inr <| .inr ⟨g, 0, cap, cur, e, (0, 0), rfl, by simp [frs, frz, hb g rfl], hg, hc, ?_, ?_⟩
    · rw [hz, Nat.zero_add]; exact Nat.mul_le_mul_right _ hc
    · rw [List.drop_zero, ht]; exact hf.rows hr
theorem OwnSl.frz {α : Type} {ℓ : Nat} {R : Rep α} {e : TypeId} {O : Own} {w : World} {u : Value} {ys : List α} (h : OwnSl ℓ R e O w u ys) : Sl R w (imm (frz ℓ O)) u ys := by
  obtain ⟨cs, ⟨hl, ho⟩, hr, hb⟩ := h
  rcases ho with ⟨rfl, hn⟩ | ⟨g, cap, cur, rfl, hbg, hg, hc, hm, hz, ht⟩
  · exact .inl ⟨rfl, List.eq_nil_of_length_eq_zero hn⟩
  · refine .inr <| .inr ⟨g, 0, cap, cur, e, (0, 0), rfl, by simp [imm, Lg.frz, hb g rfl], hg, hc, ?_, ?_⟩
    · rw [hz, Nat.zero_add]; exact Nat.mul_le_mul_right _ hc
    · rw [List.drop_zero, ht]
      exact Rows'.mono (fun k hk _ => ⟨by unfold imm Lg.frz at *; split <;> omega, rfl⟩) hr
end Go.Lg
namespace Go.Lg
open Go
/-! ### Closed facts of a program's types -/
structure TyOk (P : Program) (t : TypeId) (d : TypeDesc) (size bytes : Nat) (zero : Value) : Prop where
  u : P.underlying t = some d
  i : ∃ i, P.info? t = some i ∧ i.zero = some zero ∧ i.size = size ∧ i.bytes = bytes
theorem tyOk {P : Program} {t : TypeId} {d : TypeDesc} {size bytes : Nat} {zero : Value} (hu : P.underlying t = some d) (hi : (P.info? t).map (fun i => (i.zero, i.size, i.bytes)) = some (some zero, size, bytes)) : TyOk P t d size bytes zero :=
  ⟨hu, info_parts hi⟩
theorem TyOk.size {P : Program} {t : TypeId} {d : TypeDesc} {size bytes : Nat} {zero : Value} (h : TyOk P t d size bytes zero) {w : World} : (sizeOf t).run P w = .ok size w := by
  obtain ⟨i, hi, _, hs, _⟩ := h.i
  simp [sizeOf, typeInfo, hi, hs]
def isAggD : TypeDesc → Bool
  | .struct _ | .array _ _ => true
  | _ => false
def FieldOk (P : Program) (s : TypeId) (f off : Nat) : Prop := ∀ (b o : Nat) (w : World), (Instr.fieldAt s (.pointer (some ⟨b, o, none⟩)) f).run P w = .ok (.pointer (some ⟨b, o + off, none⟩)) w
theorem Addr_add (b o n : Nat) : (⟨b, o, none⟩ : Addr).add n = ⟨b, o + n, none⟩ := by unfold Addr.add; split <;> simp_all
theorem fieldOk {P : Program} {s : TypeId} {f off : Nat} {fs : Array Field} {fld : Field} (hu : P.underlying s = some (.struct fs)) (hf : fs[f]? = some fld) (ho : fld.offset = off)
    (hz : ((P.info? fld.type).map fun i => i.size != 0) = some true) : FieldOk P s f off := by
  intro b o w
  obtain ⟨i, hi, hi2⟩ := Option.map_eq_some_iff.1 hz
  have : i.size ≠ 0 := by simpa using hi2
  simp [Instr.fieldAt, run_underlying hu, hf, Instr.sureAddr, fieldPlace, sizeOf, typeInfo, hi, this, Addr_add, ho]
def CallOk (P : Program) (f : FuncId) : Prop := ∀ (args : Array Value) (w : World), (callFunc f args).run P w = .ok (.enter f args) w
theorem callOk {P : Program} {f : FuncId} {fn : Func} (hf : P.funcs[f]? = some fn) (hn : (fn.name == "runtime.NumGoroutine") = false) (hb : fn.body.isNone = false) : CallOk P f := by
  intro args w
  have hn' : ¬ (fn.name = "runtime.NumGoroutine") := by simpa using hn
  have hb' : ¬ (fn.body = none) := fun e => by simp [e] at hb
  simp [callFunc, hf, hn', hb']
/-! ### Reading and writing cells -/
/-- from place off on, block b holds these cells -/
def CellsAt (w : World) (b off : Nat) (cs : List Value) : Prop := ∃ cells t fr, w.heap[b]? = some (.cells cells t fr) ∧ (cells.toList.drop off).take cs.length = cs
theorem CellsAt.cell {w : World} {b off : Nat} {cs : List Value} (h : CellsAt w b off cs) : ∀ j v, cs[j]? = some v → w.cell? ((⟨b, off, none⟩ : Addr).add j) = some v := by
  obtain ⟨cells, t, fr, hb, hc⟩ := h
  intro j v hj
  rw [Addr_add]
  have : w.cell? ⟨b, off + j, none⟩ = cells[off + j]? := by simp [World.cell?, hb]
  rw [this]
  rw [← hc] at hj
  have hj2 := (List.getElem?_eq_some_iff.1 hj).1
  simp only [List.length_take] at hj2
  rw [List.getElem?_take, if_pos (by omega), List.getElem?_drop] at hj
  simpa using hj
theorem Blk.cells {ℓ : Nat} {O : Own} {w : World} {b : Nat} {t : TypeId} {cells : List Value} (h : Blk ℓ O w b t cells) (off : Nat) (cs : List Value) (hc : (cells.drop off).take cs.length = cs) : CellsAt w b off cs :=
  ⟨_, _, _, h.blk, by simpa using hc⟩
theorem Blk.cell {ℓ : Nat} {O : Own} {w : World} {b : Nat} {t : TypeId} {cells : List Value} (h : Blk ℓ O w b t cells) (off : Nat) (v : Value) (hc : cells[off]? = some v) : CellsAt w b off [v] :=
  ⟨_, _, _, h.blk, by
    have := (List.getElem?_eq_some_iff.1 hc)
    simp only [List.length_singleton]
    obtain ⟨h1, h2⟩ := this
    show List.take 1 (List.drop off cells) = [v]
    rw [List.drop_eq_getElem_cons h1, h2]
    rfl⟩
section
variable {P : Program} {w : World}
theorem run_loadSc {t : TypeId} {d : TypeDesc} {size bytes : Nat} {z : Value} (ht : TyOk P t d size bytes z) (hd : isAggD d = false) {b off : Nat} {v : Value} (hc : CellsAt w b off [v]) :
    (Instr.loadAt t (.pointer (some ⟨b, off, none⟩))).run P w = .ok v w := by
  have h := hc.cell 0 v rfl
  simp only [Addr_add, Nat.add_zero] at h
  have hg : (isAgg t).run P w = .ok false w := by
    simp only [isAgg, Sem.run_bind, run_underlying ht.u, Result.andThen_ok]
    cases d <;> first | rfl | simp [isAggD] at hd
  simp only [Instr.loadAt, Instr.sureAddr, loadVar, Sem.run_bind, Sem.run_pure, Result.andThen_ok, hg, Bool.false_eq_true, if_false, run_load, h]
theorem run_loadAg {t : TypeId} {d : TypeDesc} {size bytes : Nat} {z : Value} (ht : TyOk P t d size bytes z) (hd : isAggD d = true) {b off : Nat} {cs : List Value} (hc : CellsAt w b off cs) (hl : cs.length = size) :
    (Instr.loadAt t (.pointer (some ⟨b, off, none⟩))).run P w = .ok (.agg cs.toArray) w := by
  obtain ⟨i, hi, _, hs, _⟩ := ht.i
  have hg : (isAgg t).run P w = .ok true w := by
    simp only [isAgg, Sem.run_bind, run_underlying ht.u, Result.andThen_ok]
    cases d <;> first | rfl | simp [isAggD] at hd
  have h1 := run_loadCells_list (P := P) w ⟨b, off, none⟩ cs hc.cell
  rw [hl] at h1
  simp only [Instr.loadAt, Instr.sureAddr, loadVar, Sem.run_bind, Sem.run_pure, Result.andThen_ok, hg, if_true, ht.size, h1]
/-- the cells behind a store -/
def splice (cells : List Value) (off : Nat) (cs : List Value) : List Value := cells.take off ++ cs ++ cells.drop (off + cs.length)
theorem run_storeAt {t : TypeId} {d : TypeDesc} {size bytes : Nat} {z : Value} (ht : TyOk P t d size bytes z) {b off : Nat} {v : Value} {T : TypeId} {cells : List Value}
    (hb : w.heap[b]? = some (.cells cells.toArray T (0, 0))) (hl : v.cells.size = size) (ho : off + size ≤ cells.length) (h1 : ∀ u ∈ v.cells.toList, u.oneCell' = true) :
    (Instr.storeAt t (.pointer (some ⟨b, off, none⟩)) v).run P w = .ok () (w.setRow b (splice cells off v.cells.toList).toArray) := by
  have h2 := run_storeCells_at P b off T v.cells.toList 0 cells.toArray w hb (by simp; omega) h1
  simp only [Nat.add_zero] at h2
  simp only [Instr.storeAt, Instr.sureAddr, storeVar, Sem.run_bind, Sem.run_pure, Result.andThen_ok, ht.size, hl, ne_eq, not_true_eq_false, if_false, h2]
  rfl
theorem Blk.set {ℓ : Nat} {O : Own} {b : Nat} {T : TypeId} {cells cells' : List Value} (h : Blk ℓ O w b T cells) : Blk ℓ O (w.setRow b cells'.toArray) b T cells' :=
  ⟨h.lab, setRow_heap w b _ _ _ _ h.blk⟩
theorem stp_setRow {ℓ : Nat} {O : Own} {b : Nat} (hl : O b = ℓ) (cs : Array Value) : Stp [ℓ] O w O (w.setRow b cs) :=
  ⟨rfl, rfl, rfl, by simp, fun _ _ _ => rfl, fun _ _ _ => rfl, fun k _ hn => setRow_other w b k cs (fun e => hn (by subst e; simp [hl]))⟩
/-- a new block and its label -/
def upd (O : Own) (b ℓ : Nat) : Own := fun k => if k = b then ℓ else O k
theorem stp_alloc {O : Own} (o : Obj) (ℓ : Nat) : Stp [] O w (upd O w.heap.size ℓ) (w.alloc o) :=
  ⟨rfl, rfl, rfl, by show _ ≤ (w.heap.push o).size; simp, fun k hk _ => by simp [upd, Nat.ne_of_lt hk], fun k hk _ => by simp [upd, Nat.ne_of_lt hk], fun k hk _ => heap_alloc_old w o hk⟩
theorem stp_drew {O : Own} : Stp [] O w O w.drew := ⟨rfl, rfl, rfl, Nat.le_refl _, fun _ _ _ => rfl, fun _ _ _ => rfl, fun _ _ _ => rfl⟩
theorem blk_alloc {O : Own} (ℓ : Nat) (T : TypeId) (cells : List Value) : Blk ℓ (upd O w.heap.size ℓ) (w.alloc (.cells cells.toArray T)) w.heap.size T cells :=
  ⟨by simp [upd], heap_alloc_new w _⟩
end
/-! ### The rules -/
section rules
variable {P : Program} {n : Nat} {ops : Array Oper} {Q : Exit → Act → World → Prop} {ρ : Env} {w : World} {rest : List Oper} {O : Own}
variable {d : Nat} {ty : TypeId} {pos : String} {aft : Array Edge}
theorem Y.nilCheck {x : Operand} {a : Addr} (hx : ev ρ x = some (.pointer (some a))) : Y P (.nilCheck x) ty ρ w (.pointer (some a)) := by
  intro A n o ha ho _; simp [execOp, ho, ha.eval hx]
theorem Y.fieldAddr {s f off : Nat} {x : Operand} {b o : Nat} (hf : FieldOk P s f off) (hx : ev ρ x = some (.pointer (some ⟨b, o, none⟩))) : Y P (.fieldAddr s x f) ty ρ w (.pointer (some ⟨b, o + off, none⟩)) := by
  intro A n o' ha ho _; simp [execOp, ho, ha.eval hx, hf b o w]
theorem Y.loadSc {t : TypeId} {td : TypeDesc} {size bytes : Nat} {z : Value} {x : Operand} {b off : Nat} {v : Value} (ht : TyOk P t td size bytes z) (hd : isAggD td = false)
    (hx : ev ρ x = some (.pointer (some ⟨b, off, none⟩))) (hc : CellsAt w b off [v]) : Y P (.load t x) ty ρ w v := by
  intro A n o ha ho _; simp [execOp, ho, ha.eval hx, run_loadSc ht hd hc]
theorem Y.loadAg {t : TypeId} {td : TypeDesc} {size bytes : Nat} {z : Value} {x : Operand} {b off : Nat} {cs : List Value} (ht : TyOk P t td size bytes z) (hd : isAggD td = true)
    (hx : ev ρ x = some (.pointer (some ⟨b, off, none⟩))) (hc : CellsAt w b off cs) (hl : cs.length = size) : Y P (.load t x) ty ρ w (.agg cs.toArray) := by
  intro A n o ha ho _; simp [execOp, ho, ha.eval hx, run_loadAg ht hd hc hl]
theorem Y.build {t : TypeId} {parts : Array (Nat × Operand)} {vals : List (Nat × Value)} {cells : List Value} (hv : ∀ a n, Fits n ρ a → (parts.map fun (i, x) => (i, a.eval x)) = vals.toArray) (hb : P.built t vals = some cells.toArray) :
    Y P (.build t parts) ty ρ w (.agg cells.toArray) := by
  intro A n o ha ho _
  have := run_build (P := P) w t vals.toArray cells.toArray hb
  simp only [execOp, ho, hv A n ha, Sem.run_bind, this, Result.andThen_ok, Sem.run_pure]
theorem Y.extract {x : Operand} {i : Nat} {vs : Array Value} {v : Value} (hx : ev ρ x = some (.tuple vs)) (hv : vs[i]? = some v) : Y P (.extract x i) ty ρ w v := by
  intro A n o ha ho _; simp [execOp, ho, ha.eval hx, Instr.extract, hv]
theorem Sl.at {α : Type} {R : Rep α} {A : Nat → Prop} {v : Value} {xs : List α} {i : Int} {x : α} (h : Sl R w A v xs) (hi : idx xs i = some x) :
    ∃ b off cap cs, v = .slice (some ⟨b, off, none⟩) xs.length cap ∧ 0 ≤ i ∧ i < xs.length ∧ CellsAt w b (off + i.toNat * R.n) cs ∧ cs.length = R.n ∧ R.ok w A cs x := by
  unfold idx at hi
  split at hi
  case isFalse => cases hi
  rename_i h0
  have hlt := (List.getElem?_eq_some_iff.1 hi).1
  rcases h with ⟨_, rfl⟩ | ⟨_, _, _, rfl⟩ | ⟨b, off, cap, cells, t, fr, e, ha, hb, hc, hs, hr⟩
  · simp at hi
  · simp at hi
  · have hg := Rows'.get i.toNat x hr hi
    have hle : (i.toNat + 1) * R.n ≤ xs.length * R.n := Nat.mul_le_mul_right _ hlt
    rw [Nat.add_mul, Nat.one_mul] at hle
    refine ⟨b, off, cap, _, e, h0, by omega, ⟨cells, t, fr, hb, ?_⟩, R.len hg, hg⟩
    rw [R.len hg, List.drop_take, List.take_take, Nat.min_eq_left (by omega), List.drop_drop]
theorem Y.indexAddr {t e : TypeId} {size bytes size' bytes' : Nat} {z z' : Value} {ed : TypeDesc} {x y : Operand} {k : IntKind} {i : Int} {v : Value} {b off len cap : Nat}
    (ht : TyOk P t (.slice e) size bytes z) (he : TyOk P e ed size' bytes' z') (hx : ev ρ x = some v) (hv : v = .slice (some ⟨b, off, none⟩) len cap) (hy : ev ρ y = some (.int k i)) (h0 : 0 ≤ i) (hl : i < len) :
    Y P (.indexAddr t x y) ty ρ w (.pointer (some ⟨b, off + i.toNat * size', none⟩)) := by
  intro A n o ha ho _
  subst hv
  simp [execOp, ho, ha.eval hx, ha.eval hy, Instr.indexAt, asIntOf, run_underlying ht.u, h0, hl, he.size, Addr_add]
theorem Y.len {t e : TypeId} {size bytes : Nat} {z : Value} {x : Operand} {v : Value} {α : Type} {R : Rep α} {A : Nat → Prop} {xs : List α}
    (ht : TyOk P t (.slice e) size bytes z) (hx : ev ρ x = some v) (h : Sl R w A v xs) : Y P (.call { callee := .builtin .len, args := #[x], argTypes := #[t] }) ty ρ w (vi (xs.length : Int)) := by
  intro a n o ha ho _
  have : ∃ q cap, v = .slice q xs.length cap := by
    rcases h with ⟨rfl, rfl⟩ | ⟨q, c, rfl, rfl⟩ | ⟨b, off, cap, cells, t, fr, e, _⟩
    · exact ⟨_, _, rfl⟩
    · exact ⟨_, _, rfl⟩
    · exact ⟨_, _, e⟩
  obtain ⟨q, cap, rfl⟩ := this
  simp [execOp, ho, resolve, invoke, builtin, ha.eval hx, Builtin.len_, run_underlying ht.u, goInt]
theorem Y.len_s {t : TypeId} {size bytes : Nat} {z : Value} {x : Operand} {xs : List UInt8}
    (ht : TyOk P t .string size bytes z) (hx : ev ρ x = some (vs xs)) : Y P (.call { callee := .builtin .len, args := #[x], argTypes := #[t] }) ty ρ w (vi (xs.length : Int)) := by
  intro a n o ha ho _
  have hx' := ha.eval hx
  have e : ByteArray.size ⟨xs.toArray⟩ = xs.length := by simp [ByteArray.size]
  simp [execOp, ho, resolve, invoke, builtin, hx', Builtin.len_, run_underlying ht.u, goInt, e]
theorem Y.index_s {t : TypeId} {size bytes : Nat} {z : Value} {x y : Operand} {k : IntKind} {i : Int} {xs : List UInt8} {c : UInt8}
    (ht : TyOk P t .string size bytes z) (hx : ev ρ x = some (vs xs)) (hy : ev ρ y = some (.int k i)) (h : idx xs i = some c) : Y P (.index t x y) ty ρ w (vb c) := by
  intro a n o ha ho _
  unfold idx at h
  split at h
  case isFalse => cases h
  rename_i h0
  have e : (⟨xs.toArray⟩ : ByteArray)[i.toNat]? = some c := by
    have hlt := (List.getElem?_eq_some_iff.1 h)
    obtain ⟨h1, h2⟩ := hlt
    have : i.toNat < ByteArray.size ⟨xs.toArray⟩ := by simpa [ByteArray.size] using h1
    rw [getElem?_pos (⟨xs.toArray⟩ : ByteArray) i.toNat this]
    exact congrArg some h2
  simp [execOp, ho, ha.eval hx, ha.eval hy, Instr.index, asIntOf, run_underlying ht.u, h0, e]
theorem Y.min_i {x y : Operand} {a b : Int} {ats : Array TypeId} (hx : ev ρ x = some (vi a)) (hy : ev ρ y = some (vi b)) : Y P (.call { callee := .builtin .min, args := #[x, y], argTypes := ats }) ty ρ w (vi (min a b)) := by
  intro A n o ha ho _
  have e : (if b < a then b else a) = min a b := by omega
  simp [execOp, ho, resolve, invoke, builtin, ha.eval hx, ha.eval hy, Builtin.min_, Builtin.min2, e]
theorem Y.max_i {x y : Operand} {a b : Int} {ats : Array TypeId} (hx : ev ρ x = some (vi a)) (hy : ev ρ y = some (vi b)) : Y P (.call { callee := .builtin .max, args := #[x, y], argTypes := ats }) ty ρ w (vi (max a b)) := by
  intro A n o ha ho _
  have e : (if a < b then b else a) = max a b := by omega
  simp [execOp, ho, resolve, invoke, builtin, ha.eval hx, ha.eval hy, Builtin.max_, Builtin.max2, e]
/-! operations that make or write memory -/
theorem WL.box {T : TypeId} {x : Operand} {v : Value} (ℓ : Nat) (cells : List Value) (hx : ev ρ x = some v) (hc : v.cells = cells.toArray) (hd : Nat.blt d n = true)
    (h : ∀ b O' w', Stp [] O w O' w' → Blk ℓ O' w' b T cells → WL P n ops Q rest ((d, .pointer (some ⟨b, 0, none⟩)) :: ρ) w') : WL P n ops Q (⟨some d, .box T x, ty, pos, aft, none⟩ :: rest) ρ w := by
  intro a ha
  refine wpList_plain rfl fun K hK => ?_
  unfold Oper.wp
  have : (Instr.box T v).run P w = .ok (.pointer (some ⟨w.heap.size, 0, none⟩)) (w.alloc (.cells cells.toArray T)) := by
    simp [Instr.box, newVar, newRow, hc]
  simp only [execOp, ha.eval hx, Sem.run_bind, this, Result.andThen_ok, Sem.run_pure]
  exact hK _ _ (h _ _ _ (stp_alloc _ ℓ) (blk_alloc ℓ T cells) _ (ha.put hd _))
theorem WL.alloc {T : TypeId} {td : TypeDesc} {size bytes : Nat} {z : Value} (ℓ : Nat) (cells : List Value) (ht : TyOk P T td size bytes z) (hc : z.cells = cells.toArray) (hd : Nat.blt d n = true)
    (h : ∀ b O' w', Stp [] O w O' w' → Blk ℓ O' w' b T cells → WL P n ops Q rest ((d, .pointer (some ⟨b, 0, none⟩)) :: ρ) w') : WL P n ops Q (⟨some d, .alloc T, ty, pos, aft, none⟩ :: rest) ρ w := by
  intro a ha
  refine wpList_plain rfl fun K hK => ?_
  unfold Oper.wp
  obtain ⟨i, hi, hz, _, _⟩ := ht.i
  have : (Instr.alloc T true (.tuple #[])).run P w = .ok (.pointer (some ⟨w.heap.size, 0, none⟩)) (w.alloc (.cells cells.toArray T)) := by
    simp [Instr.alloc, zeroValue, typeInfo, hi, hz, newVar, newRow, hc]
  simp only [execOp, Sem.run_bind, this, Result.andThen_ok, Sem.run_pure]
  exact hK _ _ (h _ _ _ (stp_alloc _ ℓ) (blk_alloc ℓ T cells) _ (ha.put hd _))
theorem WL.store {t : TypeId} {td : TypeDesc} {size bytes : Nat} {z : Value} {x y : Operand} {b off ℓ : Nat} {v : Value} {T : TypeId} {cells cells' : List Value} (ht : TyOk P t td size bytes z)
    (hx : ev ρ x = some (.pointer (some ⟨b, off, none⟩))) (hy : ev ρ y = some v) (hb : Blk ℓ O w b T cells) (hl : v.cells.size = size) (ho : off + size ≤ cells.length)
    (h1 : v.cells.toList.all (·.oneCell') = true) (hc : splice cells off v.cells.toList = cells')
    (h : ∀ w', Stp [ℓ] O w O w' → Blk ℓ O w' b T cells' → WL P n ops Q rest ρ w') : WL P n ops Q (⟨none, .store t x y, ty, pos, aft, none⟩ :: rest) ρ w := by
  intro a ha
  refine wpList_plain rfl fun K hK => ?_
  unfold Oper.wp
  have := run_storeAt (w := w) (v := v) ht hb.blk hl ho (fun u hu => List.all_eq_true.1 h1 u hu)
  simp only [execOp, ha.eval hx, ha.eval hy, Sem.run_bind, this, Result.andThen_ok, Sem.run_pure]
  rw [hc]
  exact hK _ _ (h _ (stp_setRow hb.lab _) hb.set _ ha)
end rules
end Go.Lg
