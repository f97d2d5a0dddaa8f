/- Lemmas about the given model and about plain data, which the rows stand on: no statement of the program by itself. -/
import Derived.WalkKit
import Derived.ProofKit
set_option linter.unusedVariables false
namespace Go.Lg
open Go
/-! ### The frame as an association list -/
abbrev Env := List (Nat × Value)
def lk : Env → Nat → Option Value
  | [], _ => none
  | (j, v) :: r, i => bif Nat.beq j i then some v else lk r i
def ev (ρ : Env) : Operand → Option Value
  | .tmp t => lk ρ t
  | .const v => some v
  | .global g => some (.pointer (some ⟨g, 0, none⟩))
  | .func f => some (.func (.func f) #[] #[])
structure Fits (n : Nat) (ρ : Env) (a : Act) : Prop where
  defers : a.defers = []
  size : a.tmps.size = n
  get : ∀ i v, lk ρ i = some v → a.tmps[i]? = some v
theorem Fits.eval {n : Nat} {ρ : Env} {a : Act} (h : Fits n ρ a) {x : Operand} {v : Value} (hx : ev ρ x = some v) : a.eval x = v := by
  cases x with
  | tmp t => simp only [ev] at hx; have := h.get t v hx; simp only [Act.eval, Array.getD_eq_getD_getElem?, this, Option.getD_some]
  | const u => simp only [ev, Option.some.injEq] at hx; exact hx
  | global g => simp only [ev, Option.some.injEq] at hx; exact hx
  | func g => simp only [ev, Option.some.injEq] at hx; exact hx
theorem Fits.put {n d : Nat} {ρ : Env} {a : Act} (h : Fits n ρ a) (hd : Nat.blt d n = true) (v : Value) : Fits n ((d, v) :: ρ) (a.put (some d) v) := by
  have hd' : d < n := by simpa [Nat.blt_eq] using hd
  refine ⟨h.defers, by simpa [Act.put] using h.size, fun i u hu => ?_⟩
  simp only [lk] at hu
  by_cases e : d = i
  · subst e
    simp at hu
    subst hu
    simp [Act.put, h.size, hd']
  · have : Nat.beq d i = false := Bool.eq_false_iff.2 fun h => e (Nat.eq_of_beq_eq_true h)
    rw [this] at hu
    simp only [cond_false] at hu
    have := h.get i u hu
    simp only [Act.put, Array.getElem?_setIfInBounds, if_neg e]
    exact this
/-- every entry of ρ' is one of ρ -/
inductive Sub : Env → Env → Prop
  | nil {ρ : Env} : Sub [] ρ
  | cons {i : Nat} {v : Value} {ρ' ρ : Env} (h : lk ρ i = some v) (t : Sub ρ' ρ) : Sub ((i, v) :: ρ') ρ
theorem Sub.lk {ρ' ρ : Env} (h : Sub ρ' ρ) : ∀ i v, lk ρ' i = some v → lk ρ i = some v := by
  induction h with
  | nil => intro i v h; simp [Lg.lk] at h
  | @cons j u ρ' ρ hj _ ih =>
    intro i v h
    simp only [Lg.lk] at h
    by_cases e : j = i
    · subst e; simp at h; subst h; exact hj
    · have : Nat.beq j i = false := Bool.eq_false_iff.2 fun h => e (Nat.eq_of_beq_eq_true h)
      rw [this] at h
      exact ih i v h
theorem Fits.sub {n : Nat} {ρ ρ' : Env} {a : Act} (h : Fits n ρ a) (hs : Sub ρ' ρ) : Fits n ρ' a :=
  ⟨h.defers, h.size, fun i v hv => h.get i v (hs.lk i v hv)⟩
/-! ### The judgements -/
def WL (P : Program) (n : Nat) (ops : Array Oper) (Q : Exit → Act → World → Prop) (l : List Oper) (ρ : Env) (w : World) : Prop :=
  ∀ a, Fits n ρ a → wpList P ops Q l a w
def WC (P : Program) (n : Nat) (Q : Exit → Act → World → Prop) (c : Code) (ρ : Env) (w : World) : Prop :=
  ∀ a, Fits n ρ a → c.wp P Q a w
def At (n : Nat) (Q : Exit → Act → World → Prop) (e : Exit) (ρ : Env) (w : World) : Prop :=
  ∀ a, Fits n ρ a → Q e a w
section
variable {P : Program} {n : Nat} {ops : Array Oper} {Q : Exit → Act → World → Prop} {ρ : Env} {w : World}
theorem WL.sub {l : List Oper} {ρ' : Env} (hs : Sub ρ' ρ) (h : WL P n ops Q l ρ' w) : WL P n ops Q l ρ w := fun a ha => h a (ha.sub hs)
theorem WC.sub {c : Code} {ρ' : Env} (hs : Sub ρ' ρ) (h : WC P n Q c ρ' w) : WC P n Q c ρ w := fun a ha => h a (ha.sub hs)
theorem At.sub {e : Exit} {ρ' : Env} (hs : Sub ρ' ρ) (h : At n Q e ρ' w) : At n Q e ρ w := fun a ha => h a (ha.sub hs)
theorem WC.seq {x y : Code} (h : WC P n (Exit.then (y.wp P Q) Q) x ρ w) : WC P n Q (Code.seq x y) ρ w := fun a ha => wp_seq (h a ha)
theorem WC.skip (h : At n Q .normal ρ w) : WC P n Q .skip ρ w := fun a ha => wp_skip (h a ha)
theorem WC.exit {id : Nat} (h : At n Q (.exit id) ρ w) : WC P n Q (.exit id) ρ w := fun a ha => wp_exit (h a ha)
theorem WC.ret (h : At n Q .ret ρ w) : WC P n Q .ret ρ w := fun a ha => wp_ret (h a ha)
theorem WC.block {id : Nat} {c : Code} (h : WC P n (Exit.inBlock id Q) c ρ w) : WC P n Q (.block id c) ρ w := fun a ha => wp_block (h a ha)
theorem WC.region {id : Nat} {l : List Oper} (h : WL P n l.toArray Q l ρ w) : WC P n Q (.region id l.toArray false) ρ w := fun a ha => wp_region_lit (h a ha)
theorem WC.condT {c : Operand} {x y : Code} (hc : ev ρ c = some (.bool true)) (h : WC P n Q x ρ w) : WC P n Q (.cond c x y) ρ w :=
  fun a ha => wp_cond_true (ha.eval hc) (h a ha)
theorem WC.condF {c : Operand} {x y : Code} (hc : ev ρ c = some (.bool false)) (h : WC P n Q y ρ w) : WC P n Q (.cond c x y) ρ w :=
  fun a ha => wp_cond_false (ha.eval hc) (h a ha)
theorem WC.cond {c : Operand} {x y : Code} {t : Bool} (hc : ev ρ c = some (.bool t)) (h1 : t = true → WC P n Q x ρ w) (h2 : t = false → WC P n Q y ρ w) : WC P n Q (.cond c x y) ρ w :=
  fun a ha => wp_cond_split (ha.eval hc) (fun e => h1 e a ha) (fun e => h2 e a ha)
theorem WL.nil (h : At n Q .normal ρ w) : WL P n ops Q [] ρ w := fun a ha => wpList_nil (h a ha)
theorem At.then {c : Code} (h : WC P n Q c ρ w) : At n (Exit.then (c.wp P Q) Q) .normal ρ w := fun a ha => h a ha
theorem At.thenR {K : Act → World → Prop} (h : At n Q .ret ρ w) : At n (Exit.then K Q) .ret ρ w := h
theorem At.thenX {K : Act → World → Prop} {i : Nat} (h : At n Q (.exit i) ρ w) : At n (Exit.then K Q) (.exit i) ρ w := h
theorem At.inBlock {id : Nat} (h : At n Q .normal ρ w) : At n (Exit.inBlock id Q) .normal ρ w := h
theorem At.inBlockR {id : Nat} (h : At n Q .ret ρ w) : At n (Exit.inBlock id Q) .ret ρ w := h
theorem At.inBlockHit {id : Nat} (h : At n Q .normal ρ w) : At n (Exit.inBlock id Q) (.exit id) ρ w := fun a ha => by simp only [Exit.inBlock, if_true]; exact h a ha
/-! ### Joins: what stands behind is asked once -/
def JQ (n : Nat) (Q : Exit → Act → World → Prop) {σ : Type} (I : σ → World → Prop) (env : σ → Env) : Exit → Act → World → Prop
  | .normal, a, w => ∃ s, I s w ∧ Fits n (env s) a
  | e, a, w => Q e a w
theorem WC.join {σ : Type} (I : σ → World → Prop) (env : σ → Env) {c : Code} (h : WC P n (JQ n Q I env) c ρ w) (hJ : ∀ s w', I s w' → At n Q .normal (env s) w') : WC P n Q c ρ w :=
  fun a ha => wp_mono (h a ha) fun e a' w' hq => by
    cases e with
    | normal => obtain ⟨s, hi, hf⟩ := hq; exact hJ s w' hi a' hf
    | _ => exact hq
/-- the join as a fact that is handed about: for codes with more than one way out -/
theorem At.join {σ : Type} {I : σ → World → Prop} {env : σ → Env} (s : σ) (hi : I s w) (hs : Sub (env s) ρ) : At n (JQ n Q I env) .normal ρ w := fun _ ha => ⟨s, hi, ha.sub hs⟩
theorem At.joinR {σ : Type} {I : σ → World → Prop} {env : σ → Env} (h : At n Q .ret ρ w) : At n (JQ n Q I env) .ret ρ w := h
/-! the same inside a region -/
omit w in
theorem wpList_append {Q : Exit → Act → World → Prop} {post : List Oper} : ∀ (pre : List Oper) (a : Act) (w : World),
    wpList P ops (Exit.then (wpList P ops Q post) Q) pre a w → wpList P ops Q (pre ++ post) a w
  | [], a, w, h => h
  | o :: pre, a, w, h => by
    simp only [wpList, List.cons_append] at h ⊢
    by_cases hw : Region.wanted o (yielded ops a.tmps) = true
    · simp only [hw, if_true] at h ⊢
      rcases h with h | h
      · refine .inl ?_
        unfold Oper.wp at h ⊢
        revert h
        generalize (execOp a.eval o).run P w = r
        intro h
        unfold Oper.upon at h ⊢
        split at h
        · exact wpList_append pre _ _ h
        · exact wpList_append pre _ _ h
        · exact wpList_append pre _ _ h
        · refine Calls.mono h ?_
          intro e w' h'
          cases e with
          | returned v => exact wpList_append pre _ _ h'
          | panicked c => exact h'
          | outgrown => exact h'
        · refine Rows.mono h ?_
          intro v w' h'
          exact wpList_append pre _ _ h'
        · exact h
        · exact h.elim
      · exact .inr ⟨h.1, h.2⟩
    · simp only [hw, if_false, Bool.false_eq_true] at h ⊢
      exact wpList_append pre _ _ h
theorem WL.cut {l : List Oper} (k : Nat) {σ : Type} (I : σ → World → Prop) (env : σ → Env)
    (h : WL P n ops (JQ n Q I env) (l.take k) ρ w) (hJ : ∀ s w', I s w' → WL P n ops Q (l.drop k) (env s) w') : WL P n ops Q l ρ w := by
  intro a ha
  rw [← List.take_append_drop k l]
  refine wpList_append _ _ _ ?_
  have h1 := h a ha
  have mono : ∀ (l : List Oper) (Q Q' : Exit → Act → World → Prop) (a : Act) (w : World), (∀ e a w, Q e a w → Q' e a w) → wpList P ops Q l a w → wpList P ops Q' l a w := by
    intro l Q Q'
    induction l with
    | nil => intro a w hq h; exact hq _ _ _ h
    | cons o l ih =>
      intro a w hq h
      simp only [wpList] at h ⊢
      by_cases hw : Region.wanted o (yielded ops a.tmps) = true
      · simp only [hw, if_true] at h ⊢
        rcases h with h | ⟨h1, a0, w0, h2⟩
        · refine .inl ?_
          unfold Oper.wp at h ⊢
          revert h
          generalize (execOp a.eval o).run P w = r
          intro h
          unfold Oper.upon at h ⊢
          split at h
          · exact ih _ _ hq h
          · exact ih _ _ hq h
          · exact ih _ _ hq h
          · refine Calls.mono h ?_
            intro e w' h'
            cases e with
            | returned v => exact ih _ _ hq h'
            | panicked c => exact hq _ _ _ h'
            | outgrown => obtain ⟨a0, w0, h2⟩ := h'; exact ⟨a0, w0, hq _ _ _ h2⟩
          · refine Rows.mono h ?_
            intro v w' h'
            exact ih _ _ hq h'
          · exact hq _ _ _ h
          · exact h.elim
        · exact .inr ⟨h1, a0, w0, hq _ _ _ h2⟩
      · simp only [hw, if_false, Bool.false_eq_true] at h ⊢
        exact ih _ _ hq h
  refine mono _ _ _ _ _ ?_ h1
  intro e a' w' hq
  cases e with
  | normal => obtain ⟨s, hi, hf⟩ := hq; exact hJ s w' hi a' hf
  | _ => exact hq
/-! ### Loops -/
theorem wp_loop_ex {a : Act} {c : Code} (I : Nat → Act → World → Prop) (m : Nat) (h0 : I m a w)
    (round : ∀ m a w, I m a w → c.wp P (Exit.then (fun a' w' => ∃ m', m' < m ∧ I m' a' w') Q) a w) : (Code.loop c).wp P Q a w := by
  intro b k cs
  have key : ∀ m a w, I m a w →
      ∃ e a' w', Q e a' w' ∧ Arrives P (lone (b.at a (.code c :: .inLoop c :: k)) cs w) b k cs e a' w' := by
    intro m
    induction m using Nat.strongRecOn with
    | _ m ih =>
      intro a w hI
      obtain ⟨e, a₁, w₁, hq, harr⟩ := round m a w hI b (.inLoop c :: k) cs
      cases e with
      | normal =>
        obtain ⟨m', hlt, hI₁⟩ := hq
        obtain ⟨e₂, a₂, w₂, hq₂, harr₂⟩ := ih m' hlt a₁ w₁ hI₁
        exact ⟨e₂, a₂, w₂, hq₂, .of_steps (Steps.trans harr (.one step_inLoop)) harr₂⟩
      | exit id => exact ⟨_, a₁, w₁, hq, .pass (x := .inLoop c) rfl (fun _ _ => .inl (by simp)) harr⟩
      | goto l => exact ⟨_, a₁, w₁, hq, .pass (x := .inLoop c) rfl (fun _ _ => .inl (by simp)) harr⟩
      | ret => exact ⟨_, a₁, w₁, hq, .pass (x := .inLoop c) rfl (fun _ _ => .inl (by simp)) harr⟩
      | panic ch => exact ⟨_, a₁, w₁, hq, .pass (x := .inLoop c) rfl (fun _ _ => .inl (by simp)) harr⟩
      | outgrown => exact ⟨_, a₁, w₁, hq, .pass (x := .inLoop c) rfl (fun _ _ => .inl (by simp)) harr⟩
  obtain ⟨e, a', w', hq, harr⟩ := key _ a w h0
  exact ⟨e, a', w', hq, .of_steps (.one step_loop) harr⟩
/-- behind a round: the invariant anew, at a smaller number -/
def LQ (n : Nat) (Q : Exit → Act → World → Prop) {σ : Type} (I : σ → Nat → World → Prop) (env : σ → Env) (k : Nat) : Exit → Act → World → Prop :=
  Exit.then (fun a w => ∃ k', k' < k ∧ ∃ s, I s k' w ∧ Fits n (env s) a) Q
theorem WC.loop {σ : Type} (I : σ → Nat → World → Prop) (env : σ → Env) (s : σ) (k : Nat) {c : Code} (hs : Sub (env s) ρ) (hi : I s k w)
    (h : ∀ s k w', I s k w' → WC P n (LQ n Q I env k) c (env s) w') : WC P n Q (.loop c) ρ w := by
  intro a ha
  exact wp_loop_ex (fun k a w => ∃ s, I s k w ∧ Fits n (env s) a) k ⟨s, hi, ha.sub hs⟩ fun k a w ⟨s, hi, hf⟩ => h s k w hi a hf
theorem At.round {σ : Type} {I : σ → Nat → World → Prop} {env : σ → Env} {k : Nat} (s : σ) (k' : Nat) (hk : k' < k) (hi : I s k' w) (hs : Sub (env s) ρ) :
    At n (LQ n Q I env k) .normal ρ w := fun _ ha => ⟨k', hk, s, hi, ha.sub hs⟩
theorem At.loopR {σ : Type} {I : σ → Nat → World → Prop} {env : σ → Env} {k : Nat} (h : At n Q .ret ρ w) : At n (LQ n Q I env k) .ret ρ w := h
theorem At.loopX {σ : Type} {I : σ → Nat → World → Prop} {env : σ → Env} {k i : Nat} (h : At n Q (.exit i) ρ w) : At n (LQ n Q I env k) (.exit i) ρ w := h
end
end Go.Lg
