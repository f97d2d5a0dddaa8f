/- Lemmas about the given model and about plain data, which the rows stand on: no statement of the program by itself. -/
import Derived.Test.YtdpokdaeekanjaaRkLgIo
set_option linter.unusedVariables false
namespace Go.Lg
open Go
/-! ### What a call does to memory, as its caller sees it -/
/-- what stood is as it was but for the blocks S -/
structure Mod (S : Nat → Prop) (w w' : World) : Prop where
  os : w'.os = w.os
  tape : w'.tape = w.tape
  output : w'.output = w.output
  size : w.heap.size ≤ w'.heap.size
  blk : ∀ k, k < w.heap.size → ¬ S k → w'.heap[k]? = w.heap[k]?
theorem Ext.mod {w w' : World} (h : Ext w w') : Mod (fun _ => False) w w' := ⟨h.os, h.tape, h.output, h.size, fun k hk _ => Stp.blk h k hk (by simp)⟩
section
variable {α : Type} {R : Rep α} {w w' w'' : World} {O O' : Own} {A : Nat → Prop} {v u : Value} {xs ys : List α} {e : TypeId} {L : List Nat}
/-- a row of one's own, without a label -/
def Row (R : Rep α) (e : TypeId) (w : World) (v : Value) (xs : List α) : Prop := ∃ cs, w.ownsRow 0 e R.n v xs.length cs ∧ Rows' R w (fun _ => True) cs xs
/-- one that was made since w -/
def RowF (R : Rep α) (e : TypeId) (w w' : World) (v : Value) (xs : List α) : Prop := Row R e w' v xs ∧ ∀ b, v.ownBlock = some b → w.heap.size ≤ b
/-- one that stood as v's or was made since w -/
def RowG (R : Rep α) (e : TypeId) (w w' : World) (v v' : Value) (xs : List α) : Prop := Row R e w' v' xs ∧ ∀ b, v'.ownBlock = some b → v.ownBlock = some b ∨ w.heap.size ≤ b
def OptP {β : Type} (u : Value) (r : Option β) (F : β → Prop) : Prop := match r with
  | none => u = .pointer none
  | some d => F d
theorem adopt {S : Nat → Prop} (O : Own) (g : Nat → Nat) (L : List Nat) (hm : Mod S w w') (hS : ∀ k, S k → k < w.heap.size → O k ∈ L) :
    ∃ O', (∀ k, k < w.heap.size → O' k = O k) ∧ (∀ k, w.heap.size ≤ k → O' k = g k) ∧ Stp L O w O' w' :=
  ⟨fun k => if k < w.heap.size then O k else g k, fun k hk => if_pos hk, fun k hk => if_neg (by omega),
   hm.os, hm.tape, hm.output, hm.size, fun k hk _ => if_pos hk, fun k hk _ => if_pos hk, fun k hk hn => hm.blk k hk fun hs => hn (hS k hs hk)⟩
theorem adoptE (O : Own) (g : Nat → Nat) (h : Ext w w') : ∃ O', (∀ k, k < w.heap.size → O' k = O k) ∧ (∀ k, w.heap.size ≤ k → O' k = g k) ∧ Stp [] O w O' w' :=
  adopt O g [] h.mod fun _ hk _ => hk.elim
theorem Sl.adoptF {g : Nat → Nat} {B : Nat → Prop} (h : Sl R w' B u xs) (hB : ∀ k, B k → w.heap.size ≤ k ∧ g k = 1) (hn : ∀ k, w.heap.size ≤ k → O' k = g k) : Sl R w' (frs O') u xs :=
  h.mono fun k hk _ => ⟨by unfold frs; rw [hn k (hB k hk).1]; exact (hB k hk).2, rfl⟩
theorem Rows'.adoptF {g : Nat → Nat} {B : Nat → Prop} {cs : List Value} (h : Rows' R w' B cs xs) (hB : ∀ k, B k → w.heap.size ≤ k ∧ g k = 1) (hn : ∀ k, w.heap.size ≤ k → O' k = g k) : Rows' R w' (imm O') cs xs :=
  h.mono fun k hk _ => ⟨by unfold imm; rw [hn k (hB k hk).1, (hB k hk).2]; exact Nat.le_refl _, rfl⟩
theorem Sl.adoptI {g : Nat → Nat} (h : Sl R w' (fun k => A k ∨ w.heap.size ≤ k) u xs) (hA : ∀ k, A k → imm O k) (hg : ∀ k, w.heap.size ≤ k → g k ≤ 1) (ho : ∀ k, k < w.heap.size → O' k = O k) (hn : ∀ k, w.heap.size ≤ k → O' k = g k) : Sl R w' (imm O') u xs :=
  h.mono fun k hk _ => ⟨by
    unfold imm
    rcases Nat.lt_or_ge k w.heap.size with hl | hl
    · rw [ho k hl]
      rcases hk with hk | hk
      · exact hA k hk
      · omega
    · rw [hn k hl]; exact hg k hl, rfl⟩
theorem RowF.adopt {g : Nat → Nat} (ℓ : Nat) (hf : Flat R) (h : RowF R e w w' u xs) (hn : ∀ k, w.heap.size ≤ k → O' k = g k) (hg : ∀ k, u.ownBlock = some k → g k = ℓ) : OwnSl ℓ R e O' w' u xs := by
  obtain ⟨⟨cs, h1, h2⟩, h3⟩ := h
  exact ⟨cs, h1, hf.rows h2, fun b hb => by rw [hn b (h3 b hb), hg b hb]⟩
theorem RowG.adopt {g : Nat → Nat} {ℓ : Nat} (hf : Flat R) (h0 : ∀ b, v.ownBlock = some b → O b = ℓ ∧ b < w.heap.size) (h : RowG R e w w' v u xs) (ho : ∀ k, k < w.heap.size → O' k = O k) (hn : ∀ k, w.heap.size ≤ k → O' k = g k) (hg : ∀ k, u.ownBlock = some k → g k = ℓ) : OwnSl ℓ R e O' w' u xs := by
  obtain ⟨⟨cs, h1, h2⟩, h3⟩ := h
  refine ⟨cs, h1, hf.rows h2, fun b hb => ?_⟩
  rcases Nat.lt_or_ge b w.heap.size with hl | hl
  · rw [ho b hl]
    rcases h3 b hb with h4 | h4
    · exact (h0 b h4).1
    · omega
  · rw [hn b hl, hg b hb]
theorem Blk.adopt {ℓ b : Nat} {t t' : TypeId} {cs cs' : List Value} (h : Blk ℓ O w b t cs) (ho : ∀ k, k < w.heap.size → O' k = O k) (hb : w'.heap[b]? = some (.cells (List.toArray cs') t' (0, 0))) : Blk ℓ O' w' b t' cs' :=
  ⟨(ho b (blk_lt h.blk)).trans h.lab, hb⟩
theorem Blk.new {g : Nat → Nat} {ℓ b : Nat} {t : TypeId} {cs : List Value} (hb : w'.heap[b]? = some (.cells (List.toArray cs) t (0, 0)) ∧ w.heap.size ≤ b) (hn : ∀ k, w.heap.size ≤ k → O' k = g k) (hg : g b = ℓ) : Blk ℓ O' w' b t cs :=
  ⟨(hn b hb.2).trans hg, hb.1⟩
theorem OwnSl.row {ℓ : Nat} (h : OwnSl ℓ R e O w v xs) : Row R e w v xs := by
  obtain ⟨cs, h1, h2, h3⟩ := h
  exact ⟨cs, h1, Rows'.mono (fun _ _ _ => ⟨trivial, rfl⟩) h2⟩
theorem OwnSl.labs {ℓ : Nat} (h : OwnSl ℓ R e O w v xs) : ∀ b, v.ownBlock = some b → O b = ℓ ∧ b < w.heap.size := by
  obtain ⟨cs, h1, h2, h3⟩ := h
  exact fun b hb => ⟨h3 b hb, (h1.lt b hb).2⟩
/-- read by whoever writes none of L -/
def out (L : List Nat) (O : Own) : Nat → Prop := fun k => L.contains (O k) = false
theorem Sl.notin (h : Sl R w (imm O) v xs) (h0 : L.contains 0 = false) (h1 : L.contains 1 = false) : Sl R w (out L O) v xs :=
  h.mono fun k hk _ => ⟨by
    have : O k = 0 ∨ O k = 1 := by unfold imm at hk; omega
    unfold out; rcases this with e | e <;> rw [e] <;> assumption, rfl⟩
theorem OwnSl.notin {ℓ : Nat} (hf : Flat R) (h : OwnSl ℓ R e O w v xs) (hl : L.contains ℓ = false) : Sl R w (out L O) v xs := by
  obtain ⟨cs, ⟨hl2, ho⟩, hr, hb⟩ := h
  rcases ho with ⟨rfl, hn⟩ | ⟨g, cap, cur, rfl, hbg, hg, hc, hm, hz, ht⟩
  · exact .inl ⟨rfl, List.eq_nil_of_length_eq_zero hn⟩
  · refine .inr <| .inr ⟨g, 0, cap, cur, e, (0, 0), rfl, by unfold out; rw [hb g rfl]; exact hl, hg, hc, ?_, ?_⟩
    · rw [hz, Nat.zero_add]; exact Nat.mul_le_mul_right _ hc
    · rw [List.drop_zero, ht]; exact hf.rows hr
theorem out_ne {b ℓ : Nat} (hl : O b = ℓ) (h : L.contains ℓ = true) : ∀ k, out L O k → k ≠ b := by
  intro k hk e; subst e; unfold out at hk; rw [hl, h] at hk; cases hk
theorem out_neV {ℓ : Nat} (hv : ∀ b, v.ownBlock = some b → O b = ℓ ∧ b < w.heap.size) (h : L.contains ℓ = true) : ∀ k, out L O k → v.ownBlock ≠ some k := by
  intro k hk e; unfold out at hk; rw [(hv k e).1, h] at hk; cases hk
/-- the label of what a pointer that may be nil leads to -/
def labP (u : Value) (ℓ : Nat) : Nat → Nat := fun k => match u with
  | .pointer (some a) => if a.block = k then ℓ else 1
  | _ => 1
theorem labP_at (b ℓ : Nat) : labP (.pointer (some ⟨b, 0, none⟩)) ℓ b = ℓ := by simp [labP]
theorem labP_ne {b ℓ k : Nat} (h : k ≠ b) : labP (.pointer (some ⟨b, 0, none⟩)) ℓ k = 1 := by
  have : ¬ b = k := fun e => h e.symm
  simp [labP, this]
theorem OptP.some {β : Type} {u : Value} {r : Option β} {F : β → Prop} {d : β} (h : OptP u r F) (hd : r = .some d) : F d := by subst hd; exact h
theorem OptP.isPtr {β : Type} {u : Value} {r : Option β} {F : β → Prop} (h : OptP u r F) (hF : ∀ d, F d → ∃ a, u = .pointer (.some a)) : ∃ q : Option Addr, u = .pointer q ∧ q.isSome = r.isSome := by
  cases r with
  | none => exact ⟨none, h, rfl⟩
  | some d => obtain ⟨a, e⟩ := hF d h; exact ⟨_, e, rfl⟩
/-! ### The start of a function -/
open Classical in
/-- what came in to be read: 0; all else that stood: 2 -/
noncomputable def O0 (A : Nat → Prop) : Own := fun k => if A k then 0 else 2
theorem Sl.start (h : Sl R w A v xs) : Sl R w (imm (O0 A)) v xs := h.mono fun k hk _ => ⟨by unfold imm O0; rw [if_pos hk]; exact Nat.zero_le _, rfl⟩
/-- an object that came in to be written -/
def OB (b ℓ : Nat) (O : Own) : Own := fun k => if k = b then ℓ else O k
def OV (v : Value) (ℓ : Nat) (O : Own) : Own := fun k => if v.ownBlock = some k then ℓ else O k
theorem Sl.OB {b ℓ : Nat} (h : Sl R w (imm O) v xs) (hA : ∀ k, O k ≤ 1 → k ≠ b) : Sl R w (imm (OB b ℓ O)) v xs :=
  h.mono fun k hk _ => ⟨by unfold imm Lg.OB; rw [if_neg (hA k hk)]; exact hk, rfl⟩
theorem Sl.OV {ℓ : Nat} {v' : Value} (h : Sl R w (imm O) v xs) (hA : ∀ k, O k ≤ 1 → v'.ownBlock ≠ some k) : Sl R w (imm (OV v' ℓ O)) v xs :=
  h.mono fun k hk _ => ⟨by unfold imm Lg.OV; rw [if_neg (hA k hk)]; exact hk, rfl⟩
theorem Row.start {ℓ : Nat} (hf : Flat R) (h : Row R e w v xs) (hO : ∀ k, v.ownBlock = some k → O k = ℓ) : OwnSl ℓ R e O w v xs := by
  obtain ⟨cs, h1, h2⟩ := h
  exact ⟨cs, h1, hf.rows h2, hO⟩
/-! ### Its end -/
theorem Stp.ext (h : Stp L (O0 A) w O' w') (h0 : L.contains 0 = false) (h2 : L.contains 2 = false) : Ext w w' := by
  refine ⟨h.os, h.tape, h.output, h.size, fun _ _ _ => rfl, fun _ _ _ => rfl, fun k hk _ => h.blk k hk ?_⟩
  unfold O0
  split
  · simpa using h0
  · simpa using h2
/-- labels of what stood and is not written -/
theorem Stp.modL (h : Stp L O w O' w') {S : Nat → Prop} (hS : ∀ k, ¬ S k → O k = 0 ∨ O k = 2) (h0 : L.contains 0 = false) (h2 : L.contains 2 = false) : Mod S w w' := by
  refine ⟨h.os, h.tape, h.output, h.size, fun k hk hn => h.blk k hk ?_⟩
  rcases hS k hn with e | e <;> rw [e]
  · simpa using h0
  · simpa using h2
/-- the labels at the start: none of those of what was made since -/
def Low (O : Own) : Prop := ∀ k, O k ≤ 9 ∧ O k ≠ 1
theorem low0 : Low (O0 A) := fun k => by unfold O0; split <;> omega
theorem lowB {b ℓ : Nat} (h : Low O) (hl : Nat.ble ℓ 9 = true) (h1 : Nat.beq ℓ 1 = false) : Low (OB b ℓ O) := fun k => by
  have hl' : ℓ ≤ 9 := by simpa using hl
  have h1' : ℓ ≠ 1 := fun e => by subst e; simp at h1
  unfold OB
  split
  · exact ⟨hl', h1'⟩
  · exact h k
theorem lowV {v' : Value} {ℓ : Nat} (h : Low O) (hl : Nat.ble ℓ 9 = true) (h1 : Nat.beq ℓ 1 = false) : Low (OV v' ℓ O) := fun k => by
  have hl' : ℓ ≤ 9 := by simpa using hl
  have h1' : ℓ ≠ 1 := fun e => by subst e; simp at h1
  unfold OV
  split
  · exact ⟨hl', h1'⟩
  · exact h k
/-- what may be written and what not -/
theorem sB1 {b ℓ : Nat} : ∀ k, ¬ (k = b) → OB b ℓ (O0 A) k = 0 ∨ OB b ℓ (O0 A) k = 2 := fun k h => by
  unfold OB O0; rw [if_neg h]; split <;> simp
theorem sV1 {v' : Value} {ℓ : Nat} : ∀ k, ¬ (v'.ownBlock = some k) → OV v' ℓ (O0 A) k = 0 ∨ OV v' ℓ (O0 A) k = 2 := fun k h => by
  unfold OV O0; rw [if_neg h]; split <;> simp
theorem sB {S : Nat → Prop} {b ℓ : Nat} (h : ∀ k, ¬ S k → O k = 0 ∨ O k = 2) : ∀ k, ¬ (k = b ∨ S k) → OB b ℓ O k = 0 ∨ OB b ℓ O k = 2 := fun k hk => by
  unfold OB; rw [if_neg (fun e => hk (.inl e))]; exact h k (fun e => hk (.inr e))
theorem sV {S : Nat → Prop} {v' : Value} {ℓ : Nat} (h : ∀ k, ¬ S k → O k = 0 ∨ O k = 2) : ∀ k, ¬ (v'.ownBlock = some k ∨ S k) → OV v' ℓ O k = 0 ∨ OV v' ℓ O k = 2 := fun k hk => by
  unfold OV; rw [if_neg (fun e => hk (.inl e))]; exact h k (fun e => hk (.inr e))
theorem aB {b ℓ : Nat} (h : ∀ k, O k ≤ 1 → A k) (hl : Nat.ble 2 ℓ = true) : ∀ k, OB b ℓ O k ≤ 1 → A k := fun k hk => by
  have hl' : 2 ≤ ℓ := by simpa using hl
  unfold OB at hk
  split at hk
  · omega
  · exact h k hk
theorem aV {v' : Value} {ℓ : Nat} (h : ∀ k, O k ≤ 1 → A k) (hl : Nat.ble 2 ℓ = true) : ∀ k, OV v' ℓ O k ≤ 1 → A k := fun k hk => by
  have hl' : 2 ≤ ℓ := by simpa using hl
  unfold OV at hk
  split at hk
  · omega
  · exact h k hk
theorem fresh_of {k : Nat} (hs : Stp L O w O' w') (hO : Low O) (hk : O' k = 1 ∨ 10 ≤ O' k) : w.heap.size ≤ k := by
  rcases Nat.lt_or_ge k w.heap.size with hl | hl
  · exfalso
    have := hO k
    rw [hs.low k hl this.1] at hk
    omega
  · exact hl
theorem Sl.outF (h : Sl R w' (frs O') u xs) (hs : Stp L O w O' w') (hO : Low O) : Sl R w' (fun k => w.heap.size ≤ k) u xs :=
  h.mono fun k hk _ => ⟨fresh_of hs hO (.inl hk), rfl⟩
theorem Sl.outFN {b ℓ : Nat} (h : Sl R w' (frs O') u xs) (hs : Stp L O w O' w') (hO : Low O) (hb : O' b = ℓ) (hl : Nat.beq ℓ 1 = false) : Sl R w' (fun k => w.heap.size ≤ k ∧ k ≠ b) u xs :=
  h.mono fun k hk _ => ⟨⟨fresh_of hs hO (.inl hk), fun e => by subst e; unfold frs at hk; rw [hb] at hk; subst hk; simp at hl⟩, rfl⟩
theorem Sl.outI (h : Sl R w' (imm O') u xs) (hs : Stp L O w O' w') (hO : Low O) (hA : ∀ k, O k ≤ 1 → A k) : Sl R w' (fun k => A k ∨ w.heap.size ≤ k) u xs :=
  h.mono fun k hk _ => ⟨by
    rcases Nat.lt_or_ge k w.heap.size with hl | hl
    · unfold imm at hk
      rw [hs.low k hl (hO k).1] at hk
      exact .inl (hA k hk)
    · exact .inr hl, rfl⟩
theorem Rows'.outF {cs : List Value} (h : Rows' R w' (frs O') cs xs) (hs : Stp L O w O' w') (hO : Low O) : Rows' R w' (fun k => w.heap.size ≤ k) cs xs :=
  h.mono fun k hk _ => ⟨fresh_of hs hO (.inl hk), rfl⟩
theorem Rows'.outI {cs : List Value} (h : Rows' R w' (imm O') cs xs) (hs : Stp L O w O' w') (hO : Low O) (hA : ∀ k, O k ≤ 1 → A k) : Rows' R w' (fun k => A k ∨ w.heap.size ≤ k) cs xs :=
  h.mono fun k hk _ => ⟨by
    rcases Nat.lt_or_ge k w.heap.size with hl | hl
    · unfold imm at hk
      rw [hs.low k hl (hO k).1] at hk
      exact .inl (hA k hk)
    · exact .inr hl, rfl⟩
theorem OwnSl.outF {ℓ : Nat} (h : OwnSl ℓ R e O' w' u xs) (hs : Stp L O w O' w') (hO : Low O) (hl : Nat.ble 10 ℓ = true) : RowF R e w w' u xs :=
  ⟨h.row, fun b hb => fresh_of hs hO (.inr (by rw [(h.labs b hb).1]; simpa using hl))⟩
theorem RowF.nil : RowF R e w w' (.slice none 0 0) [] := ⟨⟨[], World.ownsRow_nil w' 0 e R.n, rfl⟩, fun b h => by simp [Value.ownBlock] at h⟩
theorem OwnSl.outG {ℓ : Nat} (h : OwnSl ℓ R e O' w' u xs) (hs : Stp L O w O' w') (hO : Low O) (hv : ∀ k, O k = ℓ → v.ownBlock = some k) : RowG R e w w' v u xs :=
  ⟨h.row, fun b hb => by
    rcases Nat.lt_or_ge b w.heap.size with hlt | hlt
    · left
      refine hv b ?_
      have := (h.labs b hb).1
      rwa [hs.low b hlt (hO b).1] at this
    · exact .inr hlt⟩
theorem Blk.outF {ℓ b : Nat} {t : TypeId} {cs : List Value} (h : Blk ℓ O' w' b t cs) (hs : Stp L O w O' w') (hO : Low O) (hl : Nat.ble 10 ℓ = true) : w'.heap[b]? = some (.cells (List.toArray cs) t (0, 0)) ∧ w.heap.size ≤ b :=
  ⟨h.blk, fresh_of hs hO (.inr (by rw [h.lab]; simpa using hl))⟩
theorem ne_lab {ℓ ℓ' b : Nat} (h : OwnSl ℓ R e O w v xs) (hb : O b = ℓ') (hne : Nat.beq ℓ ℓ' = false) : v.ownBlock ≠ some b := fun e => by
  have := (h.labs b e).1
  rw [hb] at this; subst this; simp at hne
theorem ne_blk {ℓ ℓ' b b' : Nat} (hb : O b = ℓ) (hb' : O b' = ℓ') (hne : Nat.beq ℓ ℓ' = false) : b ≠ b' := fun e => by
  subst e; rw [hb] at hb'; subst hb'; simp at hne
theorem ne_own {β : Type} {R' : Rep β} {ys : List β} {e' : TypeId} {ℓ ℓ' : Nat} (h : OwnSl ℓ R e O w v xs) (h' : OwnSl ℓ' R' e' O w u ys) (hne : Nat.beq ℓ ℓ' = false) : ∀ k, v.ownBlock = some k → u.ownBlock ≠ some k := fun k e e' => by
  have h1 := (h.labs k e).1
  have h2 := (h'.labs k e').1
  rw [h1] at h2; subst h2; simp at hne
theorem O0_A : ∀ k, O0 A k ≤ 1 → A k := by
  intro k h
  unfold O0 at h
  split at h
  · assumption
  · omega
end
section
variable {P : Program} {n : Nat} {ρ : Env} {w : World} {d : Nat} {ty : TypeId} {t t' e : TypeId} {x y : Operand}
theorem run_equalIn_ptr (k : Nat) {p q : Option Addr} (hu : P.underlying t = some (.pointer e)) (h : p = none ∨ q = none) : (Op.equalIn (k + 1) t (.pointer p) (.pointer q)).run P w = .ok (p.isNone && q.isNone) w := by
  rcases h with rfl | rfl
  · cases q <;> simp [Op.equalIn, run_underlying hu]
  · cases p <;> simp [Op.equalIn, run_underlying hu]
theorem Y.ptreq {p q : Option Addr} {v v' : Value} (hu : P.underlying t = some (.pointer e)) (hx : ev ρ x = some v) (hy : ev ρ y = some v') (hv : v = .pointer p) (hv' : v' = .pointer q) (h : p = none ∨ q = none) :
    Y P (.binOp .eql t x y t') ty ρ w (.bool (p.isNone && q.isNone)) ∧ Y P (.binOp .neq t x y t') ty ρ w (.bool (!(p.isNone && q.isNone))) := by
  subst hv; subst hv'
  have he : (Op.equal t (.pointer p) (.pointer q)).run P w = .ok (p.isNone && q.isNone) w := run_equalIn_ptr 9999 hu h
  constructor
  · intro a n o ha ho _
    simp only [execOp, ho, ha.eval hx, ha.eval hy]
    simp [eqGuard, binOp, he]
  · intro a n o ha ho _
    simp only [execOp, ho, ha.eval hx, ha.eval hy]
    simp [eqGuard, binOp, he]
theorem Y.eql_nil {r : Bool} {p q : Option Addr} (hu : P.underlying t = some (.pointer e)) (hx : ev ρ x = some (.pointer p)) (hy : ev ρ y = some (.pointer q)) (hr : (p.isNone && q.isNone) = r) (h : p = none ∨ q = none := by simp) : Y P (.binOp .eql t x y t') ty ρ w (.bool r) :=
  hr ▸ (Y.ptreq hu hx hy rfl rfl h).1
theorem Y.eql_opt {β : Type} {u : Value} {r : Option β} {F : β → Prop} (hu : P.underlying t = some (.pointer e)) (hx : ev ρ x = some u) (hy : ev ρ y = some (.pointer none)) (h : OptP u r F) (hF : ∀ d, F d → ∃ a, u = .pointer (.some a)) : Y P (.binOp .eql t x y t') ty ρ w (.bool r.isNone) := by
  obtain ⟨q, e, hq⟩ := h.isPtr hF
  have := (Y.ptreq (P := P) (w := w) (ty := ty) (t' := t') hu hx hy e rfl (.inr rfl)).1
  have e2 : (q.isNone && (none : Option Addr).isNone) = r.isNone := by cases q <;> cases r <;> simp_all
  rwa [e2] at this
end
end Go.Lg
