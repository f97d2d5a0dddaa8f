/- Lemmas about the given model and about plain data, which the rows stand on: no statement of the program by itself. -/
import Derived.Test.YtdpokdaeekanjaaRkLgOps
import Derived.Laws.Build
import Derived.Laws.Tables
import Derived.Laws.AppendOwn
import Derived.Laws.AppendOwnNone
set_option linter.unusedVariables false
namespace Go.Lg
open Go
/-! ### Owners: each block has a label. 0: what came in and is not written; 1: made here and not written any more; others: objects -/
abbrev Own := Nat → Nat
structure Stp (L : List Nat) (O : Own) (w : World) (O' : Own) (w' : World) : Prop where
  os : w'.os = w.os
  tape : w'.tape = w.tape
  output : w'.output = w.output
  size : w.heap.size ≤ w'.heap.size
  lab : ∀ k, k < w.heap.size → O k ∉ L → O' k = O k
  low : ∀ k, k < w.heap.size → O k ≤ 9 → O' k = O k
  blk : ∀ k, k < w.heap.size → O k ∉ L → w'.heap[k]? = w.heap[k]?
theorem Stp.refl (L : List Nat) (O : Own) (w : World) : Stp L O w O w := ⟨rfl, rfl, rfl, Nat.le_refl _, fun _ _ _ => rfl, fun _ _ _ => rfl, fun _ _ _ => rfl⟩
theorem Stp.trans {L : List Nat} {O O' O'' : Own} {w w' w'' : World} (h : Stp L O w O' w') (k : Stp L O' w' O'' w'') : Stp L O w O'' w'' :=
  ⟨k.os.trans h.os, k.tape.trans h.tape, k.output.trans h.output, Nat.le_trans h.size k.size,
   fun i hi hl => by have e := h.lab i hi hl; rw [k.lab i (Nat.lt_of_lt_of_le hi h.size) (by rw [e]; exact hl), e],
   fun i hi hl => by have e := h.low i hi hl; rw [k.low i (Nat.lt_of_lt_of_le hi h.size) (by rw [e]; exact hl), e],
   fun i hi hl => by have e := h.lab i hi hl; rw [k.blk i (Nat.lt_of_lt_of_le hi h.size) (by rw [e]; exact hl), h.blk i hi hl]⟩
theorem Stp.mono {L L' : List Nat} {O O' : Own} {w w' : World} (h : Stp L O w O' w') (hs : ∀ x ∈ L, x ∈ L') : Stp L' O w O' w' :=
  ⟨h.os, h.tape, h.output, h.size, fun k hk hl => h.lab k hk (fun hm => hl (hs _ hm)), h.low, fun k hk hl => h.blk k hk (fun hm => hl (hs _ hm))⟩
/-- L ⊆ L', as a Bool -/
def sublist (L L' : List Nat) : Bool := L.all (L'.contains ·)
theorem Stp.up {L L' : List Nat} {O O' : Own} {w w' : World} (h : Stp L O w O' w') (hs : sublist L L' = true) : Stp L' O w O' w' :=
  h.mono fun x hx => by have := List.all_eq_true.1 hs x hx; simpa using this
theorem Stp.step {L L1 L2 : List Nat} {O O' O'' : Own} {w w' w'' : World} (h : Stp L1 O w O' w') (k : Stp L2 O' w' O'' w'') (h1 : sublist L1 L = true) (h2 : sublist L2 L = true) : Stp L O w O'' w'' :=
  (h.up h1).trans (k.up h2)
/-- new blocks alone -/
def Ext (w w' : World) : Prop := Stp [] (fun _ => 0) w (fun _ => 0) w'
theorem Ext.refl (w : World) : Ext w w := Stp.refl _ _ _
theorem Ext.trans {w w' w'' : World} (h : Ext w w') (k : Ext w' w'') : Ext w w'' := Stp.trans h k
theorem Ext.blk {w w' : World} (h : Ext w w') {k : Nat} {o : Obj} (hk : w.heap[k]? = some o) : w'.heap[k]? = some o := by
  rw [Stp.blk h k (Array.getElem?_eq_some_iff.1 hk).1 (by simp)]; exact hk
theorem blk_lt {w : World} {k : Nat} {o : Obj} (h : w.heap[k]? = some o) : k < w.heap.size := (Array.getElem?_eq_some_iff.1 h).1
/-- a block of one's own, its cells written out -/
structure Blk (ℓ : Nat) (O : Own) (w : World) (b : Nat) (t : TypeId) (cells : List Value) : Prop where
  lab : O b = ℓ
  blk : w.heap[b]? = some (.cells cells.toArray t (0, 0))
theorem Blk.st {ℓ : Nat} {O O' : Own} {w w' : World} {b : Nat} {t : TypeId} {cells : List Value} {L : List Nat} (h : Blk ℓ O w b t cells) (hs : Stp L O w O' w') (hl : L.contains ℓ = false) : Blk ℓ O' w' b t cells := by
  have hlt := blk_lt h.blk
  have hn : O b ∉ L := by rw [h.lab]; simpa using hl
  exact ⟨(hs.lab b hlt hn).trans h.lab, (hs.blk b hlt hn).trans h.blk⟩
/-! ### Representations: how a value's cells read as data; A: the blocks that it may read -/
structure Rep (α : Type) where
  n : Nat
  ok : World → (Nat → Prop) → List Value → α → Prop
  len : ∀ {w A cs d}, ok w A cs d → cs.length = n
  one : ∀ {w A cs d}, ok w A cs d → ∀ v ∈ cs, v.oneCell' = true
  mono : ∀ {w w' A A' cs d}, ok w A cs d → (∀ k, A k → k < w.heap.size → A' k ∧ w'.heap[k]? = w.heap[k]?) → ok w' A' cs d
def Rep.i : Rep Int := ⟨1, fun _ _ cs d => cs = [vi d], fun h => by rw [h]; rfl, fun h v hv => by rw [h] at hv; simp at hv; subst hv; rfl, fun h _ => h⟩
def Rep.u : Rep UInt64 := ⟨1, fun _ _ cs d => cs = [vu d], fun h => by rw [h]; rfl, fun h v hv => by rw [h] at hv; simp at hv; subst hv; rfl, fun h _ => h⟩
def Rep.b : Rep UInt8 := ⟨1, fun _ _ cs d => cs = [vb d], fun h => by rw [h]; rfl, fun h v hv => by rw [h] at hv; simp at hv; subst hv; rfl, fun h _ => h⟩
def Rep.B : Rep Bool := ⟨1, fun _ _ cs d => cs = [.bool d], fun h => by rw [h]; rfl, fun h v hv => by rw [h] at hv; simp at hv; subst hv; rfl, fun h _ => h⟩
def Rep.s : Rep (List UInt8) := ⟨1, fun _ _ cs d => cs = [vs d], fun h => by rw [h]; rfl, fun h v hv => by rw [h] at hv; simp at hv; subst hv; rfl, fun h _ => h⟩
def Rep.pair {α β : Type} (R : Rep α) (S : Rep β) : Rep (α × β) :=
  ⟨R.n + S.n, fun w A cs d => ∃ c1 c2, cs = c1 ++ c2 ∧ R.ok w A c1 d.1 ∧ S.ok w A c2 d.2,
   fun ⟨c1, c2, e, h1, h2⟩ => by rw [e, List.length_append, R.len h1, S.len h2],
   fun ⟨c1, c2, e, h1, h2⟩ v hv => by rw [e] at hv; exact (List.mem_append.1 hv).elim (R.one h1 v) (S.one h2 v),
   fun ⟨c1, c2, e, h1, h2⟩ hm => ⟨c1, c2, e, R.mono h1 hm, S.mono h2 hm⟩⟩
/-- by another type: a structure by its parts -/
def Rep.via {α β : Type} (R : Rep α) (f : β → α) : Rep β := ⟨R.n, fun w A cs d => R.ok w A cs (f d), R.len, R.one, R.mono⟩
/-- the cells of a row of elements -/
def Rows' {α : Type} (R : Rep α) (w : World) (A : Nat → Prop) : List Value → List α → Prop
  | cs, [] => cs = []
  | cs, x :: xs => ∃ c1 c2, cs = c1 ++ c2 ∧ R.ok w A c1 x ∧ Rows' R w A c2 xs
section
variable {α : Type} {R : Rep α}
theorem Rows'.len {w : World} {A : Nat → Prop} : ∀ {xs : List α} {cs : List Value}, Rows' R w A cs xs → cs.length = xs.length * R.n
  | [], cs, h => by rw [show cs = [] from h]; simp
  | x :: xs, cs, ⟨c1, c2, e, h1, h2⟩ => by rw [e, List.length_append, R.len h1, Rows'.len h2, List.length_cons, Nat.add_mul]; omega
theorem Rows'.one {w : World} {A : Nat → Prop} : ∀ {xs : List α} {cs : List Value}, Rows' R w A cs xs → ∀ v ∈ cs, v.oneCell' = true
  | [], cs, h, v, hv => by rw [show cs = [] from h] at hv; simp at hv
  | x :: xs, cs, ⟨c1, c2, e, h1, h2⟩, v, hv => by rw [e] at hv; exact (List.mem_append.1 hv).elim (R.one h1 v) (Rows'.one h2 v)
theorem Rows'.mono {w w' : World} {A A' : Nat → Prop} (hm : ∀ k, A k → k < w.heap.size → A' k ∧ w'.heap[k]? = w.heap[k]?) : ∀ {xs : List α} {cs : List Value}, Rows' R w A cs xs → Rows' R w' A' cs xs
  | [], cs, h => h
  | x :: xs, cs, ⟨c1, c2, e, h1, h2⟩ => ⟨c1, c2, e, R.mono h1 hm, Rows'.mono hm h2⟩
theorem Rows'.append {w : World} {A : Nat → Prop} {ys : List α} {ds : List Value} (k : Rows' R w A ds ys) : ∀ {xs : List α} {cs : List Value}, Rows' R w A cs xs → Rows' R w A (cs ++ ds) (xs ++ ys)
  | [], cs, h => by rw [show cs = [] from h]; exact k
  | x :: xs, cs, ⟨c1, c2, e, h1, h2⟩ => ⟨c1, c2 ++ ds, by rw [e, List.append_assoc], h1, Rows'.append k h2⟩
theorem Rows'.get {w : World} {A : Nat → Prop} : ∀ {xs : List α} {cs : List Value} (i : Nat) (x : α), Rows' R w A cs xs → xs[i]? = some x → R.ok w A ((cs.drop (i * R.n)).take R.n) x
  | [], cs, i, x, h, hx => by simp at hx
  | y :: xs, cs, 0, x, ⟨c1, c2, e, h1, h2⟩, hx => by
    simp at hx; subst hx
    have := R.len h1
    rw [e, Nat.zero_mul, List.drop_zero, ← this, List.take_left]; exact h1
  | y :: xs, cs, i + 1, x, ⟨c1, c2, e, h1, h2⟩, hx => by
    have := R.len h1
    have h3 := Rows'.get i x h2 (by simpa using hx)
    rw [e, show (i + 1) * R.n = c1.length + i * R.n by rw [Nat.add_mul, this]; omega, List.drop_append]
    simpa [List.drop_eq_nil_of_le] using h3
theorem Rows'.drop {w : World} {A : Nat → Prop} : ∀ (k : Nat) {xs : List α} {cs : List Value}, Rows' R w A cs xs → Rows' R w A (cs.drop (k * R.n)) (xs.drop k)
  | 0, xs, cs, h => by simpa using h
  | k + 1, [], cs, h => by rw [show cs = [] from h]; simp [Rows']
  | k + 1, x :: xs, cs, ⟨c1, c2, e, h1, h2⟩ => by
    have := R.len h1
    rw [e, show (k + 1) * R.n = c1.length + k * R.n by rw [Nat.add_mul, this]; omega, List.drop_append]
    simpa [List.drop_eq_nil_of_le] using Rows'.drop k h2
theorem Rows'.take {w : World} {A : Nat → Prop} : ∀ (k : Nat) {xs : List α} {cs : List Value}, Rows' R w A cs xs → Rows' R w A (cs.take (k * R.n)) (xs.take k)
  | 0, xs, cs, h => by simp [Rows']
  | k + 1, [], cs, h => by rw [show cs = [] from h]; simp [Rows']
  | k + 1, x :: xs, cs, ⟨c1, c2, e, h1, h2⟩ => by
    have := R.len h1
    rw [e, show (k + 1) * R.n = c1.length + k * R.n by rw [Nat.add_mul, this]; omega, List.take_append]
    refine ⟨c1, c2.take (k * R.n), ?_, h1, Rows'.take k h2⟩
    rw [List.take_of_length_le (by omega)]; simp
theorem Rows'.set {w : World} {A : Nat → Prop} {c : List Value} {y : α} (hc : R.ok w A c y) : ∀ {xs : List α} {cs : List Value} (i : Nat), Rows' R w A cs xs → i < xs.length →
    Rows' R w A (cs.take (i * R.n) ++ c ++ cs.drop ((i + 1) * R.n)) (xs.set i y)
  | [], cs, i, h, hi => by simp at hi
  | x :: xs, cs, 0, ⟨c1, c2, e, h1, h2⟩, hi => by
    have := R.len h1
    rw [e]; simp only [Nat.zero_mul, List.take_zero, List.nil_append, List.set_cons_zero, Nat.zero_add, Nat.one_mul]
    rw [← this, List.drop_left]
    exact ⟨c, c2, rfl, hc, h2⟩
  | x :: xs, cs, i + 1, ⟨c1, c2, e, h1, h2⟩, hi => by
    have := R.len h1
    have ih := Rows'.set hc i h2 (by simpa using hi)
    rw [e, show (i + 1) * R.n = c1.length + i * R.n by rw [Nat.add_mul, this]; omega, show (i + 1 + 1) * R.n = c1.length + (i + 1) * R.n by rw [Nat.add_mul (i + 1), this]; omega,
      List.take_append, List.drop_append]
    simp only [List.set_cons_succ]
    refine ⟨c1, _, ?_, h1, ih⟩
    rw [List.take_of_length_le (by omega), List.drop_eq_nil_of_le (by omega)]
    simp [List.append_assoc]
end
/-- a slice that reads as a list -/
def Sl {α : Type} (R : Rep α) (w : World) (A : Nat → Prop) (v : Value) (xs : List α) : Prop :=
  (v = .slice none 0 0 ∧ xs = []) ∨ (∃ q c, v = .slice (some q) 0 c ∧ xs = []) ∨
  ∃ b off cap cells t fr, v = .slice (some ⟨b, off, none⟩) xs.length cap ∧ A b ∧ w.heap[b]? = some (.cells cells t fr) ∧ xs.length ≤ cap ∧
    (off + xs.length * R.n ≤ cells.size) ∧ Rows' R w A ((cells.toList.drop off).take (xs.length * R.n)) xs
theorem Sl.mono {α : Type} {R : Rep α} {w w' : World} {A A' : Nat → Prop} {v : Value} {xs : List α} (h : Sl R w A v xs) (hm : ∀ k, A k → k < w.heap.size → A' k ∧ w'.heap[k]? = w.heap[k]?) : Sl R w' A' v xs := by
  rcases h with h | h | ⟨b, off, cap, cells, t, fr, e, ha, hb, hc, hs, hr⟩
  · exact .inl h
  · exact .inr (.inl h)
  · obtain ⟨h1, h2⟩ := hm b ha (blk_lt hb)
    exact .inr <| .inr ⟨b, off, cap, cells, t, fr, e, h1, h2.trans hb, hc, hs, Rows'.mono hm hr⟩
def Rep.sl {α : Type} (R : Rep α) : Rep (List α) :=
  ⟨1, fun w A cs d => ∃ v, cs = [v] ∧ Sl R w A v d, fun ⟨v, e, _⟩ => by rw [e]; rfl,
   fun ⟨v, e, h⟩ u hu => by rw [e] at hu; simp at hu; subst hu; rcases h with ⟨rfl, _⟩ | ⟨q, c, rfl, _⟩ | ⟨b, off, cap, cells, t, fr, rfl, _⟩ <;> rfl,
   fun ⟨v, e, h⟩ hm => ⟨v, e, h.mono hm⟩⟩
/-- what may be read and is not written while O stands: label 0 or 1; fresh: label 1 -/
def imm (O : Own) : Nat → Prop := fun k => O k ≤ 1
def frs (O : Own) : Nat → Prop := fun k => O k = 1
theorem imm_st {L : List Nat} {O O' : Own} {w w' : World} (hs : Stp L O w O' w') (h0 : L.contains 0 = false) (h1 : L.contains 1 = false) : ∀ k, imm O k → k < w.heap.size → imm O' k ∧ w'.heap[k]? = w.heap[k]? := by
  intro k hk hlt
  have hn : O k ∉ L := by
    have : O k = 0 ∨ O k = 1 := by unfold imm at hk; omega
    rcases this with e | e
    · rw [e]; simpa using h0
    · rw [e]; simpa using h1
  exact ⟨by unfold imm at *; rw [hs.lab k hlt hn]; exact hk, hs.blk k hlt hn⟩
theorem frs_st {L : List Nat} {O O' : Own} {w w' : World} (hs : Stp L O w O' w') (h1 : L.contains 1 = false) : ∀ k, frs O k → k < w.heap.size → frs O' k ∧ w'.heap[k]? = w.heap[k]? := by
  intro k hk hlt
  have hn : O k ∉ L := by unfold frs at hk; rw [hk]; simpa using h1
  exact ⟨by unfold frs at *; rw [hs.lab k hlt hn]; exact hk, hs.blk k hlt hn⟩
theorem frs_imm {O : Own} {w : World} : ∀ k, frs O k → k < w.heap.size → imm O k ∧ w.heap[k]? = w.heap[k]? := fun k h _ => ⟨by unfold frs imm at *; omega, rfl⟩
/-! ### Rows of one's own: they may grow and be written -/
def OwnSl {α : Type} (ℓ : Nat) (R : Rep α) (e : TypeId) (O : Own) (w : World) (v : Value) (xs : List α) : Prop :=
  ∃ cs, w.ownsRow 0 e R.n v xs.length cs ∧ Rows' R w (imm O) cs xs ∧ ∀ b, v.ownBlock = some b → O b = ℓ
theorem OwnSl.st {α : Type} {ℓ : Nat} {R : Rep α} {e : TypeId} {O O' : Own} {w w' : World} {v : Value} {xs : List α} {L : List Nat} (h : OwnSl ℓ R e O w v xs) (hs : Stp L O w O' w')
    (hl : L.contains ℓ = false) (h0 : L.contains 0 = false) (h1 : L.contains 1 = false) : OwnSl ℓ R e O' w' v xs := by
  obtain ⟨cs, ho, hr, hb⟩ := h
  refine ⟨cs, ⟨ho.1, ?_⟩, Rows'.mono (imm_st hs h0 h1) hr, fun b hv => ?_⟩
  · rcases ho.2 with hn | ⟨g, cap, cur, rfl, hbg, hg, rest⟩
    · exact .inl hn
    · refine .inr ⟨g, cap, cur, rfl, hbg, ?_, rest⟩
      rw [hs.blk g (blk_lt hg) (by rw [hb g rfl]; simpa using hl)]; exact hg
  · have := hb b hv
    rw [hs.lab b (ho.lt b hv).2 (by rw [this]; simpa using hl)]; exact this
/-- a slice whose cells may be read now: what an append takes -/
def Src {α : Type} (R : Rep α) (O : Own) (w : World) (u : Value) (ys : List α) : Prop :=
  (u = .slice none 0 0 ∧ ys = []) ∨ (∃ q c, u = .slice (some q) 0 c ∧ ys = []) ∨ ∃ b off cap cells t fr, u = .slice (some ⟨b, off, none⟩) ys.length cap ∧ w.heap[b]? = some (.cells cells t fr) ∧ ys.length ≤ cap ∧
    (off + ys.length * R.n ≤ cells.size) ∧ Rows' R w (imm O) ((cells.toList.drop off).take (ys.length * R.n)) ys
theorem Sl.src {α : Type} {R : Rep α} {O : Own} {w : World} {u : Value} {ys : List α} (h : Sl R w (imm O) u ys) : Src R O w u ys := by
  rcases h with h | h | ⟨b, off, cap, cells, t, fr, e, _, hb, hc, hs, hr⟩
  · exact .inl h
  · exact .inr (.inl h)
  · exact .inr <| .inr ⟨b, off, cap, cells, t, fr, e, hb, hc, hs, hr⟩
/-- what reads alike in every memory: numbers, bools, texts and structures of these -/
def Flat {α : Type} (R : Rep α) : Prop := ∀ {w w' A A' cs d}, R.ok w A cs d → R.ok w' A' cs d
theorem Flat.i : Flat Rep.i := fun h => h
theorem Flat.u : Flat Rep.u := fun h => h
theorem Flat.b : Flat Rep.b := fun h => h
theorem Flat.B : Flat Rep.B := fun h => h
theorem Flat.s : Flat Rep.s := fun h => h
theorem Flat.pair {α β : Type} {R : Rep α} {S : Rep β} (h : Flat R) (k : Flat S) : Flat (Rep.pair R S) := fun ⟨c1, c2, e, h1, h2⟩ => ⟨c1, c2, e, h h1, k h2⟩
theorem Flat.via {α β : Type} {R : Rep α} (h : Flat R) (f : β → α) : Flat (Rep.via R f) := fun {_ _ _ _ _ d} h' => h (d := f d) h'
theorem Flat.rows {α : Type} {R : Rep α} (hf : Flat R) {w w' : World} {A A' : Nat → Prop} : ∀ {xs : List α} {cs : List Value}, Rows' R w A cs xs → Rows' R w' A' cs xs
  | [], _, h => h
  | _ :: _, _, ⟨c1, c2, e, h1, h2⟩ => ⟨c1, c2, e, hf h1, hf.rows h2⟩
theorem OwnSl.src {α : Type} {ℓ : Nat} {R : Rep α} {e : TypeId} {O : Own} {w : World} {u : Value} {ys : List α} (h : OwnSl ℓ R e O w u ys) : Src R O w u ys := by
  obtain ⟨cs, ⟨hl, ho⟩, hr, hb⟩ := h
  rcases ho with ⟨rfl, hn⟩ | ⟨g, cap, cur, rfl, hbg, hg, hc, hm, hz, ht⟩
  · exact .inl ⟨rfl, List.eq_nil_of_length_eq_zero hn⟩
  · refine .inr <| .inr ⟨g, 0, cap, cur, e, (0, 0), rfl, hg, hc, ?_, ?_⟩
    · rw [hz, Nat.zero_add]; exact Nat.mul_le_mul_right _ hc
    · rw [List.drop_zero, ht]; exact hr
/-- read as a slice: of whatever blocks -/
theorem Src.sl {α : Type} {R : Rep α} {O : Own} {w : World} {u : Value} {ys : List α} (h : Src R O w u ys) : Sl R w (fun _ => True) u ys := by
  rcases h with h | h | ⟨b, off, cap, cells, t, fr, e, hb, hc, hs, hr⟩
  · exact .inl h
  · exact .inr (.inl h)
  · exact .inr <| .inr ⟨b, off, cap, cells, t, fr, e, trivial, hb, hc, hs, Rows'.mono (fun _ _ _ => ⟨trivial, rfl⟩) hr⟩
theorem Sl.all {α : Type} {R : Rep α} {w : World} {A : Nat → Prop} {u : Value} {ys : List α} (h : Sl R w A u ys) : Sl R w (fun _ => True) u ys :=
  h.mono fun _ _ _ => ⟨trivial, rfl⟩
theorem Rep.all {α : Type} {R : Rep α} {w : World} {A : Nat → Prop} {cs : List Value} {d : α} (h : R.ok w A cs d) : R.ok w (fun _ => True) cs d :=
  R.mono h fun _ _ _ => ⟨trivial, rfl⟩
/-- an object's label is given up: what it holds is not written any more -/
def frz (ℓ : Nat) (O : Own) : Own := fun k => if O k = ℓ then 1 else O k
theorem frz_st (ℓ : Nat) (hℓ : 10 ≤ ℓ) (O : Own) (w : World) : Stp [ℓ] O w (frz ℓ O) w :=
  ⟨rfl, rfl, rfl, Nat.le_refl _, fun k _ hl => by simp at hl; simp [frz, hl], fun k _ hl => by unfold frz; rw [if_neg (by omega)], fun _ _ _ => rfl⟩
theorem OwnSl.frzF {α : Type} {ℓ : Nat} {R : Rep α} {e : TypeId} {O : Own} {w : World} {u : Value} {ys : List α} (hf : Flat R) (h : OwnSl ℓ R e O w u ys) : Sl R w (frs (frz ℓ O)) u ys := by
  obtain ⟨cs, ⟨hl, ho⟩, hr, hb⟩ := h
  rcases ho with ⟨rfl, hn⟩ | ⟨g, cap, cur, rfl, hbg, hg, hc, hm, hz, ht⟩
  · exact .inl ⟨rfl, List.eq_nil_of_length_eq_zero hn⟩
  · refine .inr <| .inr ⟨g, 0, cap, cur, e, (0, 0), rfl, by simp [frs, frz, hb g rfl], hg, hc, ?_, ?_⟩
    · rw [hz, Nat.zero_add]; exact Nat.mul_le_mul_right _ hc
    · rw [List.drop_zero, ht]; exact hf.rows hr
theorem OwnSl.frz {α : Type} {ℓ : Nat} {R : Rep α} {e : TypeId} {O : Own} {w : World} {u : Value} {ys : List α} (h : OwnSl ℓ R e O w u ys) : Sl R w (imm (frz ℓ O)) u ys := by
  obtain ⟨cs, ⟨hl, ho⟩, hr, hb⟩ := h
  rcases ho with ⟨rfl, hn⟩ | ⟨g, cap, cur, rfl, hbg, hg, hc, hm, hz, ht⟩
  · exact .inl ⟨rfl, List.eq_nil_of_length_eq_zero hn⟩
  · refine .inr <| .inr ⟨g, 0, cap, cur, e, (0, 0), rfl, by simp [imm, Lg.frz, hb g rfl], hg, hc, ?_, ?_⟩
    · rw [hz, Nat.zero_add]; exact Nat.mul_le_mul_right _ hc
    · rw [List.drop_zero, ht]
      exact Rows'.mono (fun k hk _ => ⟨by unfold imm Lg.frz at *; split <;> omega, rfl⟩) hr
end Go.Lg
