/- Lemmas about the given model and about plain data, which the rows stand on: no statement of the program by itself. -/
import Derived.Test.YtdpokdaeekanjaaRkLgEnd
import Derived.StillTail
set_option linter.unusedVariables false
namespace Go.Lg
open Go
/-! ### what the printed walks use beside -/
def rndK {σ β ρ : Type} (f : σ → Option (Rnd σ β ρ)) (j : Nat) : Rnd σ β ρ → Option (Flow β ρ)
  | .next s' => loopN j f s'
  | .brk b => some (.go b)
  | .out r => some (.out r)
theorem rnd1 {σ β ρ : Type} {f : σ → Option (Rnd σ β ρ)} {k : Nat} {s : σ} {p : Flow β ρ} (h : loopN k f s = some p) : ∃ j q, k = j + 1 ∧ f s = some q ∧ rndK f j q = some p := by
  obtain ⟨j, q, hk, hf, h⟩ := rnd0 h
  exact ⟨j, q, hk, hf, by cases q <;> exact h⟩
theorem next1 {σ β ρ : Type} {f : σ → Option (Rnd σ β ρ)} {j : Nat} {s : σ} {q : Rnd σ β ρ} {p : Flow β ρ} (h : some (Rnd.next s) = some q) (hn : rndK f j q = some p) : loopN j f s = some p := by cases h; exact hn
theorem brk1 {σ β ρ : Type} {f : σ → Option (Rnd σ β ρ)} {j : Nat} {b : β} {q : Rnd σ β ρ} {p : Flow β ρ} (h : some (Rnd.brk b) = some q) (hn : rndK f j q = some p) : p = .go b := by cases h; cases hn; rfl
theorem outr1 {σ β ρ : Type} {f : σ → Option (Rnd σ β ρ)} {j : Nat} {o : Option ρ} {q : Rnd σ β ρ} {p : Flow β ρ} {F : β → Option ρ} {r : ρ} (h : outr o = some q) (hn : rndK f j q = some p) (hk : flowK F p = some r) : o = some r := by
  obtain ⟨x, hx, h⟩ := bnd h
  cases h; cases hn; cases hk; exact hx
theorem go2 {α ρ : Type} {x : α} {p : Flow α ρ} (h : some (Flow.go x) = some p) : p = .go x := by cases h; rfl
theorem flowK_go {α ρ : Type} {F : α → Option ρ} {x : α} {r : ρ} (h : flowK F (.go x) = some r) : F x = some r := h
theorem tup2 {α β : Type} {a : α} {b : β} {c : α} {d : β} (h : some (a, b) = some (c, d)) : a = c ∧ b = d := by cases h; exact ⟨rfl, rfl⟩
theorem tup3 {α β γ : Type} {a a' : α} {b b' : β} {c c' : γ} (h : some (a, b, c) = some (a', b', c')) : a = a' ∧ b = b' ∧ c = c' := by cases h; exact ⟨rfl, rfl, rfl⟩
theorem tup4 {α β γ δ : Type} {a a' : α} {b b' : β} {c c' : γ} {d d' : δ} (h : some (a, b, c, d) = some (a', b', c', d')) : a = a' ∧ b = b' ∧ c = c' ∧ d = d' := by cases h; exact ⟨rfl, rfl, rfl, rfl⟩
theorem andT {c x : Bool} (h : c = true) : x = (c && x) := by subst h; rfl
theorem andF {c x : Bool} (h : c = false) : false = (c && x) := by subst h; rfl
theorem orT {c x : Bool} (h : c = true) : true = (c || x) := by subst h; rfl
theorem orF {c x : Bool} (h : c = false) : x = (c || x) := by subst h; rfl
section
variable {P : Program} {n : Nat} {ops : Array Oper} {Q : Exit → Act → World → Prop} {ρ : Env} {w : World} {rest : List Oper}
variable {d : Nat} {ty : TypeId} {pos : String} {aft : Array Edge} {op : Op}
/-- a join at an exit -/
def JB (n : Nat) (Q : Exit → Act → World → Prop) (B : Nat) {σ : Type} (I : σ → World → Prop) (env : σ → Env) : Exit → Act → World → Prop
  | .exit id, a, w => if id = B then ∃ s, I s w ∧ Fits n (env s) a else Q (.exit id) a w
  | e, a, w => Q e a w
theorem WC.joinB {σ : Type} (B : Nat) (I : σ → World → Prop) (env : σ → Env) {c : Code} (h : WC P n (JB n Q B I env) c ρ w) (hJ : ∀ s w', I s w' → At n Q (.exit B) (env s) w') : WC P n Q c ρ w :=
  fun a ha => wp_mono (h a ha) fun e a' w' hq => by
    cases e with
    | exit id =>
      simp only [JB] at hq
      split at hq
      · rename_i e; subst e; obtain ⟨s, hi, hf⟩ := hq; exact hJ s w' hi a' hf
      · exact hq
    | _ => exact hq
theorem At.hitB {σ : Type} {B : Nat} {I : σ → World → Prop} {env : σ → Env} (s : σ) (hi : I s w) (hs : Sub (env s) ρ) : At n (JB n Q B I env) (.exit B) ρ w := fun a ha => by
  simp only [JB, if_true]; exact ⟨s, hi, ha.sub hs⟩
theorem At.joinBR {σ : Type} {B : Nat} {I : σ → World → Prop} {env : σ → Env} (h : At n Q .ret ρ w) : At n (JB n Q B I env) .ret ρ w := h
theorem skipped {l : List Oper} {j s : Nat} {b : Bool} {v : Value} {a : Act} (ha : Fits n ρ a) (hj : (l[j]?).bind (·.dst) = some s) (hs : lk ρ s = some v) (hb : (match v with | .bool c => c == b | _ => false) = false) :
    (yielded l.toArray a.tmps j == some b) = false := by
  have h1 := ha.get s _ hs
  unfold yielded
  have : (l.toArray[j]?).bind (·.dst) = some s := by simpa using hj
  rw [this]
  simp only [Option.bind_some, h1]
  cases v <;> first | rfl | simpa using hb
/-- an operation whose guard says no -/
theorem WL.gS {l : List Oper} {j s : Nat} {b : Bool} {v : Value} (hj : (l[j]?).bind (·.dst) = some s) (hs : lk ρ s = some v) (hb : (match v with | .bool c => c == b | _ => false) = false) (hd : Nat.blt d n = true)
    (h : WL P n l.toArray Q rest ((d, undef) :: ρ) w) : WL P n l.toArray Q (⟨some d, op, ty, pos, aft, some (j, b)⟩ :: rest) ρ w := by
  intro a ha
  refine wpList_step fun K hK => ?_
  have : ¬ Region.wanted ⟨some d, op, ty, pos, aft, some (j, b)⟩ (yielded l.toArray a.tmps) = true := by
    simp only [Region.wanted, skipped ha hj hs hb]; simp
  rw [if_neg this]
  exact hK _ _ (h _ (ha.put hd undef))
end
/-! ### regions that draw their order: a head that leaves the world alone, a tail in its order -/
def WS (P : Program) (n : Nat) (ops : Array Oper) (w : World) (G : Act → Prop) (l : List Oper) (ρ : Env) : Prop :=
  ∀ a, Fits n ρ a → wpStill P ops w G l a
section
variable {P : Program} {n : Nat} {ops : Array Oper} {Q : Exit → Act → World → Prop} {ρ : Env} {w : World} {rest : List Oper} {G : Act → Prop}
variable {d : Nat} {ty : TypeId} {pos : String} {aft : Array Edge} {op : Op}
theorem WC.draw {id : Nat} {l : List Oper} (k : Nat) (O : Own) (hm : P.follows .mixedOrders = true) (hB : Region.lexTailB .any l.toArray k = true)
    (h : ∀ w', Stp [] O w O w' → WS P n l.toArray w' (fun a' => wpList P l.toArray Q (l.drop k) a' w') (l.take k) ρ) : WC P n Q (.region id l.toArray true) ρ w :=
  fun a ha => wp_region_still_tail k hm hB (h _ stp_drew a ha)
theorem WS.tail {l : List Oper} (h : WL P n ops Q l ρ w) : WS P n ops w (fun a' => wpList P ops Q l a' w) [] ρ := fun a ha => h a ha
theorem WS.y {v : Value} (hy : Y P op ty ρ w v) (hd : Nat.blt d n = true) (h : WS P n ops w G rest ((d, v) :: ρ)) : WS P n ops w G (⟨some d, op, ty, pos, aft, none⟩ :: rest) ρ := by
  intro a ha
  refine wpStill_step fun K hK => ?_
  have : Region.wanted ⟨some d, op, ty, pos, aft, none⟩ (yielded ops a.tmps) = true := rfl
  rw [if_pos this]
  unfold Oper.still
  rw [hy a n _ ha rfl rfl]
  exact ⟨rfl, hK _ (h _ (ha.put hd v))⟩
theorem WS.yE {v v' : Value} (hy : Y P op ty ρ w v) (hv : v = v') (hd : Nat.blt d n = true) (h : WS P n ops w G rest ((d, v') :: ρ)) : WS P n ops w G (⟨some d, op, ty, pos, aft, none⟩ :: rest) ρ :=
  WS.y (hv ▸ hy) hd h
theorem WS.gT {l : List Oper} {v : Value} {j s : Nat} {b : Bool} (hj : (l[j]?).bind (·.dst) = some s) (hs : lk ρ s = some (.bool b)) (hy : Y P op ty ρ w v) (hd : Nat.blt d n = true)
    (h : WS P n l.toArray w G rest ((d, v) :: ρ)) : WS P n l.toArray w G (⟨some d, op, ty, pos, aft, some (j, b)⟩ :: rest) ρ := by
  intro a ha
  refine wpStill_step fun K hK => ?_
  have : Region.wanted ⟨some d, op, ty, pos, aft, some (j, b)⟩ (yielded l.toArray a.tmps) = true := by simp [Region.wanted, yielded_of ha hj hs]
  rw [if_pos this]
  unfold Oper.still
  rw [hy a n _ ha rfl rfl]
  exact ⟨rfl, hK _ (h _ (ha.put hd v))⟩
theorem WS.gS {l : List Oper} {j s : Nat} {b : Bool} {v : Value} (hj : (l[j]?).bind (·.dst) = some s) (hs : lk ρ s = some v) (hb : (match v with | .bool c => c == b | _ => false) = false) (hd : Nat.blt d n = true)
    (h : WS P n l.toArray w G rest ((d, undef) :: ρ)) : WS P n l.toArray w G (⟨some d, op, ty, pos, aft, some (j, b)⟩ :: rest) ρ := by
  intro a ha
  refine wpStill_step fun K hK => ?_
  have : ¬ Region.wanted ⟨some d, op, ty, pos, aft, some (j, b)⟩ (yielded l.toArray a.tmps) = true := by
    simp only [Region.wanted, skipped ha hj hs hb]; simp
  rw [if_neg this]
  exact hK _ (h _ (ha.put hd undef))
theorem WS.ren {l : List Oper} {v v' : Value} (s : Nat) (hs : lk ρ s = some v) (hv : v = v') (h : WS P n ops w G l ((s, v') :: ρ)) : WS P n ops w G l ρ := by
  subst hv
  intro a ha
  refine h a ⟨ha.defers, ha.size, fun i u hu => ?_⟩
  simp only [lk] at hu
  by_cases e : s = i
  · subst e; simp at hu; subst hu; exact ha.get s _ hs
  · have : Nat.beq s i = false := Bool.eq_false_iff.2 fun h => e (Nat.eq_of_beq_eq_true h)
    rw [this] at hu
    exact ha.get i u hu
theorem WS.part {l : List Oper} (s : Nat) {B : Bool} (hs : lk ρ s = some (.bool B)) (ht : B = true → WS P n ops w G l ((s, .bool true) :: ρ)) (hf : B = false → WS P n ops w G l ((s, .bool false) :: ρ)) : WS P n ops w G l ρ := by
  cases hB : B with
  | true => exact WS.ren s (hB ▸ hs) rfl (ht hB)
  | false => exact WS.ren s (hB ▸ hs) rfl (hf hB)
theorem wpStill_append {post : List Oper} : ∀ (pre : List Oper) (a : Act), wpStill P ops w (fun a' => wpStill P ops w G post a') pre a → wpStill P ops w G (pre ++ post) a
  | [], a, h => h
  | o :: pre, a, h => by
    simp only [wpStill, List.cons_append] at h ⊢
    split
    · rename_i hw
      rw [if_pos hw] at h
      unfold Oper.still at h ⊢
      revert h
      generalize (execOp a.eval o).run P w = r
      intro h
      revert h
      unfold Oper.stillUpon
      split
      · exact fun h => ⟨h.1, wpStill_append pre _ h.2⟩
      · exact fun h => ⟨h.1, wpStill_append pre _ h.2⟩
      · exact fun ⟨h0, v, hc, h2⟩ => ⟨h0, v, hc, wpStill_append pre _ h2⟩
      · exact fun h => h
    · rename_i hw
      rw [if_neg hw] at h
      exact wpStill_append pre _ h
theorem wpStill_monoQ {G' : Act → Prop} (hg : ∀ a, G a → G' a) : ∀ (l : List Oper) (a : Act), wpStill P ops w G l a → wpStill P ops w G' l a
  | [], a, h => hg a h
  | o :: pre, a, h => by
    simp only [wpStill] at h ⊢
    split
    · rename_i hw
      rw [if_pos hw] at h
      unfold Oper.still at h ⊢
      revert h
      generalize (execOp a.eval o).run P w = r
      intro h
      revert h
      unfold Oper.stillUpon
      split
      · exact fun h => ⟨h.1, wpStill_monoQ hg pre _ h.2⟩
      · exact fun h => ⟨h.1, wpStill_monoQ hg pre _ h.2⟩
      · exact fun ⟨h0, v, hc, h2⟩ => ⟨h0, v, hc, wpStill_monoQ hg pre _ h2⟩
      · exact fun h => h
    · rename_i hw
      rw [if_neg hw] at h
      exact wpStill_monoQ hg pre _ h
theorem WS.cut {l : List Oper} (k : Nat) (ρ' : Env) (h : WS P n ops w (fun a => Fits n ρ' a) (l.take k) ρ) (hJ : WS P n ops w G (l.drop k) ρ') : WS P n ops w G l ρ := by
  intro a ha
  rw [← List.take_append_drop k l]
  exact wpStill_append _ _ (wpStill_monoQ (fun a' ha' => hJ a' ha') _ _ (h a ha))
end
/-! ### bits of signed numbers -/
def xorI (a b : Int) : Int := w64 ((BitVec.ofInt 64 a ^^^ BitVec.ofInt 64 b).toNat : Int)
section
variable {P : Program} {ρ : Env} {w : World} {ty t t' : TypeId} {x y : Operand} {a b : Int}
theorem Y.xor_i (hx : ev ρ x = some (vi a)) (hy : ev ρ y = some (vi b)) : Y P (.binOp .xor t x y t') ty ρ w (vi (xorI a b)) := Y.bin hx hy (by simp only [binOp, Op.intBits, IntKind.bits, w64_eq]; rfl)
theorem Blk.runAg {ℓ : Nat} {O : Own} {b : Nat} {T : TypeId} {cells : List Value} {d : TypeDesc} {size bytes : Nat} {z : Value} (h : Blk ℓ O w b T cells) (off : Nat) (cs : List Value) (ht : TyOk P t d size bytes z) (hd : isAggD d = true) (hc : (cells.drop off).take cs.length = cs) (hl : cs.length = size) :
    (Instr.loadAt t (.pointer (some ⟨b, off, none⟩))).run P w = .ok (.agg cs.toArray) w := run_loadAg ht hd (h.cells off cs hc) hl
end
end Go.Lg
namespace Go.Lg
open Go
theorem imm_ne {O : Own} {b ℓ : Nat} (hl : O b = ℓ) (h : Nat.ble 2 ℓ = true) : ∀ k, imm O k → k ≠ b := by
  intro k hk e; subst e; unfold imm at hk; rw [hl] at hk; have : 2 ≤ ℓ := by simpa using h
  omega
theorem imm_neV {O : Own} {v : Value} {w : World} {ℓ : Nat} (hv : ∀ b, v.ownBlock = some b → O b = ℓ ∧ b < w.heap.size) (h : Nat.ble 2 ℓ = true) : ∀ k, imm O k → v.ownBlock ≠ some k := by
  intro k hk e; unfold imm at hk; rw [(hv k e).1] at hk; have : 2 ≤ ℓ := by simpa using h
  omega
end Go.Lg
namespace Go.Lg
open Go
theorem run_slnil (d : Nat) {P : Program} {w : World} {t e : TypeId} {p : Option Addr} {n c : Nat} (hu : P.underlying t = some (.slice e)) : (Op.equalIn (d + 1) t (.slice p n c) (.slice none 0 0)).run P w = .ok p.isNone w := by
  cases p <;> simp [Op.equalIn, run_underlying hu]
theorem Y.slnil {P : Program} {ρ : Env} {w : World} {ty t t' e : TypeId} {x y : Operand} {p : Option Addr} {n c : Nat} (hu : P.underlying t = some (.slice e)) (hx : ev ρ x = some (.slice p n c)) (hy : ev ρ y = some (.slice none 0 0)) :
    Y P (.binOp .eql t x y t') ty ρ w (.bool p.isNone) := by
  intro a n' o ha ho _
  have he : (Op.equal t (.slice p n c) (.slice none 0 0)).run P w = .ok p.isNone w := by
    exact run_slnil 9999 hu
  simp only [execOp, ho, ha.eval hx, ha.eval hy]
  simp [eqGuard, binOp, he]
theorem Sl.shape {α : Type} {R : Rep α} {w : World} {A : Nat → Prop} {v : Value} {xs : List α} (h : Sl R w A v xs) : ∃ p n c, v = .slice p n c := by
  rcases h with ⟨e, _⟩ | ⟨q, c, e, _⟩ | ⟨b, off, cap, cells, t, fr, e, _⟩
  · exact ⟨_, _, _, e⟩
  · exact ⟨_, _, _, e⟩
  · exact ⟨_, _, _, e⟩
theorem Sl.nilOr {α : Type} {R : Rep α} {w : World} {A : Nat → Prop} {v : Value} {xs : List α} (h : Sl R w A v xs) : (v = .slice none 0 0 ∧ xs = []) ∨ ∃ q n c, v = .slice (some q) n c := by
  rcases h with h | ⟨q, c, e, _⟩ | ⟨b, off, cap, cells, t, fr, e, _⟩
  · exact .inl h
  · exact .inr ⟨_, _, _, e⟩
  · exact .inr ⟨_, _, _, e⟩
theorem OwnSl.shape {α : Type} {ℓ : Nat} {R : Rep α} {e : TypeId} {O : Own} {w : World} {v : Value} {xs : List α} (h : OwnSl ℓ R e O w v xs) : ∃ p n c, v = .slice p n c := h.src.sl.shape
end Go.Lg
namespace Go.Lg
open Go
theorem memB {O : Own} {L : List Nat} {b ℓ n : Nat} (hl : O b = ℓ) (hc : L.contains ℓ = true) : ∀ k, k = b → k < n → O k ∈ L := by
  intro k e _; subst e; rw [hl]; simpa using hc
theorem memV {O : Own} {L : List Nat} {v : Value} {w : World} {ℓ n : Nat} (hv : ∀ b, v.ownBlock = some b → O b = ℓ ∧ b < w.heap.size) (hc : L.contains ℓ = true) : ∀ k, v.ownBlock = some k → k < n → O k ∈ L := by
  intro k e _; rw [(hv k e).1]; simpa using hc
theorem memOr {O : Own} {L : List Nat} {S S' : Nat → Prop} {n : Nat} (h : ∀ k, S k → k < n → O k ∈ L) (h' : ∀ k, S' k → k < n → O k ∈ L) : ∀ k, S k ∨ S' k → k < n → O k ∈ L :=
  fun k e hk => e.elim (fun e => h k e hk) (fun e => h' k e hk)
end Go.Lg
namespace Go.Lg
open Go
theorem Rows'.adoptI {α : Type} {R : Rep α} {w w' : World} {O O' : Own} {A : Nat → Prop} {cs : List Value} {xs : List α} {g : Nat → Nat} (h : Rows' R w' (fun k => A k ∨ w.heap.size ≤ k) cs xs) (hA : ∀ k, A k → imm O k) (hg : ∀ k, w.heap.size ≤ k → g k ≤ 1) (ho : ∀ k, k < w.heap.size → O' k = O k) (hn : ∀ k, w.heap.size ≤ k → O' k = g k) : Rows' R w' (imm O') cs xs :=
  h.mono fun k hk _ => ⟨by
    unfold imm
    rcases Nat.lt_or_ge k w.heap.size with hl | hl
    · rw [ho k hl]
      rcases hk with hk | hk
      · exact hA k hk
      · omega
    · rw [hn k hl]; exact hg k hl, rfl⟩
end Go.Lg
