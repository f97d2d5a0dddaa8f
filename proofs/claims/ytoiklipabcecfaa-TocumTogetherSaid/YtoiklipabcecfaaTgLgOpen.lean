/- Lemmas about the given model and about plain data, which the rows stand on: no statement of the program by itself. -/
import Derived.Test.YtoiklipabcecfaaTgLgPart0
import Derived.OpenShut
import Derived.ShutString
import Derived.ChangeOld
set_option linter.unusedVariables false
namespace Go.Lg
open Go Go.ChangeShapes Go.WideShapes
/-! ### What came in, read as plain data -/
def AllW : Nat → Prop := fun _ => True
section
variable {H : Type} {enc : TypeId × Value → H} {P : Program} {w : World} {base : Nat}
/-- a reading of type t is a datum of R; G: what is known of it, m: what the bulk measure B says of it -/
def Opn {α : Type} (enc : TypeId × Value → H) (P : Program) (w : World) (bk : DataW H → Nat) (t : TypeId) (R : Rep α) (G : α → Nat → Prop) : Prop :=
  ∀ (base fuel : Nat) (cs : List Value) (x : DataW H × List MemPlace), DataW.trod enc P w base (fun _ => true) true fuel t cs = some x → ∃ d, R.ok w AllW cs d ∧ G d (bk x.1)
variable {bk : DataW H → Nat}
theorem Opn.i {t : TypeId} (ht : P.underlying t = some (.int .i64)) : Opn enc P w bk t Rep.i (fun x _ => I64 x) := by
  intro base fuel cs x h
  obtain ⟨n, rfl, _, hw⟩ := DataW.trod_int ht h
  refine ⟨n, rfl, ?_⟩
  simpa [Lit.wf, IntKind.min, IntKind.max, IntKind.signed, IntKind.bits, I64] using hw
theorem Opn.u {t : TypeId} (ht : P.underlying t = some (.int .u64)) : Opn enc P w bk t Rep.u (fun _ _ => True) := by
  intro base fuel cs x h
  obtain ⟨n, rfl, _, hw⟩ := DataW.trod_int ht h
  have hw' : 0 ≤ n ∧ n ≤ 18446744073709551615 := by simpa [Lit.wf, IntKind.min, IntKind.max, IntKind.signed, IntKind.bits] using hw
  refine ⟨UInt64.ofNat n.toNat, ?_, trivial⟩
  have : ((UInt64.ofNat n.toNat).toNat : Int) = n := by
    rw [UInt64.toNat_ofNat']; omega
  show [Value.int .u64 n] = [Value.int .u64 _]
  rw [this]
theorem Opn.b {t : TypeId} (ht : P.underlying t = some (.int .u8)) : Opn enc P w bk t Rep.b (fun _ _ => True) := by
  intro base fuel cs x h
  obtain ⟨n, rfl, _, hw⟩ := DataW.trod_int ht h
  have hw' : 0 ≤ n ∧ n ≤ 255 := by simpa [Lit.wf, IntKind.min, IntKind.max, IntKind.signed, IntKind.bits] using hw
  refine ⟨UInt8.ofNat n.toNat, ?_, trivial⟩
  have : ((UInt8.ofNat n.toNat).toNat : Int) = n := by
    rw [UInt8.toNat_ofNat']; omega
  show [Value.int .u8 n] = [Value.int .u8 _]
  rw [this]
theorem Opn.B {t : TypeId} (ht : P.underlying t = some .bool) : Opn enc P w bk t Rep.B (fun _ _ => True) := by
  intro base fuel cs x h
  obtain ⟨b, rfl, _⟩ := DataW.trod_bool ht h
  exact ⟨b, rfl, trivial⟩
theorem Opn.s {t : TypeId} (ht : P.underlying t = some .string) (hB : ∀ l : List UInt8, l.length ≤ bk (.lit (.string l))) : Opn enc P w bk t Rep.s (fun x k => x.length ≤ maxLen ∧ x.length ≤ k) := by
  intro base fuel cs x h
  obtain ⟨s, rfl, rfl, hs⟩ := DataW.trod_string ht h
  refine ⟨s.data.toList, ?_, ?_, hB _⟩
  · show [Value.string s] = [Value.string _]
    simp
  · exact hs
theorem cells_at {a : Addr} {n : Nat} {cs : List Value} (h : w.cells? base a n = some cs) (hn : 0 < n) : a.spot = none ∧ CellsAt w a.block a.off cs := by
  obtain ⟨hb, hl, hc⟩ := World.cells?_some h
  have h0 := hc 0 hn
  have e0 : cs[0]? = some cs[0] := List.getElem?_eq_getElem (by omega)
  rw [e0] at h0
  have hs := World.cell?_spot h0
  have hsp : a.spot = none := by
    simpa [Addr.add] using hs
  refine ⟨hsp, ?_⟩
  obtain ⟨blk, off, sp⟩ := a
  simp only at hsp
  subst hsp
  have hcell : ∀ i, i < n → ∃ cells t fr, w.heap[blk]? = some (.cells cells t fr) ∧ cells[off + i]? = cs[i]? := by
    intro i hi
    have h1 := hc i hi
    rw [Addr_add] at h1
    have e1 : cs[i]? = some cs[i] := List.getElem?_eq_getElem (by omega)
    rw [e1] at h1 ⊢
    unfold World.cell? at h1
    simp only at h1
    split at h1
    · rename_i cells t fr hh
      exact ⟨cells, t, fr, hh, by simpa using h1⟩
    · cases h1
  obtain ⟨cells, t, fr, hh, _⟩ := hcell 0 hn
  refine ⟨cells, t, fr, hh, ?_⟩
  apply List.ext_getElem?
  intro i
  rw [List.getElem?_take]
  split
  · rename_i hi
    obtain ⟨c', t', fr', hh', he⟩ := hcell i (by omega)
    rw [hh] at hh'
    cases hh'
    rw [List.getElem?_drop, ← he]
    simp
  · rw [List.getElem?_eq_none (by omega)]
theorem opn_rows {α : Type} {t : TypeId} {R : Rep α} {G : α → Nat → Prop} (he : Opn enc P w bk t R G) (hn : 0 < R.n) (a : Addr) (hspa : a.spot = none) {n : Nat} {cells : Array Value} {t' : TypeId} {fr : Nat × Nat} (hblk : w.heap[a.block]? = some (.cells cells t' fr)) :
    ∀ (els : List (DataW H × List MemPlace)) (k : Nat), (∀ i y, els[i]? = some y → (w.cells? base (a.add ((k + i) * R.n)) R.n).bind (DataW.trod enc P w base (fun _ => true) true n t) = some y) →
      ∃ xs : List α, xs.length = els.length ∧ Rows' R w AllW ((cells.toList.drop (a.off + k * R.n)).take (xs.length * R.n)) xs ∧ (a.off + k * R.n + xs.length * R.n ≤ cells.size ∨ xs = []) ∧
        (∀ (i : Nat) (x : α) (y : DataW H × List MemPlace), xs[i]? = some x → els[i]? = some y → G x (bk y.1))
  | [], k, _ => ⟨[], rfl, by simp [Rows'], .inr rfl, fun i x y h => by simp at h⟩
  | y :: els, k, h => by
    have h0 := h 0 y rfl
    obtain ⟨cs, hcs, hy⟩ := Option.bind_eq_some_iff.1 h0
    obtain ⟨d, hd, hG⟩ := he base n cs y hy
    obtain ⟨hsp, cells', t'', fr', hh, hc⟩ := cells_at hcs hn
    have hbl : (a.add ((k + 0) * R.n)).block = a.block := block_add _ _
    rw [hbl, hblk] at hh
    cases hh
    have hoff : (a.add ((k + 0) * R.n)).off = a.off + k * R.n := by
      obtain ⟨b, o, s⟩ := a
      simp only at hspa
      subst hspa
      rw [Addr_add]; simp
    rw [hoff] at hc
    have hlen := R.len hd
    rw [hlen] at hc
    obtain ⟨xs, hl, hr, hz, hg⟩ := opn_rows he hn a hspa hblk els (k + 1) (fun i y' hi => by
      have := h (i + 1) y' (by simpa using hi)
      rw [show k + 1 + i = k + (i + 1) by omega]; exact this)
    have hcl : R.n ≤ cells.size - (a.off + k * R.n) := by
      have := congrArg List.length hc
      simp only [List.length_take, List.length_drop, hlen] at this
      have e : cells.toList.length = cells.size := rfl
      rw [e] at this; omega
    refine ⟨d :: xs, by simp [hl], ⟨cs, _, ?_, hd, hr⟩, ?_, ?_⟩
    · rw [List.length_cons, show (xs.length + 1) * R.n = R.n + xs.length * R.n by rw [Nat.add_mul]; omega, List.take_add, hc, List.drop_drop, Nat.add_mul, Nat.one_mul, Nat.add_assoc]
    · left
      rw [List.length_cons, Nat.add_mul, Nat.one_mul]
      rcases hz with hz | hz
      · rw [Nat.add_mul, Nat.one_mul] at hz; omega
      · subst hz; simp; omega
    · intro i x y' hx hy'
      cases i with
      | zero => simp at hx hy'; subst hx; subst hy'; exact hG
      | succ i => exact hg i x y' (by simpa using hx) (by simpa using hy')
/-- what the measure says of a slice: at least its elements together -/
structure BulkOk (bk : DataW H → Nat) : Prop where
  str : ∀ l : List UInt8, l.length ≤ bk (.lit (.string l))
  sl : ∀ (es rs : List (DataW H)), (es.map bk).sum + 1 ≤ bk (.slice es rs)
  ag : ∀ (es : List (DataW H)), (es.map bk).sum + 1 ≤ bk (.agg es)
  pos : ∀ d, 1 ≤ bk d
/-- the sum of what is known of the elements -/
def SumG {α : Type} (G : α → Nat → Prop) (xs : List α) (k : Nat) : Prop := ∃ ks : List Nat, ks.length = xs.length ∧ (∀ j ∈ ks, 1 ≤ j) ∧ ks.sum ≤ k ∧ ∀ (i : Nat) (x : α) (j : Nat), xs[i]? = some x → ks[i]? = some j → G x j
theorem sum_ge_length {ks : List Nat} (h : ∀ j ∈ ks, 1 ≤ j) : ks.length ≤ ks.sum := by
  induction ks with
  | nil => simp
  | cons a l ih =>
    have := h a (by simp)
    have := ih fun j hj => h j (by simp [hj])
    simp only [List.length_cons, List.sum_cons]; omega
theorem SumG.len {α : Type} {G : α → Nat → Prop} {xs : List α} {k : Nat} (h : SumG G xs k) : xs.length ≤ k := by
  obtain ⟨ks, h1, h2, h3, _⟩ := h
  have := sum_ge_length h2
  omega
theorem SumG.all {α : Type} {G : α → Nat → Prop} {xs : List α} {k : Nat} (h : SumG G xs k) {x : α} (hx : x ∈ xs) : ∃ j, j ≤ k ∧ G x j := by
  obtain ⟨ks, h1, h2, h3, h4⟩ := h
  obtain ⟨i, hi, rfl⟩ := List.getElem_of_mem hx
  have hj : i < ks.length := by omega
  refine ⟨ks[i], ?_, h4 i _ _ (List.getElem?_eq_getElem hi) (List.getElem?_eq_getElem hj)⟩
  have : ∀ (l : List Nat) (i : Nat) (h : i < l.length), l[i] ≤ l.sum := by
    intro l
    induction l with
    | nil => intro i h; simp at h
    | cons a l ih =>
      intro i h
      cases i with
      | zero => simp
      | succ i => have := ih i (by simpa using h); simp only [List.getElem_cons_succ, List.sum_cons]; omega
  have := this ks i hj
  omega
theorem Opn.sl {α : Type} {t e : TypeId} {R : Rep α} {G : α → Nat → Prop} (hB : BulkOk bk) (ht : P.underlying t = some (.slice e)) (hc : P.cellsOf e = R.n) (hn : 0 < R.n) (he : Opn enc P w bk e R G) :
    Opn enc P w bk t (Rep.sl R) (fun xs k => xs.length ≤ maxLen ∧ SumG G xs k) := by
  intro base fuel cs x h
  rcases DataW.trod_slice ht h with ⟨rfl, rfl⟩ | ⟨a, len, cap, elems, rest, n, _, rfl, rfl, hb, hl, hm, hlen, hel, hsp, _⟩
  · exact ⟨[], ⟨_, rfl, .inl ⟨rfl, rfl⟩⟩, Nat.zero_le _, [], rfl, by simp, by simp, fun i x j h => by simp at h⟩
  rw [hc] at hel
  by_cases h0 : len = 0
  · subst h0
    refine ⟨[], ⟨_, rfl, .inr (.inl ⟨_, _, rfl, rfl⟩)⟩, Nat.zero_le _, [], rfl, by simp, by simp, fun i x j h => by simp at h⟩
  have hblk : ∃ cells t' fr, w.heap[a.block]? = some (.cells cells t' fr) ∧ a.spot = none := by
    have h1 := hel 0 (by omega)
    rw [Nat.zero_mul, List.getElem?_eq_getElem (by omega)] at h1
    obtain ⟨cs, hcs, _⟩ := Option.bind_eq_some_iff.1 h1
    obtain ⟨hs, cells, t', fr, hh, _⟩ := cells_at hcs hn
    rw [block_add] at hh
    exact ⟨cells, t', fr, hh, by simpa [Addr.add] using hs⟩
  obtain ⟨cells, t', fr, hblk, hspa⟩ := hblk
  obtain ⟨xs, hxl, hr, hz, hg⟩ := opn_rows (base := base) (n := n) he hn a hspa hblk elems 0 (fun i y hi => by
    have hi' := (List.getElem?_eq_some_iff.1 hi).1
    rw [Nat.zero_add, hel i (by omega), hi])
  obtain ⟨b, o, s⟩ := a
  simp only at hspa
  subst hspa
  simp only [Nat.zero_mul, Nat.add_zero] at hr hz hblk
  have hxl' : xs.length = len := by omega
  refine ⟨xs, ⟨_, rfl, .inr (.inr ⟨b, o, cap, cells, t', fr, by rw [hxl'], trivial, hblk, by omega, ?_, hr⟩)⟩, by omega, (elems.map (·.1)).map bk, by simp [hxl], ?_, ?_, ?_⟩
  · rcases hz with hz | hz
    · exact hz
    · rw [hz] at hxl'; simp at hxl'; omega
  · intro j hj
    obtain ⟨d, _, rfl⟩ := List.mem_map.1 hj
    exact hB.pos d
  · have := hB.sl (elems.map (·.1)) (rest.map (·.1))
    simp only at this ⊢; omega
  · intro i x j hx hj
    simp only [List.getElem?_map, Option.map_eq_some_iff] at hj
    obtain ⟨d, ⟨y, hy, rfl⟩, rfl⟩ := hj
    exact hg i x y hx hy
/-- the fields of a structure from one on -/
def OpnF {α : Type} (enc : TypeId × Value → H) (P : Program) (w : World) (bk : DataW H → Nat) (fs : List Field) (off : Nat) (R : Rep α) (G : α → Nat → Prop) : Prop :=
  ∀ (base n : Nat) (cs : List Value) (xs : List (DataW H × List MemPlace)), xs.length = fs.length → off + R.n = cs.length →
    (∀ (i : Nat) (f : Field), fs[i]? = some f → DataW.trod enc P w base (fun _ => true) true n f.type ((cs.drop f.offset).take (P.cellsOf f.type)) = xs[i]?) →
    ∃ d, R.ok w AllW (cs.drop off) d ∧ G d ((xs.map fun x => bk x.1).sum)
theorem OpnF.one {α : Type} {f : Field} {off : Nat} {R : Rep α} {G : α → Nat → Prop} (ho : f.offset = off) (hc : P.cellsOf f.type = R.n) (h : Opn enc P w bk f.type R G) : OpnF enc P w bk [f] off R G := by
  intro base n cs xs hx hl hi
  have h0 := hi 0 f rfl
  match xs, hx with
  | [x], _ =>
    rw [ho, hc] at h0
    obtain ⟨d, hd, hg⟩ := h _ _ _ _ h0
    refine ⟨d, ?_, by simpa using hg⟩
    rwa [List.take_of_length_le (by rw [List.length_drop]; omega)] at hd
theorem OpnF.cons {α β : Type} {f : Field} {fs : List Field} {off : Nat} {R : Rep α} {S : Rep β} {G : α → Nat → Prop} {G' : β → Nat → Prop} (ho : f.offset = off) (hc : P.cellsOf f.type = R.n) (h : Opn enc P w bk f.type R G) (k : OpnF enc P w bk fs (off + R.n) S G') :
    OpnF enc P w bk (f :: fs) off (Rep.pair R S) (fun d j => ∃ a b, a + b ≤ j ∧ G d.1 a ∧ G' d.2 b) := by
  intro base n cs xs hx hl hi
  have h0 := hi 0 f rfl
  match xs, hx with
  | x :: xs, hx =>
    rw [ho, hc] at h0
    obtain ⟨d, hd, hg⟩ := h _ _ _ _ h0
    have hn : (Rep.pair R S).n = R.n + S.n := rfl
    rw [hn] at hl
    obtain ⟨d', hd', hg'⟩ := k base n cs xs (by simpa using hx) (by omega) (fun i f' hf => by simpa using hi (i + 1) f' (by simpa using hf))
    refine ⟨(d, d'), ⟨_, _, ?_, hd, hd'⟩, _, _, ?_, hg, hg'⟩
    · rw [← List.drop_drop, List.take_append_drop]
    · simp
theorem Opn.struct {α β : Type} {t : TypeId} {fs : Array Field} {R : Rep α} {G : α → Nat → Prop} (hB : BulkOk bk) (f : β → α) (g : α → β) (hfg : ∀ x, f (g x) = x) (ht : P.underlying t = some (.struct fs)) (hc : P.cellsOf t = R.n) (h : OpnF enc P w bk fs.toList 0 R G) :
    Opn enc P w bk t (Rep.via R f) (fun d j => ∃ k, k < j ∧ G (f d) k) := by
  intro base fuel cs x hx
  obtain ⟨xs, n, _, rfl, hl, hxl, hi⟩ := DataW.trod_struct ht hx
  obtain ⟨d, hd, hg⟩ := h base n cs xs (by simpa using hxl) (by omega) (fun i f' hf => hi i f' (by simpa using hf))
  refine ⟨g d, ?_, _, ?_, by rw [hfg]; exact hg⟩
  · show R.ok w AllW cs (f (g d))
    rw [hfg]; simpa using hd
  · have := hB.ag (xs.map (·.1))
    simp only [List.map_map] at this
    exact this
end
end Go.Lg
