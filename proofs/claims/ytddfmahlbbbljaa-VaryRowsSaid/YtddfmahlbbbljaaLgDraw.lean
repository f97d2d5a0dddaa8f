/- Lemmas about the given model and about plain data, which the rows stand on: no statement of the program by itself. -/
import Derived.Test.YtddfmahlbbbljaaLgGen
import Derived.OrdersHeld
import Derived.Deep.RegionHeld3
set_option linter.unusedVariables false
namespace Go.Lg
open Go

/-! ### cells that are read, as a fact that is handed on -/
structure CAt (ls : List Nat) (O : Own) (w : World) (b off : Nat) (cs : List Value) : Prop where
  lab : O b ∈ ls
  lt : b < w.heap.size
  at_ : CellsAt w b off cs
theorem CAt.st {ls L : List Nat} {O O' : Own} {w w' : World} {b off : Nat} {cs : List Value} (h : CAt ls O w b off cs) (hs : Stp L O w O' w') (hd : ls.all (fun x => !L.contains x) = true) : CAt ls O' w' b off cs := by
  have hn : O b ∉ L := by
    have := List.all_eq_true.1 hd _ h.lab
    simpa using this
  refine ⟨by rw [hs.lab b h.lt hn]; exact h.lab, Nat.lt_of_lt_of_le h.lt hs.size, ?_⟩
  obtain ⟨cells, t, fr, hb, hc⟩ := h.at_
  exact ⟨cells, t, fr, (hs.blk b h.lt hn).trans hb, hc⟩
theorem CellsAt.lt {w : World} {b off : Nat} {cs : List Value} (h : CellsAt w b off cs) : b < w.heap.size := by
  obtain ⟨cells, t, fr, hb, hc⟩ := h; exact blk_lt hb
theorem Sl.at2 {α : Type} {R : Rep α} {A : Nat → Prop} {w : World} {v : Value} {xs : List α} {i : Int} {x : α} (h : Sl R w A v xs) (hi : idx xs i = some x) :
    ∃ b off cap cs, v = .slice (some ⟨b, off, none⟩) xs.length cap ∧ 0 ≤ i ∧ i < xs.length ∧ CellsAt w b (off + i.toNat * R.n) cs ∧ R.ok w A cs x ∧ A b := by
  obtain ⟨b, off, cap, cs, e, h0, h1, h2, _, h4⟩ := h.at hi
  refine ⟨b, off, cap, cs, e, h0, h1, h2, h4, ?_⟩
  rcases h with ⟨e2, rfl⟩ | ⟨_, _, _, rfl⟩ | ⟨b2, off2, cap2, cells, t, fr, e2, hA, _⟩
  · simp [idx] at hi
  · simp [idx] at hi
  · rw [e2] at e; cases e; exact hA
theorem CAt.imm {O : Own} {w : World} {b off : Nat} {cs : List Value} (h : CellsAt w b off cs) (hl : Lg.imm O b) : CAt [0, 1] O w b off cs :=
  ⟨by unfold Lg.imm at hl; simp; omega, h.lt, h⟩
theorem CAt.frs {O : Own} {w : World} {b off : Nat} {cs : List Value} (h : CellsAt w b off cs) (hl : Lg.frs O b) : CAt [0, 1] O w b off cs :=
  ⟨by unfold Lg.frs at hl; simp; omega, h.lt, h⟩
theorem CAt.own {α : Type} {ℓ : Nat} {R : Rep α} {e : TypeId} {O : Own} {w : World} {v : Value} {xs : List α} {b off len cap : Nat} {cs : List Value} (ho : OwnSl ℓ R e O w v xs) (hv : v = .slice (some ⟨b, 0, none⟩) len cap) (h : CellsAt w b off cs) : CAt [ℓ] O w b off cs :=
  ⟨by have := (ho.labs b (by rw [hv]; rfl)).1; simp [this], h.lt, h⟩

/-! ### Regions that draw their order -/
def HW (L : List Nat) (O : Own) (w : World) : World → Prop := fun w' => ∃ O', Stp L O w O' w'
theorem wpAnyH_mono {P : Program} {md : Region.Mode} {ops : Array Oper} {Q : Exit → Act → World → Prop} {S S' : World → Prop} (hS : ∀ w, S w → S' w) :
    ∀ (fuel : Nat) (listed : Array Bool) (a : Act) (w : World), wpAnyH P md ops Q S fuel listed a w → wpAnyH P md ops Q S' fuel listed a w
  | 0, _, _, _, h => h
  | fuel + 1, _, _, _, h => ⟨h.1, fun i hi => wpOp_mono (fun a' w' h' => ⟨hS _ h'.1, wpAnyH_mono hS fuel _ a' w' h'.2⟩) (h.2 i hi)⟩

/-- which have come up -/
def done (m : Nat) (S : List Nat) : Array Bool := ((List.range m).map fun j => S.contains j).toArray
theorem done_set (m i : Nat) (S : List Nat) : (done m S).setIfInBounds i true = done m (i :: S) := by
  apply Array.ext
  · simp [done]
  · intro j h1 h2
    simp only [done, List.setIfInBounds_toArray, List.getElem_toArray, List.getElem_set, List.getElem_map, List.getElem_range, List.contains_cons]
    by_cases e : i = j
    · subst e; simp
    · have : (j == i) = false := by simpa using fun h => e h.symm
      simp [e, this]
theorem done_nil (m : Nat) : Array.replicate m false = done m [] := by
  apply Array.ext
  · simp [done]
  · intro j h1 h2; simp [done]

def WD (P : Program) (n : Nat) (l : List Oper) (Q : Exit → Act → World → Prop) (L : List Nat) (f : Nat) (S : List Nat) (ρ : Env) (O : Own) (w : World) : Prop :=
  ∀ a, Fits n ρ a → wpAnyH P .any l.toArray (NoPanic Q) (HW L O w) f (done l.length S) a w
def lightB (l : List Oper) (S : List Nat) (i : Nat) : Bool :=
  Region.noSelect l.toArray && Region.free .any l.toArray (done l.length S) i && (Region.ready .any l.toArray (done l.length S)).contains i
def heavyB (l : List Oper) (S : List Nat) (i : Nat) : Bool := decide (Region.ready .any l.toArray (done l.length S) = [i])
def endB (l : List Oper) (S : List Nat) : Bool := (Region.ready .any l.toArray (done l.length S)).isEmpty

/-- behind a heavy operation -/
def DQ (P : Program) (l : List Oper) (Q : Exit → Act → World → Prop) (L : List Nat) (f : Nat) (S : List Nat) (O : Own) (w : World) : Exit → Act → World → Prop
  | .normal, a, w' => ∃ O', Stp L O w O' w' ∧ wpAnyH P .any l.toArray (NoPanic Q) (HW L O' w') f (done l.length S) a w'
  | e, a, w' => NoPanic Q e a w'

section
variable {P : Program} {n : Nat} {l : List Oper} {Q : Exit → Act → World → Prop} {L : List Nat} {f : Nat} {S : List Nat} {ρ : Env} {O : Own} {w : World}
variable {d : Nat} {ty : TypeId} {pos : String} {aft : Array Edge} {op : Op}

theorem WC.drawH {id : Nat} (L : List Nat) (O : Own) (m : Nat) (hm : P.follows .mixedOrders = true) (hl : l.length = m)
    (h : ∀ w', Stp [] O w O w' → WD P n l Q L m [] ρ O w') : WC P n Q (.region id l.toArray true) ρ w := fun a ha => by
  refine wp_region_noPanic (wp_region_held (S := HW L O w.drew) hm ?_)
  have := h _ stp_drew a ha
  rw [← hl] at this
  rw [show l.toArray.size = l.length by simp, done_nil]
  exact this
theorem WD.sub {ρ' : Env} (hs : Sub ρ' ρ) (h : WD P n l Q L f S ρ' O w) : WD P n l Q L f S ρ O w := fun a ha => h a (ha.sub hs)
theorem WD.done_ (hb : endB l S = true) (h : At n Q .normal ρ w) : WD P n l Q L f S ρ O w := fun a ha =>
  wpAnyH_done (Q := NoPanic Q) (by simpa [endB, List.isEmpty_iff] using hb) (show NoPanic Q .normal a w from h a ha) _
theorem npQ {dst : Option Tmp} {v : Value} : ∀ c (a : Act) (w : World), NoPanic Q (.panic c) (a.put dst v) w → NoPanic Q (.panic c) a w := fun _ _ _ h => h
theorem WD.take {o : Oper} {v : Value} (i : Nat) (hi : l[i]? = some o) (hb : lightB l S i = true) {a : Act}
    (hy : YieldsIf P l.toArray (HW L O w) o v a) (h : wpAnyH P .any l.toArray (NoPanic Q) (HW L O w) f (done l.length (i :: S)) (a.put o.dst v) w) :
    wpAnyH P .any l.toArray (NoPanic Q) (HW L O w) (f + 1) (done l.length S) a w := by
  simp only [lightB, Bool.and_eq_true] at hb
  refine wpAnyH_take (by simpa using hi) hb.1.1 hb.1.2 hb.2 npQ hy ⟨O, Stp.refl _ _ _⟩ ?_
  rw [done_set]; exact h
theorem WD.y {v : Value} (i : Nat) (hi : l[i]? = some ⟨some d, op, ty, pos, aft, none⟩) (hb : lightB l S i = true) (hy : ∀ w' O', Stp L O w O' w' → Y P op ty ρ w' v) (hd : Nat.blt d n = true)
    (h : WD P n l Q L f (i :: S) ((d, v) :: ρ) O w) : WD P n l Q L (f + 1) S ρ O w := fun a ha => by
  refine WD.take i hi hb (.inl ⟨rfl, fun w' ⟨O', hs⟩ => ?_⟩) (h _ (ha.put hd v))
  exact hy w' O' hs a n _ ha rfl rfl
theorem WD.yE {v v' : Value} (i : Nat) (hi : l[i]? = some ⟨some d, op, ty, pos, aft, none⟩) (hb : lightB l S i = true) (hy : ∀ w' O', Stp L O w O' w' → Y P op ty ρ w' v) (hv : v = v') (hd : Nat.blt d n = true)
    (h : WD P n l Q L f (i :: S) ((d, v') :: ρ) O w) : WD P n l Q L (f + 1) S ρ O w := WD.y i hi hb (fun w' O' hs => hv ▸ hy w' O' hs) hd h
theorem WD.gT {v : Value} (i : Nat) {j s : Nat} {b : Bool} (hi : l[i]? = some ⟨some d, op, ty, pos, aft, some (j, b)⟩) (hb : lightB l S i = true) (hj : (l[j]?).bind (·.dst) = some s) (hs : lk ρ s = some (.bool b)) (hy : ∀ w' O', Stp L O w O' w' → Y P op ty ρ w' v) (hd : Nat.blt d n = true)
    (h : WD P n l Q L f (i :: S) ((d, v) :: ρ) O w) : WD P n l Q L (f + 1) S ρ O w := fun a ha => by
  refine WD.take i hi hb (.inl ⟨by simp [Region.wanted, yielded_of ha hj hs], fun w' ⟨O', hs⟩ => ?_⟩) (h _ (ha.put hd v))
  exact hy w' O' hs a n _ ha rfl rfl
theorem WD.gS {v : Value} (i : Nat) {j s : Nat} {b : Bool} (hi : l[i]? = some ⟨some d, op, ty, pos, aft, some (j, b)⟩) (hb : lightB l S i = true) (hj : (l[j]?).bind (·.dst) = some s) (hs : lk ρ s = some v) (hv : (match v with | .bool c => c == b | _ => false) = false) (hd : Nat.blt d n = true)
    (h : WD P n l Q L f (i :: S) ((d, undef) :: ρ) O w) : WD P n l Q L (f + 1) S ρ O w := fun a ha =>
  WD.take i hi hb (.inr ⟨by simp only [Region.wanted, skipped ha hj hs hv], rfl⟩) (h _ (ha.put hd undef))
theorem WD.ren {v v' : Value} (s : Nat) (hs : lk ρ s = some v) (hv : v = v') (h : WD P n l Q L f S ((s, v') :: ρ) O w) : WD P n l Q L f S ρ O w := by
  subst hv
  intro a ha
  refine h a ⟨ha.defers, ha.size, fun i u hu => ?_⟩
  simp only [lk] at hu
  by_cases e : s = i
  · subst e; simp at hu; subst hu; exact ha.get s _ hs
  · have : Nat.beq s i = false := Bool.eq_false_iff.2 fun h => e (Nat.eq_of_beq_eq_true h)
    rw [this] at hu
    exact ha.get i u hu
theorem WD.part (s : Nat) {B : Bool} (hs : lk ρ s = some (.bool B)) (ht : B = true → WD P n l Q L f S ((s, .bool true) :: ρ) O w) (hf : B = false → WD P n l Q L f S ((s, .bool false) :: ρ) O w) : WD P n l Q L f S ρ O w := by
  cases hB : B with
  | true => exact WD.ren s (hB ▸ hs) rfl (ht hB)
  | false => exact WD.ren s (hB ▸ hs) rfl (hf hB)
theorem WD.one {o : Oper} (i : Nat) (hi : l[i]? = some o) (h : WL P n l.toArray (DQ P l Q L f (i :: S) O w) [o] ρ w) {a : Act} (ha : Fits n ρ a) :
    wpOp P l.toArray (NoPanic Q) i (fun a' w' => HW L O w w' ∧ wpAnyH P .any l.toArray (NoPanic Q) (HW L O w) f ((done l.length S).setIfInBounds i true) a' w') a w := by
  have h1 := h a ha
  have hi' : l.toArray[i]? = some o := by simpa using hi
  unfold wpOp
  simp only [hi']
  have key : ∀ (a' : Act) (w' : World), wpList P l.toArray (DQ P l Q L f (i :: S) O w) [] a' w' → HW L O w w' ∧ wpAnyH P .any l.toArray (NoPanic Q) (HW L O w) f ((done l.length S).setIfInBounds i true) a' w' := by
    intro a' w' h2
    obtain ⟨O', hs, h3⟩ := h2
    refine ⟨⟨O', hs⟩, ?_⟩
    rw [done_set]
    exact wpAnyH_mono (fun w'' ⟨O'', hs'⟩ => ⟨O'', hs.trans hs'⟩) _ _ _ _ h3
  simp only [wpList] at h1
  split
  · rename_i hw
    rw [if_pos hw] at h1
    rcases h1 with h1 | ⟨h1, a0, w0, h2⟩
    · refine .inl ?_
      revert h1
      unfold Oper.wp
      generalize (execOp a.eval o).run P w = r
      intro h1
      unfold Oper.upon at h1 ⊢
      split at h1
      · exact key _ _ h1
      · exact key _ _ h1
      · exact key _ _ h1
      · refine Calls.mono h1 ?_
        intro e w' h'
        cases e with
        | returned v => exact key _ _ h'
        | panicked c => exact h'
        | outgrown => obtain ⟨a0, w0, h2⟩ := h'; exact ⟨a0, w0, h2⟩
      · refine Rows.mono h1 ?_
        intro v w' h'
        exact key _ _ h'
      · exact h1
      · exact h1.elim
    · exact .inr ⟨h1, a0, w0, h2⟩
  · rename_i hw
    rw [if_neg hw] at h1
    exact key _ _ h1
/-- a heavy one: none else may come up -/
theorem WD.heavy {o : Oper} (i : Nat) (hi : l[i]? = some o) (hb : heavyB l S i = true) (h : WL P n l.toArray (DQ P l Q L f (i :: S) O w) [o] ρ w) : WD P n l Q L (f + 1) S ρ O w := fun a ha => by
  refine wpAnyH_all (rs := [i]) (by simpa [heavyB] using hb) (by simp) fun j hj => ?_
  have : j = i := by simpa using hj
  subst this
  exact WD.one j hi h ha
def heavyB2 (l : List Oper) (S : List Nat) (i j : Nat) : Bool := decide (Region.ready .any l.toArray (done l.length S) = [i, j])
/-- two, none ahead of the other -/
theorem WD.heavy2 {o o' : Oper} (i j : Nat) (hi : l[i]? = some o) (hj : l[j]? = some o') (hb : heavyB2 l S i j = true) (h : WL P n l.toArray (DQ P l Q L f (i :: S) O w) [o] ρ w) (h' : WL P n l.toArray (DQ P l Q L f (j :: S) O w) [o'] ρ w) : WD P n l Q L (f + 1) S ρ O w := fun a ha => by
  refine wpAnyH_all (rs := [i, j]) (by simpa [heavyB2] using hb) (by simp) fun k hk => ?_
  have hk' : k = i ∨ k = j := by simpa using hk
  rcases hk' with e | e
  · subst e; exact WD.one k hi h ha
  · subst e; exact WD.one k hj h' ha
theorem WD.perm (S S' : List Nat) (hb : (List.range l.length).all (fun j => S.contains j == S'.contains j) = true) (h : WD P n l Q L f S' ρ O w) : WD P n l Q L f S ρ O w := by
  have e : done l.length S = done l.length S' := by
    unfold done
    congr 1
    apply List.map_congr_left
    intro j hj
    have := List.all_eq_true.1 hb j hj
    simpa using this
  unfold WD
  rw [e]
  exact h
theorem At.dq {O' : Own} {w' : World} {ρ' : Env} (hs : Stp L O w O' w') (h : WD P n l Q L f S ρ' O' w') : At n (DQ P l Q L f S O w) .normal ρ' w' := fun a ha => ⟨O', hs, h a ha⟩
/-- ways that meet again -/
theorem WD.join {σ : Type} {f' : Nat} (S' : List Nat) (I : σ → Own → World → Prop) (env : σ → Env) (h : (∀ s O' w' ρ', I s O' w' → Sub (env s) ρ' → WD P n l Q L f' S' ρ' O' w') → WD P n l Q L f S ρ O w)
    (hJ : ∀ s O' w', I s O' w' → WD P n l Q L f' S' (env s) O' w') : WD P n l Q L f S ρ O w :=
  h fun s O' w' _ hi hs => (hJ s O' w' hi).sub hs
end
end Go.Lg
namespace Go.Lg
open Go
section
variable {P : Program} {n : Nat} {ops : Array Oper} {Q : Exit → Act → World → Prop} {ρ : Env} {w : World} {rest : List Oper} {O : Own}
theorem Sl.slice {α : Type} {R : Rep α} {A : Nat → Prop} {t e : TypeId} {sz0 by0 by1 : Nat} {z0 z : Value} {ed : TypeDesc} {x : Operand} {lo hi : Option Operand} {l h : Int} {v : Value} {xs ys : List α}
    (ht : TyOk P t (.slice e) sz0 by0 z0) (he : TyOk P e ed R.n by1 z) (hx : ev ρ x = some v) (hlo : evI ρ lo 0 = some l) (hhi : evI ρ hi xs.length = some h) (hsl : Sl R w A v xs) (hs : slc xs l h = some ys) :
    ∃ v', (∀ (w' : World) (ty : TypeId), Y P (.slice t x lo hi none) ty ρ w' v') ∧ Sl R w A v' ys := by
  obtain ⟨h0, h1, h2, rfl⟩ := slc_spec hs
  rcases hsl with ⟨rfl, rfl⟩ | ⟨q, c, rfl, rfl⟩ | ⟨b, off, cap, cells, t', fr, rfl, hA, hb, hc, hz, hr⟩
  · have hl : l = 0 := by simp at h2; omega
    have hh : h = 0 := by simp at h2; omega
    subst hl; subst hh
    refine ⟨.slice none 0 0, fun w' ty a n o ha ho _ => ?_, .inl ⟨rfl, by simp⟩⟩
    have := run_sliceAt (w := w') (q := none) (len := 0) (cap := 0) ht he ha hlo hhi (Int.le_refl _) (Int.le_refl _) (by simp) (by simp)
    simp only [execOp, ho, ha.eval hx, Option.map_none, Sem.run_bind, this, Result.andThen_ok, Sem.run_pure]
    simp
  · have hl : l = 0 := by simp at h2; omega
    have hh : h = 0 := by simp at h2; omega
    subst hl; subst hh
    refine ⟨.slice (if c = 0 then some q else (some q).map (·.add (0 * R.n))) 0 c, fun w' ty a n o ha ho _ => ?_, .inr (.inl ⟨if c = 0 then q else q.add (0 * R.n), c, by by_cases hc : c = 0 <;> simp [hc], by simp⟩)⟩
    have := run_sliceAt (w := w') (q := some q) (len := 0) (cap := c) ht he ha hlo hhi (Int.le_refl _) (Int.le_refl _) (by simp) (by simp)
    simp only [execOp, ho, ha.eval hx, Option.map_none, Sem.run_bind, this, Result.andThen_ok, Sem.run_pure]
    simp
  · have hlen : ((xs.take h.toNat).drop l.toNat).length = h.toNat - l.toNat := by rw [List.length_drop, List.length_take]; omega
    refine ⟨.slice (if cap = l.toNat then some (⟨b, off, none⟩ : Addr) else (some (⟨b, off, none⟩ : Addr)).map (·.add (l.toNat * R.n))) (h.toNat - l.toNat) (cap - l.toNat), fun w' ty a n o ha ho _ => ?_, ?_⟩
    rotate_left
    · have e3 : (if cap = l.toNat then some (⟨b, off, none⟩ : Addr) else (some (⟨b, off, none⟩ : Addr)).map (·.add (l.toNat * R.n))) = some ⟨b, if cap = l.toNat then off else off + l.toNat * R.n, none⟩ := by
        split <;> simp [Addr_add]
      rw [e3]
      have hmul : (l.toNat + (h.toNat - l.toNat)) * R.n ≤ xs.length * R.n := Nat.mul_le_mul_right _ (by omega)
      rw [Nat.add_mul] at hmul
      refine .inr <| .inr ⟨b, _, cap - l.toNat, cells, t', fr, by rw [hlen], hA, hb, by rw [hlen]; omega, ?_, ?_⟩
      · rw [hlen]
        split
        · have : h.toNat - l.toNat = 0 := by omega
          rw [this]; omega
        · omega
      · rw [hlen]
        by_cases hcl : cap = l.toNat
        · have h5 : h.toNat - l.toNat = 0 := by omega
          have h6 : (xs.take h.toNat).drop l.toNat = [] := by apply List.eq_nil_of_length_eq_zero; rw [hlen, h5]
          rw [h5, h6, Nat.zero_mul, List.take_zero]; rfl
        · rw [if_neg hcl]
          have h7 := Rows'.drop l.toNat (Rows'.take h.toNat hr)
          have e5 : ((((cells.toList.drop off).take (xs.length * R.n)).take (h.toNat * R.n)).drop (l.toNat * R.n)) = ((cells.toList.drop (off + l.toNat * R.n)).take ((h.toNat - l.toNat) * R.n)) := by
            have hm2 : h.toNat * R.n ≤ xs.length * R.n := Nat.mul_le_mul_right _ (by omega)
            rw [List.take_take, Nat.min_eq_left hm2, List.drop_take, List.drop_drop, Nat.sub_mul]
          rw [e5] at h7
          exact h7
    · have := run_sliceAt (w := w') ht he ha hlo hhi h0 h1 h2 hc (q := some ⟨b, off, none⟩)
      simp only [execOp, ho, ha.eval hx, Option.map_none, Sem.run_bind, this, Result.andThen_ok, Sem.run_pure]
/-- a guard that says yes: as if there were none -/
theorem WL.ung {l : List Oper} {j s : Nat} {b : Bool} {dst : Option Tmp} {op : Op} {ty : TypeId} {pos : String} {aft : Array Edge} (hj : (l[j]?).bind (·.dst) = some s) (hs : lk ρ s = some (.bool b))
    (h : WL P n l.toArray Q (⟨dst, op, ty, pos, aft, none⟩ :: rest) ρ w) : WL P n l.toArray Q (⟨dst, op, ty, pos, aft, some (j, b)⟩ :: rest) ρ w := by
  intro a ha
  have h1 := h a ha
  have e1 : Region.wanted ⟨dst, op, ty, pos, aft, some (j, b)⟩ (yielded l.toArray a.tmps) = true := by simp [Region.wanted, yielded_of ha hj hs]
  have e2 : Region.wanted ⟨dst, op, ty, pos, aft, none⟩ (yielded l.toArray a.tmps) = true := rfl
  simp only [wpList, e1, e2, if_true] at h1 ⊢
  exact h1
theorem WS.ung {G : Act → Prop} {l : List Oper} {j s : Nat} {b : Bool} {dst : Option Tmp} {op : Op} {ty : TypeId} {pos : String} {aft : Array Edge} (hj : (l[j]?).bind (·.dst) = some s) (hs : lk ρ s = some (.bool b))
    (h : WS P n l.toArray w G (⟨dst, op, ty, pos, aft, none⟩ :: rest) ρ) : WS P n l.toArray w G (⟨dst, op, ty, pos, aft, some (j, b)⟩ :: rest) ρ := by
  intro a ha
  have h1 := h a ha
  have e1 : Region.wanted ⟨dst, op, ty, pos, aft, some (j, b)⟩ (yielded l.toArray a.tmps) = true := by simp [Region.wanted, yielded_of ha hj hs]
  have e2 : Region.wanted ⟨dst, op, ty, pos, aft, none⟩ (yielded l.toArray a.tmps) = true := rfl
  simp only [wpStill, e1, e2, if_true] at h1 ⊢
  exact h1
end
end Go.Lg
namespace Go.Lg
open Go
theorem Y.sub {P : Program} {op : Op} {ty : TypeId} {ρ ρ' : Env} {w : World} {v : Value} (hs : Sub ρ' ρ) (h : Y P op ty ρ' w v) : Y P op ty ρ w v :=
  fun a n o ha ho ht => h a n o (ha.sub hs) ho ht
end Go.Lg
namespace Go.Lg
open Go
theorem WD.own {P : Program} {n : Nat} {l : List Oper} {Q : Exit → Act → World → Prop} {L : List Nat} {f : Nat} {S : List Nat} {ρ : Env} {O O' : Own} {w : World} (hs : Stp L O w O' w) (h : WD P n l Q L f S ρ O' w) : WD P n l Q L f S ρ O w :=
  fun a ha => wpAnyH_mono (fun _ ⟨O'', hs'⟩ => ⟨O'', hs.trans hs'⟩) _ _ _ _ (h a ha)
end Go.Lg
