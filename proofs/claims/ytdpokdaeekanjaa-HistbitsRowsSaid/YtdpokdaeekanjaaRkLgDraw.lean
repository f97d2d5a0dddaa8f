/- Lemmas about the given model and about plain data, which the rows stand on: no statement of the program by itself. -/
import Derived.Test.YtdpokdaeekanjaaRkLgGen
import Derived.OrdersHeld
import Derived.Deep.RegionHeld3
set_option linter.unusedVariables false
namespace Go.Lg
open Go
/-! ### cells that are read, as a fact that is handed on -/
structure CAt (ls : List Nat) (O : Own) (w : World) (b off : Nat) (cs : List Value) : Prop where
  lab : O b ∈ ls
  lt : b < w.heap.size
  at_ : CellsAt w b off cs
theorem CAt.st {ls L : List Nat} {O O' : Own} {w w' : World} {b off : Nat} {cs : List Value} (h : CAt ls O w b off cs) (hs : Stp L O w O' w') (hd : ls.all (fun x => !L.contains x) = true) : CAt ls O' w' b off cs := by
  have hn : O b ∉ L := by
    have := List.all_eq_true.1 hd _ h.lab
    simpa using this
  refine ⟨by rw [hs.lab b h.lt hn]; exact h.lab, Nat.lt_of_lt_of_le h.lt hs.size, ?_⟩
  obtain ⟨cells, t, fr, hb, hc⟩ := h.at_
  exact ⟨cells, t, fr, (hs.blk b h.lt hn).trans hb, hc⟩
theorem CellsAt.lt {w : World} {b off : Nat} {cs : List Value} (h : CellsAt w b off cs) : b < w.heap.size := by
  obtain ⟨cells, t, fr, hb, hc⟩ := h; exact blk_lt hb
theorem Sl.at2 {α : Type} {R : Rep α} {A : Nat → Prop} {w : World} {v : Value} {xs : List α} {i : Int} {x : α} (h : Sl R w A v xs) (hi : idx xs i = some x) :
    ∃ b off cap cs, v = .slice (some ⟨b, off, none⟩) xs.length cap ∧ 0 ≤ i ∧ i < xs.length ∧ CellsAt w b (off + i.toNat * R.n) cs ∧ R.ok w A cs x ∧ A b := by
  obtain ⟨b, off, cap, cs, e, h0, h1, h2, _, h4⟩ := h.at hi
  refine ⟨b, off, cap, cs, e, h0, h1, h2, h4, ?_⟩
  rcases h with ⟨e2, rfl⟩ | ⟨_, _, _, rfl⟩ | ⟨b2, off2, cap2, cells, t, fr, e2, hA, _⟩
  · simp [idx] at hi
  · simp [idx] at hi
  · rw [e2] at e; cases e; exact hA
theorem CAt.imm {O : Own} {w : World} {b off : Nat} {cs : List Value} (h : CellsAt w b off cs) (hl : Lg.imm O b) : CAt [0, 1] O w b off cs :=
  ⟨by unfold Lg.imm at hl; simp; omega, h.lt, h⟩
theorem CAt.frs {O : Own} {w : World} {b off : Nat} {cs : List Value} (h : CellsAt w b off cs) (hl : Lg.frs O b) : CAt [0, 1] O w b off cs :=
  ⟨by unfold Lg.frs at hl; simp; omega, h.lt, h⟩
theorem CAt.own {α : Type} {ℓ : Nat} {R : Rep α} {e : TypeId} {O : Own} {w : World} {v : Value} {xs : List α} {b off len cap : Nat} {cs : List Value} (ho : OwnSl ℓ R e O w v xs) (hv : v = .slice (some ⟨b, 0, none⟩) len cap) (h : CellsAt w b off cs) : CAt [ℓ] O w b off cs :=
  ⟨by have := (ho.labs b (by rw [hv]; rfl)).1; simp [this], h.lt, h⟩
/-! ### Regions that draw their order -/
def HW (L : List Nat) (O : Own) (w : World) : World → Prop := fun w' => ∃ O', Stp L O w O' w'
/-! phases: F is what comes up before the cut; what waits beyond waits for all of F -/
def Closed (ops : Array Oper) (listed : Array Bool) : Prop := ∀ (k : Nat) (ok : Oper), ops[k]? = some ok → listed.getD k false = true → ∀ e ∈ ok.after, Region.binds .any e = true → listed.getD e.on false = true
def Waits (ops : Array Oper) (j i : Nat) : Prop := ∃ oj, ops[j]? = some oj ∧ ∃ e ∈ oj.after, Region.binds .any e = true ∧ e.on = i
def Cut (ops : Array Oper) (F : List Nat) : Prop := ∀ j, j < ops.size → j ∉ F → ∀ i ∈ F, Waits ops j i ∨ ∃ k ∈ F, Waits ops j k ∧ Waits ops k i
def waitsB (l : List Oper) (j i : Nat) : Bool := match l[j]? with
  | some o => o.after.toList.any fun e => Region.binds .any e && e.on == i
  | none => false
def cutB (l : List Oper) (F : List Nat) : Bool := (List.range l.length).all fun j => F.contains j || F.all fun i => waitsB l j i || F.any fun k => waitsB l j k && waitsB l k i
theorem waitsB_spec {l : List Oper} {j i : Nat} (h : waitsB l j i = true) : Waits l.toArray j i := by
  unfold waitsB at h
  split at h
  · rename_i o ho
    obtain ⟨e, he, h2⟩ := List.any_eq_true.1 h
    simp only [Bool.and_eq_true, beq_iff_eq] at h2
    exact ⟨o, by simpa using ho, e, by simpa using he, h2.1, h2.2⟩
  · cases h
theorem cutB_spec {l : List Oper} {F : List Nat} (h : cutB l F = true) : Cut l.toArray F := by
  intro j hj hn i hi
  have h1 := List.all_eq_true.1 h j (by simpa using hj)
  simp only [Bool.or_eq_true] at h1
  rcases h1 with h1 | h1
  · exact absurd (by simpa using h1) hn
  · have h2 := List.all_eq_true.1 h1 i hi
    simp only [Bool.or_eq_true] at h2
    rcases h2 with h2 | h2
    · exact .inl (waitsB_spec h2)
    · obtain ⟨k, hk, h3⟩ := List.any_eq_true.1 h2
      simp only [Bool.and_eq_true] at h3
      exact .inr ⟨k, hk, waitsB_spec h3.1, waitsB_spec h3.2⟩
theorem Closed.set {ops : Array Oper} {listed : Array Bool} {j : Nat} (h : Closed ops listed) (hj : j ∈ Region.ready .any ops listed) : Closed ops (listed.setIfInBounds j true) := by
  obtain ⟨_, oj, hoj, hall⟩ := mem_ready.1 hj
  intro k ok hk hl e he hb
  by_cases hjk : j = k
  · subst hjk
    rw [hoj] at hk; cases hk
    exact getD_set_true (hall e he hb)
  · rw [getD_set_ne false hjk] at hl
    exact getD_set_true (h k ok hk hl e he hb)
def allIn (F : List Nat) (listed : Array Bool) : Bool := F.all fun i => listed.getD i false
def wpAnyC (P : Program) (ops : Array Oper) (Q : Exit → Act → World → Prop) (S : World → Prop) (F : List Nat) : Nat → Array Bool → Act → World → Prop
  | 0, listed, a, w => allIn F listed = true ∧ wpAny P .any ops Q 0 listed a w
  | fuel + 1, listed, a, w => (allIn F listed = true ∧ wpAny P .any ops Q (fuel + 1) listed a w) ∨
    (allIn F listed = false ∧ Region.ready .any ops listed ≠ [] ∧ ∀ i ∈ Region.ready .any ops listed, wpOp P ops Q i (fun a' w' => S w' ∧ wpAnyC P ops Q S F fuel (listed.setIfInBounds i true) a' w') a w)
section
variable {P : Program} {ops : Array Oper} {Q : Exit → Act → World → Prop} {S S' : World → Prop} {F : List Nat}
theorem wpAny_of_C : ∀ (fuel : Nat) (listed : Array Bool) (a : Act) (w : World), wpAnyC P ops Q S F fuel listed a w → wpAny P .any ops Q fuel listed a w
  | 0, _, _, _, h => h.2
  | fuel + 1, _, _, _, .inl h => h.2
  | fuel + 1, _, _, _, .inr h => ⟨fun h0 => absurd h0 h.2.1, fun i hi => wpOp_mono (fun a' w' h' => wpAny_of_C fuel _ a' w' h'.2) (h.2.2 i hi)⟩
theorem wpAnyC_cut {listed : Array Bool} {a : Act} {w : World} (hF : allIn F listed = true) : ∀ fuel, wpAny P .any ops Q fuel listed a w → wpAnyC P ops Q S F fuel listed a w
  | 0, h => ⟨hF, h⟩
  | _ + 1, h => .inl ⟨hF, h⟩
theorem wpAnyC_mono (hS : ∀ w, S w → S' w) : ∀ (fuel : Nat) (listed : Array Bool) (a : Act) (w : World), wpAnyC P ops Q S F fuel listed a w → wpAnyC P ops Q S' F fuel listed a w
  | 0, _, _, _, h => h
  | fuel + 1, _, _, _, .inl h => .inl h
  | fuel + 1, _, _, _, .inr h => .inr ⟨h.1, h.2.1, fun i hi => wpOp_mono (fun a' w' h' => ⟨hS _ h'.1, wpAnyC_mono hS fuel _ a' w' h'.2⟩) (h.2.2 i hi)⟩
theorem getD_false {listed : Array Bool} {i : Nat} (h : listed.getD i true = false) : listed.getD i false = false := by
  rcases Nat.lt_or_ge i listed.size with h' | h'
  · simp [h'] at h ⊢; exact h
  · simp [Array.getElem?_eq_none h'] at h
theorem allIn_false {listed : Array Bool} {i : Nat} (hi : i ∈ F) (h : listed.getD i true = false) : allIn F listed = false := by
  cases hc : allIn F listed with
  | false => rfl
  | true =>
    have := List.all_eq_true.1 hc i hi
    rw [getD_false h] at this; cases this
theorem wpAnyC_first {i : Nat} {oi : Oper} {v : Value} (hi : ops[i]? = some oi) (hiF : i ∈ F) (hcut : Cut ops F) (hsel : ∀ (j : Nat) (o : Oper) cs b, ops[j]? = some o → o.op ≠ .select cs b)
    (hQ : ∀ c a w, Q (.panic c) (a.put oi.dst v) w → Q (.panic c) a w) :
    ∀ (fuel : Nat) (listed : Array Bool) (a : Act) (w : World), Closed ops listed →
      (∀ j oj, ops[j]? = some oj → j ≠ i → listed.getD j true = false → (∀ e ∈ oj.after, Region.binds .any e = true → e.on ≠ i) → oi.apart ops oj = true) →
      i ∈ Region.ready .any ops listed → YieldsIf P ops S oi v a → S w →
      wpAnyC P ops Q S F fuel (listed.setIfInBounds i true) (a.put oi.dst v) w → wpAnyC P ops Q S F (fuel + 1) listed a w := by
  intro fuel
  induction fuel with
  | zero =>
    intro listed a w _ _ hr hy hS H
    refine .inr ⟨allIn_false hiF (mem_ready.1 hr).1, (fun h => by rw [h] at hr; cases hr), fun j hj => ?_⟩
    by_cases hji : j = i
    · subst hji; exact hy.wpOp hi hS ⟨hS, H⟩
    · have := ready_mono hj hji
      rw [H.2.1] at this
      cases this
  | succ fuel ih =>
    intro listed a w hcl hfree hr hy hS H
    have hun : listed.getD i false = false := getD_false (mem_ready.1 hr).1
    refine .inr ⟨allIn_false hiF (mem_ready.1 hr).1, (fun h => by rw [h] at hr; cases hr), fun j hj => ?_⟩
    by_cases hji : j = i
    · subst hji; exact hy.wpOp hi hS ⟨hS, H⟩
    · obtain ⟨hjun, oj, hoj, hall⟩ := mem_ready.1 hj
      have hnot : ∀ e ∈ oj.after, Region.binds .any e = true → e.on ≠ i := fun e he hb heq => by
        have h1 := hall e he hb
        rw [heq, hun] at h1; cases h1
      rcases H with ⟨hF, _⟩ | ⟨_, _, H⟩
      · exfalso
        by_cases hjF : j ∈ F
        · have h1 := List.all_eq_true.1 hF j hjF
          rw [getD_set_ne false (Ne.symm hji)] at h1
          rw [getD_false hjun] at h1; cases h1
        · have hjl : j < ops.size := (Array.getElem?_eq_some_iff.1 hoj).1
          rcases hcut j hjl hjF i hiF with ⟨o2, h2, e, he, hb, hon⟩ | ⟨k, _, ⟨o2, h2, e, he, hb, hon⟩, ⟨o3, h3, e3, he3, hb3, hon3⟩⟩
          · rw [hoj] at h2; cases h2
            exact hnot e he hb hon
          · rw [hoj] at h2; cases h2
            have h4 := hall e he hb
            rw [hon] at h4
            have h5 := hcl k o3 h3 h4 e3 he3 hb3
            rw [hon3, hun] at h5; cases h5
      have h1 := H j (ready_mono hj hji)
      have h2 := wpOp_putIf hoj (hfree j oj hoj hji hjun hnot) (fun cs b => hsel i oi cs b hi) (fun cs b => hsel j oj cs b hoj) hQ hy h1
      have hfree' : ∀ k ok, ops[k]? = some ok → k ≠ i → (listed.setIfInBounds j true).getD k true = false →
          (∀ e ∈ ok.after, Region.binds .any e = true → e.on ≠ i) → oi.apart ops ok = true := fun k ok hk hki hun hno => by
        refine hfree k ok hk hki ?_ hno
        by_cases hjk : j = k
        · subst hjk; exact hjun
        · rw [getD_set_ne true hjk] at hun; exact hun
      refine wpOp_mono (fun a' w' h3 => ⟨h3.2.1, ih (listed.setIfInBounds j true) a' w' (hcl.set hj) hfree' (ready_mono hr (Ne.symm hji)) h3.1 h3.2.1 ?_⟩) h2
      rw [Array.setIfInBounds_comm _ _ hji]
      exact h3.2.2
theorem wpAnyC_all {rs : List Nat} {fuel : Nat} {listed : Array Bool} {a : Act} {w : World} (hr : Region.ready .any ops listed = rs) (hne : rs ≠ []) (hF : allIn F listed = false)
    (h : ∀ i ∈ rs, wpOp P ops Q i (fun a' w' => S w' ∧ wpAnyC P ops Q S F fuel (listed.setIfInBounds i true) a' w') a w) : wpAnyC P ops Q S F (fuel + 1) listed a w :=
  .inr ⟨hF, hr ▸ hne, hr ▸ h⟩
end
/-- which have come up -/
def done (m : Nat) (S : List Nat) : Array Bool := ((List.range m).map fun j => S.contains j).toArray
theorem done_set (m i : Nat) (S : List Nat) : (done m S).setIfInBounds i true = done m (i :: S) := by
  apply Array.ext
  · simp [done]
  · intro j h1 h2
    simp only [done, List.setIfInBounds_toArray, List.getElem_toArray, List.getElem_set, List.getElem_map, List.getElem_range, List.contains_cons]
    by_cases e : i = j
    · subst e; simp
    · have : (j == i) = false := by simpa using fun h => e h.symm
      simp [e, this]
theorem done_nil (m : Nat) : Array.replicate m false = done m [] := by
  apply Array.ext
  · simp [done]
  · intro j h1 h2; simp [done]
def WD (P : Program) (n : Nat) (l : List Oper) (Q : Exit → Act → World → Prop) (L F : List Nat) (f : Nat) (S : List Nat) (ρ : Env) (O : Own) (w : World) : Prop :=
  Cut l.toArray F → Closed l.toArray (done l.length S) → ∀ a, Fits n ρ a → wpAnyC P l.toArray (NoPanic Q) (HW L O w) F f (done l.length S) a w
def lightB (l : List Oper) (F S : List Nat) (i : Nat) : Bool :=
  F.contains i && Region.noSelect l.toArray && Region.free .any l.toArray (done l.length S) i && (Region.ready .any l.toArray (done l.length S)).contains i
def heavyB (l : List Oper) (F S : List Nat) (i : Nat) : Bool := decide (Region.ready .any l.toArray (done l.length S) = [i]) && !allIn F (done l.length S)
def endB (l : List Oper) (F S : List Nat) : Bool := (Region.ready .any l.toArray (done l.length S)).isEmpty && allIn F (done l.length S)
/-- behind a heavy operation -/
def DQ (P : Program) (l : List Oper) (Q : Exit → Act → World → Prop) (L F : List Nat) (f : Nat) (S : List Nat) (O : Own) (w : World) : Exit → Act → World → Prop
  | .normal, a, w' => ∃ O', Stp L O w O' w' ∧ (Cut l.toArray F → Closed l.toArray (done l.length S) → wpAnyC P l.toArray (NoPanic Q) (HW L O' w') F f (done l.length S) a w')
  | e, a, w' => NoPanic Q e a w'
section
variable {P : Program} {n : Nat} {l : List Oper} {Q : Exit → Act → World → Prop} {L F : List Nat} {f : Nat} {S : List Nat} {ρ : Env} {O : Own} {w : World}
variable {d : Nat} {ty : TypeId} {pos : String} {aft : Array Edge} {op : Op}
theorem closed_nil : Closed l.toArray (done l.length []) := by
  intro k ok hk hl
  exfalso
  rw [← done_nil] at hl
  have hlt : k < l.length := by have := (Array.getElem?_eq_some_iff.1 hk).1; simpa using this
  simp [hlt] at hl
theorem WC.drawH {id : Nat} (L F : List Nat) (O : Own) (m : Nat) (hm : P.follows .mixedOrders = true) (hl : l.length = m) (hc : cutB l F = true)
    (h : ∀ w', Stp [] O w O w' → WD P n l Q L F m [] ρ O w') : WC P n Q (.region id l.toArray true) ρ w := fun a ha => by
  refine wp_region_noPanic (wp_region_any hm (wpAny_of_C (S := HW L O w.drew) (F := F) _ _ _ _ ?_))
  have := h _ stp_drew (cutB_spec hc) closed_nil a ha
  rw [← hl] at this
  rw [show l.toArray.size = l.length by simp, done_nil]
  exact this
theorem WD.sub {ρ' : Env} (hs : Sub ρ' ρ) (h : WD P n l Q L F f S ρ' O w) : WD P n l Q L F f S ρ O w := fun hc hk a ha => h hc hk a (ha.sub hs)
theorem wpAny_end {ops : Array Oper} {Q : Exit → Act → World → Prop} {listed : Array Bool} {a : Act} (hr : Region.ready .any ops listed = []) (h : Q .normal a w) : ∀ fuel, wpAny P .any ops Q fuel listed a w
  | 0 => ⟨hr, h⟩
  | _ + 1 => ⟨fun _ => h, by rw [hr]; simp⟩
theorem WD.done_ (hb : endB l F S = true) (h : At n Q .normal ρ w) : WD P n l Q L F f S ρ O w := fun _ _ a ha => by
  simp only [endB, Bool.and_eq_true] at hb
  exact wpAnyC_cut (Q := NoPanic Q) hb.2 _ (wpAny_end (by simpa [List.isEmpty_iff] using hb.1) (show NoPanic Q .normal a w from h a ha) _)
/-- the phase is over: another begins -/
theorem WD.phase (L' F' : List Nat) (hb : allIn F (done l.length S) = true) (hc : cutB l F' = true) (h : WD P n l Q L' F' f S ρ O w) : WD P n l Q L F f S ρ O w := fun _ hk a ha =>
  wpAnyC_cut hb _ (wpAny_of_C _ _ _ _ (h (cutB_spec hc) hk a ha))
theorem npQ {dst : Option Tmp} {v : Value} : ∀ c (a : Act) (w : World), NoPanic Q (.panic c) (a.put dst v) w → NoPanic Q (.panic c) a w := fun _ _ _ h => h
theorem ready_done {i : Nat} (hk : Closed l.toArray (done l.length S)) (h : (Region.ready .any l.toArray (done l.length S)).contains i = true) : Closed l.toArray (done l.length (i :: S)) := by
  rw [← done_set]
  exact hk.set (by simpa using h)
theorem WD.take {o : Oper} {v : Value} (i : Nat) (hi : l[i]? = some o) (hb : lightB l F S i = true) {a : Act} (hc : Cut l.toArray F) (hk : Closed l.toArray (done l.length S))
    (hy : YieldsIf P l.toArray (HW L O w) o v a) (h : Closed l.toArray (done l.length (i :: S)) → wpAnyC P l.toArray (NoPanic Q) (HW L O w) F f (done l.length (i :: S)) (a.put o.dst v) w) :
    wpAnyC P l.toArray (NoPanic Q) (HW L O w) F (f + 1) (done l.length S) a w := by
  simp only [lightB, Bool.and_eq_true] at hb
  have hi' : l.toArray[i]? = some o := by simpa using hi
  refine wpAnyC_first hi' (by simpa using hb.1.1.1) hc (Region.noSelect_spec hb.1.1.2) npQ f _ a w hk (Region.free_spec hi' hb.1.2) (by simpa using hb.2) hy ⟨O, Stp.refl _ _ _⟩ ?_
  rw [done_set]; exact h (ready_done hk hb.2)
theorem WD.y {v : Value} (i : Nat) (hi : l[i]? = some ⟨some d, op, ty, pos, aft, none⟩) (hb : lightB l F S i = true) (hy : ∀ w' O', Stp L O w O' w' → Y P op ty ρ w' v) (hd : Nat.blt d n = true)
    (h : WD P n l Q L F f (i :: S) ((d, v) :: ρ) O w) : WD P n l Q L F (f + 1) S ρ O w := fun hc hk a ha => by
  refine WD.take i hi hb hc hk (.inl ⟨rfl, fun w' ⟨O', hs⟩ => ?_⟩) (fun hk' => h hc hk' _ (ha.put hd v))
  exact hy w' O' hs a n _ ha rfl rfl
theorem WD.yE {v v' : Value} (i : Nat) (hi : l[i]? = some ⟨some d, op, ty, pos, aft, none⟩) (hb : lightB l F S i = true) (hy : ∀ w' O', Stp L O w O' w' → Y P op ty ρ w' v) (hv : v = v') (hd : Nat.blt d n = true)
    (h : WD P n l Q L F f (i :: S) ((d, v') :: ρ) O w) : WD P n l Q L F (f + 1) S ρ O w := WD.y i hi hb (fun w' O' hs => hv ▸ hy w' O' hs) hd h
theorem WD.gT {v : Value} (i : Nat) {j s : Nat} {b : Bool} (hi : l[i]? = some ⟨some d, op, ty, pos, aft, some (j, b)⟩) (hb : lightB l F S i = true) (hj : (l[j]?).bind (·.dst) = some s) (hs : lk ρ s = some (.bool b)) (hy : ∀ w' O', Stp L O w O' w' → Y P op ty ρ w' v) (hd : Nat.blt d n = true)
    (h : WD P n l Q L F f (i :: S) ((d, v) :: ρ) O w) : WD P n l Q L F (f + 1) S ρ O w := fun hc hk a ha => by
  refine WD.take i hi hb hc hk (.inl ⟨by simp [Region.wanted, yielded_of ha hj hs], fun w' ⟨O', hs⟩ => ?_⟩) (fun hk' => h hc hk' _ (ha.put hd v))
  exact hy w' O' hs a n _ ha rfl rfl
theorem WD.gS {v : Value} (i : Nat) {j s : Nat} {b : Bool} (hi : l[i]? = some ⟨some d, op, ty, pos, aft, some (j, b)⟩) (hb : lightB l F S i = true) (hj : (l[j]?).bind (·.dst) = some s) (hs : lk ρ s = some v) (hv : (match v with | .bool c => c == b | _ => false) = false) (hd : Nat.blt d n = true)
    (h : WD P n l Q L F f (i :: S) ((d, undef) :: ρ) O w) : WD P n l Q L F (f + 1) S ρ O w := fun hc hk a ha =>
  WD.take i hi hb hc hk (.inr ⟨by simp only [Region.wanted, skipped ha hj hs hv], rfl⟩) (fun hk' => h hc hk' _ (ha.put hd undef))
theorem WD.ren {v v' : Value} (s : Nat) (hs : lk ρ s = some v) (hv : v = v') (h : WD P n l Q L F f S ((s, v') :: ρ) O w) : WD P n l Q L F f S ρ O w := by
  subst hv
  intro hc hk a ha
  refine h hc hk a ⟨ha.defers, ha.size, fun i u hu => ?_⟩
  simp only [lk] at hu
  by_cases e : s = i
  · subst e; simp at hu; subst hu; exact ha.get s _ hs
  · have : Nat.beq s i = false := Bool.eq_false_iff.2 fun h => e (Nat.eq_of_beq_eq_true h)
    rw [this] at hu
    exact ha.get i u hu
theorem WD.part (s : Nat) {B : Bool} (hs : lk ρ s = some (.bool B)) (ht : B = true → WD P n l Q L F f S ((s, .bool true) :: ρ) O w) (hf : B = false → WD P n l Q L F f S ((s, .bool false) :: ρ) O w) : WD P n l Q L F f S ρ O w := by
  cases hB : B with
  | true => exact WD.ren s (hB ▸ hs) rfl (ht hB)
  | false => exact WD.ren s (hB ▸ hs) rfl (hf hB)
theorem WD.one {o : Oper} (i : Nat) (hi : l[i]? = some o) (hc : Cut l.toArray F) (hk : Closed l.toArray (done l.length (i :: S))) (h : WL P n l.toArray (DQ P l Q L F f (i :: S) O w) [o] ρ w) {a : Act} (ha : Fits n ρ a) :
    wpOp P l.toArray (NoPanic Q) i (fun a' w' => HW L O w w' ∧ wpAnyC P l.toArray (NoPanic Q) (HW L O w) F f ((done l.length S).setIfInBounds i true) a' w') a w := by
  have h1 := h a ha
  have hi' : l.toArray[i]? = some o := by simpa using hi
  unfold wpOp
  simp only [hi']
  have key : ∀ (a' : Act) (w' : World), wpList P l.toArray (DQ P l Q L F f (i :: S) O w) [] a' w' → HW L O w w' ∧ wpAnyC P l.toArray (NoPanic Q) (HW L O w) F f ((done l.length S).setIfInBounds i true) a' w' := by
    intro a' w' h2
    obtain ⟨O', hs, h3⟩ := h2
    refine ⟨⟨O', hs⟩, ?_⟩
    rw [done_set]
    exact wpAnyC_mono (fun w'' ⟨O'', hs'⟩ => ⟨O'', hs.trans hs'⟩) _ _ _ _ (h3 hc hk)
  simp only [wpList] at h1
  split
  · rename_i hw
    rw [if_pos hw] at h1
    rcases h1 with h1 | ⟨h1, a0, w0, h2⟩
    · refine .inl ?_
      revert h1
      unfold Oper.wp
      generalize (execOp a.eval o).run P w = r
      intro h1
      unfold Oper.upon at h1 ⊢
      split at h1
      · exact key _ _ h1
      · exact key _ _ h1
      · exact key _ _ h1
      · refine Calls.mono h1 ?_
        intro e w' h'
        cases e with
        | returned v => exact key _ _ h'
        | panicked c => exact h'
        | outgrown => obtain ⟨a0, w0, h2⟩ := h'; exact ⟨a0, w0, h2⟩
      · refine Rows.mono h1 ?_
        intro v w' h'
        exact key _ _ h'
      · exact h1
      · exact h1.elim
    · exact .inr ⟨h1, a0, w0, h2⟩
  · rename_i hw
    rw [if_neg hw] at h1
    exact key _ _ h1
/-- a heavy one: none else may come up -/
theorem WD.heavy {o : Oper} (i : Nat) (hi : l[i]? = some o) (hb : heavyB l F S i = true) (h : WL P n l.toArray (DQ P l Q L F f (i :: S) O w) [o] ρ w) : WD P n l Q L F (f + 1) S ρ O w := fun hc hk a ha => by
  simp only [heavyB, Bool.and_eq_true, decide_eq_true_eq, Bool.not_eq_true'] at hb
  refine wpAnyC_all (rs := [i]) hb.1 (by simp) hb.2 fun j hj => ?_
  have : j = i := by simpa using hj
  subst this
  exact WD.one j hi hc (ready_done hk (by rw [hb.1]; simp)) h ha
def heavyB2 (l : List Oper) (F S : List Nat) (i j : Nat) : Bool := decide (Region.ready .any l.toArray (done l.length S) = [i, j]) && !allIn F (done l.length S)
/-- two, none ahead of the other -/
theorem WD.heavy2 {o o' : Oper} (i j : Nat) (hi : l[i]? = some o) (hj : l[j]? = some o') (hb : heavyB2 l F S i j = true) (h : WL P n l.toArray (DQ P l Q L F f (i :: S) O w) [o] ρ w) (h' : WL P n l.toArray (DQ P l Q L F f (j :: S) O w) [o'] ρ w) : WD P n l Q L F (f + 1) S ρ O w := fun hc hk a ha => by
  simp only [heavyB2, Bool.and_eq_true, decide_eq_true_eq, Bool.not_eq_true'] at hb
  refine wpAnyC_all (rs := [i, j]) hb.1 (by simp) hb.2 fun k hkm => ?_
  have hk' : k = i ∨ k = j := by simpa using hkm
  rcases hk' with e | e
  · subst e; exact WD.one k hi hc (ready_done hk (by rw [hb.1]; simp)) h ha
  · subst e; exact WD.one k hj hc (ready_done hk (by rw [hb.1]; simp)) h' ha
theorem WD.perm (S S' : List Nat) (hb : (List.range l.length).all (fun j => S.contains j == S'.contains j) = true) (h : WD P n l Q L F f S' ρ O w) : WD P n l Q L F f S ρ O w := by
  have e : done l.length S = done l.length S' := by
    unfold done
    congr 1
    apply List.map_congr_left
    intro j hj
    have := List.all_eq_true.1 hb j hj
    simpa using this
  unfold WD
  rw [e]
  exact h
theorem At.dq {O' : Own} {w' : World} {ρ' : Env} (hs : Stp L O w O' w') (h : WD P n l Q L F f S ρ' O' w') : At n (DQ P l Q L F f S O w) .normal ρ' w' := fun a ha => ⟨O', hs, fun hc hk => h hc hk a ha⟩
/-- ways that meet again -/
theorem WD.join {σ : Type} {f' : Nat} (S' : List Nat) (I : σ → Own → World → Prop) (env : σ → Env) (h : (∀ s O' w' ρ', I s O' w' → Sub (env s) ρ' → WD P n l Q L F f' S' ρ' O' w') → WD P n l Q L F f S ρ O w)
    (hJ : ∀ s O' w', I s O' w' → WD P n l Q L F f' S' (env s) O' w') : WD P n l Q L F f S ρ O w :=
  h fun s O' w' _ hi hs => (hJ s O' w' hi).sub hs
end
end Go.Lg
namespace Go.Lg
open Go
section
variable {P : Program} {n : Nat} {ops : Array Oper} {Q : Exit → Act → World → Prop} {ρ : Env} {w : World} {rest : List Oper} {O : Own}
theorem Sl.slice {α : Type} {R : Rep α} {A : Nat → Prop} {t e : TypeId} {sz0 by0 by1 : Nat} {z0 z : Value} {ed : TypeDesc} {x : Operand} {lo hi : Option Operand} {l h : Int} {v : Value} {xs ys : List α}
    (ht : TyOk P t (.slice e) sz0 by0 z0) (he : TyOk P e ed R.n by1 z) (hx : ev ρ x = some v) (hlo : evI ρ lo 0 = some l) (hhi : evI ρ hi xs.length = some h) (hsl : Sl R w A v xs) (hs : slc xs l h = some ys) :
    ∃ v', (∀ (w' : World) (ty : TypeId), Y P (.slice t x lo hi none) ty ρ w' v') ∧ Sl R w A v' ys := by
  obtain ⟨h0, h1, h2, rfl⟩ := slc_spec hs
  rcases hsl with ⟨rfl, rfl⟩ | ⟨q, c, rfl, rfl⟩ | ⟨b, off, cap, cells, t', fr, rfl, hA, hb, hc, hz, hr⟩
  · have hl : l = 0 := by simp at h2; omega
    have hh : h = 0 := by simp at h2; omega
    subst hl; subst hh
    refine ⟨.slice none 0 0, fun w' ty a n o ha ho _ => ?_, .inl ⟨rfl, by simp⟩⟩
    have := run_sliceAt (w := w') (q := none) (len := 0) (cap := 0) ht he ha hlo hhi (Int.le_refl _) (Int.le_refl _) (by simp) (by simp)
    simp only [execOp, ho, ha.eval hx, Option.map_none, Sem.run_bind, this, Result.andThen_ok, Sem.run_pure]
    simp
  · have hl : l = 0 := by simp at h2; omega
    have hh : h = 0 := by simp at h2; omega
    subst hl; subst hh
    refine ⟨.slice (if c = 0 then some q else (some q).map (·.add (0 * R.n))) 0 c, fun w' ty a n o ha ho _ => ?_, .inr (.inl ⟨if c = 0 then q else q.add (0 * R.n), c, by by_cases hc : c = 0 <;> simp [hc], by simp⟩)⟩
    have := run_sliceAt (w := w') (q := some q) (len := 0) (cap := c) ht he ha hlo hhi (Int.le_refl _) (Int.le_refl _) (by simp) (by simp)
    simp only [execOp, ho, ha.eval hx, Option.map_none, Sem.run_bind, this, Result.andThen_ok, Sem.run_pure]
    simp
  · have hlen : ((xs.take h.toNat).drop l.toNat).length = h.toNat - l.toNat := by rw [List.length_drop, List.length_take]; omega
    refine ⟨.slice (if cap = l.toNat then some (⟨b, off, none⟩ : Addr) else (some (⟨b, off, none⟩ : Addr)).map (·.add (l.toNat * R.n))) (h.toNat - l.toNat) (cap - l.toNat), fun w' ty a n o ha ho _ => ?_, ?_⟩
    rotate_left
    · have e3 : (if cap = l.toNat then some (⟨b, off, none⟩ : Addr) else (some (⟨b, off, none⟩ : Addr)).map (·.add (l.toNat * R.n))) = some ⟨b, if cap = l.toNat then off else off + l.toNat * R.n, none⟩ := by
        split <;> simp [Addr_add]
      rw [e3]
      have hmul : (l.toNat + (h.toNat - l.toNat)) * R.n ≤ xs.length * R.n := Nat.mul_le_mul_right _ (by omega)
      rw [Nat.add_mul] at hmul
      refine .inr <| .inr ⟨b, _, cap - l.toNat, cells, t', fr, by rw [hlen], hA, hb, by rw [hlen]; omega, ?_, ?_⟩
      · rw [hlen]
        split
        · have : h.toNat - l.toNat = 0 := by omega
          rw [this]; omega
        · omega
      · rw [hlen]
        by_cases hcl : cap = l.toNat
        · have h5 : h.toNat - l.toNat = 0 := by omega
          have h6 : (xs.take h.toNat).drop l.toNat = [] := by apply List.eq_nil_of_length_eq_zero; rw [hlen, h5]
          rw [h5, h6, Nat.zero_mul, List.take_zero]; rfl
        · rw [if_neg hcl]
          have h7 := Rows'.drop l.toNat (Rows'.take h.toNat hr)
          have e5 : ((((cells.toList.drop off).take (xs.length * R.n)).take (h.toNat * R.n)).drop (l.toNat * R.n)) = ((cells.toList.drop (off + l.toNat * R.n)).take ((h.toNat - l.toNat) * R.n)) := by
            have hm2 : h.toNat * R.n ≤ xs.length * R.n := Nat.mul_le_mul_right _ (by omega)
            rw [List.take_take, Nat.min_eq_left hm2, List.drop_take, List.drop_drop, Nat.sub_mul]
          rw [e5] at h7
          exact h7
    · have := run_sliceAt (w := w') ht he ha hlo hhi h0 h1 h2 hc (q := some ⟨b, off, none⟩)
      simp only [execOp, ho, ha.eval hx, Option.map_none, Sem.run_bind, this, Result.andThen_ok, Sem.run_pure]
/-- a guard that says yes: as if there were none -/
theorem WL.ung {l : List Oper} {j s : Nat} {b : Bool} {dst : Option Tmp} {op : Op} {ty : TypeId} {pos : String} {aft : Array Edge} (hj : (l[j]?).bind (·.dst) = some s) (hs : lk ρ s = some (.bool b))
    (h : WL P n l.toArray Q (⟨dst, op, ty, pos, aft, none⟩ :: rest) ρ w) : WL P n l.toArray Q (⟨dst, op, ty, pos, aft, some (j, b)⟩ :: rest) ρ w := by
  intro a ha
  have h1 := h a ha
  have e1 : Region.wanted ⟨dst, op, ty, pos, aft, some (j, b)⟩ (yielded l.toArray a.tmps) = true := by simp [Region.wanted, yielded_of ha hj hs]
  have e2 : Region.wanted ⟨dst, op, ty, pos, aft, none⟩ (yielded l.toArray a.tmps) = true := rfl
  simp only [wpList, e1, e2, if_true] at h1 ⊢
  exact h1
theorem WS.ung {G : Act → Prop} {l : List Oper} {j s : Nat} {b : Bool} {dst : Option Tmp} {op : Op} {ty : TypeId} {pos : String} {aft : Array Edge} (hj : (l[j]?).bind (·.dst) = some s) (hs : lk ρ s = some (.bool b))
    (h : WS P n l.toArray w G (⟨dst, op, ty, pos, aft, none⟩ :: rest) ρ) : WS P n l.toArray w G (⟨dst, op, ty, pos, aft, some (j, b)⟩ :: rest) ρ := by
  intro a ha
  have h1 := h a ha
  have e1 : Region.wanted ⟨dst, op, ty, pos, aft, some (j, b)⟩ (yielded l.toArray a.tmps) = true := by simp [Region.wanted, yielded_of ha hj hs]
  have e2 : Region.wanted ⟨dst, op, ty, pos, aft, none⟩ (yielded l.toArray a.tmps) = true := rfl
  simp only [wpStill, e1, e2, if_true] at h1 ⊢
  exact h1
end
end Go.Lg
namespace Go.Lg
open Go
theorem Y.sub {P : Program} {op : Op} {ty : TypeId} {ρ ρ' : Env} {w : World} {v : Value} (hs : Sub ρ' ρ) (h : Y P op ty ρ' w v) : Y P op ty ρ w v :=
  fun a n o ha ho ht => h a n o (ha.sub hs) ho ht
end Go.Lg
namespace Go.Lg
open Go
theorem WD.own {P : Program} {n : Nat} {l : List Oper} {Q : Exit → Act → World → Prop} {L F : List Nat} {f : Nat} {S : List Nat} {ρ : Env} {O O' : Own} {w : World} (hs : Stp L O w O' w) (h : WD P n l Q L F f S ρ O' w) : WD P n l Q L F f S ρ O w :=
  fun hc hk a ha => wpAnyC_mono (fun _ ⟨O'', hs'⟩ => ⟨O'', hs.trans hs'⟩) _ _ _ _ (h hc hk a ha)
end Go.Lg
