/- Lemmas about the given model and about plain data, which the rows stand on: no statement of the program by itself. -/
import Derived.Test.YtdpokdaeekanjaaRkLgCall
set_option linter.unusedVariables false
namespace Go.Lg
open Go
section rules
variable {P : Program} {n : Nat} {ops : Array Oper} {Q : Exit → Act → World → Prop} {ρ : Env} {w : World} {rest : List Oper} {O : Own}
variable {d : Nat} {ty : TypeId} {pos : String} {aft : Array Edge}
/-- a slot's value is spelled otherwise -/
theorem WL.ren {l : List Oper} {v v' : Value} (s : Nat) (hs : lk ρ s = some v) (hv : v = v') (h : WL P n ops Q l ((s, v') :: ρ) w) : WL P n ops Q l ρ w := by
  subst hv
  intro a ha
  refine h a ⟨ha.defers, ha.size, fun i u hu => ?_⟩
  simp only [lk] at hu
  by_cases e : s = i
  · subst e; simp at hu; subst hu; exact ha.get s _ hs
  · have : Nat.beq s i = false := Bool.eq_false_iff.2 fun h => e (Nat.eq_of_beq_eq_true h)
    rw [this] at hu
    exact ha.get i u hu
theorem WC.condT' {c : Operand} {x y : Code} {t : Bool} (hc : ev ρ c = some (.bool t)) (ht : t = true) (h : WC P n Q x ρ w) : WC P n Q (.cond c x y) ρ w := WC.condT (ht ▸ hc) h
theorem WC.condF' {c : Operand} {x y : Code} {t : Bool} (hc : ev ρ c = some (.bool t)) (ht : t = false) (h : WC P n Q y ρ w) : WC P n Q (.cond c x y) ρ w := WC.condF (ht ▸ hc) h
theorem CellsAt.sub {b off : Nat} {cs : List Value} (h : CellsAt w b off cs) (k : Nat) (ds : List Value) (hd : (cs.drop k).take ds.length = ds) : CellsAt w b (off + k) ds := by
  obtain ⟨cells, t, fr, hb, hc⟩ := h
  refine ⟨cells, t, fr, hb, ?_⟩
  rw [← List.drop_drop]
  have h1 : (cells.toList.drop off).take cs.length = cs := hc
  by_cases hz : ds = []
  · subst hz; simp
  have hlen : k + ds.length ≤ cs.length := by
    have := congrArg List.length hd
    simp only [List.length_take, List.length_drop] at this
    have hp : 0 < ds.length := List.length_pos_iff.2 hz
    omega
  have h2 : ((cs.drop k).take ds.length) = (((cells.toList.drop off).drop k).take ds.length) := by
    conv => lhs; rw [← h1]
    rw [List.drop_take, List.take_take, Nat.min_eq_left (by omega)]
  rw [← h2, hd]
/-! ### rows of one's own -/
theorem OwnSl.at {α : Type} {ℓ : Nat} {R : Rep α} {e : TypeId} {v : Value} {xs : List α} {i : Int} {x : α} (h : OwnSl ℓ R e O w v xs) (hi : idx xs i = some x) :
    ∃ b cap cs, v = .slice (some ⟨b, 0, none⟩) xs.length cap ∧ 0 ≤ i ∧ i < xs.length ∧ CellsAt w b (0 + i.toNat * R.n) cs ∧ R.ok w (imm O) cs x := by
  obtain ⟨cs, ⟨hl, ho⟩, hr, hb⟩ := h
  rcases ho with ⟨rfl, hn⟩ | ⟨g, cap, cur, rfl, hbg, hg, hc, hm, hz, ht⟩
  · have : xs = [] := List.eq_nil_of_length_eq_zero hn
    subst this; simp [idx] at hi
  · have hs : Sl R w (fun k => imm O k ∨ k = g) (.slice (some ⟨g, 0, none⟩) xs.length cap) xs :=
      .inr <| .inr ⟨g, 0, cap, cur, e, (0, 0), rfl, .inr rfl, hg, hc, by rw [hz, Nat.zero_add]; exact Nat.mul_le_mul_right _ hc, by
        rw [List.drop_zero, ht]; exact Rows'.mono (fun k hk _ => ⟨.inl hk, rfl⟩) hr⟩
    obtain ⟨b, off, cap', ds, e1, h0, h1, h2, h3, h4⟩ := hs.at hi
    cases e1
    have hx : xs[i.toNat]? = some x := by unfold idx at hi; rw [if_pos h0] at hi; exact hi
    have h5 := Rows'.get i.toNat x hr hx
    refine ⟨g, cap, _, rfl, h0, h1, ?_, h5⟩
    have hle : (i.toNat + 1) * R.n ≤ xs.length * R.n := Nat.mul_le_mul_right _ (by omega)
    rw [Nat.add_mul, Nat.one_mul] at hle
    refine ⟨cur, e, (0, 0), hg, ?_⟩
    rw [R.len h5, Nat.zero_add, ← ht, List.drop_take, List.take_take, Nat.min_eq_left (by omega)]
theorem OwnSl.giveF {α : Type} {ℓ : Nat} {R : Rep α} {e : TypeId} {v : Value} {xs : List α} (hℓ : Nat.ble 10 ℓ = true) (hf : Flat R) (h : OwnSl ℓ R e O w v xs) : ∃ O', Stp [ℓ] O w O' w ∧ Sl R w (frs O') v xs :=
  ⟨_, frz_st ℓ (by simpa using hℓ) O w, h.frzF hf⟩
def rlb (a b : Nat) (O : Own) : Own := fun k => if O k = a then b else O k
theorem rlb_st (a b : Nat) (ha : 10 ≤ a) : Stp [a] O w (rlb a b O) w := ⟨rfl, rfl, rfl, Nat.le_refl _, fun k _ hl => by simp at hl; simp [rlb, hl], fun k _ hl => by unfold rlb; rw [if_neg (by omega)], fun _ _ _ => rfl⟩
theorem OwnSl.rlb {α : Type} {a : Nat} (b : Nat) {R : Rep α} {e : TypeId} {v : Value} {xs : List α} (ha : Nat.ble 10 a = true) (h : OwnSl a R e O w v xs) : ∃ O', Stp [a] O w O' w ∧ OwnSl b R e O' w v xs := by
  have ha' : 10 ≤ a := by simpa using ha
  refine ⟨Lg.rlb a b O, rlb_st a b ha', ?_⟩
  obtain ⟨cs, ho, hr, hb⟩ := h
  refine ⟨cs, ho, Rows'.mono (fun k hk _ => ⟨?_, rfl⟩) hr, fun g hg => by simp [Lg.rlb, hb g hg]⟩
  unfold imm Lg.rlb at *
  rw [if_neg (by omega)]; exact hk
theorem Blk.rlb {a : Nat} (c : Nat) {b : Nat} {t : TypeId} {cells : List Value} (ha : Nat.ble 10 a = true) (h : Blk a O w b t cells) : ∃ O', Stp [a] O w O' w ∧ Blk c O' w b t cells :=
  ⟨Lg.rlb a c O, rlb_st a c (by simpa using ha), by simp [Lg.rlb, h.lab], h.blk⟩
theorem WL.storeOwn {α : Type} {R : Rep α} {ℓ : Nat} {t e : TypeId} {td : TypeDesc} {bytes : Nat} {z : Value} {x y : Operand} {v sv : Value} {b len cap : Nat} {i : Int} {xs ys : List α} {u : α}
    (hℓ : ℓ ≠ 0 ∧ ℓ ≠ 1) (ht : TyOk P t td R.n bytes z) (hx : ev ρ x = some (.pointer (some ⟨b, 0 + i.toNat * R.n, none⟩))) (hy : ev ρ y = some v) (hv : R.ok w (imm O) v.cells.toList u)
    (hown : OwnSl ℓ R e O w sv xs) (hsv : sv = .slice (some ⟨b, 0, none⟩) len cap) (hset : setI xs i u = some ys)
    (h : ∀ w', Stp [ℓ] O w O w' → OwnSl ℓ R e O w' sv ys → WL P n ops Q rest ρ w') : WL P n ops Q (⟨none, .store t x y, ty, pos, aft, none⟩ :: rest) ρ w := by
  intro a ha
  refine wpList_plain rfl fun K hK => ?_
  unfold setI at hset
  split at hset
  case isFalse => cases hset
  rename_i hi
  simp only [Option.some.injEq] at hset
  subst hset
  subst hsv
  obtain ⟨cs, ⟨hl, ho⟩, hr, hb⟩ := hown
  rcases ho with ⟨h1, _⟩ | ⟨g, cap', cur, h1, hbg, hg, hc, hm, hz, htk⟩
  · cases h1
  cases h1
  have hlab := hb b rfl
  have hlen := R.len hv
  have hle : (i.toNat + 1) * R.n ≤ xs.length * R.n := Nat.mul_le_mul_right _ hi.2
  rw [Nat.add_mul, Nat.one_mul] at hle
  have hcm : xs.length * R.n ≤ cap * R.n := Nat.mul_le_mul_right _ hc
  have hcur : cur.toList.length = cur.size := rfl
  have hrun := run_storeAt (P := P) (w := w) (v := v) (cells := cur.toList) (off := 0 + i.toNat * R.n) ht (by simpa using hg) (by simpa using hlen) (by rw [hcur, hz]; omega) (fun q hq => R.one hv q hq)
  unfold Oper.wp
  simp only [execOp, ha.eval hx, ha.eval hy, Sem.run_bind, hrun, Result.andThen_ok, Sem.run_pure]
  have hst := stp_setRow (w := w) hlab (splice cur.toList (0 + i.toNat * R.n) v.cells.toList).toArray
  have hspl : ((splice cur.toList (0 + i.toNat * R.n) v.cells.toList).take (xs.length * R.n)) = cs.take (i.toNat * R.n) ++ v.cells.toList ++ cs.drop ((i.toNat + 1) * R.n) := by
    unfold splice
    rw [hlen, Nat.zero_add, ← htk]
    apply List.ext_getElem?
    intro j
    simp only [List.getElem?_take, List.getElem?_append, List.getElem?_drop, List.length_take, List.length_append, hcur, hz, hlen, Nat.add_mul, Nat.one_mul]
    by_cases h1 : j < i.toNat * R.n
    · rw [if_pos (by omega), if_pos (by omega), if_pos (by omega), if_pos h1, if_pos (by omega), if_pos (by omega), if_pos h1, if_pos (by omega)]
    · by_cases h2 : j < i.toNat * R.n + R.n
      · rw [if_pos (by omega), if_pos (by omega), if_neg (by omega), if_pos (by omega), if_neg (by omega)]
        congr 1; omega
      · by_cases h3 : j < xs.length * R.n
        · rw [if_pos h3, if_neg (by omega), if_neg (by omega), if_pos (by omega)]
          congr 1; omega
        · rw [if_neg h3, if_neg (by omega), if_neg (by omega)]
  refine hK _ _ (h _ hst ⟨cs.take (i.toNat * R.n) ++ v.cells.toList ++ cs.drop ((i.toNat + 1) * R.n), ⟨?_, .inr ⟨b, cap, _, by simp, Nat.zero_le _, setRow_heap w b _ _ _ _ (by simpa using hg), by simpa using hc, hm, ?_, ?_⟩⟩, ?_, ?_⟩ _ ha)
  · simp only [List.length_set, List.length_append, List.length_take, List.length_drop, hl, hlen, Nat.add_mul, Nat.one_mul]; omega
  · simp only [splice, List.size_toArray, List.length_append, List.length_take, List.length_drop, hcur, hz, hlen]; omega
  · rw [List.length_set]; exact hspl
  · have := Rows'.set (R.mono hv (imm_st hst (by simpa using Ne.symm hℓ.1) (by simpa using Ne.symm hℓ.2))) i.toNat (Rows'.mono (imm_st hst (by simpa using Ne.symm hℓ.1) (by simpa using Ne.symm hℓ.2)) hr) hi.2
    exact this
  · exact fun g hg => hb g hg
/-! ### arrays as values -/
theorem arrAt {α : Type} {R : Rep α} {A : Nat → Prop} {cells : List Value} {xs : List α} {i : Int} {x : α} (h : Rows' R w A cells xs) (hi : idx xs i = some x) : ∃ cs, (cells.drop (i.toNat * R.n)).take R.n = cs ∧ R.ok w A cs x := by
  unfold idx at hi
  split at hi
  case isFalse => cases hi
  exact ⟨_, rfl, Rows'.get i.toNat x h hi⟩
theorem idx_bd {α : Type} {xs : List α} {i : Int} {x : α} (hi : idx xs i = some x) : 0 ≤ i ∧ i < xs.length := by
  unfold idx at hi
  split at hi
  case isFalse => cases hi
  rename_i h0
  have := (List.getElem?_eq_some_iff.1 hi).1
  exact ⟨h0, by omega⟩
theorem Y.indexArrSc {α : Type} {t e : TypeId} {sz by0 by1 len nn : Nat} {z z' : Value} {ed : TypeDesc} {x y : Operand} {k : IntKind} {i : Int} {cells : List Value} {v : Value} {xs : List α} {u : α}
    (ht : TyOk P t (.array len e) sz by0 z) (he : TyOk P e ed nn by1 z') (hx : ev ρ x = some (.agg cells.toArray)) (hy : ev ρ y = some (.int k i)) (hc : (cells.drop (i.toNat * nn)).take nn = [v]) (hi : idx xs i = some u)
    (hl : xs.length = len := by rfl) (hd : isAggD ed = false := by rfl) : Y P (.index t x y) ty ρ w v := by
  intro a n o ha ho _
  obtain ⟨h0, h1⟩ := idx_bd hi
  have hg : (isAgg e).run P w = .ok false w := by
    simp only [isAgg, Sem.run_bind, run_underlying he.u, Result.andThen_ok]
    cases ed <;> first | rfl | simp [isAggD] at hd
  have hv : cells[i.toNat * nn]? = some v := by
    have : (((cells.drop (i.toNat * nn)).take nn))[0]? = some v := by rw [hc]; rfl
    rw [List.getElem?_take] at this
    split at this
    · simpa using this
    · cases this
  have hv' : cells.toArray[i.toNat * nn]? = some v := by simpa using hv
  simp only [execOp, ho, ha.eval hx, ha.eval hy, Instr.index, asIntOf, Sem.run_bind, Sem.run_pure, Result.andThen_ok, run_underlying ht.u]
  rw [if_pos ⟨h0, by omega⟩]
  simp only [Sem.run_bind, he.size, Result.andThen_ok, part, hg, Bool.false_eq_true, if_false, hv', Sem.run_pure]
theorem Y.indexArrAg {α : Type} {t e : TypeId} {sz by0 by1 len nn : Nat} {z z' : Value} {ed : TypeDesc} {x y : Operand} {k : IntKind} {i : Int} {cells cs : List Value} {xs : List α} {u : α}
    (ht : TyOk P t (.array len e) sz by0 z) (he : TyOk P e ed nn by1 z') (hx : ev ρ x = some (.agg cells.toArray)) (hy : ev ρ y = some (.int k i)) (hc : (cells.drop (i.toNat * nn)).take nn = cs) (hi : idx xs i = some u)
    (hl : xs.length = len := by rfl) (hd : isAggD ed = true := by rfl) : Y P (.index t x y) ty ρ w (.agg cs.toArray) := by
  intro a n o ha ho _
  obtain ⟨h0, h1⟩ := idx_bd hi
  have hg : (isAgg e).run P w = .ok true w := by
    simp only [isAgg, Sem.run_bind, run_underlying he.u, Result.andThen_ok]
    cases ed <;> first | rfl | simp [isAggD] at hd
  have hv' : cells.toArray.extract (i.toNat * nn) (i.toNat * nn + nn) = cs.toArray := by
    rw [← hc]; simp [List.take_drop]
  simp only [execOp, ho, ha.eval hx, ha.eval hy, Instr.index, asIntOf, Sem.run_bind, Sem.run_pure, Result.andThen_ok, run_underlying ht.u]
  rw [if_pos ⟨h0, by omega⟩]
  simp only [Sem.run_bind, he.size, Result.andThen_ok, part, hg, if_true, hv', Sem.run_pure]
end rules
end Go.Lg
