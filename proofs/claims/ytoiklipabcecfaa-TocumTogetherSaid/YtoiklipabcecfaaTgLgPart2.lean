/- Lemmas about the given model and about plain data, which the rows stand on: no statement of the program by itself. -/
import Derived.Test.YtoiklipabcecfaaTgLgMore
import Derived.Laws.Concat
import Derived.Laws.Strings
import Derived.Laws.IdiomStrings
import Derived.StillTail
import Derived.OrdersHeld
import Derived.Deep.RegionHeld3
import Derived.Laws.Externs
import Derived.LoopN
import Derived.Laws.StructEq
import Derived.ChangeKeysEq
import Derived.Laws.FloatArith
set_option linter.unusedVariables false
namespace Go.Lg
open Go
def evs (ρ : Env) : List Operand → Option (List Value)
  | [] => some []
  | x :: xs => (ev ρ x).bind fun v => (evs ρ xs).bind fun vs => some (v :: vs)
theorem Fits.evals {n : Nat} {ρ : Env} {a : Act} (h : Fits n ρ a) : ∀ {xs : List Operand} {vs : List Value}, evs ρ xs = some vs → xs.map a.eval = vs
  | [], vs, e => by simp [evs] at e; subst e; rfl
  | x :: xs, vs, e => by
    simp only [evs] at e
    obtain ⟨v, hv, e⟩ := bnd e
    obtain ⟨us, hu, e⟩ := bnd e
    simp only [Option.some.injEq] at e
    subst e
    simp only [List.map_cons, h.eval hv, h.evals hu]
/-- operands of a literal, by their places -/
def evp (ρ : Env) : List (Nat × Operand) → Option (List (Nat × Value))
  | [] => some []
  | (i, x) :: xs => (ev ρ x).bind fun v => (evp ρ xs).bind fun vs => some ((i, v) :: vs)
theorem Fits.evalp {ρ : Env} : ∀ {xs : List (Nat × Operand)} {vs : List (Nat × Value)}, evp ρ xs = some vs → ∀ (a : Act) (n : Nat), Fits n ρ a → (xs.toArray.map fun (i, x) => (i, a.eval x)) = vs.toArray := by
  intro xs
  induction xs with
  | nil => intro vs e a n _; simp [evp] at e; subst e; simp
  | cons p xs ih =>
    obtain ⟨i, x⟩ := p
    intro vs e a n h
    simp only [evp] at e
    obtain ⟨v, hv, e⟩ := bnd e
    obtain ⟨us, hu, e⟩ := bnd e
    simp only [Option.some.injEq] at e
    subst e
    have := ih hu a n h
    simp only [List.map_toArray] at this ⊢
    simp only [List.map_cons, h.eval hv]
    have h2 : List.map (fun x => (x.1, a.eval x.2)) xs = us := by
      have := congrArg Array.toList this
      simpa using this
    simp only [h2]
/-- it returns, and so -/
def Rets (P : Program) (f : FuncId) (args : List Value) (w : World) (Post : Value → World → Prop) : Prop :=
  Calls P f args.toArray w fun e w' => ∃ v, e = .returned v ∧ Post v w'
theorem Rets.mono {P : Program} {f : FuncId} {args : List Value} {w : World} {Post Post' : Value → World → Prop} (h : Rets P f args w Post) (hm : ∀ v w', Post v w' → Post' v w') : Rets P f args w Post' :=
  Calls.mono h fun _ _ ⟨v, e, hp⟩ => ⟨v, e, hm v _ hp⟩
section
variable {P : Program} {n : Nat} {ops : Array Oper} {Q : Exit → Act → World → Prop} {ρ : Env} {w : World} {rest : List Oper}
variable {d : Nat} {ty : TypeId} {pos : String} {aft : Array Edge} {ats : Array TypeId} {f : FuncId} {xs : List Operand} {vals : List Value} {Post : Value → World → Prop}
theorem WL.call (hk : CallOk P f) (hargs : evs ρ xs = some vals) (hd : Nat.blt d n = true) (hc : Rets P f vals w Post)
    (h : ∀ v w', Post v w' → WL P n ops Q rest ((d, v) :: ρ) w') : WL P n ops Q (⟨some d, .call { callee := .value (.func f), args := xs.toArray, argTypes := ats }, ty, pos, aft, none⟩ :: rest) ρ w := by
  intro a ha
  refine wpList_plain rfl fun K hK => ?_
  unfold Oper.wp
  rw [execOp_call_go]
  have e : (#[] ++ xs.toArray.map a.eval ++ #[] : Array Value) = vals.toArray := by simp [ha.evals hargs]
  rw [e, hk vals.toArray w, Oper.upon_enter]
  refine Calls.mono hc fun e w' ⟨v, he, hp⟩ => ?_
  subst he
  exact hK _ _ (h v w' hp _ (ha.put hd v))
/-! ### Entering and leaving -/
theorem undefs (args : List Value) (m : Nat) : ∀ i v, lk ((List.range args.length).zip args) i = some v → (args.toArray ++ Array.replicate m undef)[i]? = some v := by
  have key : ∀ (args : List Value) (k i : Nat) (v : Value), lk ((List.range' k args.length).zip args) i = some v → ∃ j, i = k + j ∧ args[j]? = some v := by
    intro args
    induction args with
    | nil => intro k i v h; simp [lk] at h
    | cons x args ih =>
      intro k i v h
      simp only [List.length_cons, List.range'_succ, List.zip_cons_cons, lk] at h
      by_cases e : k = i
      · subst e; simp at h; exact ⟨0, rfl, by simpa using h⟩
      · have : Nat.beq k i = false := Bool.eq_false_iff.2 fun h => e (Nat.eq_of_beq_eq_true h)
        rw [this] at h
        obtain ⟨j, hj, hv⟩ := ih (k + 1) i v h
        exact ⟨j + 1, by omega, by simpa using hv⟩
  intro i v h
  rw [List.range_eq_range'] at h
  obtain ⟨j, hj, hv⟩ := key args 0 i v h
  have : j = i := by omega
  subst this
  have hl := (List.getElem?_eq_some_iff.1 hv).1
  rw [Array.getElem?_append_left (by simpa using hl)]
  simpa using hv
theorem Rets.enter {fn : Func} {c : Code} {args : List Value} {Post : Value → World → Prop} (hf : P.funcs[f]? = some fn) (hb : fn.body = some c) (hn : Nat.ble args.length fn.ntmps = true)
    (h : WC P fn.ntmps (bodyPost P fn fun e w' => ∃ v, e = .returned v ∧ Post v w') c ((List.range args.length).zip args) w) : Rets P f args w Post := by
  refine calls_of_wp hf hb (h _ ⟨rfl, ?_, ?_⟩)
  · have : args.length ≤ fn.ntmps := by simpa using hn
    simp; omega
  · exact undefs args _
/-- the results, one by one -/
inductive ResOk (P : Program) (ρ : Env) (w : World) : List ResultVar → List Value → Prop
  | nil : ResOk P ρ w [] []
  | tmp {t : Tmp} {v : Value} {rs : List ResultVar} {vs : List Value} (h : lk ρ t = some v) (k : ResOk P ρ w rs vs) : ResOk P ρ w (.tmp t :: rs) (v :: vs)
  | cell {a : Tmp} {t : TypeId} {b off : Nat} {v : Value} {rs : List ResultVar} {vs : List Value} (h : lk ρ a = some (.pointer (some ⟨b, off, none⟩))) (hl : (Instr.loadAt t (.pointer (some ⟨b, off, none⟩))).run P w = .ok v w) (k : ResOk P ρ w rs vs) : ResOk P ρ w (.cell a t :: rs) (v :: vs)
def resF (tmps : Array Value) : ResultVar → Sem Value
  | .tmp t => pure (tmps.getD t undef)
  | .cell p t => do loadVar t (← asAddr (tmps.getD p undef))
theorem ResOk.run {ρ : Env} {a : Act} (ha : Fits n ρ a) {rs : List ResultVar} {vs : List Value} (h : ResOk P ρ w rs vs) : (rs.mapM (resF a.tmps)).run P w = .ok vs w := by
  induction h with
  | nil => simp
  | tmp h k ih =>
    have := ha.eval (x := .tmp _) (v := _) h
    simp only [Act.eval] at this
    simp only [List.mapM_cons, resF, Sem.run_bind, Sem.run_pure, ih, this, Result.andThen_ok]
  | @cell p t b off v rs vs h hl k ih =>
    have := ha.eval (x := .tmp _) (v := _) h
    simp only [Act.eval] at this
    have hl' := hl
    simp only [Instr.loadAt, Instr.sureAddr, Sem.run_bind, Sem.run_pure, Result.andThen_ok] at hl'
    have h2 : (asAddr (.pointer (some ⟨b, off, none⟩))).run P w = .ok ⟨b, off, none⟩ w := rfl
    simp only [List.mapM_cons, resF, Sem.run_bind, Sem.run_pure, ih, this, h2, hl', Result.andThen_ok]
def packed : List Value → Value
  | [v] => v
  | vs => .tuple vs.toArray
theorem At.res {fn : Func} {rs : List ResultVar} {vs : List Value} {Post : Value → World → Prop} {e : Exit} (he : e = .ret ∨ e = .normal) (hrs : fn.results = rs.toArray) (h : ResOk P ρ w rs vs) (hp : Post (packed vs) w) :
    At n (bodyPost P fn fun e w' => ∃ v, e = .returned v ∧ Post v w') e ρ w := by
  intro a ha
  have hr := h.run ha
  have : (results fn a.tmps).run P w = .ok (packed vs) w := by
    unfold results
    rw [hrs]
    show (do let vs ← rs.toArray.mapM (resF a.tmps); pure (if h : vs.size = 1 then vs[0] else .tuple vs) : Sem Value).run P w = _
    simp only [List.mapM_toArray, Sem.run_bind, Sem.run_map]
    rw [hr]
    simp only [Result.andThen_ok, Sem.run_pure]
    match vs with
    | [] => rfl
    | [v] => rfl
    | u :: v :: vs => simp [packed]
  rcases he with rfl | rfl
  · exact ⟨ha.defers, _, this, _, rfl, hp⟩
  · exact ⟨ha.defers, _, this, _, rfl, hp⟩
end
end Go.Lg
namespace Go.Lg
open Go
section rules
variable {P : Program} {n : Nat} {ops : Array Oper} {Q : Exit → Act → World → Prop} {ρ : Env} {w : World} {rest : List Oper} {O : Own}
variable {d : Nat} {ty : TypeId} {pos : String} {aft : Array Edge}
/-- a slot's value is spelled otherwise -/
theorem WL.ren {l : List Oper} {v v' : Value} (s : Nat) (hs : lk ρ s = some v) (hv : v = v') (h : WL P n ops Q l ((s, v') :: ρ) w) : WL P n ops Q l ρ w := by
  subst hv
  intro a ha
  refine h a ⟨ha.defers, ha.size, fun i u hu => ?_⟩
  simp only [lk] at hu
  by_cases e : s = i
  · subst e; simp at hu; subst hu; exact ha.get s _ hs
  · have : Nat.beq s i = false := Bool.eq_false_iff.2 fun h => e (Nat.eq_of_beq_eq_true h)
    rw [this] at hu
    exact ha.get i u hu
theorem WC.condT' {c : Operand} {x y : Code} {t : Bool} (hc : ev ρ c = some (.bool t)) (ht : t = true) (h : WC P n Q x ρ w) : WC P n Q (.cond c x y) ρ w := WC.condT (ht ▸ hc) h
theorem WC.condF' {c : Operand} {x y : Code} {t : Bool} (hc : ev ρ c = some (.bool t)) (ht : t = false) (h : WC P n Q y ρ w) : WC P n Q (.cond c x y) ρ w := WC.condF (ht ▸ hc) h
theorem CellsAt.sub {b off : Nat} {cs : List Value} (h : CellsAt w b off cs) (k : Nat) (ds : List Value) (hd : (cs.drop k).take ds.length = ds) : CellsAt w b (off + k) ds := by
  obtain ⟨cells, t, fr, hb, hc⟩ := h
  refine ⟨cells, t, fr, hb, ?_⟩
  rw [← List.drop_drop]
  have h1 : (cells.toList.drop off).take cs.length = cs := hc
  by_cases hz : ds = []
  · subst hz; simp
  have hlen : k + ds.length ≤ cs.length := by
    have := congrArg List.length hd
    simp only [List.length_take, List.length_drop] at this
    have hp : 0 < ds.length := List.length_pos_iff.2 hz
    omega
  have h2 : ((cs.drop k).take ds.length) = (((cells.toList.drop off).drop k).take ds.length) := by
    conv => lhs; rw [← h1]
    rw [List.drop_take, List.take_take, Nat.min_eq_left (by omega)]
  rw [← h2, hd]
/-! ### rows of one's own -/
theorem OwnSl.at {α : Type} {ℓ : Nat} {R : Rep α} {e : TypeId} {v : Value} {xs : List α} {i : Int} {x : α} (h : OwnSl ℓ R e O w v xs) (hi : idx xs i = some x) :
    ∃ b cap cs, v = .slice (some ⟨b, 0, none⟩) xs.length cap ∧ 0 ≤ i ∧ i < xs.length ∧ CellsAt w b (0 + i.toNat * R.n) cs ∧ R.ok w (imm O) cs x := by
  obtain ⟨cs, ⟨hl, ho⟩, hr, hb⟩ := h
  rcases ho with ⟨rfl, hn⟩ | ⟨g, cap, cur, rfl, hbg, hg, hc, hm, hz, ht⟩
  · have : xs = [] := List.eq_nil_of_length_eq_zero hn
    subst this; simp [idx] at hi
  · have hs : Sl R w (fun k => imm O k ∨ k = g) (.slice (some ⟨g, 0, none⟩) xs.length cap) xs :=
      .inr <| .inr ⟨g, 0, cap, cur, e, (0, 0), rfl, .inr rfl, hg, hc, by rw [hz, Nat.zero_add]; exact Nat.mul_le_mul_right _ hc, by
        rw [List.drop_zero, ht]; exact Rows'.mono (fun k hk _ => ⟨.inl hk, rfl⟩) hr⟩
    obtain ⟨b, off, cap', ds, e1, h0, h1, h2, h3, h4⟩ := hs.at hi
    cases e1
    have hx : xs[i.toNat]? = some x := by unfold idx at hi; rw [if_pos h0] at hi; exact hi
    have h5 := Rows'.get i.toNat x hr hx
    refine ⟨g, cap, _, rfl, h0, h1, ?_, h5⟩
    have hle : (i.toNat + 1) * R.n ≤ xs.length * R.n := Nat.mul_le_mul_right _ (by omega)
    rw [Nat.add_mul, Nat.one_mul] at hle
    refine ⟨cur, e, (0, 0), hg, ?_⟩
    rw [R.len h5, Nat.zero_add, ← ht, List.drop_take, List.take_take, Nat.min_eq_left (by omega)]
theorem OwnSl.giveF {α : Type} {ℓ : Nat} {R : Rep α} {e : TypeId} {v : Value} {xs : List α} (hℓ : Nat.ble 10 ℓ = true) (hf : Flat R) (h : OwnSl ℓ R e O w v xs) : ∃ O', Stp [ℓ] O w O' w ∧ Sl R w (frs O') v xs :=
  ⟨_, frz_st ℓ (by simpa using hℓ) O w, h.frzF hf⟩
def rlb (a b : Nat) (O : Own) : Own := fun k => if O k = a then b else O k
theorem rlb_st (a b : Nat) (ha : 10 ≤ a) : Stp [a] O w (rlb a b O) w := ⟨rfl, rfl, rfl, Nat.le_refl _, fun k _ hl => by simp at hl; simp [rlb, hl], fun k _ hl => by unfold rlb; rw [if_neg (by omega)], fun _ _ _ => rfl⟩
theorem OwnSl.rlb {α : Type} {a : Nat} (b : Nat) {R : Rep α} {e : TypeId} {v : Value} {xs : List α} (ha : Nat.ble 10 a = true) (h : OwnSl a R e O w v xs) : ∃ O', Stp [a] O w O' w ∧ OwnSl b R e O' w v xs := by
  have ha' : 10 ≤ a := by simpa using ha
  refine ⟨Lg.rlb a b O, rlb_st a b ha', ?_⟩
  obtain ⟨cs, ho, hr, hb⟩ := h
  refine ⟨cs, ho, Rows'.mono (fun k hk _ => ⟨?_, rfl⟩) hr, fun g hg => by simp [Lg.rlb, hb g hg]⟩
  unfold imm Lg.rlb at *
  rw [if_neg (by omega)]; exact hk
theorem Blk.rlb {a : Nat} (c : Nat) {b : Nat} {t : TypeId} {cells : List Value} (ha : Nat.ble 10 a = true) (h : Blk a O w b t cells) : ∃ O', Stp [a] O w O' w ∧ Blk c O' w b t cells :=
  ⟨Lg.rlb a c O, rlb_st a c (by simpa using ha), by simp [Lg.rlb, h.lab], h.blk⟩
theorem WL.storeOwn {α : Type} {R : Rep α} {ℓ : Nat} {t e : TypeId} {td : TypeDesc} {bytes : Nat} {z : Value} {x y : Operand} {v sv : Value} {b len cap : Nat} {i : Int} {xs ys : List α} {u : α}
    (hℓ : ℓ ≠ 0 ∧ ℓ ≠ 1) (ht : TyOk P t td R.n bytes z) (hx : ev ρ x = some (.pointer (some ⟨b, 0 + i.toNat * R.n, none⟩))) (hy : ev ρ y = some v) (hv : R.ok w (imm O) v.cells.toList u)
    (hown : OwnSl ℓ R e O w sv xs) (hsv : sv = .slice (some ⟨b, 0, none⟩) len cap) (hset : setI xs i u = some ys)
    (h : ∀ w', Stp [ℓ] O w O w' → OwnSl ℓ R e O w' sv ys → WL P n ops Q rest ρ w') : WL P n ops Q (⟨none, .store t x y, ty, pos, aft, none⟩ :: rest) ρ w := by
  intro a ha
  refine wpList_plain rfl fun K hK => ?_
  unfold setI at hset
  split at hset
  case isFalse => cases hset
  rename_i hi
  simp only [Option.some.injEq] at hset
  subst hset
  subst hsv
  obtain ⟨cs, ⟨hl, ho⟩, hr, hb⟩ := hown
  rcases ho with ⟨h1, _⟩ | ⟨g, cap', cur, h1, hbg, hg, hc, hm, hz, htk⟩
  · cases h1
  cases h1
  have hlab := hb b rfl
  have hlen := R.len hv
  have hle : (i.toNat + 1) * R.n ≤ xs.length * R.n := Nat.mul_le_mul_right _ hi.2
  rw [Nat.add_mul, Nat.one_mul] at hle
  have hcm : xs.length * R.n ≤ cap * R.n := Nat.mul_le_mul_right _ hc
  have hcur : cur.toList.length = cur.size := rfl
  have hrun := run_storeAt (P := P) (w := w) (v := v) (cells := cur.toList) (off := 0 + i.toNat * R.n) ht (by simpa using hg) (by simpa using hlen) (by rw [hcur, hz]; omega) (fun q hq => R.one hv q hq)
  unfold Oper.wp
  simp only [execOp, ha.eval hx, ha.eval hy, Sem.run_bind, hrun, Result.andThen_ok, Sem.run_pure]
  have hst := stp_setRow (w := w) hlab (splice cur.toList (0 + i.toNat * R.n) v.cells.toList).toArray
  have hspl : ((splice cur.toList (0 + i.toNat * R.n) v.cells.toList).take (xs.length * R.n)) = cs.take (i.toNat * R.n) ++ v.cells.toList ++ cs.drop ((i.toNat + 1) * R.n) := by
    unfold splice
    rw [hlen, Nat.zero_add, ← htk]
    apply List.ext_getElem?
    intro j
    simp only [List.getElem?_take, List.getElem?_append, List.getElem?_drop, List.length_take, List.length_append, hcur, hz, hlen, Nat.add_mul, Nat.one_mul]
    by_cases h1 : j < i.toNat * R.n
    · rw [if_pos (by omega), if_pos (by omega), if_pos (by omega), if_pos h1, if_pos (by omega), if_pos (by omega), if_pos h1, if_pos (by omega)]
    · by_cases h2 : j < i.toNat * R.n + R.n
      · rw [if_pos (by omega), if_pos (by omega), if_neg (by omega), if_pos (by omega), if_neg (by omega)]
        congr 1; omega
      · by_cases h3 : j < xs.length * R.n
        · rw [if_pos h3, if_neg (by omega), if_neg (by omega), if_pos (by omega)]
          congr 1; omega
        · rw [if_neg h3, if_neg (by omega), if_neg (by omega)]
  refine hK _ _ (h _ hst ⟨cs.take (i.toNat * R.n) ++ v.cells.toList ++ cs.drop ((i.toNat + 1) * R.n), ⟨?_, .inr ⟨b, cap, _, by simp, Nat.zero_le _, setRow_heap w b _ _ _ _ (by simpa using hg), by simpa using hc, hm, ?_, ?_⟩⟩, ?_, ?_⟩ _ ha)
  · simp only [List.length_set, List.length_append, List.length_take, List.length_drop, hl, hlen, Nat.add_mul, Nat.one_mul]; omega
  · simp only [splice, List.size_toArray, List.length_append, List.length_take, List.length_drop, hcur, hz, hlen]; omega
  · rw [List.length_set]; exact hspl
  · have := Rows'.set (R.mono hv (imm_st hst (by simpa using Ne.symm hℓ.1) (by simpa using Ne.symm hℓ.2))) i.toNat (Rows'.mono (imm_st hst (by simpa using Ne.symm hℓ.1) (by simpa using Ne.symm hℓ.2)) hr) hi.2
    exact this
  · exact fun g hg => hb g hg
/-! ### arrays as values -/
theorem arrAt {α : Type} {R : Rep α} {A : Nat → Prop} {cells : List Value} {xs : List α} {i : Int} {x : α} (h : Rows' R w A cells xs) (hi : idx xs i = some x) : ∃ cs, (cells.drop (i.toNat * R.n)).take R.n = cs ∧ R.ok w A cs x := by
  unfold idx at hi
  split at hi
  case isFalse => cases hi
  exact ⟨_, rfl, Rows'.get i.toNat x h hi⟩
theorem idx_bd {α : Type} {xs : List α} {i : Int} {x : α} (hi : idx xs i = some x) : 0 ≤ i ∧ i < xs.length := by
  unfold idx at hi
  split at hi
  case isFalse => cases hi
  rename_i h0
  have := (List.getElem?_eq_some_iff.1 hi).1
  exact ⟨h0, by omega⟩
theorem Y.indexArrAg {α : Type} {t e : TypeId} {sz by0 by1 len nn : Nat} {z z' : Value} {ed : TypeDesc} {x y : Operand} {k : IntKind} {i : Int} {cells cs : List Value} {xs : List α} {u : α}
    (ht : TyOk P t (.array len e) sz by0 z) (he : TyOk P e ed nn by1 z') (hx : ev ρ x = some (.agg cells.toArray)) (hy : ev ρ y = some (.int k i)) (hc : (cells.drop (i.toNat * nn)).take nn = cs) (hi : idx xs i = some u)
    (hl : xs.length = len := by rfl) (hd : isAggD ed = true := by rfl) : Y P (.index t x y) ty ρ w (.agg cs.toArray) := by
  intro a n o ha ho _
  obtain ⟨h0, h1⟩ := idx_bd hi
  have hg : (isAgg e).run P w = .ok true w := by
    simp only [isAgg, Sem.run_bind, run_underlying he.u, Result.andThen_ok]
    cases ed <;> first | rfl | simp [isAggD] at hd
  have hv' : cells.toArray.extract (i.toNat * nn) (i.toNat * nn + nn) = cs.toArray := by
    rw [← hc]; simp [List.take_drop]
  simp only [execOp, ho, ha.eval hx, ha.eval hy, Instr.index, asIntOf, Sem.run_bind, Sem.run_pure, Result.andThen_ok, run_underlying ht.u]
  rw [if_pos ⟨h0, by omega⟩]
  simp only [Sem.run_bind, he.size, Result.andThen_ok, part, hg, if_true, hv', Sem.run_pure]
end rules
end Go.Lg
namespace Go.Lg
open Go
def evI (ρ : Env) : Option Operand → Int → Option Int
  | none, d => some d
  | some x, _ => match ev ρ x with
    | some (.int _ n) => some n
    | _ => none
section rules
variable {P : Program} {n : Nat} {ops : Array Oper} {Q : Exit → Act → World → Prop} {ρ : Env} {w : World} {rest : List Oper} {O : Own}
variable {d : Nat} {ty : TypeId} {pos : String} {aft : Array Edge}
theorem Fits.evalI {a : Act} (ha : Fits n ρ a) {x : Operand} {dd l : Int} (h : evI ρ (some x) dd = some l) : ∃ k, a.eval x = .int k l := by
  simp only [evI] at h
  split at h
  · rename_i k m he
    simp only [Option.some.injEq] at h
    subst h
    exact ⟨k, ha.eval he⟩
  · cases h
/-- 'x[lo:hi]' of a slice, run -/
theorem run_sliceAt {t e : TypeId} {sz0 by0 nn by1 : Nat} {z0 z : Value} {ed : TypeDesc} (ht : TyOk P t (.slice e) sz0 by0 z0) (he : TyOk P e ed nn by1 z) {a : Act} (ha : Fits n ρ a) {lo hi : Option Operand} {l h : Int}
    {q : Option Addr} {len cap : Nat} (hlo : evI ρ lo 0 = some l) (hhi : evI ρ hi len = some h) (h0 : 0 ≤ l) (h1 : l ≤ h) (h2 : h ≤ len) (hc : len ≤ cap) :
    (Instr.sliceAt t (.slice q len cap) (lo.map a.eval) (hi.map a.eval) none).run P w =
      .ok (.slice (if cap = l.toNat then q else q.map (·.add (l.toNat * nn))) (h.toNat - l.toNat) (cap - l.toNat)) w := by
  have hb : (Instr.sliceBounds true len cap (lo.map a.eval) (hi.map a.eval) none).run P w = .ok (l.toNat, h.toNat, cap) w := by
    cases lo with
    | none =>
      simp only [evI, Option.some.injEq] at hlo
      subst hlo
      cases hi with
      | none =>
        simp only [evI, Option.some.injEq] at hhi
        subst hhi
        simp [Instr.sliceBounds]
      | some y =>
        obtain ⟨k, hk⟩ := ha.evalI hhi
        have hcc : 0 ≤ h ∧ h ≤ (cap : Int) := by omega
        simp [Instr.sliceBounds, Instr.sliceBound, hk, asIntOf, hcc]
    | some x =>
      obtain ⟨kx, hkx⟩ := ha.evalI hlo
      cases hi with
      | none =>
        simp only [evI, Option.some.injEq] at hhi
        subst hhi
        have hcc : 0 ≤ l ∧ l ≤ (len : Int) := by omega
        simp [Instr.sliceBounds, Instr.sliceBound, hkx, asIntOf, hcc]
      | some y =>
        obtain ⟨k, hk⟩ := ha.evalI hhi
        have hcc : 0 ≤ h ∧ h ≤ (cap : Int) := by omega
        have hcl : 0 ≤ l ∧ l ≤ max h 0 := by omega
        simp [Instr.sliceBounds, Instr.sliceBound, hk, hkx, asIntOf, hcc, hcl]
  simp only [Instr.sliceAt, Sem.run_bind, run_underlying ht.u, Result.andThen_ok, Instr.slice, hb, he.size, Sem.run_pure]
theorem slc_spec {α : Type} {xs ys : List α} {l h : Int} (hs : slc xs l h = some ys) : 0 ≤ l ∧ l ≤ h ∧ h ≤ xs.length ∧ ys = (xs.take h.toNat).drop l.toNat := by
  unfold slc at hs
  split at hs
  · rename_i hc
    simp only [Option.some.injEq] at hs
    exact ⟨hc.1, hc.2.1, hc.2.2, hs.symm⟩
  · cases hs
theorem WL.slice {α : Type} {R : Rep α} {A : Nat → Prop} {t e : TypeId} {sz0 by0 by1 : Nat} {z0 z : Value} {ed : TypeDesc} {x : Operand} {lo hi : Option Operand} {l h : Int} {v : Value} {xs ys : List α}
    (ht : TyOk P t (.slice e) sz0 by0 z0) (he : TyOk P e ed R.n by1 z) (hx : ev ρ x = some v) (hlo : evI ρ lo 0 = some l) (hhi : evI ρ hi xs.length = some h) (hsl : Sl R w A v xs) (hs : slc xs l h = some ys) (hd : Nat.blt d n = true)
    (hk : ∀ v', Sl R w A v' ys → WL P n ops Q rest ((d, v') :: ρ) w) : WL P n ops Q (⟨some d, .slice t x lo hi none, ty, pos, aft, none⟩ :: rest) ρ w := by
  intro a ha
  refine wpList_plain rfl fun K hK => ?_
  obtain ⟨h0, h1, h2, rfl⟩ := slc_spec hs
  have key : ∃ v', (Instr.sliceAt t v (lo.map a.eval) (hi.map a.eval) none).run P w = .ok v' w ∧ Sl R w A v' ((xs.take h.toNat).drop l.toNat) := by
    rcases hsl with ⟨rfl, rfl⟩ | ⟨q, c, rfl, rfl⟩ | ⟨b, off, cap, cells, t', fr, rfl, hA, hb, hc, hz, hr⟩
    · have hl : l = 0 := by simp at h2; omega
      have hh : h = 0 := by simp at h2; omega
      subst hl; subst hh
      exact ⟨_, run_sliceAt (w := w) ht he ha hlo hhi (Int.le_refl _) (Int.le_refl _) (by simp) (by simp), .inl ⟨by simp, by simp⟩⟩
    · have hl : l = 0 := by simp at h2; omega
      have hh : h = 0 := by simp at h2; omega
      subst hl; subst hh
      exact ⟨_, run_sliceAt (w := w) ht he ha hlo hhi (Int.le_refl _) (Int.le_refl _) (by simp) (by simp), .inr (.inl ⟨if c = 0 then q else q.add (0 * R.n), c, by by_cases hc : c = 0 <;> simp [hc], by simp⟩)⟩
    · refine ⟨_, run_sliceAt (w := w) ht he ha hlo hhi h0 h1 h2 hc, ?_⟩
      have hlen : ((xs.take h.toNat).drop l.toNat).length = h.toNat - l.toNat := by rw [List.length_drop, List.length_take]; omega
      have e3 : (if cap = l.toNat then some (⟨b, off, none⟩ : Addr) else (some (⟨b, off, none⟩ : Addr)).map (·.add (l.toNat * R.n))) = some ⟨b, if cap = l.toNat then off else off + l.toNat * R.n, none⟩ := by
        split <;> simp [Addr_add]
      rw [e3]
      have hmul : (l.toNat + (h.toNat - l.toNat)) * R.n ≤ xs.length * R.n := Nat.mul_le_mul_right _ (by omega)
      rw [Nat.add_mul] at hmul
      refine .inr <| .inr ⟨b, _, cap - l.toNat, cells, t', fr, by rw [hlen], hA, hb, by rw [hlen]; omega, ?_, ?_⟩
      · rw [hlen]
        split
        · have : h.toNat - l.toNat = 0 := by omega
          rw [this]; omega
        · omega
      · rw [hlen]
        by_cases hcl : cap = l.toNat
        · have h5 : h.toNat - l.toNat = 0 := by omega
          have h6 : (xs.take h.toNat).drop l.toNat = [] := by apply List.eq_nil_of_length_eq_zero; rw [hlen, h5]
          rw [h5, h6, Nat.zero_mul, List.take_zero]; rfl
        · rw [if_neg hcl]
          have h7 := Rows'.drop l.toNat (Rows'.take h.toNat hr)
          have e5 : ((((cells.toList.drop off).take (xs.length * R.n)).take (h.toNat * R.n)).drop (l.toNat * R.n)) = ((cells.toList.drop (off + l.toNat * R.n)).take ((h.toNat - l.toNat) * R.n)) := by
            have hm2 : h.toNat * R.n ≤ xs.length * R.n := Nat.mul_le_mul_right _ (by omega)
            rw [List.take_take, Nat.min_eq_left hm2, List.drop_take, List.drop_drop, Nat.sub_mul]
          rw [e5] at h7
          exact h7
  obtain ⟨v', hrun, hv'⟩ := key
  unfold Oper.wp
  simp only [execOp, ha.eval hx, Option.map_none, Sem.run_bind, hrun, Result.andThen_ok, Sem.run_pure]
  exact hK _ _ (hk v' hv' _ (ha.put hd _))
theorem WL.sliceOwn {α : Type} {R : Rep α} {ℓ : Nat} {t e e' : TypeId} {sz0 by0 by1 : Nat} {z0 z : Value} {ed : TypeDesc} {x : Operand} {hi : Option Operand} {h : Int} {v : Value} {xs ys : List α}
    (ht : TyOk P t (.slice e) sz0 by0 z0) (he : TyOk P e ed R.n by1 z) (hx : ev ρ x = some v) (hlo : (0 : Int) = 0) (hhi : evI ρ hi xs.length = some h) (hsl : OwnSl ℓ R e' O w v xs) (hs : slc xs 0 h = some ys) (hd : Nat.blt d n = true)
    (hk : ∀ v', OwnSl ℓ R e' O w v' ys → WL P n ops Q rest ((d, v') :: ρ) w) : WL P n ops Q (⟨some d, .slice t x none hi none, ty, pos, aft, none⟩ :: rest) ρ w := by
  intro a ha
  refine wpList_plain rfl fun K hK => ?_
  obtain ⟨h0, h1, h2, rfl⟩ := slc_spec hs
  have key : ∃ v', (Instr.sliceAt t v none (hi.map a.eval) none).run P w = .ok v' w ∧ OwnSl ℓ R e' O w v' ((xs.take h.toNat).drop 0) := by
    obtain ⟨cs, ⟨hl, ho⟩, hr, hb⟩ := hsl
    have h7 := Rows'.take h.toNat hr
    have hlen : ((xs.take h.toNat).drop 0).length = h.toNat := by rw [List.length_drop, List.length_take]; omega
    rcases ho with ⟨rfl, hn⟩ | ⟨g, cap, cur, rfl, hbg, hg, hc, hm, hz, htk⟩
    · have hx0 : xs = [] := List.eq_nil_of_length_eq_zero hn
      subst hx0
      have hh : h = 0 := by simp at h2; omega
      subst hh
      refine ⟨_, run_sliceAt (w := w) (lo := none) ht he ha rfl hhi (Int.le_refl _) (Int.le_refl _) (by simp) (by simp), ?_⟩
      simpa using OwnSl.nil (O := O) (w := w) ℓ R e'
    · refine ⟨_, run_sliceAt (w := w) (lo := none) ht he ha rfl hhi (Int.le_refl _) h1 h2 hc, ?_⟩
      have e3 : (if cap = (0 : Int).toNat then some (⟨g, 0, none⟩ : Addr) else (some (⟨g, 0, none⟩ : Addr)).map (·.add ((0 : Int).toNat * R.n))) = some ⟨g, 0, none⟩ := by
        split <;> simp [Addr_add]
      rw [e3]
      have hmul : h.toNat * R.n ≤ xs.length * R.n := Nat.mul_le_mul_right _ (by omega)
      refine ⟨cs.take (h.toNat * R.n), ⟨by rw [hlen, List.length_take, hl]; omega, .inr ⟨g, cap, cur, by rw [hlen]; simp, hbg, hg, by rw [hlen]; omega, hm, hz, ?_⟩⟩, by simpa using h7, fun b hb' => hb b (by simpa [Value.ownBlock] using hb')⟩
      rw [hlen, ← htk, List.take_take, Nat.min_eq_left hmul]
  obtain ⟨v', hrun, hv'⟩ := key
  unfold Oper.wp
  simp only [execOp, ha.eval hx, Option.map_none, Sem.run_bind, hrun, Result.andThen_ok, Sem.run_pure]
  exact hK _ _ (hk v' hv' _ (ha.put hd _))
/-! ### texts -/
theorem toList_vs (xs : List UInt8) : ByteArray.toList ⟨xs.toArray⟩ = xs := by rw [ByteArray.toList_eq]
theorem beq_dec (a b : List UInt8) : (a == b) = decide (a = b) := by
  by_cases h : a = b
  · simp [h]
  · simp [h]
theorem Y.strop {t t' : TypeId} {x y : Operand} {a b : List UInt8} {v : Value} {bop : BinOp} (hx : ev ρ x = some (vs a)) (hy : ev ρ y = some (vs b))
    (hr : (Go.binOp bop t (vs a) (vs b)).run P w = .ok v w) : Y P (.binOp bop t x y t') ty ρ w v := by
  intro A n o ha ho _
  simp only [execOp, ho, ha.eval hx, ha.eval hy]
  cases bop <;> simp [eqGuard, hr]
section
variable {t t' : TypeId} {x y : Operand} {a b c : List UInt8}
theorem Y.eql_s (hx : ev ρ x = some (vs a)) (hy : ev ρ y = some (vs b)) : Y P (.binOp .eql t x y t') ty ρ w (.bool (decide (a = b))) :=
  Y.strop hx hy (by simp only [binOp, Op.stringOp, toList_vs, beq_dec]; rfl)
end
theorem rows_of_bytes {A : Nat → Prop} : ∀ xs : List UInt8, Rows' Rep.b w A (xs.map vb) xs
  | [] => rfl
  | x :: xs => ⟨[vb x], _, rfl, rfl, rows_of_bytes xs⟩
theorem WL.s2b {t t' e : TypeId} {sz by0 sz1 by1 by2 : Nat} {z z1 z2 : Value} {x : Operand} {xs : List UInt8} (hs : TyOk P t .string sz by0 z) (ht : TyOk P t' (.slice e) sz1 by1 z1) (he : TyOk P e (.int .u8) 1 by2 z2) (hx : ev ρ x = some (vs xs)) (hd : Nat.blt d n = true)
    (h : ∀ v O' w', Stp [] O w O' w' → Sl Rep.b w' (frs O') v xs → WL P n ops Q rest ((d, v) :: ρ) w') : WL P n ops Q (⟨some d, .convert t t' x, ty, pos, aft, none⟩ :: rest) ρ w := by
  intro a ha
  refine wpList_plain rfl fun K hK => ?_
  have e1 : ByteArray.size ⟨xs.toArray⟩ = xs.length := by simp [ByteArray.size]
  have hcap := grownCap_ge w xs.length 0 e
  have hrun := run_bytes_of_string (P := P) w t t' e ⟨xs.toArray⟩ hs.u ht.u he.u
  have hcells : (bytesRow ⟨xs.toArray⟩ (grownCap w xs.length 0 e)).toList = xs.map vb ++ List.replicate (grownCap w xs.length 0 e - xs.length) (.int .u8 0) := by
    simp [bytesRow, e1]
  rw [e1] at hrun
  unfold Oper.wp
  simp only [execOp, ha.eval hx, Sem.run_bind, hrun, Result.andThen_ok, Sem.run_pure]
  have hst : Stp [] O w (upd O w.heap.size 1) (w.drew.alloc (.cells (bytesRow ⟨xs.toArray⟩ (grownCap w xs.length 0 e)) e ((bytesRow ⟨xs.toArray⟩ (grownCap w xs.length 0 e)).size, (bytesRow ⟨xs.toArray⟩ (grownCap w xs.length 0 e)).size + 1))) :=
    (stp_drew (O := O) (w := w)).trans (stp_alloc (w := w.drew) _ 1)
  have hn : Rep.b.n = 1 := rfl
  refine hK _ _ (h _ _ _ hst (.inr <| .inr ⟨w.heap.size, 0, _, _, e, _, rfl, by simp [frs, upd], heap_alloc_new w.drew _, hcap, ?_, ?_⟩) _ (ha.put hd _))
  · have : (bytesRow ⟨xs.toArray⟩ (grownCap w xs.length 0 e)).size = (bytesRow ⟨xs.toArray⟩ (grownCap w xs.length 0 e)).toList.length := rfl
    rw [this, hcells, hn]; simp
  · rw [hcells, hn, Nat.mul_one, List.drop_zero, List.take_left' (by simp)]
    exact rows_of_bytes xs
end rules
end Go.Lg
namespace Go.Lg
open Go
/-! ### What a call does to memory, as its caller sees it -/
/-- what stood is as it was but for the blocks S -/
structure Mod (S : Nat → Prop) (w w' : World) : Prop where
  os : w'.os = w.os
  tape : w'.tape = w.tape
  output : w'.output = w.output
  size : w.heap.size ≤ w'.heap.size
  blk : ∀ k, k < w.heap.size → ¬ S k → w'.heap[k]? = w.heap[k]?
theorem Ext.mod {w w' : World} (h : Ext w w') : Mod (fun _ => False) w w' := ⟨h.os, h.tape, h.output, h.size, fun k hk _ => Stp.blk h k hk (by simp)⟩
section
variable {α : Type} {R : Rep α} {w w' w'' : World} {O O' : Own} {A : Nat → Prop} {v u : Value} {xs ys : List α} {e : TypeId} {L : List Nat}
/-- a row of one's own, without a label -/
def Row (R : Rep α) (e : TypeId) (w : World) (v : Value) (xs : List α) : Prop := ∃ cs, w.ownsRow 0 e R.n v xs.length cs ∧ Rows' R w (fun _ => True) cs xs
/-- one that was made since w -/
def RowF (R : Rep α) (e : TypeId) (w w' : World) (v : Value) (xs : List α) : Prop := Row R e w' v xs ∧ ∀ b, v.ownBlock = some b → w.heap.size ≤ b
/-- one that stood as v's or was made since w -/
def RowG (R : Rep α) (e : TypeId) (w w' : World) (v v' : Value) (xs : List α) : Prop := Row R e w' v' xs ∧ ∀ b, v'.ownBlock = some b → v.ownBlock = some b ∨ w.heap.size ≤ b
def OptP {β : Type} (u : Value) (r : Option β) (F : β → Prop) : Prop := match r with
  | none => u = .pointer none
  | some d => F d
theorem adopt {S : Nat → Prop} (O : Own) (g : Nat → Nat) (L : List Nat) (hm : Mod S w w') (hS : ∀ k, S k → k < w.heap.size → O k ∈ L) :
    ∃ O', (∀ k, k < w.heap.size → O' k = O k) ∧ (∀ k, w.heap.size ≤ k → O' k = g k) ∧ Stp L O w O' w' :=
  ⟨fun k => if k < w.heap.size then O k else g k, fun k hk => if_pos hk, fun k hk => if_neg (by omega),
   hm.os, hm.tape, hm.output, hm.size, fun k hk _ => if_pos hk, fun k hk _ => if_pos hk, fun k hk hn => hm.blk k hk fun hs => hn (hS k hs hk)⟩
theorem adoptE (O : Own) (g : Nat → Nat) (h : Ext w w') : ∃ O', (∀ k, k < w.heap.size → O' k = O k) ∧ (∀ k, w.heap.size ≤ k → O' k = g k) ∧ Stp [] O w O' w' :=
  adopt O g [] h.mod fun _ hk _ => hk.elim
theorem Sl.adoptF {g : Nat → Nat} {B : Nat → Prop} (h : Sl R w' B u xs) (hB : ∀ k, B k → w.heap.size ≤ k ∧ g k = 1) (hn : ∀ k, w.heap.size ≤ k → O' k = g k) : Sl R w' (frs O') u xs :=
  h.mono fun k hk _ => ⟨by unfold frs; rw [hn k (hB k hk).1]; exact (hB k hk).2, rfl⟩
theorem Rows'.adoptF {g : Nat → Nat} {B : Nat → Prop} {cs : List Value} (h : Rows' R w' B cs xs) (hB : ∀ k, B k → w.heap.size ≤ k ∧ g k = 1) (hn : ∀ k, w.heap.size ≤ k → O' k = g k) : Rows' R w' (imm O') cs xs :=
  h.mono fun k hk _ => ⟨by unfold imm; rw [hn k (hB k hk).1, (hB k hk).2]; exact Nat.le_refl _, rfl⟩
theorem Sl.adoptI {g : Nat → Nat} (h : Sl R w' (fun k => A k ∨ w.heap.size ≤ k) u xs) (hA : ∀ k, A k → imm O k) (hg : ∀ k, w.heap.size ≤ k → g k ≤ 1) (ho : ∀ k, k < w.heap.size → O' k = O k) (hn : ∀ k, w.heap.size ≤ k → O' k = g k) : Sl R w' (imm O') u xs :=
  h.mono fun k hk _ => ⟨by
    unfold imm
    rcases Nat.lt_or_ge k w.heap.size with hl | hl
    · rw [ho k hl]
      rcases hk with hk | hk
      · exact hA k hk
      · omega
    · rw [hn k hl]; exact hg k hl, rfl⟩
theorem RowF.adopt {g : Nat → Nat} (ℓ : Nat) (hf : Flat R) (h : RowF R e w w' u xs) (hn : ∀ k, w.heap.size ≤ k → O' k = g k) (hg : ∀ k, u.ownBlock = some k → g k = ℓ) : OwnSl ℓ R e O' w' u xs := by
  obtain ⟨⟨cs, h1, h2⟩, h3⟩ := h
  exact ⟨cs, h1, hf.rows h2, fun b hb => by rw [hn b (h3 b hb), hg b hb]⟩
theorem RowG.adopt {g : Nat → Nat} {ℓ : Nat} (hf : Flat R) (h0 : ∀ b, v.ownBlock = some b → O b = ℓ ∧ b < w.heap.size) (h : RowG R e w w' v u xs) (ho : ∀ k, k < w.heap.size → O' k = O k) (hn : ∀ k, w.heap.size ≤ k → O' k = g k) (hg : ∀ k, u.ownBlock = some k → g k = ℓ) : OwnSl ℓ R e O' w' u xs := by
  obtain ⟨⟨cs, h1, h2⟩, h3⟩ := h
  refine ⟨cs, h1, hf.rows h2, fun b hb => ?_⟩
  rcases Nat.lt_or_ge b w.heap.size with hl | hl
  · rw [ho b hl]
    rcases h3 b hb with h4 | h4
    · exact (h0 b h4).1
    · omega
  · rw [hn b hl, hg b hb]
theorem Blk.adopt {ℓ b : Nat} {t t' : TypeId} {cs cs' : List Value} (h : Blk ℓ O w b t cs) (ho : ∀ k, k < w.heap.size → O' k = O k) (hb : w'.heap[b]? = some (.cells (List.toArray cs') t' (0, 0))) : Blk ℓ O' w' b t' cs' :=
  ⟨(ho b (blk_lt h.blk)).trans h.lab, hb⟩
theorem Blk.new {g : Nat → Nat} {ℓ b : Nat} {t : TypeId} {cs : List Value} (hb : w'.heap[b]? = some (.cells (List.toArray cs) t (0, 0)) ∧ w.heap.size ≤ b) (hn : ∀ k, w.heap.size ≤ k → O' k = g k) (hg : g b = ℓ) : Blk ℓ O' w' b t cs :=
  ⟨(hn b hb.2).trans hg, hb.1⟩
theorem OwnSl.row {ℓ : Nat} (h : OwnSl ℓ R e O w v xs) : Row R e w v xs := by
  obtain ⟨cs, h1, h2, h3⟩ := h
  exact ⟨cs, h1, Rows'.mono (fun _ _ _ => ⟨trivial, rfl⟩) h2⟩
theorem OwnSl.labs {ℓ : Nat} (h : OwnSl ℓ R e O w v xs) : ∀ b, v.ownBlock = some b → O b = ℓ ∧ b < w.heap.size := by
  obtain ⟨cs, h1, h2, h3⟩ := h
  exact fun b hb => ⟨h3 b hb, (h1.lt b hb).2⟩
/-- read by whoever writes none of L -/
def out (L : List Nat) (O : Own) : Nat → Prop := fun k => L.contains (O k) = false
theorem OptP.some {β : Type} {u : Value} {r : Option β} {F : β → Prop} {d : β} (h : OptP u r F) (hd : r = .some d) : F d := by subst hd; exact h
/-! ### The start of a function -/
open Classical in
/-- what came in to be read: 0; all else that stood: 2 -/
noncomputable def O0 (A : Nat → Prop) : Own := fun k => if A k then 0 else 2
theorem Sl.start (h : Sl R w A v xs) : Sl R w (imm (O0 A)) v xs := h.mono fun k hk _ => ⟨by unfold imm O0; rw [if_pos hk]; exact Nat.zero_le _, rfl⟩
/-- an object that came in to be written -/
def OB (b ℓ : Nat) (O : Own) : Own := fun k => if k = b then ℓ else O k
theorem Sl.OB {b ℓ : Nat} (h : Sl R w (imm O) v xs) (hA : ∀ k, O k ≤ 1 → k ≠ b) : Sl R w (imm (OB b ℓ O)) v xs :=
  h.mono fun k hk _ => ⟨by unfold imm Lg.OB; rw [if_neg (hA k hk)]; exact hk, rfl⟩
theorem Row.start {ℓ : Nat} (hf : Flat R) (h : Row R e w v xs) (hO : ∀ k, v.ownBlock = some k → O k = ℓ) : OwnSl ℓ R e O w v xs := by
  obtain ⟨cs, h1, h2⟩ := h
  exact ⟨cs, h1, hf.rows h2, hO⟩
/-! ### Its end -/
theorem Stp.ext (h : Stp L (O0 A) w O' w') (h0 : L.contains 0 = false) (h2 : L.contains 2 = false) : Ext w w' := by
  refine ⟨h.os, h.tape, h.output, h.size, fun _ _ _ => rfl, fun _ _ _ => rfl, fun k hk _ => h.blk k hk ?_⟩
  unfold O0
  split
  · simpa using h0
  · simpa using h2
/-- labels of what stood and is not written -/
theorem Stp.modL (h : Stp L O w O' w') {S : Nat → Prop} (hS : ∀ k, ¬ S k → O k = 0 ∨ O k = 2) (h0 : L.contains 0 = false) (h2 : L.contains 2 = false) : Mod S w w' := by
  refine ⟨h.os, h.tape, h.output, h.size, fun k hk hn => h.blk k hk ?_⟩
  rcases hS k hn with e | e <;> rw [e]
  · simpa using h0
  · simpa using h2
/-- the labels at the start: none of those of what was made since -/
def Low (O : Own) : Prop := ∀ k, O k ≤ 9 ∧ O k ≠ 1
theorem low0 : Low (O0 A) := fun k => by unfold O0; split <;> omega
theorem lowB {b ℓ : Nat} (h : Low O) (hl : Nat.ble ℓ 9 = true) (h1 : Nat.beq ℓ 1 = false) : Low (OB b ℓ O) := fun k => by
  have hl' : ℓ ≤ 9 := by simpa using hl
  have h1' : ℓ ≠ 1 := fun e => by subst e; simp at h1
  unfold OB
  split
  · exact ⟨hl', h1'⟩
  · exact h k
/-- what may be written and what not -/
theorem sB1 {b ℓ : Nat} : ∀ k, ¬ (k = b) → OB b ℓ (O0 A) k = 0 ∨ OB b ℓ (O0 A) k = 2 := fun k h => by
  unfold OB O0; rw [if_neg h]; split <;> simp
theorem aB {b ℓ : Nat} (h : ∀ k, O k ≤ 1 → A k) (hl : Nat.ble 2 ℓ = true) : ∀ k, OB b ℓ O k ≤ 1 → A k := fun k hk => by
  have hl' : 2 ≤ ℓ := by simpa using hl
  unfold OB at hk
  split at hk
  · omega
  · exact h k hk
theorem fresh_of {k : Nat} (hs : Stp L O w O' w') (hO : Low O) (hk : O' k = 1 ∨ 10 ≤ O' k) : w.heap.size ≤ k := by
  rcases Nat.lt_or_ge k w.heap.size with hl | hl
  · exfalso
    have := hO k
    rw [hs.low k hl this.1] at hk
    omega
  · exact hl
theorem Sl.outF (h : Sl R w' (frs O') u xs) (hs : Stp L O w O' w') (hO : Low O) : Sl R w' (fun k => w.heap.size ≤ k) u xs :=
  h.mono fun k hk _ => ⟨fresh_of hs hO (.inl hk), rfl⟩
theorem Sl.outI (h : Sl R w' (imm O') u xs) (hs : Stp L O w O' w') (hO : Low O) (hA : ∀ k, O k ≤ 1 → A k) : Sl R w' (fun k => A k ∨ w.heap.size ≤ k) u xs :=
  h.mono fun k hk _ => ⟨by
    rcases Nat.lt_or_ge k w.heap.size with hl | hl
    · unfold imm at hk
      rw [hs.low k hl (hO k).1] at hk
      exact .inl (hA k hk)
    · exact .inr hl, rfl⟩
theorem Rows'.outF {cs : List Value} (h : Rows' R w' (frs O') cs xs) (hs : Stp L O w O' w') (hO : Low O) : Rows' R w' (fun k => w.heap.size ≤ k) cs xs :=
  h.mono fun k hk _ => ⟨fresh_of hs hO (.inl hk), rfl⟩
theorem Rows'.outI {cs : List Value} (h : Rows' R w' (imm O') cs xs) (hs : Stp L O w O' w') (hO : Low O) (hA : ∀ k, O k ≤ 1 → A k) : Rows' R w' (fun k => A k ∨ w.heap.size ≤ k) cs xs :=
  h.mono fun k hk _ => ⟨by
    rcases Nat.lt_or_ge k w.heap.size with hl | hl
    · unfold imm at hk
      rw [hs.low k hl (hO k).1] at hk
      exact .inl (hA k hk)
    · exact .inr hl, rfl⟩
theorem OwnSl.outF {ℓ : Nat} (h : OwnSl ℓ R e O' w' u xs) (hs : Stp L O w O' w') (hO : Low O) (hl : Nat.ble 10 ℓ = true) : RowF R e w w' u xs :=
  ⟨h.row, fun b hb => fresh_of hs hO (.inr (by rw [(h.labs b hb).1]; simpa using hl))⟩
theorem RowF.nil : RowF R e w w' (.slice none 0 0) [] := ⟨⟨[], World.ownsRow_nil w' 0 e R.n, rfl⟩, fun b h => by simp [Value.ownBlock] at h⟩
theorem Blk.outF {ℓ b : Nat} {t : TypeId} {cs : List Value} (h : Blk ℓ O' w' b t cs) (hs : Stp L O w O' w') (hO : Low O) (hl : Nat.ble 10 ℓ = true) : w'.heap[b]? = some (.cells (List.toArray cs) t (0, 0)) ∧ w.heap.size ≤ b :=
  ⟨h.blk, fresh_of hs hO (.inr (by rw [h.lab]; simpa using hl))⟩
theorem O0_A : ∀ k, O0 A k ≤ 1 → A k := by
  intro k h
  unfold O0 at h
  split at h
  · assumption
  · omega
end
section
variable {P : Program} {n : Nat} {ρ : Env} {w : World} {d : Nat} {ty : TypeId} {t t' e : TypeId} {x y : Operand}
end
end Go.Lg
namespace Go.Lg
open Go
/-! ### what the printed walks use beside -/
def rndK {σ β ρ : Type} (f : σ → Option (Rnd σ β ρ)) (j : Nat) : Rnd σ β ρ → Option (Flow β ρ)
  | .next s' => loopN j f s'
  | .brk b => some (.go b)
  | .out r => some (.out r)
theorem rnd1 {σ β ρ : Type} {f : σ → Option (Rnd σ β ρ)} {k : Nat} {s : σ} {p : Flow β ρ} (h : loopN k f s = some p) : ∃ j q, k = j + 1 ∧ f s = some q ∧ rndK f j q = some p := by
  obtain ⟨j, q, hk, hf, h⟩ := rnd0 h
  exact ⟨j, q, hk, hf, by cases q <;> exact h⟩
theorem next1 {σ β ρ : Type} {f : σ → Option (Rnd σ β ρ)} {j : Nat} {s : σ} {q : Rnd σ β ρ} {p : Flow β ρ} (h : some (Rnd.next s) = some q) (hn : rndK f j q = some p) : loopN j f s = some p := by cases h; exact hn
theorem brk1 {σ β ρ : Type} {f : σ → Option (Rnd σ β ρ)} {j : Nat} {b : β} {q : Rnd σ β ρ} {p : Flow β ρ} (h : some (Rnd.brk b) = some q) (hn : rndK f j q = some p) : p = .go b := by cases h; cases hn; rfl
theorem outr1 {σ β ρ : Type} {f : σ → Option (Rnd σ β ρ)} {j : Nat} {o : Option ρ} {q : Rnd σ β ρ} {p : Flow β ρ} {F : β → Option ρ} {r : ρ} (h : outr o = some q) (hn : rndK f j q = some p) (hk : flowK F p = some r) : o = some r := by
  obtain ⟨x, hx, h⟩ := bnd h
  cases h; cases hn; cases hk; exact hx
theorem go2 {α ρ : Type} {x : α} {p : Flow α ρ} (h : some (Flow.go x) = some p) : p = .go x := by cases h; rfl
theorem flowK_go {α ρ : Type} {F : α → Option ρ} {x : α} {r : ρ} (h : flowK F (.go x) = some r) : F x = some r := h
theorem tup2 {α β : Type} {a : α} {b : β} {c : α} {d : β} (h : some (a, b) = some (c, d)) : a = c ∧ b = d := by cases h; exact ⟨rfl, rfl⟩
theorem tup3 {α β γ : Type} {a a' : α} {b b' : β} {c c' : γ} (h : some (a, b, c) = some (a', b', c')) : a = a' ∧ b = b' ∧ c = c' := by cases h; exact ⟨rfl, rfl, rfl⟩
theorem andT {c x : Bool} (h : c = true) : x = (c && x) := by subst h; rfl
theorem andF {c x : Bool} (h : c = false) : false = (c && x) := by subst h; rfl
theorem orT {c x : Bool} (h : c = true) : true = (c || x) := by subst h; rfl
theorem orF {c x : Bool} (h : c = false) : x = (c || x) := by subst h; rfl
section
variable {P : Program} {n : Nat} {ops : Array Oper} {Q : Exit → Act → World → Prop} {ρ : Env} {w : World} {rest : List Oper}
variable {d : Nat} {ty : TypeId} {pos : String} {aft : Array Edge} {op : Op}
/-- a join at an exit -/
def JB (n : Nat) (Q : Exit → Act → World → Prop) (B : Nat) {σ : Type} (I : σ → World → Prop) (env : σ → Env) : Exit → Act → World → Prop
  | .exit id, a, w => if id = B then ∃ s, I s w ∧ Fits n (env s) a else Q (.exit id) a w
  | e, a, w => Q e a w
theorem WC.joinB {σ : Type} (B : Nat) (I : σ → World → Prop) (env : σ → Env) {c : Code} (h : WC P n (JB n Q B I env) c ρ w) (hJ : ∀ s w', I s w' → At n Q (.exit B) (env s) w') : WC P n Q c ρ w :=
  fun a ha => wp_mono (h a ha) fun e a' w' hq => by
    cases e with
    | exit id =>
      simp only [JB] at hq
      split at hq
      · rename_i e; subst e; obtain ⟨s, hi, hf⟩ := hq; exact hJ s w' hi a' hf
      · exact hq
    | _ => exact hq
theorem At.hitB {σ : Type} {B : Nat} {I : σ → World → Prop} {env : σ → Env} (s : σ) (hi : I s w) (hs : Sub (env s) ρ) : At n (JB n Q B I env) (.exit B) ρ w := fun a ha => by
  simp only [JB, if_true]; exact ⟨s, hi, ha.sub hs⟩
theorem At.joinBR {σ : Type} {B : Nat} {I : σ → World → Prop} {env : σ → Env} (h : At n Q .ret ρ w) : At n (JB n Q B I env) .ret ρ w := h
theorem skipped {l : List Oper} {j s : Nat} {b : Bool} {v : Value} {a : Act} (ha : Fits n ρ a) (hj : (l[j]?).bind (·.dst) = some s) (hs : lk ρ s = some v) (hb : (match v with | .bool c => c == b | _ => false) = false) :
    (yielded l.toArray a.tmps j == some b) = false := by
  have h1 := ha.get s _ hs
  unfold yielded
  have : (l.toArray[j]?).bind (·.dst) = some s := by simpa using hj
  rw [this]
  simp only [Option.bind_some, h1]
  cases v <;> first | rfl | simpa using hb
/-- an operation whose guard says no -/
theorem WL.gS {l : List Oper} {j s : Nat} {b : Bool} {v : Value} (hj : (l[j]?).bind (·.dst) = some s) (hs : lk ρ s = some v) (hb : (match v with | .bool c => c == b | _ => false) = false) (hd : Nat.blt d n = true)
    (h : WL P n l.toArray Q rest ((d, undef) :: ρ) w) : WL P n l.toArray Q (⟨some d, op, ty, pos, aft, some (j, b)⟩ :: rest) ρ w := by
  intro a ha
  refine wpList_step fun K hK => ?_
  have : ¬ Region.wanted ⟨some d, op, ty, pos, aft, some (j, b)⟩ (yielded l.toArray a.tmps) = true := by
    simp only [Region.wanted, skipped ha hj hs hb]; simp
  rw [if_neg this]
  exact hK _ _ (h _ (ha.put hd undef))
end
/-! ### regions that draw their order: a head that leaves the world alone, a tail in its order -/
def WS (P : Program) (n : Nat) (ops : Array Oper) (w : World) (G : Act → Prop) (l : List Oper) (ρ : Env) : Prop :=
  ∀ a, Fits n ρ a → wpStill P ops w G l a
section
variable {P : Program} {n : Nat} {ops : Array Oper} {Q : Exit → Act → World → Prop} {ρ : Env} {w : World} {rest : List Oper} {G : Act → Prop}
variable {d : Nat} {ty : TypeId} {pos : String} {aft : Array Edge} {op : Op}
theorem WC.draw {id : Nat} {l : List Oper} (k : Nat) (O : Own) (hm : P.follows .mixedOrders = true) (hB : Region.lexTailB .any l.toArray k = true)
    (h : ∀ w', Stp [] O w O w' → WS P n l.toArray w' (fun a' => wpList P l.toArray Q (l.drop k) a' w') (l.take k) ρ) : WC P n Q (.region id l.toArray true) ρ w :=
  fun a ha => wp_region_still_tail k hm hB (h _ stp_drew a ha)
theorem WS.tail {l : List Oper} (h : WL P n ops Q l ρ w) : WS P n ops w (fun a' => wpList P ops Q l a' w) [] ρ := fun a ha => h a ha
theorem WS.y {v : Value} (hy : Y P op ty ρ w v) (hd : Nat.blt d n = true) (h : WS P n ops w G rest ((d, v) :: ρ)) : WS P n ops w G (⟨some d, op, ty, pos, aft, none⟩ :: rest) ρ := by
  intro a ha
  refine wpStill_step fun K hK => ?_
  have : Region.wanted ⟨some d, op, ty, pos, aft, none⟩ (yielded ops a.tmps) = true := rfl
  rw [if_pos this]
  unfold Oper.still
  rw [hy a n _ ha rfl rfl]
  exact ⟨rfl, hK _ (h _ (ha.put hd v))⟩
theorem WS.yE {v v' : Value} (hy : Y P op ty ρ w v) (hv : v = v') (hd : Nat.blt d n = true) (h : WS P n ops w G rest ((d, v') :: ρ)) : WS P n ops w G (⟨some d, op, ty, pos, aft, none⟩ :: rest) ρ :=
  WS.y (hv ▸ hy) hd h
theorem WS.gT {l : List Oper} {v : Value} {j s : Nat} {b : Bool} (hj : (l[j]?).bind (·.dst) = some s) (hs : lk ρ s = some (.bool b)) (hy : Y P op ty ρ w v) (hd : Nat.blt d n = true)
    (h : WS P n l.toArray w G rest ((d, v) :: ρ)) : WS P n l.toArray w G (⟨some d, op, ty, pos, aft, some (j, b)⟩ :: rest) ρ := by
  intro a ha
  refine wpStill_step fun K hK => ?_
  have : Region.wanted ⟨some d, op, ty, pos, aft, some (j, b)⟩ (yielded l.toArray a.tmps) = true := by simp [Region.wanted, yielded_of ha hj hs]
  rw [if_pos this]
  unfold Oper.still
  rw [hy a n _ ha rfl rfl]
  exact ⟨rfl, hK _ (h _ (ha.put hd v))⟩
theorem WS.gS {l : List Oper} {j s : Nat} {b : Bool} {v : Value} (hj : (l[j]?).bind (·.dst) = some s) (hs : lk ρ s = some v) (hb : (match v with | .bool c => c == b | _ => false) = false) (hd : Nat.blt d n = true)
    (h : WS P n l.toArray w G rest ((d, undef) :: ρ)) : WS P n l.toArray w G (⟨some d, op, ty, pos, aft, some (j, b)⟩ :: rest) ρ := by
  intro a ha
  refine wpStill_step fun K hK => ?_
  have : ¬ Region.wanted ⟨some d, op, ty, pos, aft, some (j, b)⟩ (yielded l.toArray a.tmps) = true := by
    simp only [Region.wanted, skipped ha hj hs hb]; simp
  rw [if_neg this]
  exact hK _ (h _ (ha.put hd undef))
theorem WS.ren {l : List Oper} {v v' : Value} (s : Nat) (hs : lk ρ s = some v) (hv : v = v') (h : WS P n ops w G l ((s, v') :: ρ)) : WS P n ops w G l ρ := by
  subst hv
  intro a ha
  refine h a ⟨ha.defers, ha.size, fun i u hu => ?_⟩
  simp only [lk] at hu
  by_cases e : s = i
  · subst e; simp at hu; subst hu; exact ha.get s _ hs
  · have : Nat.beq s i = false := Bool.eq_false_iff.2 fun h => e (Nat.eq_of_beq_eq_true h)
    rw [this] at hu
    exact ha.get i u hu
theorem WS.part {l : List Oper} (s : Nat) {B : Bool} (hs : lk ρ s = some (.bool B)) (ht : B = true → WS P n ops w G l ((s, .bool true) :: ρ)) (hf : B = false → WS P n ops w G l ((s, .bool false) :: ρ)) : WS P n ops w G l ρ := by
  cases hB : B with
  | true => exact WS.ren s (hB ▸ hs) rfl (ht hB)
  | false => exact WS.ren s (hB ▸ hs) rfl (hf hB)
theorem wpStill_append {post : List Oper} : ∀ (pre : List Oper) (a : Act), wpStill P ops w (fun a' => wpStill P ops w G post a') pre a → wpStill P ops w G (pre ++ post) a
  | [], a, h => h
  | o :: pre, a, h => by
    simp only [wpStill, List.cons_append] at h ⊢
    split
    · rename_i hw
      rw [if_pos hw] at h
      unfold Oper.still at h ⊢
      revert h
      generalize (execOp a.eval o).run P w = r
      intro h
      revert h
      unfold Oper.stillUpon
      split
      · exact fun h => ⟨h.1, wpStill_append pre _ h.2⟩
      · exact fun h => ⟨h.1, wpStill_append pre _ h.2⟩
      · exact fun ⟨h0, v, hc, h2⟩ => ⟨h0, v, hc, wpStill_append pre _ h2⟩
      · exact fun h => h
    · rename_i hw
      rw [if_neg hw] at h
      exact wpStill_append pre _ h
theorem wpStill_monoQ {G' : Act → Prop} (hg : ∀ a, G a → G' a) : ∀ (l : List Oper) (a : Act), wpStill P ops w G l a → wpStill P ops w G' l a
  | [], a, h => hg a h
  | o :: pre, a, h => by
    simp only [wpStill] at h ⊢
    split
    · rename_i hw
      rw [if_pos hw] at h
      unfold Oper.still at h ⊢
      revert h
      generalize (execOp a.eval o).run P w = r
      intro h
      revert h
      unfold Oper.stillUpon
      split
      · exact fun h => ⟨h.1, wpStill_monoQ hg pre _ h.2⟩
      · exact fun h => ⟨h.1, wpStill_monoQ hg pre _ h.2⟩
      · exact fun ⟨h0, v, hc, h2⟩ => ⟨h0, v, hc, wpStill_monoQ hg pre _ h2⟩
      · exact fun h => h
    · rename_i hw
      rw [if_neg hw] at h
      exact wpStill_monoQ hg pre _ h
theorem WS.cut {l : List Oper} (k : Nat) (ρ' : Env) (h : WS P n ops w (fun a => Fits n ρ' a) (l.take k) ρ) (hJ : WS P n ops w G (l.drop k) ρ') : WS P n ops w G l ρ := by
  intro a ha
  rw [← List.take_append_drop k l]
  exact wpStill_append _ _ (wpStill_monoQ (fun a' ha' => hJ a' ha') _ _ (h a ha))
end
/-! ### bits of signed numbers -/
def xorI (a b : Int) : Int := w64 ((BitVec.ofInt 64 a ^^^ BitVec.ofInt 64 b).toNat : Int)
section
variable {P : Program} {ρ : Env} {w : World} {ty t t' : TypeId} {x y : Operand} {a b : Int}
theorem Blk.runAg {ℓ : Nat} {O : Own} {b : Nat} {T : TypeId} {cells : List Value} {d : TypeDesc} {size bytes : Nat} {z : Value} (h : Blk ℓ O w b T cells) (off : Nat) (cs : List Value) (ht : TyOk P t d size bytes z) (hd : isAggD d = true) (hc : (cells.drop off).take cs.length = cs) (hl : cs.length = size) :
    (Instr.loadAt t (.pointer (some ⟨b, off, none⟩))).run P w = .ok (.agg cs.toArray) w := run_loadAg ht hd (h.cells off cs hc) hl
end
end Go.Lg
namespace Go.Lg
open Go
theorem imm_ne {O : Own} {b ℓ : Nat} (hl : O b = ℓ) (h : Nat.ble 2 ℓ = true) : ∀ k, imm O k → k ≠ b := by
  intro k hk e; subst e; unfold imm at hk; rw [hl] at hk; have : 2 ≤ ℓ := by simpa using h
  omega
end Go.Lg
namespace Go.Lg
open Go
theorem run_slnil (d : Nat) {P : Program} {w : World} {t e : TypeId} {p : Option Addr} {n c : Nat} (hu : P.underlying t = some (.slice e)) : (Op.equalIn (d + 1) t (.slice p n c) (.slice none 0 0)).run P w = .ok p.isNone w := by
  cases p <;> simp [Op.equalIn, run_underlying hu]
theorem Y.slnil {P : Program} {ρ : Env} {w : World} {ty t t' e : TypeId} {x y : Operand} {p : Option Addr} {n c : Nat} (hu : P.underlying t = some (.slice e)) (hx : ev ρ x = some (.slice p n c)) (hy : ev ρ y = some (.slice none 0 0)) :
    Y P (.binOp .eql t x y t') ty ρ w (.bool p.isNone) := by
  intro a n' o ha ho _
  have he : (Op.equal t (.slice p n c) (.slice none 0 0)).run P w = .ok p.isNone w := by
    exact run_slnil 9999 hu
  simp only [execOp, ho, ha.eval hx, ha.eval hy]
  simp [eqGuard, binOp, he]
theorem Sl.shape {α : Type} {R : Rep α} {w : World} {A : Nat → Prop} {v : Value} {xs : List α} (h : Sl R w A v xs) : ∃ p n c, v = .slice p n c := by
  rcases h with ⟨e, _⟩ | ⟨q, c, e, _⟩ | ⟨b, off, cap, cells, t, fr, e, _⟩
  · exact ⟨_, _, _, e⟩
  · exact ⟨_, _, _, e⟩
  · exact ⟨_, _, _, e⟩
theorem Sl.nilOr {α : Type} {R : Rep α} {w : World} {A : Nat → Prop} {v : Value} {xs : List α} (h : Sl R w A v xs) : (v = .slice none 0 0 ∧ xs = []) ∨ ∃ q n c, v = .slice (some q) n c := by
  rcases h with h | ⟨q, c, e, _⟩ | ⟨b, off, cap, cells, t, fr, e, _⟩
  · exact .inl h
  · exact .inr ⟨_, _, _, e⟩
  · exact .inr ⟨_, _, _, e⟩
theorem OwnSl.shape {α : Type} {ℓ : Nat} {R : Rep α} {e : TypeId} {O : Own} {w : World} {v : Value} {xs : List α} (h : OwnSl ℓ R e O w v xs) : ∃ p n c, v = .slice p n c := h.src.sl.shape
end Go.Lg
namespace Go.Lg
open Go
theorem memB {O : Own} {L : List Nat} {b ℓ n : Nat} (hl : O b = ℓ) (hc : L.contains ℓ = true) : ∀ k, k = b → k < n → O k ∈ L := by
  intro k e _; subst e; rw [hl]; simpa using hc
end Go.Lg
namespace Go.Lg
open Go
theorem Rows'.adoptI {α : Type} {R : Rep α} {w w' : World} {O O' : Own} {A : Nat → Prop} {cs : List Value} {xs : List α} {g : Nat → Nat} (h : Rows' R w' (fun k => A k ∨ w.heap.size ≤ k) cs xs) (hA : ∀ k, A k → imm O k) (hg : ∀ k, w.heap.size ≤ k → g k ≤ 1) (ho : ∀ k, k < w.heap.size → O' k = O k) (hn : ∀ k, w.heap.size ≤ k → O' k = g k) : Rows' R w' (imm O') cs xs :=
  h.mono fun k hk _ => ⟨by
    unfold imm
    rcases Nat.lt_or_ge k w.heap.size with hl | hl
    · rw [ho k hl]
      rcases hk with hk | hk
      · exact hA k hk
      · omega
    · rw [hn k hl]; exact hg k hl, rfl⟩
end Go.Lg
namespace Go.Lg
open Go
/-! ### cells that are read, as a fact that is handed on -/
structure CAt (ls : List Nat) (O : Own) (w : World) (b off : Nat) (cs : List Value) : Prop where
  lab : O b ∈ ls
  lt : b < w.heap.size
  at_ : CellsAt w b off cs
theorem CAt.st {ls L : List Nat} {O O' : Own} {w w' : World} {b off : Nat} {cs : List Value} (h : CAt ls O w b off cs) (hs : Stp L O w O' w') (hd : ls.all (fun x => !L.contains x) = true) : CAt ls O' w' b off cs := by
  have hn : O b ∉ L := by
    have := List.all_eq_true.1 hd _ h.lab
    simpa using this
  refine ⟨by rw [hs.lab b h.lt hn]; exact h.lab, Nat.lt_of_lt_of_le h.lt hs.size, ?_⟩
  obtain ⟨cells, t, fr, hb, hc⟩ := h.at_
  exact ⟨cells, t, fr, (hs.blk b h.lt hn).trans hb, hc⟩
theorem CellsAt.lt {w : World} {b off : Nat} {cs : List Value} (h : CellsAt w b off cs) : b < w.heap.size := by
  obtain ⟨cells, t, fr, hb, hc⟩ := h; exact blk_lt hb
theorem Sl.at2 {α : Type} {R : Rep α} {A : Nat → Prop} {w : World} {v : Value} {xs : List α} {i : Int} {x : α} (h : Sl R w A v xs) (hi : idx xs i = some x) :
    ∃ b off cap cs, v = .slice (some ⟨b, off, none⟩) xs.length cap ∧ 0 ≤ i ∧ i < xs.length ∧ CellsAt w b (off + i.toNat * R.n) cs ∧ R.ok w A cs x ∧ A b := by
  obtain ⟨b, off, cap, cs, e, h0, h1, h2, _, h4⟩ := h.at hi
  refine ⟨b, off, cap, cs, e, h0, h1, h2, h4, ?_⟩
  rcases h with ⟨e2, rfl⟩ | ⟨_, _, _, rfl⟩ | ⟨b2, off2, cap2, cells, t, fr, e2, hA, _⟩
  · simp [idx] at hi
  · simp [idx] at hi
  · rw [e2] at e; cases e; exact hA
theorem CAt.imm {O : Own} {w : World} {b off : Nat} {cs : List Value} (h : CellsAt w b off cs) (hl : Lg.imm O b) : CAt [0, 1] O w b off cs :=
  ⟨by unfold Lg.imm at hl; simp; omega, h.lt, h⟩
theorem CAt.frs {O : Own} {w : World} {b off : Nat} {cs : List Value} (h : CellsAt w b off cs) (hl : Lg.frs O b) : CAt [0, 1] O w b off cs :=
  ⟨by unfold Lg.frs at hl; simp; omega, h.lt, h⟩
theorem CAt.own {α : Type} {ℓ : Nat} {R : Rep α} {e : TypeId} {O : Own} {w : World} {v : Value} {xs : List α} {b off len cap : Nat} {cs : List Value} (ho : OwnSl ℓ R e O w v xs) (hv : v = .slice (some ⟨b, 0, none⟩) len cap) (h : CellsAt w b off cs) : CAt [ℓ] O w b off cs :=
  ⟨by have := (ho.labs b (by rw [hv]; rfl)).1; simp [this], h.lt, h⟩
/-! ### Regions that draw their order -/
def HW (L : List Nat) (O : Own) (w : World) : World → Prop := fun w' => ∃ O', Stp L O w O' w'
/-! phases: F is what comes up before the cut; what waits beyond waits for all of F -/
def Closed (ops : Array Oper) (listed : Array Bool) : Prop := ∀ (k : Nat) (ok : Oper), ops[k]? = some ok → listed.getD k false = true → ∀ e ∈ ok.after, Region.binds .any e = true → listed.getD e.on false = true
def Waits (ops : Array Oper) (j i : Nat) : Prop := ∃ oj, ops[j]? = some oj ∧ ∃ e ∈ oj.after, Region.binds .any e = true ∧ e.on = i
def Cut (ops : Array Oper) (F : List Nat) : Prop := ∀ j, j < ops.size → j ∉ F → ∀ i ∈ F, Waits ops j i ∨ ∃ k ∈ F, Waits ops j k ∧ Waits ops k i
def waitsB (l : List Oper) (j i : Nat) : Bool := match l[j]? with
  | some o => o.after.toList.any fun e => Region.binds .any e && e.on == i
  | none => false
def cutB (l : List Oper) (F : List Nat) : Bool := (List.range l.length).all fun j => F.contains j || F.all fun i => waitsB l j i || F.any fun k => waitsB l j k && waitsB l k i
theorem waitsB_spec {l : List Oper} {j i : Nat} (h : waitsB l j i = true) : Waits l.toArray j i := by
  unfold waitsB at h
  split at h
  · rename_i o ho
    obtain ⟨e, he, h2⟩ := List.any_eq_true.1 h
    simp only [Bool.and_eq_true, beq_iff_eq] at h2
    exact ⟨o, by simpa using ho, e, by simpa using he, h2.1, h2.2⟩
  · cases h
theorem cutB_spec {l : List Oper} {F : List Nat} (h : cutB l F = true) : Cut l.toArray F := by
  intro j hj hn i hi
  have h1 := List.all_eq_true.1 h j (by simpa using hj)
  simp only [Bool.or_eq_true] at h1
  rcases h1 with h1 | h1
  · exact absurd (by simpa using h1) hn
  · have h2 := List.all_eq_true.1 h1 i hi
    simp only [Bool.or_eq_true] at h2
    rcases h2 with h2 | h2
    · exact .inl (waitsB_spec h2)
    · obtain ⟨k, hk, h3⟩ := List.any_eq_true.1 h2
      simp only [Bool.and_eq_true] at h3
      exact .inr ⟨k, hk, waitsB_spec h3.1, waitsB_spec h3.2⟩
theorem Closed.set {ops : Array Oper} {listed : Array Bool} {j : Nat} (h : Closed ops listed) (hj : j ∈ Region.ready .any ops listed) : Closed ops (listed.setIfInBounds j true) := by
  obtain ⟨_, oj, hoj, hall⟩ := mem_ready.1 hj
  intro k ok hk hl e he hb
  by_cases hjk : j = k
  · subst hjk
    rw [hoj] at hk; cases hk
    exact getD_set_true (hall e he hb)
  · rw [getD_set_ne false hjk] at hl
    exact getD_set_true (h k ok hk hl e he hb)
def allIn (F : List Nat) (listed : Array Bool) : Bool := F.all fun i => listed.getD i false
def wpAnyC (P : Program) (ops : Array Oper) (Q : Exit → Act → World → Prop) (S : World → Prop) (F : List Nat) : Nat → Array Bool → Act → World → Prop
  | 0, listed, a, w => allIn F listed = true ∧ wpAny P .any ops Q 0 listed a w
  | fuel + 1, listed, a, w => (allIn F listed = true ∧ wpAny P .any ops Q (fuel + 1) listed a w) ∨
    (allIn F listed = false ∧ Region.ready .any ops listed ≠ [] ∧ ∀ i ∈ Region.ready .any ops listed, wpOp P ops Q i (fun a' w' => S w' ∧ wpAnyC P ops Q S F fuel (listed.setIfInBounds i true) a' w') a w)
section
variable {P : Program} {ops : Array Oper} {Q : Exit → Act → World → Prop} {S S' : World → Prop} {F : List Nat}
theorem wpAny_of_C : ∀ (fuel : Nat) (listed : Array Bool) (a : Act) (w : World), wpAnyC P ops Q S F fuel listed a w → wpAny P .any ops Q fuel listed a w
  | 0, _, _, _, h => h.2
  | fuel + 1, _, _, _, .inl h => h.2
  | fuel + 1, _, _, _, .inr h => ⟨fun h0 => absurd h0 h.2.1, fun i hi => wpOp_mono (fun a' w' h' => wpAny_of_C fuel _ a' w' h'.2) (h.2.2 i hi)⟩
theorem wpAnyC_cut {listed : Array Bool} {a : Act} {w : World} (hF : allIn F listed = true) : ∀ fuel, wpAny P .any ops Q fuel listed a w → wpAnyC P ops Q S F fuel listed a w
  | 0, h => ⟨hF, h⟩
  | _ + 1, h => .inl ⟨hF, h⟩
theorem wpAnyC_mono (hS : ∀ w, S w → S' w) : ∀ (fuel : Nat) (listed : Array Bool) (a : Act) (w : World), wpAnyC P ops Q S F fuel listed a w → wpAnyC P ops Q S' F fuel listed a w
  | 0, _, _, _, h => h
  | fuel + 1, _, _, _, .inl h => .inl h
  | fuel + 1, _, _, _, .inr h => .inr ⟨h.1, h.2.1, fun i hi => wpOp_mono (fun a' w' h' => ⟨hS _ h'.1, wpAnyC_mono hS fuel _ a' w' h'.2⟩) (h.2.2 i hi)⟩
theorem getD_false {listed : Array Bool} {i : Nat} (h : listed.getD i true = false) : listed.getD i false = false := by
  rcases Nat.lt_or_ge i listed.size with h' | h'
  · simp [h'] at h ⊢; exact h
  · simp [Array.getElem?_eq_none h'] at h
theorem allIn_false {listed : Array Bool} {i : Nat} (hi : i ∈ F) (h : listed.getD i true = false) : allIn F listed = false := by
  cases hc : allIn F listed with
  | false => rfl
  | true =>
    have := List.all_eq_true.1 hc i hi
    rw [getD_false h] at this; cases this
theorem wpAnyC_first {i : Nat} {oi : Oper} {v : Value} (hi : ops[i]? = some oi) (hiF : i ∈ F) (hcut : Cut ops F) (hsel : ∀ (j : Nat) (o : Oper) cs b, ops[j]? = some o → o.op ≠ .select cs b)
    (hQ : ∀ c a w, Q (.panic c) (a.put oi.dst v) w → Q (.panic c) a w) :
    ∀ (fuel : Nat) (listed : Array Bool) (a : Act) (w : World), Closed ops listed →
      (∀ j oj, ops[j]? = some oj → j ≠ i → listed.getD j true = false → (∀ e ∈ oj.after, Region.binds .any e = true → e.on ≠ i) → oi.apart ops oj = true) →
      i ∈ Region.ready .any ops listed → YieldsIf P ops S oi v a → S w →
      wpAnyC P ops Q S F fuel (listed.setIfInBounds i true) (a.put oi.dst v) w → wpAnyC P ops Q S F (fuel + 1) listed a w := by
  intro fuel
  induction fuel with
  | zero =>
    intro listed a w _ _ hr hy hS H
    refine .inr ⟨allIn_false hiF (mem_ready.1 hr).1, (fun h => by rw [h] at hr; cases hr), fun j hj => ?_⟩
    by_cases hji : j = i
    · subst hji; exact hy.wpOp hi hS ⟨hS, H⟩
    · have := ready_mono hj hji
      rw [H.2.1] at this
      cases this
  | succ fuel ih =>
    intro listed a w hcl hfree hr hy hS H
    have hun : listed.getD i false = false := getD_false (mem_ready.1 hr).1
    refine .inr ⟨allIn_false hiF (mem_ready.1 hr).1, (fun h => by rw [h] at hr; cases hr), fun j hj => ?_⟩
    by_cases hji : j = i
    · subst hji; exact hy.wpOp hi hS ⟨hS, H⟩
    · obtain ⟨hjun, oj, hoj, hall⟩ := mem_ready.1 hj
      have hnot : ∀ e ∈ oj.after, Region.binds .any e = true → e.on ≠ i := fun e he hb heq => by
        have h1 := hall e he hb
        rw [heq, hun] at h1; cases h1
      rcases H with ⟨hF, _⟩ | ⟨_, _, H⟩
      · exfalso
        by_cases hjF : j ∈ F
        · have h1 := List.all_eq_true.1 hF j hjF
          rw [getD_set_ne false (Ne.symm hji)] at h1
          rw [getD_false hjun] at h1; cases h1
        · have hjl : j < ops.size := (Array.getElem?_eq_some_iff.1 hoj).1
          rcases hcut j hjl hjF i hiF with ⟨o2, h2, e, he, hb, hon⟩ | ⟨k, _, ⟨o2, h2, e, he, hb, hon⟩, ⟨o3, h3, e3, he3, hb3, hon3⟩⟩
          · rw [hoj] at h2; cases h2
            exact hnot e he hb hon
          · rw [hoj] at h2; cases h2
            have h4 := hall e he hb
            rw [hon] at h4
            have h5 := hcl k o3 h3 h4 e3 he3 hb3
            rw [hon3, hun] at h5; cases h5
      have h1 := H j (ready_mono hj hji)
      have h2 := wpOp_putIf hoj (hfree j oj hoj hji hjun hnot) (fun cs b => hsel i oi cs b hi) (fun cs b => hsel j oj cs b hoj) hQ hy h1
      have hfree' : ∀ k ok, ops[k]? = some ok → k ≠ i → (listed.setIfInBounds j true).getD k true = false →
          (∀ e ∈ ok.after, Region.binds .any e = true → e.on ≠ i) → oi.apart ops ok = true := fun k ok hk hki hun hno => by
        refine hfree k ok hk hki ?_ hno
        by_cases hjk : j = k
        · subst hjk; exact hjun
        · rw [getD_set_ne true hjk] at hun; exact hun
      refine wpOp_mono (fun a' w' h3 => ⟨h3.2.1, ih (listed.setIfInBounds j true) a' w' (hcl.set hj) hfree' (ready_mono hr (Ne.symm hji)) h3.1 h3.2.1 ?_⟩) h2
      rw [Array.setIfInBounds_comm _ _ hji]
      exact h3.2.2
theorem wpAnyC_all {rs : List Nat} {fuel : Nat} {listed : Array Bool} {a : Act} {w : World} (hr : Region.ready .any ops listed = rs) (hne : rs ≠ []) (hF : allIn F listed = false)
    (h : ∀ i ∈ rs, wpOp P ops Q i (fun a' w' => S w' ∧ wpAnyC P ops Q S F fuel (listed.setIfInBounds i true) a' w') a w) : wpAnyC P ops Q S F (fuel + 1) listed a w :=
  .inr ⟨hF, hr ▸ hne, hr ▸ h⟩
end
/-- which have come up -/
def done (m : Nat) (S : List Nat) : Array Bool := ((List.range m).map fun j => S.contains j).toArray
theorem done_set (m i : Nat) (S : List Nat) : (done m S).setIfInBounds i true = done m (i :: S) := by
  apply Array.ext
  · simp [done]
  · intro j h1 h2
    simp only [done, List.setIfInBounds_toArray, List.getElem_toArray, List.getElem_set, List.getElem_map, List.getElem_range, List.contains_cons]
    by_cases e : i = j
    · subst e; simp
    · have : (j == i) = false := by simpa using fun h => e h.symm
      simp [e, this]
theorem done_nil (m : Nat) : Array.replicate m false = done m [] := by
  apply Array.ext
  · simp [done]
  · intro j h1 h2; simp [done]
def WD (P : Program) (n : Nat) (l : List Oper) (Q : Exit → Act → World → Prop) (L F : List Nat) (f : Nat) (S : List Nat) (ρ : Env) (O : Own) (w : World) : Prop :=
  Cut l.toArray F → Closed l.toArray (done l.length S) → ∀ a, Fits n ρ a → wpAnyC P l.toArray (NoPanic Q) (HW L O w) F f (done l.length S) a w
def lightB (l : List Oper) (F S : List Nat) (i : Nat) : Bool :=
  F.contains i && Region.noSelect l.toArray && Region.free .any l.toArray (done l.length S) i && (Region.ready .any l.toArray (done l.length S)).contains i
def heavyB (l : List Oper) (F S : List Nat) (i : Nat) : Bool := decide (Region.ready .any l.toArray (done l.length S) = [i]) && !allIn F (done l.length S)
def endB (l : List Oper) (F S : List Nat) : Bool := (Region.ready .any l.toArray (done l.length S)).isEmpty && allIn F (done l.length S)
/-- behind a heavy operation -/
def DQ (P : Program) (l : List Oper) (Q : Exit → Act → World → Prop) (L F : List Nat) (f : Nat) (S : List Nat) (O : Own) (w : World) : Exit → Act → World → Prop
  | .normal, a, w' => ∃ O', Stp L O w O' w' ∧ (Cut l.toArray F → Closed l.toArray (done l.length S) → wpAnyC P l.toArray (NoPanic Q) (HW L O' w') F f (done l.length S) a w')
  | e, a, w' => NoPanic Q e a w'
section
variable {P : Program} {n : Nat} {l : List Oper} {Q : Exit → Act → World → Prop} {L F : List Nat} {f : Nat} {S : List Nat} {ρ : Env} {O : Own} {w : World}
variable {d : Nat} {ty : TypeId} {pos : String} {aft : Array Edge} {op : Op}
theorem closed_nil : Closed l.toArray (done l.length []) := by
  intro k ok hk hl
  exfalso
  rw [← done_nil] at hl
  have hlt : k < l.length := by have := (Array.getElem?_eq_some_iff.1 hk).1; simpa using this
  simp [hlt] at hl
theorem WC.drawH {id : Nat} (L F : List Nat) (O : Own) (m : Nat) (hm : P.follows .mixedOrders = true) (hl : l.length = m) (hc : cutB l F = true)
    (h : ∀ w', Stp [] O w O w' → WD P n l Q L F m [] ρ O w') : WC P n Q (.region id l.toArray true) ρ w := fun a ha => by
  refine wp_region_noPanic (wp_region_any hm (wpAny_of_C (S := HW L O w.drew) (F := F) _ _ _ _ ?_))
  have := h _ stp_drew (cutB_spec hc) closed_nil a ha
  rw [← hl] at this
  rw [show l.toArray.size = l.length by simp, done_nil]
  exact this
theorem WD.sub {ρ' : Env} (hs : Sub ρ' ρ) (h : WD P n l Q L F f S ρ' O w) : WD P n l Q L F f S ρ O w := fun hc hk a ha => h hc hk a (ha.sub hs)
theorem wpAny_end {ops : Array Oper} {Q : Exit → Act → World → Prop} {listed : Array Bool} {a : Act} (hr : Region.ready .any ops listed = []) (h : Q .normal a w) : ∀ fuel, wpAny P .any ops Q fuel listed a w
  | 0 => ⟨hr, h⟩
  | _ + 1 => ⟨fun _ => h, by rw [hr]; simp⟩
theorem WD.done_ (hb : endB l F S = true) (h : At n Q .normal ρ w) : WD P n l Q L F f S ρ O w := fun _ _ a ha => by
  simp only [endB, Bool.and_eq_true] at hb
  exact wpAnyC_cut (Q := NoPanic Q) hb.2 _ (wpAny_end (by simpa [List.isEmpty_iff] using hb.1) (show NoPanic Q .normal a w from h a ha) _)
/-- the phase is over: another begins -/
theorem WD.phase (L' F' : List Nat) (hb : allIn F (done l.length S) = true) (hc : cutB l F' = true) (h : WD P n l Q L' F' f S ρ O w) : WD P n l Q L F f S ρ O w := fun _ hk a ha =>
  wpAnyC_cut hb _ (wpAny_of_C _ _ _ _ (h (cutB_spec hc) hk a ha))
theorem npQ {dst : Option Tmp} {v : Value} : ∀ c (a : Act) (w : World), NoPanic Q (.panic c) (a.put dst v) w → NoPanic Q (.panic c) a w := fun _ _ _ h => h
theorem ready_done {i : Nat} (hk : Closed l.toArray (done l.length S)) (h : (Region.ready .any l.toArray (done l.length S)).contains i = true) : Closed l.toArray (done l.length (i :: S)) := by
  rw [← done_set]
  exact hk.set (by simpa using h)
theorem WD.take {o : Oper} {v : Value} (i : Nat) (hi : l[i]? = some o) (hb : lightB l F S i = true) {a : Act} (hc : Cut l.toArray F) (hk : Closed l.toArray (done l.length S))
    (hy : YieldsIf P l.toArray (HW L O w) o v a) (h : Closed l.toArray (done l.length (i :: S)) → wpAnyC P l.toArray (NoPanic Q) (HW L O w) F f (done l.length (i :: S)) (a.put o.dst v) w) :
    wpAnyC P l.toArray (NoPanic Q) (HW L O w) F (f + 1) (done l.length S) a w := by
  simp only [lightB, Bool.and_eq_true] at hb
  have hi' : l.toArray[i]? = some o := by simpa using hi
  refine wpAnyC_first hi' (by simpa using hb.1.1.1) hc (Region.noSelect_spec hb.1.1.2) npQ f _ a w hk (Region.free_spec hi' hb.1.2) (by simpa using hb.2) hy ⟨O, Stp.refl _ _ _⟩ ?_
  rw [done_set]; exact h (ready_done hk hb.2)
theorem WD.y {v : Value} (i : Nat) (hi : l[i]? = some ⟨some d, op, ty, pos, aft, none⟩) (hb : lightB l F S i = true) (hy : ∀ w' O', Stp L O w O' w' → Y P op ty ρ w' v) (hd : Nat.blt d n = true)
    (h : WD P n l Q L F f (i :: S) ((d, v) :: ρ) O w) : WD P n l Q L F (f + 1) S ρ O w := fun hc hk a ha => by
  refine WD.take i hi hb hc hk (.inl ⟨rfl, fun w' ⟨O', hs⟩ => ?_⟩) (fun hk' => h hc hk' _ (ha.put hd v))
  exact hy w' O' hs a n _ ha rfl rfl
theorem WD.yE {v v' : Value} (i : Nat) (hi : l[i]? = some ⟨some d, op, ty, pos, aft, none⟩) (hb : lightB l F S i = true) (hy : ∀ w' O', Stp L O w O' w' → Y P op ty ρ w' v) (hv : v = v') (hd : Nat.blt d n = true)
    (h : WD P n l Q L F f (i :: S) ((d, v') :: ρ) O w) : WD P n l Q L F (f + 1) S ρ O w := WD.y i hi hb (fun w' O' hs => hv ▸ hy w' O' hs) hd h
theorem WD.gT {v : Value} (i : Nat) {j s : Nat} {b : Bool} (hi : l[i]? = some ⟨some d, op, ty, pos, aft, some (j, b)⟩) (hb : lightB l F S i = true) (hj : (l[j]?).bind (·.dst) = some s) (hs : lk ρ s = some (.bool b)) (hy : ∀ w' O', Stp L O w O' w' → Y P op ty ρ w' v) (hd : Nat.blt d n = true)
    (h : WD P n l Q L F f (i :: S) ((d, v) :: ρ) O w) : WD P n l Q L F (f + 1) S ρ O w := fun hc hk a ha => by
  refine WD.take i hi hb hc hk (.inl ⟨by simp [Region.wanted, yielded_of ha hj hs], fun w' ⟨O', hs⟩ => ?_⟩) (fun hk' => h hc hk' _ (ha.put hd v))
  exact hy w' O' hs a n _ ha rfl rfl
theorem WD.gS {v : Value} (i : Nat) {j s : Nat} {b : Bool} (hi : l[i]? = some ⟨some d, op, ty, pos, aft, some (j, b)⟩) (hb : lightB l F S i = true) (hj : (l[j]?).bind (·.dst) = some s) (hs : lk ρ s = some v) (hv : (match v with | .bool c => c == b | _ => false) = false) (hd : Nat.blt d n = true)
    (h : WD P n l Q L F f (i :: S) ((d, undef) :: ρ) O w) : WD P n l Q L F (f + 1) S ρ O w := fun hc hk a ha =>
  WD.take i hi hb hc hk (.inr ⟨by simp only [Region.wanted, skipped ha hj hs hv], rfl⟩) (fun hk' => h hc hk' _ (ha.put hd undef))
theorem WD.ren {v v' : Value} (s : Nat) (hs : lk ρ s = some v) (hv : v = v') (h : WD P n l Q L F f S ((s, v') :: ρ) O w) : WD P n l Q L F f S ρ O w := by
  subst hv
  intro hc hk a ha
  refine h hc hk a ⟨ha.defers, ha.size, fun i u hu => ?_⟩
  simp only [lk] at hu
  by_cases e : s = i
  · subst e; simp at hu; subst hu; exact ha.get s _ hs
  · have : Nat.beq s i = false := Bool.eq_false_iff.2 fun h => e (Nat.eq_of_beq_eq_true h)
    rw [this] at hu
    exact ha.get i u hu
theorem WD.part (s : Nat) {B : Bool} (hs : lk ρ s = some (.bool B)) (ht : B = true → WD P n l Q L F f S ((s, .bool true) :: ρ) O w) (hf : B = false → WD P n l Q L F f S ((s, .bool false) :: ρ) O w) : WD P n l Q L F f S ρ O w := by
  cases hB : B with
  | true => exact WD.ren s (hB ▸ hs) rfl (ht hB)
  | false => exact WD.ren s (hB ▸ hs) rfl (hf hB)
theorem WD.one {o : Oper} (i : Nat) (hi : l[i]? = some o) (hc : Cut l.toArray F) (hk : Closed l.toArray (done l.length (i :: S))) (h : WL P n l.toArray (DQ P l Q L F f (i :: S) O w) [o] ρ w) {a : Act} (ha : Fits n ρ a) :
    wpOp P l.toArray (NoPanic Q) i (fun a' w' => HW L O w w' ∧ wpAnyC P l.toArray (NoPanic Q) (HW L O w) F f ((done l.length S).setIfInBounds i true) a' w') a w := by
  have h1 := h a ha
  have hi' : l.toArray[i]? = some o := by simpa using hi
  unfold wpOp
  simp only [hi']
  have key : ∀ (a' : Act) (w' : World), wpList P l.toArray (DQ P l Q L F f (i :: S) O w) [] a' w' → HW L O w w' ∧ wpAnyC P l.toArray (NoPanic Q) (HW L O w) F f ((done l.length S).setIfInBounds i true) a' w' := by
    intro a' w' h2
    obtain ⟨O', hs, h3⟩ := h2
    refine ⟨⟨O', hs⟩, ?_⟩
    rw [done_set]
    exact wpAnyC_mono (fun w'' ⟨O'', hs'⟩ => ⟨O'', hs.trans hs'⟩) _ _ _ _ (h3 hc hk)
  simp only [wpList] at h1
  split
  · rename_i hw
    rw [if_pos hw] at h1
    rcases h1 with h1 | ⟨h1, a0, w0, h2⟩
    · refine .inl ?_
      revert h1
      unfold Oper.wp
      generalize (execOp a.eval o).run P w = r
      intro h1
      unfold Oper.upon at h1 ⊢
      split at h1
      · exact key _ _ h1
      · exact key _ _ h1
      · exact key _ _ h1
      · refine Calls.mono h1 ?_
        intro e w' h'
        cases e with
        | returned v => exact key _ _ h'
        | panicked c => exact h'
        | outgrown => obtain ⟨a0, w0, h2⟩ := h'; exact ⟨a0, w0, h2⟩
      · refine Rows.mono h1 ?_
        intro v w' h'
        exact key _ _ h'
      · exact h1
      · exact h1.elim
    · exact .inr ⟨h1, a0, w0, h2⟩
  · rename_i hw
    rw [if_neg hw] at h1
    exact key _ _ h1
/-- a heavy one: none else may come up -/
theorem WD.heavy {o : Oper} (i : Nat) (hi : l[i]? = some o) (hb : heavyB l F S i = true) (h : WL P n l.toArray (DQ P l Q L F f (i :: S) O w) [o] ρ w) : WD P n l Q L F (f + 1) S ρ O w := fun hc hk a ha => by
  simp only [heavyB, Bool.and_eq_true, decide_eq_true_eq, Bool.not_eq_true'] at hb
  refine wpAnyC_all (rs := [i]) hb.1 (by simp) hb.2 fun j hj => ?_
  have : j = i := by simpa using hj
  subst this
  exact WD.one j hi hc (ready_done hk (by rw [hb.1]; simp)) h ha
def heavyB2 (l : List Oper) (F S : List Nat) (i j : Nat) : Bool := decide (Region.ready .any l.toArray (done l.length S) = [i, j]) && !allIn F (done l.length S)
/-- two, none ahead of the other -/
theorem WD.heavy2 {o o' : Oper} (i j : Nat) (hi : l[i]? = some o) (hj : l[j]? = some o') (hb : heavyB2 l F S i j = true) (h : WL P n l.toArray (DQ P l Q L F f (i :: S) O w) [o] ρ w) (h' : WL P n l.toArray (DQ P l Q L F f (j :: S) O w) [o'] ρ w) : WD P n l Q L F (f + 1) S ρ O w := fun hc hk a ha => by
  simp only [heavyB2, Bool.and_eq_true, decide_eq_true_eq, Bool.not_eq_true'] at hb
  refine wpAnyC_all (rs := [i, j]) hb.1 (by simp) hb.2 fun k hkm => ?_
  have hk' : k = i ∨ k = j := by simpa using hkm
  rcases hk' with e | e
  · subst e; exact WD.one k hi hc (ready_done hk (by rw [hb.1]; simp)) h ha
  · subst e; exact WD.one k hj hc (ready_done hk (by rw [hb.1]; simp)) h' ha
theorem WD.perm (S S' : List Nat) (hb : (List.range l.length).all (fun j => S.contains j == S'.contains j) = true) (h : WD P n l Q L F f S' ρ O w) : WD P n l Q L F f S ρ O w := by
  have e : done l.length S = done l.length S' := by
    unfold done
    congr 1
    apply List.map_congr_left
    intro j hj
    have := List.all_eq_true.1 hb j hj
    simpa using this
  unfold WD
  rw [e]
  exact h
theorem At.dq {O' : Own} {w' : World} {ρ' : Env} (hs : Stp L O w O' w') (h : WD P n l Q L F f S ρ' O' w') : At n (DQ P l Q L F f S O w) .normal ρ' w' := fun a ha => ⟨O', hs, fun hc hk => h hc hk a ha⟩
/-- ways that meet again -/
theorem WD.join {σ : Type} {f' : Nat} (S' : List Nat) (I : σ → Own → World → Prop) (env : σ → Env) (h : (∀ s O' w' ρ', I s O' w' → Sub (env s) ρ' → WD P n l Q L F f' S' ρ' O' w') → WD P n l Q L F f S ρ O w)
    (hJ : ∀ s O' w', I s O' w' → WD P n l Q L F f' S' (env s) O' w') : WD P n l Q L F f S ρ O w :=
  h fun s O' w' _ hi hs => (hJ s O' w' hi).sub hs
end
end Go.Lg
namespace Go.Lg
open Go
section
variable {P : Program} {n : Nat} {ops : Array Oper} {Q : Exit → Act → World → Prop} {ρ : Env} {w : World} {rest : List Oper} {O : Own}
theorem Sl.slice {α : Type} {R : Rep α} {A : Nat → Prop} {t e : TypeId} {sz0 by0 by1 : Nat} {z0 z : Value} {ed : TypeDesc} {x : Operand} {lo hi : Option Operand} {l h : Int} {v : Value} {xs ys : List α}
    (ht : TyOk P t (.slice e) sz0 by0 z0) (he : TyOk P e ed R.n by1 z) (hx : ev ρ x = some v) (hlo : evI ρ lo 0 = some l) (hhi : evI ρ hi xs.length = some h) (hsl : Sl R w A v xs) (hs : slc xs l h = some ys) :
    ∃ v', (∀ (w' : World) (ty : TypeId), Y P (.slice t x lo hi none) ty ρ w' v') ∧ Sl R w A v' ys := by
  obtain ⟨h0, h1, h2, rfl⟩ := slc_spec hs
  rcases hsl with ⟨rfl, rfl⟩ | ⟨q, c, rfl, rfl⟩ | ⟨b, off, cap, cells, t', fr, rfl, hA, hb, hc, hz, hr⟩
  · have hl : l = 0 := by simp at h2; omega
    have hh : h = 0 := by simp at h2; omega
    subst hl; subst hh
    refine ⟨.slice none 0 0, fun w' ty a n o ha ho _ => ?_, .inl ⟨rfl, by simp⟩⟩
    have := run_sliceAt (w := w') (q := none) (len := 0) (cap := 0) ht he ha hlo hhi (Int.le_refl _) (Int.le_refl _) (by simp) (by simp)
    simp only [execOp, ho, ha.eval hx, Option.map_none, Sem.run_bind, this, Result.andThen_ok, Sem.run_pure]
    simp
  · have hl : l = 0 := by simp at h2; omega
    have hh : h = 0 := by simp at h2; omega
    subst hl; subst hh
    refine ⟨.slice (if c = 0 then some q else (some q).map (·.add (0 * R.n))) 0 c, fun w' ty a n o ha ho _ => ?_, .inr (.inl ⟨if c = 0 then q else q.add (0 * R.n), c, by by_cases hc : c = 0 <;> simp [hc], by simp⟩)⟩
    have := run_sliceAt (w := w') (q := some q) (len := 0) (cap := c) ht he ha hlo hhi (Int.le_refl _) (Int.le_refl _) (by simp) (by simp)
    simp only [execOp, ho, ha.eval hx, Option.map_none, Sem.run_bind, this, Result.andThen_ok, Sem.run_pure]
    simp
  · have hlen : ((xs.take h.toNat).drop l.toNat).length = h.toNat - l.toNat := by rw [List.length_drop, List.length_take]; omega
    refine ⟨.slice (if cap = l.toNat then some (⟨b, off, none⟩ : Addr) else (some (⟨b, off, none⟩ : Addr)).map (·.add (l.toNat * R.n))) (h.toNat - l.toNat) (cap - l.toNat), fun w' ty a n o ha ho _ => ?_, ?_⟩
    rotate_left
    · have e3 : (if cap = l.toNat then some (⟨b, off, none⟩ : Addr) else (some (⟨b, off, none⟩ : Addr)).map (·.add (l.toNat * R.n))) = some ⟨b, if cap = l.toNat then off else off + l.toNat * R.n, none⟩ := by
        split <;> simp [Addr_add]
      rw [e3]
      have hmul : (l.toNat + (h.toNat - l.toNat)) * R.n ≤ xs.length * R.n := Nat.mul_le_mul_right _ (by omega)
      rw [Nat.add_mul] at hmul
      refine .inr <| .inr ⟨b, _, cap - l.toNat, cells, t', fr, by rw [hlen], hA, hb, by rw [hlen]; omega, ?_, ?_⟩
      · rw [hlen]
        split
        · have : h.toNat - l.toNat = 0 := by omega
          rw [this]; omega
        · omega
      · rw [hlen]
        by_cases hcl : cap = l.toNat
        · have h5 : h.toNat - l.toNat = 0 := by omega
          have h6 : (xs.take h.toNat).drop l.toNat = [] := by apply List.eq_nil_of_length_eq_zero; rw [hlen, h5]
          rw [h5, h6, Nat.zero_mul, List.take_zero]; rfl
        · rw [if_neg hcl]
          have h7 := Rows'.drop l.toNat (Rows'.take h.toNat hr)
          have e5 : ((((cells.toList.drop off).take (xs.length * R.n)).take (h.toNat * R.n)).drop (l.toNat * R.n)) = ((cells.toList.drop (off + l.toNat * R.n)).take ((h.toNat - l.toNat) * R.n)) := by
            have hm2 : h.toNat * R.n ≤ xs.length * R.n := Nat.mul_le_mul_right _ (by omega)
            rw [List.take_take, Nat.min_eq_left hm2, List.drop_take, List.drop_drop, Nat.sub_mul]
          rw [e5] at h7
          exact h7
    · have := run_sliceAt (w := w') ht he ha hlo hhi h0 h1 h2 hc (q := some ⟨b, off, none⟩)
      simp only [execOp, ho, ha.eval hx, Option.map_none, Sem.run_bind, this, Result.andThen_ok, Sem.run_pure]
/-- a guard that says yes: as if there were none -/
theorem WL.ung {l : List Oper} {j s : Nat} {b : Bool} {dst : Option Tmp} {op : Op} {ty : TypeId} {pos : String} {aft : Array Edge} (hj : (l[j]?).bind (·.dst) = some s) (hs : lk ρ s = some (.bool b))
    (h : WL P n l.toArray Q (⟨dst, op, ty, pos, aft, none⟩ :: rest) ρ w) : WL P n l.toArray Q (⟨dst, op, ty, pos, aft, some (j, b)⟩ :: rest) ρ w := by
  intro a ha
  have h1 := h a ha
  have e1 : Region.wanted ⟨dst, op, ty, pos, aft, some (j, b)⟩ (yielded l.toArray a.tmps) = true := by simp [Region.wanted, yielded_of ha hj hs]
  have e2 : Region.wanted ⟨dst, op, ty, pos, aft, none⟩ (yielded l.toArray a.tmps) = true := rfl
  simp only [wpList, e1, e2, if_true] at h1 ⊢
  exact h1
theorem WS.ung {G : Act → Prop} {l : List Oper} {j s : Nat} {b : Bool} {dst : Option Tmp} {op : Op} {ty : TypeId} {pos : String} {aft : Array Edge} (hj : (l[j]?).bind (·.dst) = some s) (hs : lk ρ s = some (.bool b))
    (h : WS P n l.toArray w G (⟨dst, op, ty, pos, aft, none⟩ :: rest) ρ) : WS P n l.toArray w G (⟨dst, op, ty, pos, aft, some (j, b)⟩ :: rest) ρ := by
  intro a ha
  have h1 := h a ha
  have e1 : Region.wanted ⟨dst, op, ty, pos, aft, some (j, b)⟩ (yielded l.toArray a.tmps) = true := by simp [Region.wanted, yielded_of ha hj hs]
  have e2 : Region.wanted ⟨dst, op, ty, pos, aft, none⟩ (yielded l.toArray a.tmps) = true := rfl
  simp only [wpStill, e1, e2, if_true] at h1 ⊢
  exact h1
end
end Go.Lg
namespace Go.Lg
open Go
theorem Y.sub {P : Program} {op : Op} {ty : TypeId} {ρ ρ' : Env} {w : World} {v : Value} (hs : Sub ρ' ρ) (h : Y P op ty ρ' w v) : Y P op ty ρ w v :=
  fun a n o ha ho ht => h a n o (ha.sub hs) ho ht
end Go.Lg
namespace Go.Lg
open Go
theorem WD.own {P : Program} {n : Nat} {l : List Oper} {Q : Exit → Act → World → Prop} {L F : List Nat} {f : Nat} {S : List Nat} {ρ : Env} {O O' : Own} {w : World} (hs : Stp L O w O' w) (h : WD P n l Q L F f S ρ O' w) : WD P n l Q L F f S ρ O w :=
  fun hc hk a ha => wpAnyC_mono (fun _ ⟨O'', hs'⟩ => ⟨O'', hs.trans hs'⟩) _ _ _ _ (h hc hk a ha)
end Go.Lg
namespace Go.Lg
open Go
def add64S (a b c : UInt64) : UInt64 := a + b + c
def add64C (a b c : UInt64) : UInt64 := UInt64.ofNat ((a.toNat + b.toNat + c.toNat) / 18446744073709551616)
def X64 (P : Program) (f : FuncId) : Prop := ∀ (a b c : UInt64) (w : World), c.toNat ≤ 1 → (callFunc f #[vu a, vu b, vu c]).run P w = .ok (.value (.tuple [vu (add64S a b c), vu (add64C a b c)].toArray)) w
theorem x64 {P : Program} {f : FuncId} {fn : Func} (hf : P.funcs[f]? = some fn) (h1 : (fn.name == "runtime.NumGoroutine") = false) (h2 : fn.body.isNone = true) (h3 : Extern.findNext fn = none) (h4 : Extern.find fn = some add64Entry) : X64 P f := by
  intro a b c w hc
  have ha := UInt64.toNat_lt a
  have hb := UInt64.toNat_lt b
  rw [run_callFunc_extern hf h1 h2 h3 h4, run_add64 _ _ _ (by omega) (by omega) (by omega) (by omega)]
  simp only [Result.andThen]
  have e1 : (((a.toNat : Int) + (b.toNat : Int) + (c.toNat : Int)) % 18446744073709551616) = ((add64S a b c).toNat : Int) := by
    unfold add64S
    rw [UInt64.toNat_add, UInt64.toNat_add]; omega
  have e2 : (((a.toNat : Int) + (b.toNat : Int) + (c.toNat : Int)) / 18446744073709551616) = ((add64C a b c).toNat : Int) := by
    unfold add64C
    rw [UInt64.toNat_ofNat']; omega
  rw [e1, e2]
section
variable {P : Program} {ρ : Env} {w : World} {ty : TypeId} {f : FuncId} {x y z : Operand} {ats : Array TypeId} {a b c : UInt64}
theorem Y.add64 (h : X64 P f) (hc : c.toNat ≤ 1) (hx : ev ρ x = some (vu a)) (hy : ev ρ y = some (vu b)) (hz : ev ρ z = some (vu c)) :
    Y P (.call { callee := .value (.func f), args := #[x, y, z], argTypes := ats }) ty ρ w (.tuple [vu (add64S a b c), vu (add64C a b c)].toArray) := by
  intro A n o ha ho ht
  obtain ⟨d, op, t, pos, aft, g⟩ := o
  simp only at ho ht
  subst ho
  rw [execOp_call_go]
  have e : (#[] ++ #[x, y, z].map A.eval ++ #[] : Array Value) = #[vu a, vu b, vu c] := by simp [ha.eval hx, ha.eval hy, ha.eval hz]
  rw [e]
  exact h a b c w hc
end
end Go.Lg
namespace Go.Lg
open Go
/-! ### recursion -/
open Classical in
/-- the first answer that comes when one may call oneself so many times -/
noncomputable def fuel {α : Type} (f : Nat → Option α) : Option α := if h : ∃ k, (f k).isSome then f (Classical.choose h) else none
section
variable {P : Program} {n : Nat} {ops : Array Oper} {Q : Exit → Act → World → Prop} {ρ : Env} {w : World} {rest : List Oper} {O : Own}
variable {d : Nat} {ty : TypeId} {pos : String} {aft : Array Edge} {x : Operand}
/-! ### a loop's rounds, one by one -/
theorem WC.unroll {c : Code} (k : Nat) (h : WC P n (Exit.then (Code.rounds P c Q k) Q) c ρ w) : WC P n Q (.loop c) ρ w :=
  fun a ha => wp_loop_rounds (k + 1) (h a ha)
theorem At.again {c : Code} {k : Nat} (h : WC P n (Exit.then (Code.rounds P c Q k) Q) c ρ w) : At n (Exit.then (Code.rounds P c Q (k + 1)) Q) .normal ρ w :=
  fun a ha => h a ha
/-! ### a slice literal as an object -/
theorem Y.lenv {t e : TypeId} {size bytes : Nat} {z : Value} {q : Option Addr} {l c : Nat}
    (ht : TyOk P t (.slice e) size bytes z) (hx : ev ρ x = some (.slice q l c)) : Y P (.call { callee := .builtin .len, args := #[x], argTypes := #[t] }) ty ρ w (vi ((l : Nat) : Int)) := by
  intro a n o ha ho _
  simp [execOp, ho, resolve, invoke, builtin, ha.eval hx, Builtin.len_, run_underlying ht.u, goInt]
theorem WL.buildLit (ℓ : Nat) {t e : TypeId} {len m sz0 by0 bytes : Nat} {z0 z : Value} {ed : TypeDesc} {parts : Array (Nat × Operand)} {vals : List (Nat × Value)} (cells : List Value)
    (ht : TyOk P t (.slice e) sz0 by0 z0) (he : TyOk P e ed m bytes z) (h0 : len * m ≠ 0) (hlen : len * m ≤ 65536)
    (hv : ∀ a n, Fits n ρ a → (parts.map fun (i, x) => (i, a.eval x)) = vals.toArray)
    (hf : Instr.fill (fun i => some (i * m, m)) ((Array.range (len * m)).map (z.cells[· % z.cells.size]!)) vals = some cells.toArray) (hd : Nat.blt d n = true)
    (h : ∀ b O' w', Stp [] O w O' w' → Blk ℓ O' w' b e cells → WL P n ops Q rest ((d, .slice (some ⟨b, 0, none⟩) len len) :: ρ) w') :
    WL P n ops Q (⟨some d, .buildSlice t len parts, ty, pos, aft, none⟩ :: rest) ρ w := by
  intro a ha
  refine wpList_plain rfl fun K hK => ?_
  obtain ⟨i, hi, hzz, hsz, hby⟩ := he.i
  have hrun : (Instr.buildSlice t len vals.toArray).run P w = .ok (.slice (some ⟨w.heap.size, 0, none⟩) len len) (w.alloc (.cells cells.toArray e)) := by
    have hf2 : Instr.fill (fun i => some (i * m, m)) ((Array.range (len * m)).map (z.cells[· % z.cells.size]!)) vals.toArray.toList = some cells.toArray := by simpa using hf
    have hq : ¬ (16777216 < len * m) := by omega
    simp [Instr.buildSlice, run_underlying ht.u, sizeOf, typeInfo, zeroValue, hi, hsz, hzz, h0, hq, newRow, hf2]
  unfold Oper.wp execOp
  simp only [hv a n ha, Sem.run_bind, hrun, Result.andThen_ok, Sem.run_pure]
  exact hK _ _ (h _ _ _ (stp_alloc _ ℓ) (blk_alloc ℓ e cells) _ (ha.put hd _))
end
end Go.Lg
namespace Go.Lg
open Go
section
variable {P : Program} {ρ : Env} {w : World} {ty t t' : TypeId} {x y : Operand}
def EqV (P : Program) (d : Nat) (t : TypeId) (a b : Value) (r : Bool) : Prop := ∀ w, (Op.equalIn d t a b).run P w = .ok r w
def EqF (P : Program) (d : Nat) (xs ys : Array Value) (fs : List Field) (r : Bool) : Prop := ∀ w, (Op.eqFields d xs ys fs).run P w = .ok r w
theorem EqF.nil {d : Nat} {xs ys : Array Value} : EqF P d xs ys [] true := fun _ => rfl
theorem EqF.cons {d : Nat} {xs ys : Array Value} {f : Field} {fs : List Field} {a b : Value} {r r' : Bool} (hn : f.name ≠ "_") (ha : ∀ w, (part f.type xs f.offset).run P w = .ok a w) (hb : ∀ w, (part f.type ys f.offset).run P w = .ok b w)
    (he : EqV P d f.type a b r) (k : EqF P d xs ys fs r') : EqF P d xs ys (f :: fs) (r && r') := by
  intro w
  simp only [Op.eqFields, Sem.run_ite, Sem.run_bind, ha w, hb w, he w, Result.andThen_ok, if_pos hn]
  cases r
  · simp
  · simpa using k w
theorem EqV.i {d : Nat} {a b : Int} (h : P.underlying t = some (.int .i64)) : EqV P (d + 1) t (vi a) (vi b) (decide (a = b)) := fun w => by
  show (Op.equalIn (d + 1) t (.int .i64 a) (.int .i64 b)).run P w = _
  rw [run_equalIn_int w d t .i64 .i64 a b h]; rfl
theorem EqV.s {d : Nat} {a b : List UInt8} (h : P.underlying t = some .string) : EqV P (d + 1) t (vs a) (vs b) (decide (a = b)) := fun w => by
  show (Op.equalIn (d + 1) t (.string ⟨a.toArray⟩) (.string ⟨b.toArray⟩)).run P w = _
  rw [run_equalIn_string w d t _ _ h, ByteArray.toList_eq, ByteArray.toList_eq]
  by_cases q : a = b
  · subst q; simp
  · simp [q]
theorem EqV.u {d : Nat} {a b : UInt64} (h : P.underlying t = some (.int .u64)) : EqV P (d + 1) t (vu a) (vu b) (decide (a = b)) := fun w => by
  show (Op.equalIn (d + 1) t (.int .u64 (a.toNat : Int)) (.int .u64 (b.toNat : Int))).run P w = _
  rw [run_equalIn_int w d t .u64 .u64 _ _ h]
  congr 1
  rw [Bool.eq_iff_iff, beq_iff_eq, decide_eq_true_eq, Int.ofNat_inj, UInt64.toNat_inj]
theorem EqV.B {d : Nat} {a b : Bool} (h : P.underlying t = some .bool) : EqV P (d + 1) t (.bool a) (.bool b) (decide (a = b)) := fun w => by
  rw [run_equalIn_bool' w d t a b h]
  congr 1
/-- a structure's cells, both ways -/
structure AgOk (P : Program) (t : TypeId) (fs : Array Field) : Prop where
  u : P.underlying t = some (.struct fs)
  p : P.stoodInHeld t = false
  g : P.eqGuardType P.depth t = false
end
end Go.Lg
namespace Go.Lg
open Go
section
variable {P : Program} {n : Nat} {ops : Array Oper} {Q : Exit → Act → World → Prop} {ρ : Env} {w : World} {rest : List Oper}
variable {d : Nat} {ty : TypeId} {pos : String} {aft : Array Edge} {ats : Array TypeId} {f : FuncId} {x : Operand} {xs : List Operand} {fv cv vals : List Value} {Post : Value → World → Prop}
theorem WL.callJ {σ : Type} (I : σ → World → Prop) (V : σ → Value) (hk : CallOk P f) (hargs : evs ρ xs = some vals) (hd : Nat.blt d n = true) (hc : Rets P f vals w (fun v w' => ∃ x, I x w' ∧ v = V x))
    (h : ∀ x w', I x w' → WL P n ops Q rest ((d, V x) :: ρ) w') : WL P n ops Q (⟨some d, .call { callee := .value (.func f), args := xs.toArray, argTypes := ats }, ty, pos, aft, none⟩ :: rest) ρ w :=
  WL.call hk hargs hd hc fun v w' ⟨x, hi, e⟩ => by subst e; exact h x w' hi
theorem run_callVal {a : Act} (hx : a.eval x = .func (.func f) fv.toArray cv.toArray) (hk : CallOk P f) (hargs : xs.map a.eval = vals) (dst : Option Tmp) :
    (execOp a.eval ⟨dst, .call { callee := .value x, args := xs.toArray, argTypes := ats }, ty, pos, aft, none⟩).run P w = .ok (.enter f (fv ++ vals ++ cv).toArray) w := by
  have e : (fv.toArray ++ xs.toArray.map a.eval ++ cv.toArray : Array Value) = (fv ++ vals ++ cv).toArray := by simp [← hargs]
  have h := hk (fv.toArray ++ xs.toArray.map a.eval ++ cv.toArray) w
  simp only [execOp, resolve, hx, Deferred.ofValue, Sem.run_bind, Sem.run_pure, Result.andThen_ok, invoke]
  rw [h, e]
theorem WL.callV {σ : Type} (I : σ → World → Prop) (V : σ → Value) (hk : CallOk P f) (hx : ev ρ x = some (.func (.func f) fv.toArray cv.toArray)) (hargs : evs ρ xs = some vals) (hd : Nat.blt d n = true)
    (hc : Rets P f (fv ++ vals ++ cv) w (fun v w' => ∃ x, I x w' ∧ v = V x))
    (h : ∀ x w', I x w' → WL P n ops Q rest ((d, V x) :: ρ) w') : WL P n ops Q (⟨some d, .call { callee := .value x, args := xs.toArray, argTypes := ats }, ty, pos, aft, none⟩ :: rest) ρ w := by
  intro a ha
  refine wpList_plain rfl fun K hK => ?_
  unfold Oper.wp
  rw [run_callVal (ha.eval hx) hk (ha.evals hargs), Oper.upon_enter]
  refine Calls.mono hc fun e w' ⟨v, he, x, hi, hv⟩ => ?_
  subst he; subst hv
  exact hK _ _ (h x w' hi _ (ha.put hd _))
theorem Y.mkfunc {fs cs : List Operand} (hf : evs ρ fs = some fv) (hc : evs ρ cs = some cv) : Y P (.makeFunc (.func f) fs.toArray cs.toArray) ty ρ w (.func (.func f) fv.toArray cv.toArray) := by
  intro a n o ha ho _
  have e1 := ha.evals hf
  have e2 := ha.evals hc
  simp [execOp, ho, Instr.makeFunc, ← e1, ← e2]
end
section
variable {α : Type} {R : Rep α} {w w' : World} {O O' : Own} {A B : Nat → Prop} {v u : Value} {xs : List α} {e : TypeId} {L : List Nat}
theorem not_nil {k : Nat} : (Value.slice none 0 0).ownBlock ≠ some k := fun e => by simp [Value.ownBlock] at e
/-! ### package variables that are read alone -/
theorem CAt.idx {ls : List Nat} {b off : Nat} {cells : List Value} {i : Int} {x : α} (h : CAt ls O w b off cells) (hr : Rows' R w A cells xs) (hi : idx xs i = some x) :
    ∃ cs, CAt ls O w b (off + i.toNat * R.n) cs ∧ R.ok w A cs x ∧ 0 ≤ i ∧ i < xs.length := by
  have h0 : 0 ≤ i ∧ xs[i.toNat]? = some x := by
    unfold Lg.idx at hi; split at hi
    · exact ⟨by assumption, hi⟩
    · cases hi
  have h1 := Rows'.get i.toNat x hr h0.2
  have h2 := (List.getElem?_eq_some_iff.1 h0.2).1
  exact ⟨_, ⟨h.lab, h.lt, h.at_.sub _ _ (by rw [R.len h1])⟩, h1, h0.1, by omega⟩
theorem RowG.nil : RowG R e w w' v (.slice none 0 0) [] := ⟨RowF.nil (w := w).1, fun _ h => absurd h not_nil⟩
theorem RowF.g (h : RowF R e w w' u xs) : RowG R e w w' v u xs := ⟨h.1, fun b hb => .inr (h.2 b hb)⟩
end
section
variable {P : Program} {ρ : Env} {w : World} {ty t e : TypeId} {x y : Operand}
end
section
variable {P : Program} {n : Nat} {l : List Oper} {Q : Exit → Act → World → Prop} {L F S : List Nat} {f : Nat} {ρ : Env} {O : Own} {w : World}
end
section
variable {P : Program} {ρ : Env} {w : World} {ty t t' : TypeId} {x y : Operand} {a b : List UInt8}
end
/-! ### which block a label names, at the start -/
section
variable {O : Own} {A : Nat → Prop} {v u : Value} {b ℓ ℓ' : Nat}
end
end Go.Lg
namespace Go.Lg
open Go
def fE (n : Nat) : Nat := n / 4503599627370496 % 2048
def fM (n : Nat) : Nat := n % 4503599627370496
/-- is that not a number? -/
def fOdd (n : Nat) : Bool := decide (fE n = 2047 ∧ fM n ≠ 0)
/-- the sum's bits; of what is no sum the odd one's -/
def fAdd (a b : UInt64) : UInt64 := match Ieee.double.add a.toNat b.toNat with
  | some r => UInt64.ofNat r
  | none => 9221120237041090561
def fLess (a b : UInt64) : Bool := Ieee.double.order a.toNat b.toNat == some .lt
/-- the one odd one -/
def fCan (n : Nat) : UInt64 := if fOdd n = true then 9221120237041090561 else UInt64.ofNat n
/-- what an operation gives: its answer, or bits that are drawn, of no number -/
def FRes (o : Option Nat) (r : Nat) : Prop := r < 18446744073709551616 ∧ (o = some r ∨ (o = none ∧ fOdd r = true))
theorem nan_cut (t : Nat) : fOdd ((t % 2) * 2 ^ 63 + 0x7ff0000000000000 + 1 + (t / 2) % (2 ^ 52 - 1)) = true ∧ (t % 2) * 2 ^ 63 + 0x7ff0000000000000 + 1 + (t / 2) % (2 ^ 52 - 1) < 18446744073709551616 := by
  have e1 : (2 : Nat) ^ 63 = 9223372036854775808 := by decide
  have e2 : (2 : Nat) ^ 52 - 1 = 4503599627370495 := by decide
  rw [e1, e2]
  have h : t / 2 % 4503599627370495 < 4503599627370495 := Nat.mod_lt _ (by omega)
  generalize t / 2 % 4503599627370495 = q at *
  refine ⟨?_, by omega⟩
  unfold fOdd fE fM
  rw [decide_eq_true_eq]
  omega
section
variable {P : Program} {n : Nat} {ops : Array Oper} {Q : Exit → Act → World → Prop} {ρ : Env} {w : World} {rest : List Oper} {O : Own}
variable {d : Nat} {ty t t' : TypeId} {pos : String} {aft : Array Edge} {x y : Operand} {a b : Nat}
theorem Y.fless (hx : ev ρ x = some (.float .f64 a)) (hy : ev ρ y = some (.float .f64 b)) : Y P (.binOp .lss t x y t') ty ρ w (.bool (Ieee.double.order a b == some .lt)) := by
  intro A n o ha ho _
  simp [execOp, ho, ha.eval hx, ha.eval hy, eqGuard, Go.binOp, Op.floatCmp, FloatKind.format]
/-! the calls that the model answers -/
def XFrom (P : Program) (f : FuncId) : Prop := ∀ (a : UInt64) (w : World), (callFunc f #[vu a]).run P w = .ok (.value (.float .f64 a.toNat)) w
def XBits (P : Program) (f : FuncId) : Prop := ∀ (r : Nat) (w : World), r < 18446744073709551616 → (callFunc f #[.float .f64 r]).run P w = .ok (.value (vu (UInt64.ofNat r))) w
theorem xfrom {f : FuncId} {fn : Func} (hf : P.funcs[f]? = some fn) (h1 : (fn.name == "runtime.NumGoroutine") = false) (h2 : fn.body.isNone = true) (h3 : Extern.findNext fn = none) (h4 : Extern.find fn = some Extern.MathFloatBits.float64frombits) : XFrom P f := by
  intro a w
  rw [run_callFunc_extern hf h1 h2 h3 h4]; rfl
theorem xbits {f : FuncId} {fn : Func} (hf : P.funcs[f]? = some fn) (h1 : (fn.name == "runtime.NumGoroutine") = false) (h2 : fn.body.isNone = true) (h3 : Extern.findNext fn = none) (h4 : Extern.find fn = some Extern.MathFloatBits.float64bits) : XBits P f := by
  intro r w hr
  rw [run_callFunc_extern hf h1 h2 h3 h4]
  have e : ((UInt64.ofNat r).toNat : Int) = (r : Int) := by rw [UInt64.toNat_ofNat']; omega
  show Result.ok (Next.value (Value.int .u64 (r : Int))) w = Result.ok (Next.value (Value.int .u64 ((UInt64.ofNat r).toNat : Int))) w
  rw [e]
theorem Y.ffrom {f : FuncId} {ats : Array TypeId} {a : UInt64} (h : XFrom P f) (hx : ev ρ x = some (vu a)) : Y P (.call { callee := .value (.func f), args := #[x], argTypes := ats }) ty ρ w (.float .f64 a.toNat) := by
  intro A n o ha ho ht
  obtain ⟨d, op, t, pos, aft, g⟩ := o
  simp only at ho ht
  subst ho
  rw [execOp_call_go]
  have e : (#[] ++ #[x].map A.eval ++ #[] : Array Value) = #[vu a] := by simp [ha.eval hx]
  rw [e]
  exact h a w
theorem Y.fbits {f : FuncId} {ats : Array TypeId} {r : Nat} (h : XBits P f) (hr : r < 18446744073709551616) (hx : ev ρ x = some (.float .f64 r)) : Y P (.call { callee := .value (.func f), args := #[x], argTypes := ats }) ty ρ w (vu (UInt64.ofNat r)) := by
  intro A n o ha ho ht
  obtain ⟨d, op, t, pos, aft, g⟩ := o
  simp only at ho ht
  subst ho
  rw [execOp_call_go]
  have e : (#[] ++ #[x].map A.eval ++ #[] : Array Value) = #[.float .f64 r] := by simp [ha.eval hx]
  rw [e]
  exact h r w hr
end
/-- the one odd one, by what the program asks -/
theorem fodd_of {a : UInt64} : decide (9218868437227405312 < (a &&& ~~~9223372036854775808)) = fOdd a.toNat := by
  have hm : (a &&& ~~~9223372036854775808).toNat = a.toNat % 9223372036854775808 := by
    have e : (~~~(9223372036854775808 : UInt64)).toNat = 2 ^ 63 - 1 := by decide
    rw [UInt64.toNat_and, e, Nat.and_two_pow_sub_one_eq_mod]
  have h := UInt64.toNat_lt a
  unfold fOdd fE fM
  rw [decide_eq_decide, UInt64.lt_iff_toNat_lt, hm, show (9218868437227405312 : UInt64).toNat = 9218868437227405312 from rfl]; omega
theorem fcan_res {o : Option Nat} {r : Nat} (h : FRes o r) (ho : ∀ k, o = some k → fOdd k = false) : fCan r = (o.map UInt64.ofNat).getD 9221120237041090561 := by
  rcases h.2 with h | ⟨h, h'⟩
  · subst h
    unfold fCan
    rw [if_neg (by rw [ho r rfl]; simp)]; rfl
  · subst h
    unfold fCan
    rw [if_pos h']; rfl
open Ieee in
theorem word_num {s : Bool} {R : Nat} (h : R ≤ 9218868437227405312) : fOdd (double.word s R) = false ∧ double.word s R < 18446744073709551616 := by
  have hsw : double.signWeight = 9223372036854775808 := by decide
  unfold Format.word
  rw [hsw]
  refine ⟨?_, by split <;> omega⟩
  unfold fOdd fE fM
  rw [decide_eq_false_iff_not]
  split <;> omega
open Ieee in
theorem write_num {d : Datum} (h : d.isNaN = false) : fOdd (double.write d) = false := by
  have hinf : double.infRung = 9218868437227405312 := by decide
  cases d with
  | nan s f => simp [Datum.isNaN] at h
  | infinity s =>
    unfold Format.write
    dsimp only
    rw [hinf]
    exact (word_num (Nat.le_refl _)).1
  | number s m p =>
    unfold Format.write Format.nearest
    dsimp only
    split
    · exact (word_num (by omega)).1
    · rw [hinf]
      exact (word_num (Nat.min_le_right _ _)).1
open Ieee in
theorem sum_num {x y z : Datum} (h : x.sum y = some z) : z.isNaN = false := by
  unfold Datum.sum at h
  split at h
  · cases h
  · cases h
  · split at h
    · cases h; rfl
    · cases h
  · cases h; rfl
  · cases h; rfl
  · cases h; rfl
theorem add_num {a b k : Nat} (h : Ieee.double.add a b = some k) : fOdd k = false := by
  unfold Ieee.Format.add at h
  obtain ⟨z, h1, rfl⟩ := Option.map_eq_some_iff.1 h
  exact write_num (sum_num h1)
theorem fAdd_res {a b : UInt64} {r : Nat} (h : FRes (Ieee.double.add a.toNat b.toNat) r) : fCan r = fAdd a b := by
  rw [fcan_res h fun _ => add_num]
  unfold fAdd
  cases Ieee.double.add a.toNat b.toNat <;> rfl
end Go.Lg
namespace Go.Lg
open Go
section
variable {P : Program} {n : Nat} {ops : Array Oper} {Q : Exit → Act → World → Prop} {ρ : Env} {w : World} {rest : List Oper} {O : Own}
variable {d : Nat} {ty t t' : TypeId} {pos : String} {aft : Array Edge} {x y : Operand} {a b c e : Nat} {ats : Array TypeId}
theorem Y.cplx (hx : ev ρ x = some (.float .f64 a)) (hy : ev ρ y = some (.float .f64 b)) : Y P (.call { callee := .builtin .complex, args := #[x, y], argTypes := ats }) ty ρ w (.complex .f64 a b) := by
  intro A n o ha ho _
  have hb : ∀ u v, Builtin.complex_ u v #[.float .f64 a, .float .f64 b] = pure (.complex .f64 a b) := fun _ _ => rfl
  simp [execOp, ho, resolve, invoke, builtin, ha.eval hx, ha.eval hy, hb]
theorem Y.creal (hx : ev ρ x = some (.complex .f64 a b)) : Y P (.call { callee := .builtin .real, args := #[x], argTypes := ats }) ty ρ w (.float .f64 a) := by
  intro A n o ha ho _
  have hb : ∀ u v, Builtin.real_ u v #[.complex .f64 a b] = pure (.float .f64 a) := fun _ _ => rfl
  simp [execOp, ho, resolve, invoke, builtin, ha.eval hx, hb]
theorem Y.cimag (hx : ev ρ x = some (.complex .f64 a b)) : Y P (.call { callee := .builtin .imag, args := #[x], argTypes := ats }) ty ρ w (.float .f64 b) := by
  intro A n o ha ho _
  have hb : ∀ u v, Builtin.imag_ u v #[.complex .f64 a b] = pure (.float .f64 b) := fun _ _ => rfl
  simp [execOp, ho, resolve, invoke, builtin, ha.eval hx, hb]
theorem arith_run (op : BinOp) (f : Option Nat) (hop : Op.floatArith op .f64 a b = (do
      match f with
      | some r => pure (.float .f64 r)
      | none => pure (.float .f64 (← choose (.nanBits .f64 a b))))) (hf : ∀ r, f = some r → r < 18446744073709551616) :
    ∃ r w', (Op.Complex.arith op .f64 a b).run P w = .ok r w' ∧ Stp [] O w O w' ∧ FRes f r := by
  unfold Op.Complex.arith
  rw [hop]
  cases f with
  | some r => exact ⟨r, w, rfl, Stp.refl _ _ _, hf r rfl, .inl rfl⟩
  | none =>
    have hn := nan_cut (w.tape w.drawn (.nanBits .f64 a b))
    exact ⟨_, w.drew, rfl, stp_drew, hn.2, .inr ⟨rfl, hn.1⟩⟩
theorem WL.cadd (hx : ev ρ x = some (.complex .f64 a b)) (hy : ev ρ y = some (.complex .f64 c e)) (hd : Nat.blt d n = true)
    (h : ∀ r s w', Stp [] O w O w' → FRes (Ieee.double.add a c) r → FRes (Ieee.double.add b e) s → WL P n ops Q rest ((d, .complex .f64 r s) :: ρ) w') :
    WL P n ops Q (⟨some d, .binOp .add t x y t', ty, pos, aft, none⟩ :: rest) ρ w := by
  intro A hA
  refine wpList_plain rfl fun K hK => ?_
  obtain ⟨r, w', h1, h2, h3⟩ := arith_run (P := P) (w := w) (O := O) (a := a) (b := c) .add (Ieee.double.add a c) rfl (fun r hr => Ieee.double.add_lt hr)
  obtain ⟨s, w'', k1, k2, k3⟩ := arith_run (P := P) (w := w') (O := O) (a := b) (b := e) .add (Ieee.double.add b e) rfl (fun r hr => Ieee.double.add_lt hr)
  have hrun : (execOp A.eval ⟨some d, .binOp .add t x y t', ty, pos, aft, none⟩).run P w = .ok (.value (.complex .f64 r s)) w'' := by
    simp [execOp, hA.eval hx, hA.eval hy, eqGuard, Go.binOp, Op.complexOp, h1, k1]
  unfold Oper.wp
  rw [hrun]
  exact hK _ _ (h r s w'' (h2.trans k2) h3 k3 _ (hA.put hd _))
end
end Go.Lg
namespace Go.Lg
open Go
universe u
abbrev pt (b o : Nat) : Value := .pointer (some ⟨b, o, none⟩)
abbrev ag (l : List Value) : Value := .agg l.toArray
abbrev tp (l : List Value) : Value := .tuple l.toArray
abbrev ob (v : Value) := v.ownBlock
abbrev vB (b : Bool) : Value := .bool b
theorem z {α : Sort u} {a : α} : a = a := rfl
section
variable {α : Type} {R : Rep α} {w w' : World} {O O' : Own} {v : Value} {xs : List α} {L : List Nat}
theorem Sl.i (h : Sl R w (imm O) v xs) (s : Stp L O w O' w') (h1 : L.contains 0 = false) (h2 : L.contains 1 = false) : Sl R w' (imm O') v xs := h.mono (imm_st s h1 h2)
theorem Sl.f (h : Sl R w (frs O) v xs) (s : Stp L O w O' w') (h1 : L.contains 1 = false) : Sl R w' (frs O') v xs := h.mono (frs_st s h1)
theorem Rows'.i {cs : List Value} (h : Rows' R w (imm O) cs xs) (s : Stp L O w O' w') (h1 : L.contains 0 = false) (h2 : L.contains 1 = false) : Rows' R w' (imm O') cs xs := Rows'.mono (imm_st s h1 h2) h
theorem Rows'.f {cs : List Value} (h : Rows' R w (frs O) cs xs) (s : Stp L O w O' w') (h1 : L.contains 1 = false) : Rows' R w' (frs O') cs xs := Rows'.mono (frs_st s h1) h
end
theorem sq : type_of% @WC.seq := @WC.seq
theorem rg : type_of% @WC.region := @WC.region
theorem nl : type_of% @WL.nil := @WL.nil
theorem th : type_of% @At.then := @At.then
theorem wY : type_of% @WL.y := @WL.y
theorem su_ : type_of% @Stp.up := @Stp.up
theorem tr_ : type_of% @Stp.trans := @Stp.trans
theorem sk : type_of% @WC.skip := @WC.skip
theorem ug : type_of% @WL.ung := @WL.ung
theorem rt : type_of% @WC.ret := @WC.ret
theorem ym : type_of% @Y.move := @Y.move
theorem ya : type_of% @Y.assign := @Y.assign
theorem yf : type_of% @Y.fieldAddr := @Y.fieldAddr
theorem yl : type_of% @Y.loadSc := @Y.loadSc
theorem yn : type_of% @Y.nilCheck := @Y.nilCheck
theorem le_ : type_of% @Nat.le_of_ble_eq_true := @Nat.le_of_ble_eq_true
theorem se_ : type_of% @Stp.ext := @Stp.ext
theorem sr_ : type_of% @Stp.refl := @Stp.refl
theorem yL : type_of% @Y.loadAg := @Y.loadAg
theorem yb : type_of% @Y.build := @Y.build
theorem yx : type_of% @Y.extract := @Y.extract
theorem fe_ : type_of% @Fits.evalp := @Fits.evalp
end Go.Lg
