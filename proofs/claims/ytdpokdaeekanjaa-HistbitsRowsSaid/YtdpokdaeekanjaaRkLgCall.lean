/- Lemmas about the given model and about plain data, which the rows stand on: no statement of the program by itself. -/
import Derived.Test.YtdpokdaeekanjaaRkLgMore
set_option linter.unusedVariables false
namespace Go.Lg
open Go
def evs (ρ : Env) : List Operand → Option (List Value)
  | [] => some []
  | x :: xs => (ev ρ x).bind fun v => (evs ρ xs).bind fun vs => some (v :: vs)
theorem Fits.evals {n : Nat} {ρ : Env} {a : Act} (h : Fits n ρ a) : ∀ {xs : List Operand} {vs : List Value}, evs ρ xs = some vs → xs.map a.eval = vs
  | [], vs, e => by simp [evs] at e; subst e; rfl
  | x :: xs, vs, e => by
    simp only [evs] at e
    obtain ⟨v, hv, e⟩ := bnd e
    obtain ⟨us, hu, e⟩ := bnd e
    simp only [Option.some.injEq] at e
    subst e
    simp only [List.map_cons, h.eval hv, h.evals hu]
/-- operands of a literal, by their places -/
def evp (ρ : Env) : List (Nat × Operand) → Option (List (Nat × Value))
  | [] => some []
  | (i, x) :: xs => (ev ρ x).bind fun v => (evp ρ xs).bind fun vs => some ((i, v) :: vs)
theorem Fits.evalp {ρ : Env} : ∀ {xs : List (Nat × Operand)} {vs : List (Nat × Value)}, evp ρ xs = some vs → ∀ (a : Act) (n : Nat), Fits n ρ a → (xs.toArray.map fun (i, x) => (i, a.eval x)) = vs.toArray := by
  intro xs
  induction xs with
  | nil => intro vs e a n _; simp [evp] at e; subst e; simp
  | cons p xs ih =>
    obtain ⟨i, x⟩ := p
    intro vs e a n h
    simp only [evp] at e
    obtain ⟨v, hv, e⟩ := bnd e
    obtain ⟨us, hu, e⟩ := bnd e
    simp only [Option.some.injEq] at e
    subst e
    have := ih hu a n h
    simp only [List.map_toArray] at this ⊢
    simp only [List.map_cons, h.eval hv]
    have h2 : List.map (fun x => (x.1, a.eval x.2)) xs = us := by
      have := congrArg Array.toList this
      simpa using this
    simp only [h2]
/-- it returns, and so -/
def Rets (P : Program) (f : FuncId) (args : List Value) (w : World) (Post : Value → World → Prop) : Prop :=
  Calls P f args.toArray w fun e w' => ∃ v, e = .returned v ∧ Post v w'
theorem Rets.mono {P : Program} {f : FuncId} {args : List Value} {w : World} {Post Post' : Value → World → Prop} (h : Rets P f args w Post) (hm : ∀ v w', Post v w' → Post' v w') : Rets P f args w Post' :=
  Calls.mono h fun _ _ ⟨v, e, hp⟩ => ⟨v, e, hm v _ hp⟩
section
variable {P : Program} {n : Nat} {ops : Array Oper} {Q : Exit → Act → World → Prop} {ρ : Env} {w : World} {rest : List Oper}
variable {d : Nat} {ty : TypeId} {pos : String} {aft : Array Edge} {ats : Array TypeId} {f : FuncId} {xs : List Operand} {vals : List Value} {Post : Value → World → Prop}
theorem WL.call (hk : CallOk P f) (hargs : evs ρ xs = some vals) (hd : Nat.blt d n = true) (hc : Rets P f vals w Post)
    (h : ∀ v w', Post v w' → WL P n ops Q rest ((d, v) :: ρ) w') : WL P n ops Q (⟨some d, .call { callee := .value (.func f), args := xs.toArray, argTypes := ats }, ty, pos, aft, none⟩ :: rest) ρ w := by
  intro a ha
  refine wpList_plain rfl fun K hK => ?_
  unfold Oper.wp
  rw [execOp_call_go]
  have e : (#[] ++ xs.toArray.map a.eval ++ #[] : Array Value) = vals.toArray := by simp [ha.evals hargs]
  rw [e, hk vals.toArray w, Oper.upon_enter]
  refine Calls.mono hc fun e w' ⟨v, he, hp⟩ => ?_
  subst he
  exact hK _ _ (h v w' hp _ (ha.put hd v))
/-! ### Entering and leaving -/
theorem undefs (args : List Value) (m : Nat) : ∀ i v, lk ((List.range args.length).zip args) i = some v → (args.toArray ++ Array.replicate m undef)[i]? = some v := by
  have key : ∀ (args : List Value) (k i : Nat) (v : Value), lk ((List.range' k args.length).zip args) i = some v → ∃ j, i = k + j ∧ args[j]? = some v := by
    intro args
    induction args with
    | nil => intro k i v h; simp [lk] at h
    | cons x args ih =>
      intro k i v h
      simp only [List.length_cons, List.range'_succ, List.zip_cons_cons, lk] at h
      by_cases e : k = i
      · subst e; simp at h; exact ⟨0, rfl, by simpa using h⟩
      · have : Nat.beq k i = false := Bool.eq_false_iff.2 fun h => e (Nat.eq_of_beq_eq_true h)
        rw [this] at h
        obtain ⟨j, hj, hv⟩ := ih (k + 1) i v h
        exact ⟨j + 1, by omega, by simpa using hv⟩
  intro i v h
  rw [List.range_eq_range'] at h
  obtain ⟨j, hj, hv⟩ := key args 0 i v h
  have : j = i := by omega
  subst this
  have hl := (List.getElem?_eq_some_iff.1 hv).1
  rw [Array.getElem?_append_left (by simpa using hl)]
  simpa using hv
theorem Rets.enter {fn : Func} {c : Code} {args : List Value} {Post : Value → World → Prop} (hf : P.funcs[f]? = some fn) (hb : fn.body = some c) (hn : Nat.ble args.length fn.ntmps = true)
    (h : WC P fn.ntmps (bodyPost P fn fun e w' => ∃ v, e = .returned v ∧ Post v w') c ((List.range args.length).zip args) w) : Rets P f args w Post := by
  refine calls_of_wp hf hb (h _ ⟨rfl, ?_, ?_⟩)
  · have : args.length ≤ fn.ntmps := by simpa using hn
    simp; omega
  · exact undefs args _
/-- the results, one by one -/
inductive ResOk (P : Program) (ρ : Env) (w : World) : List ResultVar → List Value → Prop
  | nil : ResOk P ρ w [] []
  | tmp {t : Tmp} {v : Value} {rs : List ResultVar} {vs : List Value} (h : lk ρ t = some v) (k : ResOk P ρ w rs vs) : ResOk P ρ w (.tmp t :: rs) (v :: vs)
  | cell {a : Tmp} {t : TypeId} {b off : Nat} {v : Value} {rs : List ResultVar} {vs : List Value} (h : lk ρ a = some (.pointer (some ⟨b, off, none⟩))) (hl : (Instr.loadAt t (.pointer (some ⟨b, off, none⟩))).run P w = .ok v w) (k : ResOk P ρ w rs vs) : ResOk P ρ w (.cell a t :: rs) (v :: vs)
def resF (tmps : Array Value) : ResultVar → Sem Value
  | .tmp t => pure (tmps.getD t undef)
  | .cell p t => do loadVar t (← asAddr (tmps.getD p undef))
theorem ResOk.run {ρ : Env} {a : Act} (ha : Fits n ρ a) {rs : List ResultVar} {vs : List Value} (h : ResOk P ρ w rs vs) : (rs.mapM (resF a.tmps)).run P w = .ok vs w := by
  induction h with
  | nil => simp
  | tmp h k ih =>
    have := ha.eval (x := .tmp _) (v := _) h
    simp only [Act.eval] at this
    simp only [List.mapM_cons, resF, Sem.run_bind, Sem.run_pure, ih, this, Result.andThen_ok]
  | @cell p t b off v rs vs h hl k ih =>
    have := ha.eval (x := .tmp _) (v := _) h
    simp only [Act.eval] at this
    have hl' := hl
    simp only [Instr.loadAt, Instr.sureAddr, Sem.run_bind, Sem.run_pure, Result.andThen_ok] at hl'
    have h2 : (asAddr (.pointer (some ⟨b, off, none⟩))).run P w = .ok ⟨b, off, none⟩ w := rfl
    simp only [List.mapM_cons, resF, Sem.run_bind, Sem.run_pure, ih, this, h2, hl', Result.andThen_ok]
def packed : List Value → Value
  | [v] => v
  | vs => .tuple vs.toArray
theorem At.res {fn : Func} {rs : List ResultVar} {vs : List Value} {Post : Value → World → Prop} {e : Exit} (he : e = .ret ∨ e = .normal) (hrs : fn.results = rs.toArray) (h : ResOk P ρ w rs vs) (hp : Post (packed vs) w) :
    At n (bodyPost P fn fun e w' => ∃ v, e = .returned v ∧ Post v w') e ρ w := by
  intro a ha
  have hr := h.run ha
  have : (results fn a.tmps).run P w = .ok (packed vs) w := by
    unfold results
    rw [hrs]
    show (do let vs ← rs.toArray.mapM (resF a.tmps); pure (if h : vs.size = 1 then vs[0] else .tuple vs) : Sem Value).run P w = _
    simp only [List.mapM_toArray, Sem.run_bind, Sem.run_map]
    rw [hr]
    simp only [Result.andThen_ok, Sem.run_pure]
    match vs with
    | [] => rfl
    | [v] => rfl
    | u :: v :: vs => simp [packed]
  rcases he with rfl | rfl
  · exact ⟨ha.defers, _, this, _, rfl, hp⟩
  · exact ⟨ha.defers, _, this, _, rfl, hp⟩
end
end Go.Lg
