/- Lemmas about the given model and about plain data, which the rows stand on: no statement of the program by itself. -/
import Derived.Test.YtdpokdaeekanjaaRkLgMem
set_option linter.unusedVariables false
namespace Go.Lg
open Go
/-! ### Closed facts of a program's types -/
structure TyOk (P : Program) (t : TypeId) (d : TypeDesc) (size bytes : Nat) (zero : Value) : Prop where
  u : P.underlying t = some d
  i : ∃ i, P.info? t = some i ∧ i.zero = some zero ∧ i.size = size ∧ i.bytes = bytes
theorem tyOk {P : Program} {t : TypeId} {d : TypeDesc} {size bytes : Nat} {zero : Value} (hu : P.underlying t = some d) (hi : (P.info? t).map (fun i => (i.zero, i.size, i.bytes)) = some (some zero, size, bytes)) : TyOk P t d size bytes zero :=
  ⟨hu, info_parts hi⟩
theorem TyOk.size {P : Program} {t : TypeId} {d : TypeDesc} {size bytes : Nat} {zero : Value} (h : TyOk P t d size bytes zero) {w : World} : (sizeOf t).run P w = .ok size w := by
  obtain ⟨i, hi, _, hs, _⟩ := h.i
  simp [sizeOf, typeInfo, hi, hs]
def isAggD : TypeDesc → Bool
  | .struct _ | .array _ _ => true
  | _ => false
def FieldOk (P : Program) (s : TypeId) (f off : Nat) : Prop := ∀ (b o : Nat) (w : World), (Instr.fieldAt s (.pointer (some ⟨b, o, none⟩)) f).run P w = .ok (.pointer (some ⟨b, o + off, none⟩)) w
theorem Addr_add (b o n : Nat) : (⟨b, o, none⟩ : Addr).add n = ⟨b, o + n, none⟩ := by unfold Addr.add; split <;> simp_all
theorem fieldOk {P : Program} {s : TypeId} {f off : Nat} {fs : Array Field} {fld : Field} (hu : P.underlying s = some (.struct fs)) (hf : fs[f]? = some fld) (ho : fld.offset = off)
    (hz : ((P.info? fld.type).map fun i => i.size != 0) = some true) : FieldOk P s f off := by
  intro b o w
  obtain ⟨i, hi, hi2⟩ := Option.map_eq_some_iff.1 hz
  have : i.size ≠ 0 := by simpa using hi2
  simp [Instr.fieldAt, run_underlying hu, hf, Instr.sureAddr, fieldPlace, sizeOf, typeInfo, hi, this, Addr_add, ho]
def CallOk (P : Program) (f : FuncId) : Prop := ∀ (args : Array Value) (w : World), (callFunc f args).run P w = .ok (.enter f args) w
theorem callOk {P : Program} {f : FuncId} {fn : Func} (hf : P.funcs[f]? = some fn) (hn : (fn.name == "runtime.NumGoroutine") = false) (hb : fn.body.isNone = false) : CallOk P f := by
  intro args w
  have hn' : ¬ (fn.name = "runtime.NumGoroutine") := by simpa using hn
  have hb' : ¬ (fn.body = none) := fun e => by simp [e] at hb
  simp [callFunc, hf, hn', hb']
/-! ### Reading and writing cells -/
/-- from place off on, block b holds these cells -/
def CellsAt (w : World) (b off : Nat) (cs : List Value) : Prop := ∃ cells t fr, w.heap[b]? = some (.cells cells t fr) ∧ (cells.toList.drop off).take cs.length = cs
theorem CellsAt.cell {w : World} {b off : Nat} {cs : List Value} (h : CellsAt w b off cs) : ∀ j v, cs[j]? = some v → w.cell? ((⟨b, off, none⟩ : Addr).add j) = some v := by
  obtain ⟨cells, t, fr, hb, hc⟩ := h
  intro j v hj
  rw [Addr_add]
  have : w.cell? ⟨b, off + j, none⟩ = cells[off + j]? := by simp [World.cell?, hb]
  rw [this]
  rw [← hc] at hj
  have hj2 := (List.getElem?_eq_some_iff.1 hj).1
  simp only [List.length_take] at hj2
  rw [List.getElem?_take, if_pos (by omega), List.getElem?_drop] at hj
  simpa using hj
theorem Blk.cells {ℓ : Nat} {O : Own} {w : World} {b : Nat} {t : TypeId} {cells : List Value} (h : Blk ℓ O w b t cells) (off : Nat) (cs : List Value) (hc : (cells.drop off).take cs.length = cs) : CellsAt w b off cs :=
  ⟨_, _, _, h.blk, by simpa using hc⟩
theorem Blk.cell {ℓ : Nat} {O : Own} {w : World} {b : Nat} {t : TypeId} {cells : List Value} (h : Blk ℓ O w b t cells) (off : Nat) (v : Value) (hc : cells[off]? = some v) : CellsAt w b off [v] :=
  ⟨_, _, _, h.blk, by
    have := (List.getElem?_eq_some_iff.1 hc)
    simp only [List.length_singleton]
    obtain ⟨h1, h2⟩ := this
    show List.take 1 (List.drop off cells) = [v]
    rw [List.drop_eq_getElem_cons h1, h2]
    rfl⟩
section
variable {P : Program} {w : World}
theorem run_loadSc {t : TypeId} {d : TypeDesc} {size bytes : Nat} {z : Value} (ht : TyOk P t d size bytes z) (hd : isAggD d = false) {b off : Nat} {v : Value} (hc : CellsAt w b off [v]) :
    (Instr.loadAt t (.pointer (some ⟨b, off, none⟩))).run P w = .ok v w := by
  have h := hc.cell 0 v rfl
  simp only [Addr_add, Nat.add_zero] at h
  have hg : (isAgg t).run P w = .ok false w := by
    simp only [isAgg, Sem.run_bind, run_underlying ht.u, Result.andThen_ok]
    cases d <;> first | rfl | simp [isAggD] at hd
  simp only [Instr.loadAt, Instr.sureAddr, loadVar, Sem.run_bind, Sem.run_pure, Result.andThen_ok, hg, Bool.false_eq_true, if_false, run_load, h]
theorem run_loadAg {t : TypeId} {d : TypeDesc} {size bytes : Nat} {z : Value} (ht : TyOk P t d size bytes z) (hd : isAggD d = true) {b off : Nat} {cs : List Value} (hc : CellsAt w b off cs) (hl : cs.length = size) :
    (Instr.loadAt t (.pointer (some ⟨b, off, none⟩))).run P w = .ok (.agg cs.toArray) w := by
  obtain ⟨i, hi, _, hs, _⟩ := ht.i
  have hg : (isAgg t).run P w = .ok true w := by
    simp only [isAgg, Sem.run_bind, run_underlying ht.u, Result.andThen_ok]
    cases d <;> first | rfl | simp [isAggD] at hd
  have h1 := run_loadCells_list (P := P) w ⟨b, off, none⟩ cs hc.cell
  rw [hl] at h1
  simp only [Instr.loadAt, Instr.sureAddr, loadVar, Sem.run_bind, Sem.run_pure, Result.andThen_ok, hg, if_true, ht.size, h1]
/-- the cells behind a store -/
def splice (cells : List Value) (off : Nat) (cs : List Value) : List Value := cells.take off ++ cs ++ cells.drop (off + cs.length)
theorem run_storeAt {t : TypeId} {d : TypeDesc} {size bytes : Nat} {z : Value} (ht : TyOk P t d size bytes z) {b off : Nat} {v : Value} {T : TypeId} {cells : List Value}
    (hb : w.heap[b]? = some (.cells cells.toArray T (0, 0))) (hl : v.cells.size = size) (ho : off + size ≤ cells.length) (h1 : ∀ u ∈ v.cells.toList, u.oneCell' = true) :
    (Instr.storeAt t (.pointer (some ⟨b, off, none⟩)) v).run P w = .ok () (w.setRow b (splice cells off v.cells.toList).toArray) := by
  have h2 := run_storeCells_at P b off T v.cells.toList 0 cells.toArray w hb (by simp; omega) h1
  simp only [Nat.add_zero] at h2
  simp only [Instr.storeAt, Instr.sureAddr, storeVar, Sem.run_bind, Sem.run_pure, Result.andThen_ok, ht.size, hl, ne_eq, not_true_eq_false, if_false, h2]
  rfl
theorem Blk.set {ℓ : Nat} {O : Own} {b : Nat} {T : TypeId} {cells cells' : List Value} (h : Blk ℓ O w b T cells) : Blk ℓ O (w.setRow b cells'.toArray) b T cells' :=
  ⟨h.lab, setRow_heap w b _ _ _ _ h.blk⟩
theorem stp_setRow {ℓ : Nat} {O : Own} {b : Nat} (hl : O b = ℓ) (cs : Array Value) : Stp [ℓ] O w O (w.setRow b cs) :=
  ⟨rfl, rfl, rfl, by simp, fun _ _ _ => rfl, fun _ _ _ => rfl, fun k _ hn => setRow_other w b k cs (fun e => hn (by subst e; simp [hl]))⟩
/-- a new block and its label -/
def upd (O : Own) (b ℓ : Nat) : Own := fun k => if k = b then ℓ else O k
theorem stp_alloc {O : Own} (o : Obj) (ℓ : Nat) : Stp [] O w (upd O w.heap.size ℓ) (w.alloc o) :=
  ⟨rfl, rfl, rfl, by show _ ≤ (w.heap.push o).size; simp, fun k hk _ => by simp [upd, Nat.ne_of_lt hk], fun k hk _ => by simp [upd, Nat.ne_of_lt hk], fun k hk _ => heap_alloc_old w o hk⟩
theorem stp_drew {O : Own} : Stp [] O w O w.drew := ⟨rfl, rfl, rfl, Nat.le_refl _, fun _ _ _ => rfl, fun _ _ _ => rfl, fun _ _ _ => rfl⟩
theorem blk_alloc {O : Own} (ℓ : Nat) (T : TypeId) (cells : List Value) : Blk ℓ (upd O w.heap.size ℓ) (w.alloc (.cells cells.toArray T)) w.heap.size T cells :=
  ⟨by simp [upd], heap_alloc_new w _⟩
end
/-! ### The rules -/
section rules
variable {P : Program} {n : Nat} {ops : Array Oper} {Q : Exit → Act → World → Prop} {ρ : Env} {w : World} {rest : List Oper} {O : Own}
variable {d : Nat} {ty : TypeId} {pos : String} {aft : Array Edge}
theorem Y.nilCheck {x : Operand} {a : Addr} (hx : ev ρ x = some (.pointer (some a))) : Y P (.nilCheck x) ty ρ w (.pointer (some a)) := by
  intro A n o ha ho _; simp [execOp, ho, ha.eval hx]
theorem Y.fieldAddr {s f off : Nat} {x : Operand} {b o : Nat} (hf : FieldOk P s f off) (hx : ev ρ x = some (.pointer (some ⟨b, o, none⟩))) : Y P (.fieldAddr s x f) ty ρ w (.pointer (some ⟨b, o + off, none⟩)) := by
  intro A n o' ha ho _; simp [execOp, ho, ha.eval hx, hf b o w]
theorem Y.loadSc {t : TypeId} {td : TypeDesc} {size bytes : Nat} {z : Value} {x : Operand} {b off : Nat} {v : Value} (ht : TyOk P t td size bytes z) (hd : isAggD td = false)
    (hx : ev ρ x = some (.pointer (some ⟨b, off, none⟩))) (hc : CellsAt w b off [v]) : Y P (.load t x) ty ρ w v := by
  intro A n o ha ho _; simp [execOp, ho, ha.eval hx, run_loadSc ht hd hc]
theorem Y.loadAg {t : TypeId} {td : TypeDesc} {size bytes : Nat} {z : Value} {x : Operand} {b off : Nat} {cs : List Value} (ht : TyOk P t td size bytes z) (hd : isAggD td = true)
    (hx : ev ρ x = some (.pointer (some ⟨b, off, none⟩))) (hc : CellsAt w b off cs) (hl : cs.length = size) : Y P (.load t x) ty ρ w (.agg cs.toArray) := by
  intro A n o ha ho _; simp [execOp, ho, ha.eval hx, run_loadAg ht hd hc hl]
theorem Y.build {t : TypeId} {parts : Array (Nat × Operand)} {vals : List (Nat × Value)} {cells : List Value} (hv : ∀ a n, Fits n ρ a → (parts.map fun (i, x) => (i, a.eval x)) = vals.toArray) (hb : P.built t vals = some cells.toArray) :
    Y P (.build t parts) ty ρ w (.agg cells.toArray) := by
  intro A n o ha ho _
  have := run_build (P := P) w t vals.toArray cells.toArray hb
  simp only [execOp, ho, hv A n ha, Sem.run_bind, this, Result.andThen_ok, Sem.run_pure]
theorem Y.extract {x : Operand} {i : Nat} {vs : Array Value} {v : Value} (hx : ev ρ x = some (.tuple vs)) (hv : vs[i]? = some v) : Y P (.extract x i) ty ρ w v := by
  intro A n o ha ho _; simp [execOp, ho, ha.eval hx, Instr.extract, hv]
theorem Sl.at {α : Type} {R : Rep α} {A : Nat → Prop} {v : Value} {xs : List α} {i : Int} {x : α} (h : Sl R w A v xs) (hi : idx xs i = some x) :
    ∃ b off cap cs, v = .slice (some ⟨b, off, none⟩) xs.length cap ∧ 0 ≤ i ∧ i < xs.length ∧ CellsAt w b (off + i.toNat * R.n) cs ∧ cs.length = R.n ∧ R.ok w A cs x := by
  unfold idx at hi
  split at hi
  case isFalse => cases hi
  rename_i h0
  have hlt := (List.getElem?_eq_some_iff.1 hi).1
  rcases h with ⟨_, rfl⟩ | ⟨_, _, _, rfl⟩ | ⟨b, off, cap, cells, t, fr, e, ha, hb, hc, hs, hr⟩
  · simp at hi
  · simp at hi
  · have hg := Rows'.get i.toNat x hr hi
    have hle : (i.toNat + 1) * R.n ≤ xs.length * R.n := Nat.mul_le_mul_right _ hlt
    rw [Nat.add_mul, Nat.one_mul] at hle
    refine ⟨b, off, cap, _, e, h0, by omega, ⟨cells, t, fr, hb, ?_⟩, R.len hg, hg⟩
    rw [R.len hg, List.drop_take, List.take_take, Nat.min_eq_left (by omega), List.drop_drop]
theorem Y.indexAddr {t e : TypeId} {size bytes size' bytes' : Nat} {z z' : Value} {ed : TypeDesc} {x y : Operand} {k : IntKind} {i : Int} {v : Value} {b off len cap : Nat}
    (ht : TyOk P t (.slice e) size bytes z) (he : TyOk P e ed size' bytes' z') (hx : ev ρ x = some v) (hv : v = .slice (some ⟨b, off, none⟩) len cap) (hy : ev ρ y = some (.int k i)) (h0 : 0 ≤ i) (hl : i < len) :
    Y P (.indexAddr t x y) ty ρ w (.pointer (some ⟨b, off + i.toNat * size', none⟩)) := by
  intro A n o ha ho _
  subst hv
  simp [execOp, ho, ha.eval hx, ha.eval hy, Instr.indexAt, asIntOf, run_underlying ht.u, h0, hl, he.size, Addr_add]
theorem Y.len {t e : TypeId} {size bytes : Nat} {z : Value} {x : Operand} {v : Value} {α : Type} {R : Rep α} {A : Nat → Prop} {xs : List α}
    (ht : TyOk P t (.slice e) size bytes z) (hx : ev ρ x = some v) (h : Sl R w A v xs) : Y P (.call { callee := .builtin .len, args := #[x], argTypes := #[t] }) ty ρ w (vi (xs.length : Int)) := by
  intro a n o ha ho _
  have : ∃ q cap, v = .slice q xs.length cap := by
    rcases h with ⟨rfl, rfl⟩ | ⟨q, c, rfl, rfl⟩ | ⟨b, off, cap, cells, t, fr, e, _⟩
    · exact ⟨_, _, rfl⟩
    · exact ⟨_, _, rfl⟩
    · exact ⟨_, _, e⟩
  obtain ⟨q, cap, rfl⟩ := this
  simp [execOp, ho, resolve, invoke, builtin, ha.eval hx, Builtin.len_, run_underlying ht.u, goInt]
theorem Y.min_i {x y : Operand} {a b : Int} {ats : Array TypeId} (hx : ev ρ x = some (vi a)) (hy : ev ρ y = some (vi b)) : Y P (.call { callee := .builtin .min, args := #[x, y], argTypes := ats }) ty ρ w (vi (min a b)) := by
  intro A n o ha ho _
  have e : (if b < a then b else a) = min a b := by omega
  simp [execOp, ho, resolve, invoke, builtin, ha.eval hx, ha.eval hy, Builtin.min_, Builtin.min2, e]
/-! operations that make or write memory -/
theorem WL.box {T : TypeId} {x : Operand} {v : Value} (ℓ : Nat) (cells : List Value) (hx : ev ρ x = some v) (hc : v.cells = cells.toArray) (hd : Nat.blt d n = true)
    (h : ∀ b O' w', Stp [] O w O' w' → Blk ℓ O' w' b T cells → WL P n ops Q rest ((d, .pointer (some ⟨b, 0, none⟩)) :: ρ) w') : WL P n ops Q (⟨some d, .box T x, ty, pos, aft, none⟩ :: rest) ρ w := by
  intro a ha
  refine wpList_plain rfl fun K hK => ?_
  unfold Oper.wp
  have : (Instr.box T v).run P w = .ok (.pointer (some ⟨w.heap.size, 0, none⟩)) (w.alloc (.cells cells.toArray T)) := by
    simp [Instr.box, newVar, newRow, hc]
  simp only [execOp, ha.eval hx, Sem.run_bind, this, Result.andThen_ok, Sem.run_pure]
  exact hK _ _ (h _ _ _ (stp_alloc _ ℓ) (blk_alloc ℓ T cells) _ (ha.put hd _))
theorem WL.alloc {T : TypeId} {td : TypeDesc} {size bytes : Nat} {z : Value} (ℓ : Nat) (cells : List Value) (ht : TyOk P T td size bytes z) (hc : z.cells = cells.toArray) (hd : Nat.blt d n = true)
    (h : ∀ b O' w', Stp [] O w O' w' → Blk ℓ O' w' b T cells → WL P n ops Q rest ((d, .pointer (some ⟨b, 0, none⟩)) :: ρ) w') : WL P n ops Q (⟨some d, .alloc T, ty, pos, aft, none⟩ :: rest) ρ w := by
  intro a ha
  refine wpList_plain rfl fun K hK => ?_
  unfold Oper.wp
  obtain ⟨i, hi, hz, _, _⟩ := ht.i
  have : (Instr.alloc T true (.tuple #[])).run P w = .ok (.pointer (some ⟨w.heap.size, 0, none⟩)) (w.alloc (.cells cells.toArray T)) := by
    simp [Instr.alloc, zeroValue, typeInfo, hi, hz, newVar, newRow, hc]
  simp only [execOp, Sem.run_bind, this, Result.andThen_ok, Sem.run_pure]
  exact hK _ _ (h _ _ _ (stp_alloc _ ℓ) (blk_alloc ℓ T cells) _ (ha.put hd _))
theorem WL.store {t : TypeId} {td : TypeDesc} {size bytes : Nat} {z : Value} {x y : Operand} {b off ℓ : Nat} {v : Value} {T : TypeId} {cells cells' : List Value} (ht : TyOk P t td size bytes z)
    (hx : ev ρ x = some (.pointer (some ⟨b, off, none⟩))) (hy : ev ρ y = some v) (hb : Blk ℓ O w b T cells) (hl : v.cells.size = size) (ho : off + size ≤ cells.length)
    (h1 : v.cells.toList.all (·.oneCell') = true) (hc : splice cells off v.cells.toList = cells')
    (h : ∀ w', Stp [ℓ] O w O w' → Blk ℓ O w' b T cells' → WL P n ops Q rest ρ w') : WL P n ops Q (⟨none, .store t x y, ty, pos, aft, none⟩ :: rest) ρ w := by
  intro a ha
  refine wpList_plain rfl fun K hK => ?_
  unfold Oper.wp
  have := run_storeAt (w := w) (v := v) ht hb.blk hl ho (fun u hu => List.all_eq_true.1 h1 u hu)
  simp only [execOp, ha.eval hx, ha.eval hy, Sem.run_bind, this, Result.andThen_ok, Sem.run_pure]
  rw [hc]
  exact hK _ _ (h _ (stp_setRow hb.lab _) hb.set _ ha)
end rules
end Go.Lg
