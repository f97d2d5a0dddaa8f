/- Lemmas about the given model and about plain data, which the rows stand on: no statement of the program by itself. -/
import Derived.Test.YtdpokdaeekanjaaRkLgFn
import Derived.Laws.Concat
import Derived.Laws.Strings
import Derived.Laws.IdiomStrings
set_option linter.unusedVariables false
namespace Go.Lg
open Go
def evI (ρ : Env) : Option Operand → Int → Option Int
  | none, d => some d
  | some x, _ => match ev ρ x with
    | some (.int _ n) => some n
    | _ => none
section rules
variable {P : Program} {n : Nat} {ops : Array Oper} {Q : Exit → Act → World → Prop} {ρ : Env} {w : World} {rest : List Oper} {O : Own}
variable {d : Nat} {ty : TypeId} {pos : String} {aft : Array Edge}
theorem Fits.evalI {a : Act} (ha : Fits n ρ a) {x : Operand} {dd l : Int} (h : evI ρ (some x) dd = some l) : ∃ k, a.eval x = .int k l := by
  simp only [evI] at h
  split at h
  · rename_i k m he
    simp only [Option.some.injEq] at h
    subst h
    exact ⟨k, ha.eval he⟩
  · cases h
/-- 'x[lo:hi]' of a slice, run -/
theorem run_sliceAt {t e : TypeId} {sz0 by0 nn by1 : Nat} {z0 z : Value} {ed : TypeDesc} (ht : TyOk P t (.slice e) sz0 by0 z0) (he : TyOk P e ed nn by1 z) {a : Act} (ha : Fits n ρ a) {lo hi : Option Operand} {l h : Int}
    {q : Option Addr} {len cap : Nat} (hlo : evI ρ lo 0 = some l) (hhi : evI ρ hi len = some h) (h0 : 0 ≤ l) (h1 : l ≤ h) (h2 : h ≤ len) (hc : len ≤ cap) :
    (Instr.sliceAt t (.slice q len cap) (lo.map a.eval) (hi.map a.eval) none).run P w =
      .ok (.slice (if cap = l.toNat then q else q.map (·.add (l.toNat * nn))) (h.toNat - l.toNat) (cap - l.toNat)) w := by
  have hb : (Instr.sliceBounds true len cap (lo.map a.eval) (hi.map a.eval) none).run P w = .ok (l.toNat, h.toNat, cap) w := by
    cases lo with
    | none =>
      simp only [evI, Option.some.injEq] at hlo
      subst hlo
      cases hi with
      | none =>
        simp only [evI, Option.some.injEq] at hhi
        subst hhi
        simp [Instr.sliceBounds]
      | some y =>
        obtain ⟨k, hk⟩ := ha.evalI hhi
        have hcc : 0 ≤ h ∧ h ≤ (cap : Int) := by omega
        simp [Instr.sliceBounds, Instr.sliceBound, hk, asIntOf, hcc]
    | some x =>
      obtain ⟨kx, hkx⟩ := ha.evalI hlo
      cases hi with
      | none =>
        simp only [evI, Option.some.injEq] at hhi
        subst hhi
        have hcc : 0 ≤ l ∧ l ≤ (len : Int) := by omega
        simp [Instr.sliceBounds, Instr.sliceBound, hkx, asIntOf, hcc]
      | some y =>
        obtain ⟨k, hk⟩ := ha.evalI hhi
        have hcc : 0 ≤ h ∧ h ≤ (cap : Int) := by omega
        have hcl : 0 ≤ l ∧ l ≤ max h 0 := by omega
        simp [Instr.sliceBounds, Instr.sliceBound, hk, hkx, asIntOf, hcc, hcl]
  simp only [Instr.sliceAt, Sem.run_bind, run_underlying ht.u, Result.andThen_ok, Instr.slice, hb, he.size, Sem.run_pure]
theorem slc_spec {α : Type} {xs ys : List α} {l h : Int} (hs : slc xs l h = some ys) : 0 ≤ l ∧ l ≤ h ∧ h ≤ xs.length ∧ ys = (xs.take h.toNat).drop l.toNat := by
  unfold slc at hs
  split at hs
  · rename_i hc
    simp only [Option.some.injEq] at hs
    exact ⟨hc.1, hc.2.1, hc.2.2, hs.symm⟩
  · cases hs
theorem WL.slice {α : Type} {R : Rep α} {A : Nat → Prop} {t e : TypeId} {sz0 by0 by1 : Nat} {z0 z : Value} {ed : TypeDesc} {x : Operand} {lo hi : Option Operand} {l h : Int} {v : Value} {xs ys : List α}
    (ht : TyOk P t (.slice e) sz0 by0 z0) (he : TyOk P e ed R.n by1 z) (hx : ev ρ x = some v) (hlo : evI ρ lo 0 = some l) (hhi : evI ρ hi xs.length = some h) (hsl : Sl R w A v xs) (hs : slc xs l h = some ys) (hd : Nat.blt d n = true)
    (hk : ∀ v', Sl R w A v' ys → WL P n ops Q rest ((d, v') :: ρ) w) : WL P n ops Q (⟨some d, .slice t x lo hi none, ty, pos, aft, none⟩ :: rest) ρ w := by
  intro a ha
  refine wpList_plain rfl fun K hK => ?_
  obtain ⟨h0, h1, h2, rfl⟩ := slc_spec hs
  have key : ∃ v', (Instr.sliceAt t v (lo.map a.eval) (hi.map a.eval) none).run P w = .ok v' w ∧ Sl R w A v' ((xs.take h.toNat).drop l.toNat) := by
    rcases hsl with ⟨rfl, rfl⟩ | ⟨q, c, rfl, rfl⟩ | ⟨b, off, cap, cells, t', fr, rfl, hA, hb, hc, hz, hr⟩
    · have hl : l = 0 := by simp at h2; omega
      have hh : h = 0 := by simp at h2; omega
      subst hl; subst hh
      exact ⟨_, run_sliceAt (w := w) ht he ha hlo hhi (Int.le_refl _) (Int.le_refl _) (by simp) (by simp), .inl ⟨by simp, by simp⟩⟩
    · have hl : l = 0 := by simp at h2; omega
      have hh : h = 0 := by simp at h2; omega
      subst hl; subst hh
      exact ⟨_, run_sliceAt (w := w) ht he ha hlo hhi (Int.le_refl _) (Int.le_refl _) (by simp) (by simp), .inr (.inl ⟨if c = 0 then q else q.add (0 * R.n), c, by by_cases hc : c = 0 <;> simp [hc], by simp⟩)⟩
    · refine ⟨_, run_sliceAt (w := w) ht he ha hlo hhi h0 h1 h2 hc, ?_⟩
      have hlen : ((xs.take h.toNat).drop l.toNat).length = h.toNat - l.toNat := by rw [List.length_drop, List.length_take]; omega
      have e3 : (if cap = l.toNat then some (⟨b, off, none⟩ : Addr) else (some (⟨b, off, none⟩ : Addr)).map (·.add (l.toNat * R.n))) = some ⟨b, if cap = l.toNat then off else off + l.toNat * R.n, none⟩ := by
        split <;> simp [Addr_add]
      rw [e3]
      have hmul : (l.toNat + (h.toNat - l.toNat)) * R.n ≤ xs.length * R.n := Nat.mul_le_mul_right _ (by omega)
      rw [Nat.add_mul] at hmul
      refine .inr <| .inr ⟨b, _, cap - l.toNat, cells, t', fr, by rw [hlen], hA, hb, by rw [hlen]; omega, ?_, ?_⟩
      · rw [hlen]
        split
        · have : h.toNat - l.toNat = 0 := by omega
          rw [this]; omega
        · omega
      · rw [hlen]
        by_cases hcl : cap = l.toNat
        · have h5 : h.toNat - l.toNat = 0 := by omega
          have h6 : (xs.take h.toNat).drop l.toNat = [] := by apply List.eq_nil_of_length_eq_zero; rw [hlen, h5]
          rw [h5, h6, Nat.zero_mul, List.take_zero]; rfl
        · rw [if_neg hcl]
          have h7 := Rows'.drop l.toNat (Rows'.take h.toNat hr)
          have e5 : ((((cells.toList.drop off).take (xs.length * R.n)).take (h.toNat * R.n)).drop (l.toNat * R.n)) = ((cells.toList.drop (off + l.toNat * R.n)).take ((h.toNat - l.toNat) * R.n)) := by
            have hm2 : h.toNat * R.n ≤ xs.length * R.n := Nat.mul_le_mul_right _ (by omega)
            rw [List.take_take, Nat.min_eq_left hm2, List.drop_take, List.drop_drop, Nat.sub_mul]
          rw [e5] at h7
          exact h7
  obtain ⟨v', hrun, hv'⟩ := key
  unfold Oper.wp
  simp only [execOp, ha.eval hx, Option.map_none, Sem.run_bind, hrun, Result.andThen_ok, Sem.run_pure]
  exact hK _ _ (hk v' hv' _ (ha.put hd _))
/-! ### texts -/
theorem toList_vs (xs : List UInt8) : ByteArray.toList ⟨xs.toArray⟩ = xs := by rw [ByteArray.toList_eq]
theorem beq_dec (a b : List UInt8) : (a == b) = decide (a = b) := by
  by_cases h : a = b
  · simp [h]
  · simp [h]
theorem Y.strop {t t' : TypeId} {x y : Operand} {a b : List UInt8} {v : Value} {bop : BinOp} (hx : ev ρ x = some (vs a)) (hy : ev ρ y = some (vs b))
    (hr : (Go.binOp bop t (vs a) (vs b)).run P w = .ok v w) : Y P (.binOp bop t x y t') ty ρ w v := by
  intro A n o ha ho _
  simp only [execOp, ho, ha.eval hx, ha.eval hy]
  cases bop <;> simp [eqGuard, hr]
section
variable {t t' : TypeId} {x y : Operand} {a b c : List UInt8}
theorem Y.eql_s (hx : ev ρ x = some (vs a)) (hy : ev ρ y = some (vs b)) : Y P (.binOp .eql t x y t') ty ρ w (.bool (decide (a = b))) :=
  Y.strop hx hy (by simp only [binOp, Op.stringOp, toList_vs, beq_dec]; rfl)
theorem Y.neq_s (hx : ev ρ x = some (vs a)) (hy : ev ρ y = some (vs b)) : Y P (.binOp .neq t x y t') ty ρ w (.bool (!decide (a = b))) :=
  Y.strop hx hy (by simp only [binOp, Op.stringOp, toList_vs, beq_dec]; rfl)
theorem rows_b {A : Nat → Prop} : ∀ {xs : List UInt8} {cs : List Value}, Rows' Rep.b w A cs xs → cs = xs.map vb
  | [], cs, h => h
  | x :: xs, cs, ⟨c1, c2, e, h1, h2⟩ => by
    have h1' : c1 = [vb x] := h1
    rw [e, h1', rows_b h2]; rfl
theorem push_all : ∀ (xs : List UInt8) (acc : ByteArray), (xs.map fun x : UInt8 => (x.toNat : Int)).foldl (fun (r : ByteArray) (n : Int) => r.push (UInt8.ofNat n.toNat)) acc = ⟨acc.data ++ xs.toArray⟩
  | [], acc => by simp
  | x :: xs, acc => by
    rw [List.map_cons, List.foldl_cons, push_all xs]
    apply ByteArray.ext
    simp [ByteArray.push]
theorem Y.b2s {A : Nat → Prop} {e : TypeId} {sz0 by0 by1 sz2 by2 : Nat} {z0 z z2 : Value} {v : Value} (ht : TyOk P t (.slice e) sz0 by0 z0) (he : TyOk P e (.int .u8) 1 by1 z) (hs : TyOk P t' .string sz2 by2 z2) (hx : ev ρ x = some v) (h : Sl Rep.b w A v a) :
    Y P (.convert t t' x) ty ρ w (vs a) := by
  intro B n o ha ho _
  have hrun : (Conv.bytesToString v).run P w = .ok (vs a) w := by
    rcases h with ⟨rfl, rfl⟩ | ⟨q, c, rfl, rfl⟩ | ⟨b, off, cap, cells, t, fr, rfl, hA, hb, hc, hz, hr⟩
    · simp [Conv.bytesToString]; rfl
    · simp [Conv.bytesToString, loadCells]; rfl
    · have hr' := rows_b hr
      have hn : Rep.b.n = 1 := rfl
      rw [hn, Nat.mul_one] at hr' hz
      have hl : (loadCells ⟨b, off, none⟩ a.length).run P w = .ok ((a.map fun x : UInt8 => (x.toNat : Int)).map (Value.int .u8)).toArray w := by
        have := run_loadCells_list (P := P) w ⟨b, off, none⟩ (a.map vb) (CellsAt.cell ⟨cells, t, fr, hb, by rw [List.length_map]; exact hr'⟩)
        rw [List.length_map] at this
        rw [this]
        simp only [List.map_map]
        rfl
      rw [run_bytesToString w _ _ _ _ hl, push_all]
      simp [ByteArray.empty, ByteArray.emptyWithCapacity]
      rfl
  have hconv : (convert t t' v).run P w = .ok (vs a) w := by
    have : ∃ q l c, v = .slice q l c := by
      rcases h with ⟨rfl, rfl⟩ | ⟨q, c, rfl, rfl⟩ | ⟨b, off, cap, cells, t, fr, rfl, _⟩ <;> exact ⟨_, _, _, rfl⟩
    obtain ⟨q, l, c, rfl⟩ := this
    rw [run_convert_bytes_string w t t' e q l c ht.u he.u hs.u, hrun]
  simp only [execOp, ho, ha.eval hx, Sem.run_bind, hconv, Result.andThen_ok, Sem.run_pure]
end
end rules
end Go.Lg
