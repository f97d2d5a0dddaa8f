/- Lemmas about the given model and about plain data, which the rows stand on: no statement of the program by itself. -/
import Derived.Test.YtoiklipabcecfaaTgLgPart0
import Derived.Laws.MakeOwn
import Derived.Laws.BytesArg
import Derived.Laws.OwnMore
import Derived.Great.BuildSlice
import Derived.BigCall
set_option linter.unusedVariables false
namespace Go.Lg
open Go
section app
variable {P : Program} {w : World}
theorem app_room {size sLen m : Nat} {g sCap : Nat} {e : TypeId} {cur : Array Value} {news : List Value} {xs : List Value} (hg : w.heap[g]? = some (.cells cur e (0, 0)))
    (hl : news.length = m * size) (hlx : xs.length = sLen * size) (htake : cur.toList.take (sLen * size) = xs) (hcs : cur.size = sCap * size) (hcm : sCap ≤ maxLen) (hroom : sLen + m ≤ sCap) :
    (w.setRow g (cur.toList.take (sLen * size) ++ news ++ cur.toList.drop (sLen * size + news.length)).toArray).ownsRow 0 e size (.slice (some ⟨g, 0, none⟩) (sLen + m) sCap) (sLen + m) (xs ++ news) := by
  have hlen : (xs ++ news).length = (sLen + m) * size := by rw [List.length_append, hlx, hl, Nat.add_mul]
  have hfit : sLen * size + news.length ≤ cur.size := by rw [hl, hcs, ← Nat.add_mul]; exact Nat.mul_le_mul_right _ hroom
  refine ⟨hlen, .inr ⟨g, sCap, _, rfl, Nat.zero_le _, setRow_heap w g cur _ e _ hg, hroom, hcm, ?_, ?_⟩⟩
  · simp only [List.size_toArray, List.length_append, List.length_take, List.length_drop, Array.length_toList]
    omega
  · rw [htake, ← hlen]
    exact List.take_left
theorem run_append_lab (t ty e : TypeId) (i : TypeInfo) (z : Value) (size bytes : Nat) (ht : P.underlying t = some (.slice e)) (hi : P.info? e = some i) (hz : i.zero = some z)
    (hsize : i.size = size) (hby : i.bytes = bytes) (hzs : z.cells.size = size)
    (v : Value) (n : Nat) (xs : List Value) (hown : w.ownsRow 0 e size v n xs)
    (a : Addr) (m c : Nat) (news : List Value) (hl : news.length = m * size) (hnews : ∀ j u, news[j]? = some u → w.cell? (a.add j) = some u) (h1 : ∀ u ∈ news, u.oneCell' = true)
    (h63 : n + m ≤ maxLen) (hbytes : (n + m) * bytes ≤ 140737488355328) :
    ∃ v' w', (Builtin.append_ #[t, t] ty #[v, .slice (some a) m c]).run P w = .ok v' w' ∧ w'.ownsRow 0 e size v' (n + m) (xs ++ news) ∧ w.grownBy w' v.ownBlock ∧
      (v'.ownBlock = v.ownBlock ∨ v'.ownBlock = some w.heap.size) := by
  subst hsize
  subst hby
  have hsmall : n + m ≤ 9223372036854775807 := by simp only [maxLen] at h63; omega
  have hlen : (xs ++ news).length = (n + m) * i.size := by rw [List.length_append, hown.1, hl, Nat.add_mul]
  have grown : ∀ (old : Nat), old < n + m → ∀ (row : Option Nat),
      (w.drew.alloc (.cells (xs.toArray ++ news.toArray ++ Builtin.zeroCells z.cells (grownCap w (n + m) old e - (n + m))) e)).ownsRow 0 e i.size
        (.slice (some ⟨w.heap.size, 0, none⟩) (n + m) (grownCap w (n + m) old e)) (n + m) (xs ++ news) ∧
      w.grownBy (w.drew.alloc (.cells (xs.toArray ++ news.toArray ++ Builtin.zeroCells z.cells (grownCap w (n + m) old e - (n + m))) e)) row := by
    intro old ho row
    have hge := grownCap_ge w (n + m) old e
    have hcm : grownCap w (n + m) old e ≤ maxLen := grownCap_le_maxLen w (n + m) old e h63
    refine ⟨⟨hlen, .inr ⟨w.heap.size, _, _, rfl, Nat.zero_le _, heap_alloc_new w.drew _, hge, hcm, ?_, ?_⟩⟩, ⟨rfl, rfl, rfl, by simp, fun k hk _ => heap_alloc_old w.drew _ hk⟩⟩
    · simp only [Array.size_append, List.size_toArray, size_zeroCells, hzs, hown.1, hl, ← Nat.add_mul]
      congr 1
      omega
    · simp only [Array.toList_append, List.append_assoc]
      rw [← List.append_assoc, ← hlen]
      exact List.take_left
  rcases hown.2 with ⟨rfl, rfl⟩ | ⟨g, cap, cur, rfl, hbg, hg, hnc, hcm, hcs, htake⟩
  · have hx : xs = [] := List.eq_nil_of_length_eq_zero (by simpa using hown.1)
    subst hx
    by_cases hm : m = 0
    · subst hm
      have hn : news = [] := List.eq_nil_of_length_eq_zero (by simpa using hl)
      subst hn
      refine ⟨.slice none 0 0, w, ?_, World.ownsRow_nil w 0 e i.size, ⟨rfl, rfl, rfl, Nat.le_refl _, fun _ _ _ => rfl⟩, .inl rfl⟩
      simp [Builtin.append_, run_underlying ht, sizeOf, typeInfo, hi, Builtin.lenOf, Builtin.firstCells, loadCells, loadCellsFrom]
    · have hr := run_append_nil (P := P) w t ty e i z ht hi hz a m c news hl hnews (by omega) (by omega) (by have hb := hbytes; simp only [Nat.zero_add] at hb; omega)
      have hgr := grown 0 (by omega) (Value.ownBlock (.slice none 0 0))
      simp only [Nat.zero_add, List.nil_append, Array.empty_append] at hgr ⊢
      exact ⟨_, _, hr, hgr.1, hgr.2, .inr rfl⟩
  · by_cases hroom : n + m ≤ cap
    · have hfit : n * i.size + news.length ≤ cur.size := by rw [hl, hcs, ← Nat.add_mul]; exact Nat.mul_le_mul_right _ hroom
      have hr := run_append_room (P := P) w t ty e i ht hi g n cap cur hg a m c news hl hnews h1 hroom hfit
      refine ⟨_, _, hr, app_room hg hl hown.1 htake hcs hcm hroom, ⟨rfl, rfl, rfl, by simp, fun k _ hk => setRow_other w g k _ (fun e => hk (by simp [Value.ownBlock, e]))⟩, .inl rfl⟩
    · have holds : ∀ j u, xs[j]? = some u → w.cell? ((⟨g, 0, none⟩ : Addr).add j) = some u := hown.cells (g := g) rfl
      have hr := run_append_grow (P := P) w t ty e i z ht hi hz ⟨g, 0, none⟩ n cap xs hown.1 holds a m c news hl hnews (by omega) (by omega) (growslice_fits (by omega) hbytes)
      have hgr := grown cap (by omega) (Value.ownBlock (.slice (some ⟨g, 0, none⟩) n cap))
      exact ⟨_, _, hr, hgr.1, hgr.2, .inr rfl⟩
end app
section rules
variable {P : Program} {n : Nat} {ops : Array Oper} {Q : Exit → Act → World → Prop} {ρ : Env} {w : World} {rest : List Oper} {O : Own}
variable {d : Nat} {ty : TypeId} {pos : String} {aft : Array Edge}
theorem stp_grown {ℓ : Nat} {v : Value} {w' : World} (hg : w.grownBy w' v.ownBlock) (hb : ∀ b, v.ownBlock = some b → O b = ℓ) : Stp [ℓ] O w (upd O w.heap.size ℓ) w' :=
  ⟨hg.os, hg.tape, hg.output, hg.size, fun k hk _ => by simp [upd, Nat.ne_of_lt hk], fun k hk _ => by simp [upd, Nat.ne_of_lt hk], fun k hk hn => hg.block k hk fun e => hn (by simp [hb k e.symm])⟩
theorem Src.cells {α : Type} {R : Rep α} {u : Value} {ys : List α} (h : Src R O w u ys) :
    (u = .slice none 0 0 ∧ ys = []) ∨ ∃ (q : Addr) (cap : Nat) (cs : List Value), u = .slice (some q) ys.length cap ∧ cs.length = ys.length * R.n ∧ (∀ j v, cs[j]? = some v → w.cell? (q.add j) = some v) ∧ Rows' R w (imm O) cs ys := by
  rcases h with h | ⟨q, c, h1, h2⟩ | ⟨b, off, cap, cells, t, fr, e, hb, hc, hs, hr⟩
  · exact .inl h
  · subst h2; exact .inr ⟨q, c, [], h1, by simp, fun j v h => by simp at h, rfl⟩
  · have hl : ((cells.toList.drop off).take (ys.length * R.n)).length = ys.length * R.n := by
      have e : cells.toList.length = cells.size := rfl
      rw [List.length_take, List.length_drop, e]; omega
    refine .inr ⟨⟨b, off, none⟩, cap, _, e, hl, CellsAt.cell ⟨cells, t, fr, hb, by rw [hl]⟩, hr⟩
/-- bytes of an element: what LIM of them come to fits -/
theorem WL.append {α : Type} {R : Rep α} {ℓ : Nat} {t e : TypeId} {sz0 by0 bytes : Nat} {z0 z : Value} {ed : TypeDesc} {s x : Operand} {v u : Value} {xs ys zs : List α}
    (hℓ : ℓ ≠ 0 ∧ ℓ ≠ 1) (ht : TyOk P t (.slice e) sz0 by0 z0) (he : TyOk P e ed R.n bytes z) (hz : z.cells.size = R.n) (hbytes : bytes ≤ 8192)
    (hs : ev ρ s = some v) (hx : ev ρ x = some u) (hown : OwnSl ℓ R e O w v xs) (hsrc : Src R O w u ys) (hap : app xs ys = some zs) (hd : Nat.blt d n = true)
    (h : ∀ v' O' w', Stp [ℓ] O w O' w' → OwnSl ℓ R e O' w' v' zs → WL P n ops Q rest ((d, v') :: ρ) w') :
    WL P n ops Q (⟨some d, .call { callee := .builtin .append, args := #[s, x], argTypes := #[t, t] }, ty, pos, aft, none⟩ :: rest) ρ w := by
  intro a ha
  refine wpList_plain rfl fun K hK => ?_
  unfold app at hap
  split at hap
  case isFalse => cases hap
  rename_i hlim
  simp only [Option.some.injEq] at hap
  subst hap
  obtain ⟨i, hi, hzz, hsz, hby⟩ := he.i
  obtain ⟨cs, ho, hr, hb⟩ := hown
  have h63 : xs.length + ys.length ≤ maxLen := by simp only [maxLen, LIM] at *; omega
  have hbb : (xs.length + ys.length) * bytes ≤ 140737488355328 := Nat.le_trans (Nat.mul_le_mul hlim hbytes) (by decide)
  have key : ∃ v' w', (Builtin.append_ #[t, t] ty #[v, u]).run P w = .ok v' w' ∧ OwnSl ℓ R e (upd O w.heap.size ℓ) w' v' (xs ++ ys) ∧ Stp [ℓ] O w (upd O w.heap.size ℓ) w' := by
    rcases hsrc.cells with ⟨rfl, rfl⟩ | ⟨q, cap, ds, rfl, hl, hc, hr2⟩
    · have hrun := run_append_owned_none (P := P) (w := w) 0 t ty e i R.n ht.u hi v xs.length cs ho
      refine ⟨v, w, hrun, ⟨cs, by simpa using ho, ?_, ?_⟩, ⟨rfl, rfl, rfl, Nat.le_refl _, fun k hk _ => by simp [upd, Nat.ne_of_lt hk], fun k hk _ => by simp [upd, Nat.ne_of_lt hk], fun _ _ _ => rfl⟩⟩
      · rw [List.append_nil]
        exact Rows'.mono (fun k hk hlt => ⟨by simpa [imm, upd, Nat.ne_of_lt hlt] using hk, rfl⟩) hr
      · intro b hv
        have := ho.lt b hv
        simp [upd, Nat.ne_of_lt this.2, hb b hv]
    · obtain ⟨v', w', h1, h2, h3, h4⟩ := run_append_lab (P := P) (w := w) t ty e i z R.n bytes ht.u hi hzz hsz hby hz v xs.length cs ho q ys.length cap ds hl hc (Rows'.one hr2) h63 hbb
      have hst := stp_grown (O := O) h3 hb
      have hm := imm_st hst (by simpa using Ne.symm hℓ.1) (by simpa using Ne.symm hℓ.2)
      refine ⟨v', w', h1, ⟨cs ++ ds, by simpa using h2, Rows'.append (Rows'.mono hm hr2) (Rows'.mono hm hr), ?_⟩, hst⟩
      intro g hv
      rcases h4 with h4 | h4
      · rw [hv] at h4
        have := ho.lt g h4.symm
        simp [upd, Nat.ne_of_lt this.2, hb g h4.symm]
      · rw [hv] at h4
        simp only [Option.some.injEq] at h4
        simp [upd, h4]
  obtain ⟨v', w', h1, h2, h3⟩ := key
  unfold Oper.wp execOp
  simp only [resolve, invoke, builtin, Sem.run_bind, Sem.run_pure, Result.andThen_ok, List.map_toArray, List.map_cons, List.map_nil, ha.eval hs, ha.eval hx, h1]
  exact hK _ _ (h v' _ w' h3 h2 _ (ha.put hd _))
/-- a nil slice is a row of one's own -/
theorem OwnSl.nil {α : Type} (ℓ : Nat) (R : Rep α) (e : TypeId) : OwnSl ℓ R e O w (.slice none 0 0) [] :=
  ⟨[], World.ownsRow_nil w 0 e R.n, rfl, fun b h => by simp [Value.ownBlock] at h⟩
theorem rows_replicate {α : Type} {R : Rep α} {A : Nat → Prop} {zs : List Value} {x : α} (hz : R.ok w A zs x) : ∀ m, Rows' R w A (List.replicate m zs).flatten (List.replicate m x)
  | 0 => rfl
  | m + 1 => ⟨zs, _, rfl, hz, rows_replicate hz m⟩
theorem madeCells_eq (z : Array Value) (hz : 0 < z.size) : ∀ m, (madeCells z (m * z.size)).toList = (List.replicate m z.toList).flatten := by
  intro m
  apply List.ext_getElem?
  intro j
  have h1 : (List.replicate m z.toList).flatten.length = m * z.size := by
    induction m with
    | zero => simp
    | succ m ih => simp [List.replicate_succ, Nat.add_mul]; omega
  by_cases hj : j < m * z.size
  · have h2 : (List.replicate m z.toList).flatten[j]? = z.toList[j % z.size]? := by
      clear h1
      induction m generalizing j with
      | zero => simp at hj
      | succ m ih =>
        rw [List.replicate_succ, List.flatten_cons, List.getElem?_append]
        by_cases hl : j < z.toList.length
        · rw [if_pos hl, Nat.mod_eq_of_lt (by simpa using hl)]
        · rw [if_neg hl, ih (j - z.toList.length) (by simp at hl ⊢; rw [Nat.add_mul] at hj; omega)]
          simp at hl
          simp only [Array.length_toList]
          rw [Nat.mod_eq_sub_mod hl]
    rw [h2]
    have hjm : j % z.size < z.size := Nat.mod_lt _ hz
    simp [madeCells, hj, hjm]
  · rw [List.getElem?_eq_none (by simp [madeCells]; omega), List.getElem?_eq_none (by rw [h1]; omega)]
theorem WL.make {α : Type} {R : Rep α} (ℓ : Nat) {t e : TypeId} {sz0 by0 bytes : Nat} {z0 z : Value} {ed : TypeDesc} {x y : Operand} {m : Int} {zx : α} {zs : List α}
    (hℓ : ℓ ≠ 0 ∧ ℓ ≠ 1) (ht : TyOk P t (.slice e) sz0 by0 z0) (he : TyOk P e ed R.n bytes z) (hz : z.cells.size = R.n) (hp : 0 < R.n) (hbytes : bytes ≤ 8192)
    (hx : ev ρ x = some (vi m)) (hy : ev ρ y = some (vi m)) (hzr : ∀ w A, R.ok w A z.cells.toList zx) (hmk : mk m zx = some zs) (hd : Nat.blt d n = true)
    (h : ∀ v' O' w', Stp [] O w O' w' → OwnSl ℓ R e O' w' v' zs → WL P n ops Q rest ((d, v') :: ρ) w') :
    WL P n ops Q (⟨some d, .makeSlice t x y, ty, pos, aft, none⟩ :: rest) ρ w := by
  intro a ha
  refine wpList_plain rfl fun K hK => ?_
  unfold mk at hmk
  split at hmk
  case isFalse => cases hmk
  rename_i hm
  simp only [Option.some.injEq] at hmk
  subst hmk
  obtain ⟨k, rfl⟩ := Int.eq_ofNat_of_zero_le hm.1
  obtain ⟨i, hi, hzz, hsz, hby⟩ := he.i
  have hk : k ≤ LIM := by simpa using hm.2
  have hbb : bytes * k ≤ 140737488355328 := Nat.le_trans (Nat.mul_le_mul hbytes hk) (by decide)
  have hb2 : (i.bytes : Int) * (k : Int) ≤ 281474976710656 := by
    have : ((bytes * k : Nat) : Int) ≤ 140737488355328 := by omega
    rw [Int.natCast_mul] at this
    rw [hby]; omega
  have hrun := run_make (P := P) w t e i z ht.u hi hzz .i64 .i64 (k : Int) (k : Int) (by omega) (Int.le_refl _) hb2 (by simp only [LIM] at hk; omega)
  simp only [Int.toNat_natCast, hsz] at hrun
  unfold Oper.wp execOp
  simp only [ha.eval hx, ha.eval hy, Sem.run_bind, hrun, Result.andThen_ok, Sem.run_pure]
  refine hK _ _ (h _ _ _ (stp_alloc _ ℓ) ⟨(List.replicate k z.cells.toList).flatten, ⟨?_, .inr ⟨w.heap.size, k, _, ?_, Nat.zero_le _, heap_alloc_new w _, ?_, ?_, ?_, ?_⟩⟩, ?_, ?_⟩ _ (ha.put hd _))
  · simp [hz]
  · simp
  · simp
  · simp only [LIM, maxLen] at *; omega
  · simp [size_madeCells]
  · rw [← hz, madeCells_eq z.cells (by omega)]
    rw [List.take_of_length_le (by simp)]
  · exact rows_replicate (hzr _ _) k
  · intro b hb
    simp only [Value.ownBlock, Option.some.injEq] at hb
    subst hb; simp [upd]
/-- a slice literal: a new row -/
theorem WL.buildSlice {α : Type} {R : Rep α} (ℓ : Nat) {t e : TypeId} {len sz0 by0 bytes : Nat} {z0 z : Value} {ed : TypeDesc} {parts : Array (Nat × Operand)} {vals : List (Nat × Value)} (cells : List Value) {xs : List α}
    (hℓ : ℓ ≠ 0 ∧ ℓ ≠ 1) (ht : TyOk P t (.slice e) sz0 by0 z0) (he : TyOk P e ed R.n bytes z) (hp : 0 < R.n) (hlen : len * R.n ≤ 65536)
    (hv : ∀ a n, Fits n ρ a → (parts.map fun (i, x) => (i, a.eval x)) = vals.toArray)
    (hf : Instr.fill (fun i => some (i * R.n, R.n)) ((Array.range (len * R.n)).map (z.cells[· % z.cells.size]!)) vals = some cells.toArray) (hl : xs.length = len) (hr : Rows' R w (imm O) cells xs) (hd : Nat.blt d n = true)
    (h : ∀ v' O' w', Stp [] O w O' w' → OwnSl ℓ R e O' w' v' xs → WL P n ops Q rest ((d, v') :: ρ) w') :
    WL P n ops Q (⟨some d, .buildSlice t len parts, ty, pos, aft, none⟩ :: rest) ρ w := by
  intro a ha
  refine wpList_plain rfl fun K hK => ?_
  obtain ⟨i, hi, hzz, hsz, hby⟩ := he.i
  have hcl := Rows'.len hr
  have hrun : (Instr.buildSlice t len vals.toArray).run P w = .ok (.slice (some ⟨w.heap.size, 0, none⟩) len len) (w.alloc (.cells cells.toArray e)) := by
    by_cases h0 : len * R.n = 0
    · have hl0 : len = 0 := by
        rcases Nat.mul_eq_zero.1 h0 with h | h
        · exact h
        · omega
      subst hl0
      have hx : xs = [] := List.eq_nil_of_length_eq_zero hl
      subst hx
      have hc : cells = [] := hr
      subst hc
      have hf' : Instr.fill (fun i => some (i * R.n, R.n)) #[] vals = some #[] := by simpa [Array.range_zero'] using hf
      simp [Instr.buildSlice, run_underlying ht.u, sizeOf, typeInfo, hi, hsz, newRow, Array.range_zero', hf']
    · have hf2 : Instr.fill (fun i => some (i * R.n, R.n)) ((Array.range (len * R.n)).map (z.cells[· % z.cells.size]!)) vals.toArray.toList = some cells.toArray := by simpa using hf
      have hq : ¬ (16777216 < len * R.n) := by omega
      simp [Instr.buildSlice, run_underlying ht.u, sizeOf, typeInfo, zeroValue, hi, hsz, hzz, h0, hq, newRow, hf2]
  unfold Oper.wp execOp
  simp only [hv a n ha, Sem.run_bind, hrun, Result.andThen_ok, Sem.run_pure]
  refine hK _ _ (h _ _ _ (stp_alloc _ ℓ) ⟨cells, ⟨hcl, .inr ⟨w.heap.size, len, cells.toArray, by rw [hl], Nat.zero_le _, heap_alloc_new w _, by omega, ?_, ?_, ?_⟩⟩, ?_, ?_⟩ _ (ha.put hd _))
  · have : len ≤ len * R.n := Nat.le_mul_of_pos_right _ hp
    simp only [maxLen]; omega
  · simp [hcl, hl]
  · rw [List.take_of_length_le (by simp [hcl])]
  · exact Rows'.mono (imm_st (stp_alloc _ ℓ) (by simp) (by simp)) hr
  · intro b hb
    simp only [Value.ownBlock, Option.some.injEq] at hb
    subst hb; simp [upd]
end rules
end Go.Lg
