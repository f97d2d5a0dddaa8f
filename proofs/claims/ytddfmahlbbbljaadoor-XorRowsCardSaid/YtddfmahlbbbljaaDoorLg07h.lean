/- Law 07: its three statements about the plain functions. -/
import Derived.Test.YtddfmahlbbbljaaDoorLg07g
set_option linter.unusedVariables false
namespace Go.Lg
attribute [local irreducible] w64 toU64 toU8 shlU shrU shlB shrB

theorem wd_eta (w : bitio_Writer) : (⟨w.b, w.n⟩ : bitio_Writer) = w := rfl
theorem third : (putB [4607182418800017408, 4607182418800017408] 0 0 4611686018427387904).length = 24 := by
  have hd : ((4611686018427387904 : UInt64) ^^^ lastU [4607182418800017408, 4607182418800017408]).toNat = 9218868437227405312 := by rfl
  have h1 : ¬ ((4611686018427387904 : UInt64) ^^^ lastU [4607182418800017408, 4607182418800017408]) = 0 := by
    intro e; have := congrArg UInt64.toNat e; rw [hd] at this; cases this
  have h2 : ¬ hol 0 0 9218868437227405312 = true := by simp [hol]
  have e1 : lz 9218868437227405312 = 1 := by
    have a := (lz_ge (v := 9218868437227405312) (n := 1) (by omega) (by omega)).2 (by omega)
    have b : ¬ 2 ≤ lz 9218868437227405312 := fun h => by
      have := (lz_ge (v := 9218868437227405312) (n := 2) (by omega) (by omega)).1 h
      omega
    omega
  have e2 : tz 9218868437227405312 = 52 := by
    have a := (tz_ge (v := 9218868437227405312) (n := 52) (by omega)).2 ⟨2047, by rfl⟩
    have b : ¬ 53 ≤ tz 9218868437227405312 := fun h => by
      obtain ⟨q, hq⟩ := (tz_ge (v := 9218868437227405312) (n := 53) (by omega)).1 h
      omega
    omega
  unfold putB
  rw [if_neg (by simp), if_neg h1, hd, if_neg h2]
  simp only [List.length_append, rowN_len, List.length_cons, List.length_nil]
  unfold arS arF
  rw [e1, e2]; rfl
theorem len_of {w : bitio_Writer} {L : List Int} {n : Nat} (h : WR w L) (hn : L.length = n) : bitio_Writer_Len w = some (n : Int) := by rw [h.len, hn]
theorem cost11 : xor_Cost [1, 1] = some 65 := by
  rw [cost_eq (by simp)]
  rfl
theorem awake07 : law07_awake = some true := by
  obtain ⟨x1, w1, e1, hx1, hw1⟩ := XS.new.put (by simp) WR.new 4607182418800017408 (by simp)
  obtain ⟨x2, w2, e2, hx2, hw2⟩ := hx1.put (by simp) hw1 4607182418800017408 (by have := (putB_len (.inl ⟨rfl, rfl⟩ : WinOk 0 0) [] 4607182418800017408).2; simp only [List.length_append, List.length_nil]; omega)
  have f1 : putF [] 0 0 4607182418800017408 = 0 := rfl
  have s1 : putS [] 0 0 4607182418800017408 = 0 := rfl
  rw [f1, s1] at hx1 hx2 hw2
  have f2 : putF ([] ++ [4607182418800017408]) 0 0 4607182418800017408 = 0 := rfl
  have s2 : putS ([] ++ [4607182418800017408]) 0 0 4607182418800017408 = 0 := rfl
  rw [f2, s2] at hx2
  have b1 : (putB [] 0 0 4607182418800017408).length = 64 := rfl
  have b2 : (putB ([] ++ [4607182418800017408]) 0 0 4607182418800017408).length = 1 := rfl
  obtain ⟨x3, w3, e3, hx3, hw3⟩ := hx2.put (by simp) hw2 4611686018427387904 (by simp only [List.length_append, b1, List.length_nil] at *; omega)
  have b3 : (putB ([] ++ [4607182418800017408] ++ [4607182418800017408]) 0 0 4611686018427387904).length = 24 := third
  have hl := len_of hw3 (n := 89) (by simp only [List.length_append, List.length_nil] at *; omega)
  have hn : xor_Row_Len x3 = some 3 := by unfold xor_Row_Len; rw [hx3.n]; rfl
  unfold law07_awake bitio_NewWriter xor_NewRow
  rw [bind_some, bind_some, e1, bind_some]
  dsimp only
  rw [e2, bind_some]
  dsimp only
  rw [e3, bind_some]
  dsimp only
  rw [hl, bind_some, bifTd (show ((89 : Nat) : Int) = 89 from rfl), hn, bind_some, bind_some, bifTd (rfl : (3 : Int) = 3), cost11, bind_some, bind_some]
  rfl

theorem same_loop (v : UInt64) (n : Nat) (hn : n ≤ 300) : ∀ (m i : Nat), i + m = n → loop (law07_XorSame_lp1 v (n : Int)) (List.replicate i v, (i : Int)) = some (.go (List.replicate n v))
  | 0, i, h => by
    have : i = n := by omega
    subst this
    rw [loop_brk (b := List.replicate i v)]
    unfold law07_XorSame_lp1
    dsimp only
    rw [bifFd (by omega)]
  | m + 1, i, h => by
    have ih := same_loop v n hn m (i + 1) (by omega)
    rw [loop_next (s' := (List.replicate (i + 1) v, ((i + 1 : Nat) : Int))), ih]
    unfold law07_XorSame_lp1
    dsimp only
    rw [bifTd (by omega), app_ok (by rw [List.length_replicate]; simp; omega), bind_some, lett_eq, w64_succ (by omega), List.replicate_succ']
theorem lastU_replicate (v : UInt64) (i : Nat) : lastU (List.replicate (i + 1) v) = v := by rw [List.replicate_succ', lastU_snoc]
theorem same_len (v : UInt64) (n : Nat) : ∀ i, i < n → (allB (List.replicate n v) (i + 1)).length = 64 + i
  | 0, h => by
    rw [allB, List.length_append]
    unfold nxB putB
    rw [List.take_zero, if_pos (show ([] : List UInt64).length = 0 from rfl), rowN_len]; rfl
  | i + 1, h => by
    have ih := same_len v n i (by omega)
    rw [allB, List.length_append, ih]
    have e1 : (List.replicate n v).take (i + 1) = List.replicate (i + 1) v := by rw [List.take_replicate]; congr 1; omega
    have e2 : (List.replicate n v).getD (i + 1) 0 = v := by rw [getD_lt (by rw [List.length_replicate]; exact h), List.getElem_replicate]
    unfold nxB putB
    rw [e1, e2, if_neg (by rw [List.length_replicate]; omega), if_pos (by rw [lastU_replicate]; exact UInt64.xor_self)]; rfl
theorem xorSame (a0 : List UInt64) (a1 : UInt64) (a2 : Int) : law07_XorSame a0 a1 a2 = some true := by
  unfold law07_XorSame
  rw [awake07, bind_some, Bool.not_true, cond_false]
  by_cases h : 300 < (a0.length : Int) ∨ a2 < 0 ∨ 300 < a2
  · rw [bifT]
    simp only [Bool.or_eq_true, decide_eq_true_eq]
    omega
  · rw [bifF (by simp only [Bool.or_eq_false_iff, decide_eq_false_iff_not]; omega)]
    obtain ⟨n, rfl⟩ : ∃ n : Nat, a2 = (n : Int) := ⟨a2.toNat, by omega⟩
    have hl := same_loop a1 n (by omega) n 0 (by omega)
    have hl' : loop (law07_XorSame_lp1 a1 (n : Int)) ([], 0) = _ := hl
    rw [hl', flow_go, bind_some, cost_eq (by rw [List.length_replicate]; omega), bind_some, List.length_replicate]
    have hc : (allB (List.replicate n a1) n).length = if n = 0 then 0 else 63 + n := by
      cases n with
      | zero => rfl
      | succ i => rw [same_len a1 (i + 1) i (by omega), if_neg (by omega)]; omega
    have hw : w64 (63 + (n : Int)) = ((63 + n : Nat) : Int) := by rw [w64_id (by omega) (by omega)]; omega
    rw [hc, hw, bifF]
    · rw [cost_eq (by omega), bind_some, lett_eq]
      have h1 := allB_le a0 a0.length
      have hw1 : w64 (77 * (a0.length : Int)) = ((77 * a0.length : Nat) : Int) := by rw [w64_id (by omega) (by omega)]; omega
      have hw2 : w64 (63 + (a0.length : Int)) = ((63 + a0.length : Nat) : Int) := by rw [w64_id (by omega) (by omega)]; omega
      rw [hw1, hw2, decide_eq_true (by omega), Bool.true_and]
      congr 1
      rw [Bool.or_eq_true, decide_eq_true_eq, decide_eq_true_eq]
      by_cases h0 : a0.length = 0
      · left; omega
      · right
        obtain ⟨k, hk⟩ : ∃ k, a0.length = k + 1 := ⟨a0.length - 1, by omega⟩
        have := allB_ge a0 k
        rw [hk]; omega
    · split <;> simp <;> omega

/-! ### XorRows -/
theorem rows_loop (l : List UInt64) (o : UInt64) (hl : l.length ≤ 60) : ∀ (m i : Nat) (w : bitio_Writer) (x : xor_Row), i + m = l.length → WR w (allB l i) → XS x (l.take i) (stW l i).1 (stW l i).2 →
    ∃ w', loop (law07_XorRows_lp1 l o) (w.b, w.n, x.n, x.last, x.win.ahead, x.win.size, l.take i, (((stW l i).1 : Nat) : Int), (((stW l i).2 : Nat) : Int), allB l i, (i : Int)) = some (.go (w'.b, w'.n, allB l l.length)) ∧ WR w' (allB l l.length)
  | 0, i, w, x, hi, hw, hx => by
    have : i = l.length := by omega
    subst this
    refine ⟨w, ?_, hw⟩
    rw [loop_brk (b := (w.b, w.n, allB l l.length))]
    unfold law07_XorRows_lp1
    dsimp only
    rw [bifFd (by omega)]
  | m + 1, i, w, x, hi, hw, hx => by
    have hlt : i < l.length := by omega
    have hal := allB_le l i
    have hnx := (nxB_len l i).2
    have htl : (l.take i).length = i := by rw [List.length_take]; omega
    obtain ⟨x', w', e, hx', hw'⟩ := hx.put (by omega) hw (l.getD i 0) (by omega)
    obtain ⟨y', v', e2, hy', hv'⟩ := hx.put (by omega) WR.new o (by simp)
    rw [← take_snoc hlt] at hx'
    obtain ⟨w2, h1, h2⟩ := rows_loop l o hl m (i + 1) w' x' (by omega) hw' hx'
    refine ⟨w2, ?_, h2⟩
    rw [loop_next (s' := (w'.b, w'.n, x'.n, x'.last, x'.win.ahead, x'.win.size, l.take (i + 1), (((stW l (i + 1)).1 : Nat) : Int), (((stW l (i + 1)).2 : Nat) : Int), allB l (i + 1), ((i + 1 : Nat) : Int)))]
    · exact h1
    · unfold law07_XorRows_lp1
      dsimp only
      unfold xor_Row_Clone bitio_NewWriter
      have e' : xor_Row_Put ⟨x.n, x.last, ⟨x.win.ahead, x.win.size⟩⟩ ⟨w.b, w.n⟩ (l.getD i 0) = _ := e
      have e2' : xor_Row_Put ⟨x.n, x.last, ⟨x.win.ahead, x.win.size⟩⟩ ⟨[], 0⟩ o = _ := e2
      rw [bifTd (by omega), bind_some, bind_some, e2', bind_some]
      dsimp only
      rw [idx_nat hlt, bind_some, ← getD_lt hlt 0, e', bind_some]
      dsimp only
      rw [bind_some, refPut_eq (stW_ok l i) (by omega), bind_some, bind_some]
      dsimp only
      rw [app_ok (by have := nxB_len l i; unfold nxB at this; omega), bind_some]
      have hll : bitio_Writer_Len w' = _ := hw'.len
      rw [hll, bind_some, decide_eq_true rfl, Bool.not_true, cond_false]
      have hn1 : xor_Row_Len x' = some ((i + 1 : Nat) : Int) := by unfold xor_Row_Len; rw [hx'.n, List.length_take]; congr 2; omega
      have hn2 : xor_Row_Len y' = some ((i + 1 : Nat) : Int) := by unfold xor_Row_Len; rw [hy'.n, List.length_append, htl]; rfl
      rw [hn1, bind_some, w64_succ (by omega), decide_eq_true rfl, Bool.not_true, bind_some, cond_false, hn2, bind_some, decide_eq_true rfl, Bool.not_true, bind_some, cond_false, lett_eq, ← take_snoc hlt]
      rfl
theorem allB_split (l : List UInt64) : ∀ (m i : Nat), i + m = l.length → ∃ rest, allB l l.length = allB l i ++ rest ∧ Bit rest
  | 0, i, h => ⟨[], by rw [show i = l.length by omega, List.append_nil], Bit.nil⟩
  | m + 1, i, h => by
    obtain ⟨rest, e, hb⟩ := allB_split l m (i + 1) (by omega)
    exact ⟨nxB l i ++ rest, by rw [e, allB, List.append_assoc], (putB_bit _ _ _ _).app hb⟩
theorem rows_get (l : List UInt64) (hl : l.length ≤ 60) : ∀ (m i : Nat) (r : bitio_Reader) (x : xor_Row), i + m = l.length → RA r (allB l l.length) (allB l i).length → XS x (l.take i) (stW l i).1 (stW l i).2 →
    ∃ r', loop (law07_XorRows_lp2 l) (x.n, x.last, x.win.ahead, x.win.size, r.b, r.n, r.at_, (i : Int)) = some (.go (r'.b, r'.n, r'.at_)) ∧ RA r' (allB l l.length) (allB l l.length).length
  | 0, i, r, x, hi, hr, hx => by
    have : i = l.length := by omega
    subst this
    refine ⟨r, ?_, hr⟩
    rw [loop_brk (b := (r.b, r.n, r.at_))]
    unfold law07_XorRows_lp2
    dsimp only
    rw [bifFd (by omega)]
  | m + 1, i, r, x, hi, hr, hx => by
    have hlt : i < l.length := by omega
    have htl : (l.take i).length = i := by rw [List.length_take]; omega
    obtain ⟨rest, e, hb⟩ := allB_split l m (i + 1) (by omega)
    have hdrop : (allB l l.length).drop (allB l i).length = nxB l i ++ rest := by rw [e, allB, List.append_assoc, drop_app rfl]
    have hg := getX_put (stW_ok l i) (l := l.take i) (l.getD i 0) rest hb
    obtain ⟨x', r', e1, h1, _⟩ := hx.get (by omega) hr
    have hnx : nxB l i = putB (l.take i) (stW l i).1 (stW l i).2 (l.getD i 0) := rfl
    rw [hdrop, hnx, hg] at e1 h1
    obtain ⟨hx', hr'⟩ := h1 rfl
    rw [← take_snoc hlt] at hx'
    have hr2 : RA r' (allB l l.length) (allB l (i + 1)).length := by rw [allB, List.length_append]; exact hr'
    obtain ⟨r2, h3, h4⟩ := rows_get l hl m (i + 1) r' x' (by omega) hr2 hx'
    refine ⟨r2, ?_, h4⟩
    rw [loop_next (s' := (x'.n, x'.last, x'.win.ahead, x'.win.size, r'.b, r'.n, r'.at_, ((i + 1 : Nat) : Int)))]
    · exact h3
    · unfold law07_XorRows_lp2
      dsimp only
      have e1' : xor_Row_Get ⟨x.n, x.last, ⟨x.win.ahead, x.win.size⟩⟩ ⟨r.b, r.n, r.at_⟩ = _ := e1
      rw [bifTd (by omega), e1', bind_some]
      dsimp only
      rw [idx_nat hlt, bind_some, ← getD_lt hlt 0, decide_eq_true rfl, decide_eq_true rfl, Bool.not_true, Bool.or_self, cond_false, lett_eq, w64_succ (by omega)]
theorem xorRows (a0 : List UInt64) (a1 : UInt64) : law07_XorRows a0 a1 = some true := by
  unfold law07_XorRows
  rw [awake07, bind_some, Bool.not_true, cond_false]
  by_cases h : 60 < (a0.length : Int)
  · rw [bifTd h]
  · rw [bifFd h]
    obtain ⟨w, h1, hw⟩ := rows_loop a0 a1 (by omega) a0.length 0 ⟨[], 0⟩ ⟨0, 0, ⟨0, 0⟩⟩ (by omega) WR.new XS.new
    have h1' : loop (law07_XorRows_lp1 a0 a1) ([], 0, 0, 0, 0, 0, [], 0, 0, [], 0) = _ := h1
    unfold bitio_NewWriter xor_NewRow
    rw [bind_some, bind_some]
    dsimp only
    rw [h1', flow_go]
    dsimp only
    rw [flow_go]
    dsimp only
    have hb : bitio_Writer_Bytes ⟨w.b, w.n⟩ = _ := hw.bytes
    have hn : bitio_Writer_Len ⟨w.b, w.n⟩ = _ := hw.len
    rw [hb, bind_some, hw.ref, bind_some, decide_eq_true rfl, Bool.not_true, cond_false, cost_eq (by omega), bind_some, decide_eq_true rfl, Bool.not_true, bind_some, cond_false, bind_some, hn, bind_some]
    obtain ⟨e2, hr⟩ := RA.of hw
    rw [e2, bind_some]
    dsimp only
    rw [show (some (bitio_Reader.mk w.b ((allB a0 a0.length).length : Int) 0)).isNone = false from rfl, cond_false, bind_some, bind_some]
    obtain ⟨r', h3, h4⟩ := rows_get a0 (by omega) a0.length 0 _ ⟨0, 0, ⟨0, 0⟩⟩ (by omega) hr XS.new
    have h3' : loop (law07_XorRows_lp2 a0) (0, 0, 0, 0, w.b, ((allB a0 a0.length).length : Int), 0, 0) = _ := h3
    dsimp only
    rw [h3', flow_go]
    dsimp only
    rw [flow_go]
    dsimp only
    have hl : bitio_Reader_Left ⟨r'.b, r'.n, r'.at_⟩ = _ := h4.left
    rw [hl, bind_some, lett_eq]
    simp

/-! ### XorTakes -/
theorem stW_snoc (l : List UInt64) (v : UInt64) : ∀ i, i ≤ l.length → stW (l ++ [v]) i = stW l i
  | 0, _ => rfl
  | i + 1, h => by
    rw [stW, stW, stW_snoc l v i (by omega), List.take_append_of_le_length (by omega)]
    rw [show (l ++ [v]).getD i 0 = l.getD i 0 by rw [getD_lt (by simp; omega), getD_lt (by omega), List.getElem_append_left (by omega)]]
theorem allB_snoc (l : List UInt64) (v : UInt64) : ∀ i, i ≤ l.length → allB (l ++ [v]) i = allB l i
  | 0, _ => rfl
  | i + 1, h => by
    rw [allB, allB, allB_snoc l v i (by omega)]
    unfold nxB
    rw [stW_snoc l v i (by omega), List.take_append_of_le_length (by omega)]
    rw [show (l ++ [v]).getD i 0 = l.getD i 0 by rw [getD_lt (by simp; omega), getD_lt (by omega), List.getElem_append_left (by omega)]]
theorem snoc_st (l : List UInt64) (v : UInt64) : stW (l ++ [v]) (l ++ [v]).length = (putF l (stW l l.length).1 (stW l l.length).2 v, putS l (stW l l.length).1 (stW l l.length).2 v) := by
  rw [List.length_append]
  show stW (l ++ [v]) (l.length + 1) = _
  rw [stW, stW_snoc l v _ (Nat.le_refl _), List.take_left, show (l ++ [v]).getD l.length 0 = v by rw [getD_lt (by simp)]; simp]
theorem snoc_all (l : List UInt64) (v : UInt64) : allB (l ++ [v]) (l ++ [v]).length = allB l l.length ++ putB l (stW l l.length).1 (stW l l.length).2 v := by
  rw [List.length_append]
  show allB (l ++ [v]) (l.length + 1) = _
  rw [allB, allB_snoc l v _ (Nat.le_refl _)]
  unfold nxB
  rw [stW_snoc l v _ (Nat.le_refl _), List.take_left, show (l ++ [v]).getD l.length 0 = v by rw [getD_lt (by simp)]; simp]
theorem takes_loop07 (N : Nat) (hN : N ≤ 60) {A : List Int} (hA : A.length ≤ 640) : ∀ (m i : Nat) (r : bitio_Reader) (p : Nat) (x y : xor_Row) (w : bitio_Writer) (l : List UInt64), i + m = N → l.length = i → RA r A p →
    XS x l (stW l l.length).1 (stW l l.length).2 → XS y l (stW l l.length).1 (stW l l.length).2 → WR w (allB l l.length) → A.take p = allB l l.length →
    ∃ (w' : bitio_Writer) (L : List Int) (q : Nat), loop (law07_XorTakes_lp1 (N : Int)) (r.b, r.n, r.at_, A, x.n, x.last, x.win.ahead, x.win.size, y.n, y.last, y.win.ahead, y.win.size, w.b, w.n, l, (((stW l l.length).1 : Nat) : Int), (((stW l l.length).2 : Nat) : Int), (p : Int), (i : Int)) = some (.go (A, w'.b, w'.n, (q : Int))) ∧
      WR w' L ∧ q ≤ A.length ∧ L = A.take q
  | 0, i, r, p, x, y, w, l, hi, hli, hr, hx, hy, hw, hp => by
    refine ⟨w, allB l l.length, p, ?_, hw, hr.le, hp.symm⟩
    rw [loop_brk (b := (A, w.b, w.n, (p : Int)))]
    unfold law07_XorTakes_lp1
    dsimp only
    rw [bifFd (by omega)]
  | m + 1, i, r, p, x, y, w, l, hi, hli, hr, hx, hy, hw, hp => by
    have hpl := hr.le
    have hbA := hr.bit
    have hle := allB_le l l.length
    obtain ⟨x', r', e1, h1, h1'⟩ := hx.get (by omega) hr
    have hrf := refGet_eq hx.ok (l := l) (by omega) (A := A.drop p) (hbA.drop p) (by rw [List.length_drop]; omega)
    have e1' : xor_Row_Get ⟨x.n, x.last, ⟨x.win.ahead, x.win.size⟩⟩ ⟨r.b, r.n, r.at_⟩ = _ := e1
    by_cases he : (getX l (stW l l.length).1 (stW l l.length).2 (A.drop p)).e = 0
    · obtain ⟨hx', hr'⟩ := h1 he
      obtain ⟨hn, htk⟩ := getX_got (l := l) (f := (stW l l.length).1) (s := (stW l l.length).2) (hbA.drop p) he
      generalize hg : getX l (stW l l.length).1 (stW l l.length).2 (A.drop p) = g at *
      have hgl : g.n ≤ 77 := by
        have h2 := congrArg List.length htk
        rw [List.length_take, Nat.min_eq_left hn] at h2
        rw [h2]; exact (putB_len hx.ok _ _).2
      obtain ⟨y', w', e2, hy', hw'⟩ := hy.put (by omega) hw g.v (by omega)
      have e2' : xor_Row_Put ⟨y.n, y.last, ⟨y.win.ahead, y.win.size⟩⟩ ⟨w.b, w.n⟩ g.v = _ := e2
      have hst := snoc_st l g.v
      have hall := snoc_all l g.v
      have hp' : A.take (p + g.n) = allB (l ++ [g.v]) (l ++ [g.v]).length := by rw [hall, List.take_add, hp, htk]
      obtain ⟨w2, L, q, h3, h4, h5, h6⟩ := takes_loop07 N hN hA m (i + 1) r' (p + g.n) x' y' w' (l ++ [g.v]) (by omega) (by rw [List.length_append, hli]; rfl) hr' (by rw [hst]; exact hx') (by rw [hst]; exact hy') (by rw [hall]; exact hw') hp'
      refine ⟨w2, L, q, ?_, h4, h5, h6⟩
      rw [loop_next (s' := (r'.b, r'.n, r'.at_, A, x'.n, x'.last, x'.win.ahead, x'.win.size, y'.n, y'.last, y'.win.ahead, y'.win.size, w'.b, w'.n, l ++ [g.v], (((stW (l ++ [g.v]) (l ++ [g.v]).length).1 : Nat) : Int), (((stW (l ++ [g.v]) (l ++ [g.v]).length).2 : Nat) : Int), ((p + g.n : Nat) : Int), ((i + 1 : Nat) : Int)))]
      · exact h3
      · unfold law07_XorTakes_lp1
        dsimp only
        have hat : bitio_Reader_At r' = _ := hr'.at'
        rw [bifTd (by omega), slc_rest hpl, bind_some, hrf, bind_some, bind_some]
        dsimp only
        rw [e1', bind_some]
        dsimp only
        rw [decide_eq_true rfl, decide_eq_true rfl, Bool.not_true, Bool.or_self, cond_false, hat, bind_some, w64_addN (by omega), decide_eq_true rfl, Bool.not_true, bind_some, cond_false, he, decide_eq_true rfl, Bool.not_true, cond_false, lett_eq, e2', bind_some]
        dsimp only
        rw [lett_eq, w64_succ (by omega), hst]
        unfold gotS
        rw [if_pos he]
    · obtain ⟨hxe, hre⟩ := h1' he
      subst hxe; subst hre
      refine ⟨w, allB l l.length, p, ?_, hw, hr.le, hp.symm⟩
      have hn0 : (getX l (stW l l.length).1 (stW l l.length).2 (A.drop p)).n = 0 := by
        revert he
        generalize A.drop p = B
        unfold getX
        split
        · split
          · intro _; rfl
          · intro h; exact absurd rfl h
        · repeat' split
          all_goals first | (intro _; rfl) | (intro h; exact absurd rfl h)
      rw [loop_brk (b := (A, w.b, w.n, (p : Int)))]
      unfold law07_XorTakes_lp1
      dsimp only
      have hat : bitio_Reader_At r' = _ := hr.at'
      have hln : xor_Row_Len x' = some (l.length : Int) := by unfold xor_Row_Len; rw [hx.n]
      rw [bifTd (by omega), slc_rest hpl, bind_some, hrf, bind_some, bind_some]
      dsimp only
      rw [e1', bind_some]
      dsimp only
      rw [decide_eq_true rfl, decide_eq_true rfl, Bool.not_true, Bool.or_self, cond_false, hat, bind_some, hn0, w64_addN (by omega), Nat.add_zero, decide_eq_true rfl, Bool.not_true, bind_some, cond_false, decide_eq_false he, Bool.not_false, cond_true, e1, bind_some]
      dsimp only
      rw [decide_eq_true rfl, Bool.not_true, cond_false, hln, bind_some, decide_eq_true rfl, Bool.not_true, bind_some, cond_false]
theorem xorTakes (a0 : List UInt8) (a1 : Int) : law07_XorTakes a0 a1 = some true := by
  unfold law07_XorTakes
  rw [awake07, bind_some, Bool.not_true, cond_false]
  by_cases h : 80 < (a0.length : Int) ∨ a1 < 0 ∨ 60 < a1
  · rw [bifT]
    simp only [Bool.or_eq_true, decide_eq_true_eq]
    omega
  · rw [bifF (by simp only [Bool.or_eq_false_iff, decide_eq_false_iff_not]; omega)]
    obtain ⟨n, rfl⟩ : ∃ n : Nat, a1 = (n : Int) := ⟨a1.toNat, by omega⟩
    have hw8 : w64 (8 * (a0.length : Int)) = ((8 * a0.length : Nat) : Int) := by rw [w64_id (by omega) (by omega)]; omega
    obtain ⟨e2, hr⟩ := RA.whole (b := a0) (by omega)
    rw [hw8, e2, bind_some]
    dsimp only
    rw [show (some (bitio_Reader.mk a0 ((8 * a0.length : Nat) : Int) 0)).isNone = false from rfl, cond_false, bits_eq (by omega), bind_some]
    unfold bitio_NewWriter xor_NewRow
    rw [bind_some, bind_some, bind_some, bind_some]
    obtain ⟨w, L, q, h1, hw, hq, hL⟩ := takes_loop07 n (by omega) (A := bitsOf a0) (by rw [bitsOf_len]; omega) n 0 _ 0 ⟨0, 0, ⟨0, 0⟩⟩ ⟨0, 0, ⟨0, 0⟩⟩ ⟨[], 0⟩ [] (by omega) rfl hr XS.new XS.new WR.new rfl
    have h1' : loop (law07_XorTakes_lp1 (n : Int)) (a0, ((8 * a0.length : Nat) : Int), 0, bitsOf a0, 0, 0, 0, 0, 0, 0, 0, 0, [], 0, [], 0, 0, 0, 0) = _ := h1
    dsimp only
    rw [h1', flow_go]
    dsimp only
    rw [flow_go]
    dsimp only
    have hn : bitio_Writer_Len ⟨w.b, w.n⟩ = _ := hw.len
    have hb : bitio_Writer_Bytes ⟨w.b, w.n⟩ = _ := hw.bytes
    have hll : L.length = q := by rw [hL, List.length_take]; omega
    rw [hn, bind_some, hll, bifTd rfl, show slc (bitsOf a0) 0 (q : Int) = some (((bitsOf a0).take q).drop 0) from slc_nat (i := 0) (by omega) hq, bind_some, List.drop_zero, hb, bind_some, ← hL, hw.ref, bind_some, decide_eq_true rfl, bind_some]
end Go.Lg
