/- Lemmas about the given model and about plain data, which the rows stand on: no statement of the program by itself. -/
import Derived.Test.YtdpokdaeekanjaaLg06c
set_option linter.unusedVariables false
namespace Go.Lg
attribute [local irreducible] w64 toU64 toU8 shlU shrU shlB shrB

/-! ### LAW 06 -/
theorem WR.is {w : bitio_Writer} {L : List Int} (h : WR w L) (b : List UInt8) (hl : b.length = (L.length + 7) / 8) (hv : bv b = dv L * 2 ^ (8 * b.length - L.length)) : w.b = b :=
  WA.inj h.a ⟨by omega, by omega, hv⟩
theorem awake06_loop {w : bitio_Writer} (hw : WR w []) : ∃ w' x', loop law06_awake_lp1 (w.b, w.n, 0, 0, 0, 0) = some (.go (w'.b, w'.n, x'.n, x'.last, x'.step)) ∧ RowS x' [10, 20, 30, 31] ∧ WR w' (nextBits [] 10 ++ nextBits [10] 20 ++ nextBits [10, 20] 30 ++ nextBits [10, 20, 30] 31) := by
  have hI : ∀ y : Int, 0 ≤ y → y ≤ 100 → I64 y := fun y _ _ => by unfold I64; omega
  have hN := nextBits_le
  obtain ⟨x1, w1, p1, s1, r1⟩ := RowS.new.put hw (y := 10) (hI _ (by omega) (by omega)) (by decide) (by decide)
  rw [List.nil_append] at s1 r1
  obtain ⟨x2, w2, p2, s2, r2⟩ := s1.put r1 (y := 20) (hI _ (by omega) (by omega)) (by decide) (by have := hN [] 10; omega)
  obtain ⟨x3, w3, p3, s3, r3⟩ := s2.put r2 (y := 30) (hI _ (by omega) (by omega)) (by decide) (by have := hN [] 10; have := hN [10] 20; rw [List.length_append]; omega)
  obtain ⟨x4, w4, p4, s4, r4⟩ := s3.put r3 (y := 31) (hI _ (by omega) (by omega)) (by decide) (by have := hN [] 10; have := hN [10] 20; have := hN [10, 20] 30; simp only [List.length_append, List.cons_append, List.nil_append]; omega)
  refine ⟨w4, x4, ?_, s4, r4⟩
  have st : ∀ (i : Nat) (w w' : bitio_Writer) (x x' : vary_Row) (y : Int), i < 4 → idx [10, 20, 30, 31] (i : Int) = some y → vary_Row_Put x w y = some (x', w') → law06_awake_lp1 (w.b, w.n, x.n, x.last, x.step, (i : Int)) = some (.next (w'.b, w'.n, x'.n, x'.last, x'.step, ((i + 1 : Nat) : Int))) := by
    intro i w w' x x' y hi hy hp
    unfold law06_awake_lp1
    dsimp only
    rw [bifTd (by omega), hy, bind_some, hp, bind_some]
    dsimp only
    rw [lett_eq, w64_succ (by omega)]
  have e0 := st 0 w w1 ⟨0, 0, 0⟩ x1 10 (by omega) rfl p1
  have e1 := st 1 w1 w2 x1 x2 20 (by omega) rfl p2
  have e2 := st 2 w2 w3 x2 x3 30 (by omega) rfl p3
  have e3 := st 3 w3 w4 x3 x4 31 (by omega) rfl p4
  have e4 : law06_awake_lp1 (w4.b, w4.n, x4.n, x4.last, x4.step, ((4 : Nat) : Int)) = some (.brk (w4.b, w4.n, x4.n, x4.last, x4.step)) := by
    unfold law06_awake_lp1
    dsimp only
    rw [bifFd (by omega)]
  have e0' : law06_awake_lp1 (w.b, w.n, 0, 0, 0, 0) = _ := e0
  rw [loop_next e0', loop_next e1, loop_next e2, loop_next e3, loop_brk e4]
theorem awake06 : law06_awake = some true := by
  obtain ⟨w1, p1, r1⟩ := WR.new.small_ 5 (by simp)
  rw [List.nil_append] at r1
  have l1 : (smallBits (UInt64.toNat 5)).length = 9 := by decide +kernel
  have b1 : w1.b = [66, 128] := r1.is _ (by rw [l1]; rfl) (by decide +kernel)
  obtain ⟨w2, p2, r2⟩ := r1.cut (m := 0) (by omega)
  rw [List.take_zero] at r2
  obtain ⟨w3, x3, p3, s3, r3⟩ := awake06_loop r2
  have l3 : (nextBits [] 10 ++ nextBits [10] 20 ++ nextBits [10, 20] 30 ++ nextBits [10, 20, 30] 31).length = 27 := by decide +kernel
  have b3 : w3.b = [74, 37, 22, 224] := r3.is _ (by rw [l3]; rfl) (by decide +kernel)
  have g1 := r1.len
  rw [l1] at g1
  have g2 := r1.bytes
  rw [b1] at g2
  have g3 := r3.len
  rw [l3] at g3
  have g4 := r3.bytes
  rw [b3] at g4
  have g5 : vary_Row_Len x3 = some 4 := by unfold vary_Row_Len; rw [s3.n]; rfl
  have p2' : bitio_Writer_Cut w1 0 = some (true, w2) := p2
  unfold law06_awake
  rw [show bitio_NewWriter = some ⟨[], 0⟩ from rfl, bind_some, show vary_NewRow = some ⟨0, 0, 0⟩ from rfl, bind_some, p1, bind_some, g1, bind_some]
  have e9 : (bif (!decide (((9 : Nat) : Int) = 9)) then some true else (bitio_Writer_Bytes w1).bind fun r72 => some (!decide (r72 = [66, 128]))) = some false := by rw [g2]; rfl
  rw [e9, bind_some, cond_false, p2', bind_some, bind_some]
  dsimp only
  rw [bifF (by rfl), p3, flow_go]
  dsimp only
  rw [bind_some]
  dsimp only
  rw [g3, bind_some]
  have e27 : (bif decide (((27 : Nat) : Int) = 27) then (vary_Row_Len ⟨x3.n, x3.last, x3.step⟩).bind fun r247 => some (decide (r247 = 4)) else some false) = some true := by
    have g5' : vary_Row_Len ⟨x3.n, x3.last, x3.step⟩ = some 4 := g5
    rw [g5']; rfl
  have g4' : bitio_Writer_Bytes ⟨w3.b, w3.n⟩ = _ := g4
  rw [e27, bind_some, cond_true, g4', bind_some, bind_some]
  rfl

theorem varySmall_loop (a0 : List UInt64) (hl : a0.length ≤ 60) : ∀ (m i : Nat) (w v : bitio_Writer) (a b : List Int), i + m = a0.length → WR w a → WR v b → a.length ≤ 66 * i → b.length ≤ 66 * i →
    ∃ w' v' a' b', loop (law06_VarySmall_lp1 a0) (w.b, w.n, v.b, v.n, a, b, (i : Int)) = some (.go (w'.b, w'.n, v'.b, v'.n, a', b')) ∧ WR w' a' ∧ WR v' b' := by
  intro m
  induction m with
  | zero =>
    intro i w v a b hi hw hv _ _
    refine ⟨w, v, a, b, loop_brk ?_, hw, hv⟩
    unfold law06_VarySmall_lp1
    dsimp only
    rw [bifFd (by omega)]
  | succ m ih =>
    intro i w v a b hi hw hv ha hb
    have hlt : i < a0.length := by omega
    obtain ⟨w1, p1, q1⟩ := hw.small_ a0[i] (by omega)
    obtain ⟨v1, p2, q2⟩ := hv.int (sg_I64 a0[i]) (by omega)
    have s1 := smallBits_le (a0[i]).toNat
    have s2 := smallBits_le (zz (sg a0[i]))
    obtain ⟨w', v', a', b', h1, h2, h3⟩ := ih (i + 1) w1 v1 _ _ (by omega) q1 q2 (by rw [List.length_append]; omega) (by rw [List.length_append]; omega)
    refine ⟨w', v', a', b', ?_, h2, h3⟩
    rw [← h1]
    refine loop_next ?_
    unfold law06_VarySmall_lp1
    dsimp only
    have p1' : vary_Put ⟨w.b, w.n⟩ a0[i] = some w1 := p1
    have p2' : vary_PutInt ⟨v.b, v.n⟩ (w64 ((a0[i]).toNat : Int)) = some v1 := p2
    have z1 : ref02_Zig (w64 ((a0[i]).toNat : Int)) = some (UInt64.ofNat (zz (sg a0[i]))) := refZig_eq (sg_I64 a0[i])
    have hz := zz_lt (sg_I64 a0[i])
    rw [bifTd (by omega), idx_nat hlt, bind_some, p1', bind_some, bind_some, p2', bind_some, bind_some, Small_eq, bind_some, app_ok (by omega), bind_some, bind_some, z1, bind_some, Small_eq, bind_some, u64_ofNat hz, app_ok (by omega), bind_some, lett_eq, w64_succ (by omega)]
theorem varySmall (a0 : List UInt64) : law06_VarySmall a0 = some true := by
  unfold law06_VarySmall
  rw [awake06, bind_some, bifF (by rfl)]
  by_cases h : 60 < (a0.length : Int)
  · rw [bifTd h]
  obtain ⟨w, v, a, b, h1, h2, h3⟩ := varySmall_loop a0 (by omega) a0.length 0 ⟨[], 0⟩ ⟨[], 0⟩ [] [] (by omega) WR.new WR.new (by simp) (by simp)
  have h1' : loop (law06_VarySmall_lp1 a0) ([], 0, [], 0, [], [], 0) = _ := h1
  rw [bifFd h, show bitio_NewWriter = some ⟨[], 0⟩ from rfl, bind_some, bind_some]
  dsimp only
  rw [h1', flow_go]
  dsimp only
  rw [bind_some]
  dsimp only
  have g1 : bitio_Writer_Len ⟨w.b, w.n⟩ = _ := h2.len
  have g2 : bitio_Writer_Bytes ⟨w.b, w.n⟩ = _ := h2.bytes
  have g3 : bitio_Writer_Len ⟨v.b, v.n⟩ = _ := h3.len
  have g4 : bitio_Writer_Bytes ⟨v.b, v.n⟩ = _ := h3.bytes
  rw [g1, bind_some, bifTd rfl, g2, bind_some, h2.ref, bind_some, bind_some, bifTd rfl, g3, bind_some, bind_some, bifTd rfl, g4, bind_some, h3.ref, bind_some, bind_some, decide_eq_true rfl]

theorem slc_rest {A : List Int} {p : Nat} (h : p ≤ A.length) : slc A (p : Int) (A.length : Int) = some (A.drop p) := by rw [slc_nat h (Nat.le_refl _), List.take_length]
theorem getSmall_n {l : List Int} : (getSmall l).n ≤ 66 := by
  unfold getSmall
  split
  · simp
  · dsimp only
    have := sz_le (dv (l.take 2))
    split
    · simp
    · split
      · dsimp only; omega
      · simp
theorem varyReads_loop (a1 : List Bool) (hl : a1.length ≤ 60) {A : List Int} (hA : A.length ≤ 1000) : ∀ (m i : Nat) (r : bitio_Reader) (p : Nat), i + m = a1.length → RA r A p →
    loop (law06_VaryReads_lp1 a1) (r.b, r.n, r.at_, A, (p : Int), (i : Int)) = some (.go ()) := by
  intro m
  induction m with
  | zero =>
    intro i r p hi hr
    refine loop_brk ?_
    unfold law06_VaryReads_lp1
    dsimp only
    rw [bifFd (by omega)]
  | succ m ih =>
    intro i r p hi hr
    have hlt : i < a1.length := by omega
    have hs : (A.drop p).length ≤ 1000000 := by rw [List.length_drop]; omega
    have hb := hr.bit.drop p
    have key : ∃ r', law06_VaryReads_lp1 a1 (r.b, r.n, r.at_, A, (p : Int), (i : Int)) = some (.next (r'.b, r'.n, r'.at_, A, ((p + (getSmall (A.drop p)).n : Nat) : Int), ((i + 1 : Nat) : Int))) ∧ RA r' A (p + (getSmall (A.drop p)).n) := by
      have hn := getSmall_n (l := A.drop p)
      have hle := hr.le
      unfold law06_VaryReads_lp1
      dsimp only
      rw [bifTd (by omega), slc_rest hr.le, bind_some, getSmall_eq hb hs, bind_some, idx_nat hlt, bind_some]
      cases hc : a1[i] with
      | true =>
        obtain ⟨r', g1, g2, _⟩ := getInt_eq hr
        have g1' : vary_GetInt ⟨r.b, r.n, r.at_⟩ = _ := g1
        refine ⟨r', ?_, g2⟩
        have hat : bitio_Reader_At ⟨r'.b, r'.n, r'.at_⟩ = _ := g2.at'
        rw [cond_true, g1', bind_some]
        dsimp only
        rw [refZag_eq, bind_some, u64_ofNat (getSmall_lt hb), bifF (by simp), flow_go]
        dsimp only
        rw [lett_eq, w64_addN (by omega), hat, bind_some, bifF (by simp), flow_go]
        dsimp only
        rw [lett_eq, w64_succ (by omega)]
      | false =>
        obtain ⟨r', g1, g2, _⟩ := get_eq hr
        have g1' : vary_Get ⟨r.b, r.n, r.at_⟩ = _ := g1
        refine ⟨r', ?_, g2⟩
        have hat : bitio_Reader_At ⟨r'.b, r'.n, r'.at_⟩ = _ := g2.at'
        rw [cond_false, g1', bind_some]
        dsimp only
        rw [bifF (by simp), flow_go]
        dsimp only
        rw [lett_eq, w64_addN (by omega), hat, bind_some, bifF (by simp), flow_go]
        dsimp only
        rw [lett_eq, w64_succ (by omega)]
    obtain ⟨r', k1, k2⟩ := key
    rw [loop_next k1]
    exact ih (i + 1) r' _ (by omega) k2
theorem varyReads (a0 : List UInt8) (a1 : List Bool) : law06_VaryReads a0 a1 = some true := by
  unfold law06_VaryReads
  rw [awake06, bind_some, bifF (by rfl)]
  by_cases h : 60 < (a0.length : Int) ∨ 60 < (a1.length : Int)
  · rw [bifT (by simpa using h)]
  obtain ⟨n1, n2⟩ := RA.whole (b := a0) (by omega)
  have e8 : w64 (8 * (a0.length : Int)) = ((8 * a0.length : Nat) : Int) := by rw [w64_8 (by omega)]; simp
  rw [bifF (by simpa using h), e8, n1, bind_some]
  dsimp only
  rw [bifF (by rfl), bits_eq (by omega), bind_some, bind_some]
  have := varyReads_loop a1 (by omega) (A := bitsOf a0) (by rw [bitsOf_len]; omega) a1.length 0 _ 0 (by omega) n2
  have h' : loop (law06_VaryReads_lp1 a1) (a0, ((8 * a0.length : Nat) : Int), 0, bitsOf a0, 0, 0) = _ := this
  dsimp only
  rw [h']; rfl

/-! all the bits of a row -/
def rowBits (l : List Int) : Nat → List Int
  | 0 => []
  | i + 1 => rowBits l i ++ nextBits (l.take i) (l.getD i 0)
theorem rowBits_len (l : List Int) : ∀ i, (rowBits l i).length ≤ 68 * i
  | 0 => by simp [rowBits]
  | i + 1 => by have := rowBits_len l i; have := nextBits_le (l.take i) (l.getD i 0); rw [rowBits, List.length_append]; omega
theorem put_loop06 (l : List Int) (hl : ∀ x ∈ l, I64 x) (hn : l.length ≤ 1000) : ∀ (m i : Nat) (w : bitio_Writer) (x : vary_Row), i + m = l.length → WR w (rowBits l i) → RowS x (l.take i) →
    ∃ w', loop (law06_VaryTakes_lp2 l) (w.b, w.n, x.n, x.last, x.step, (i : Int)) = some (.go (w'.b, w'.n)) ∧ WR w' (rowBits l l.length) := by
  intro m
  induction m with
  | zero =>
    intro i w x hi hw hx
    obtain rfl : i = l.length := by omega
    refine ⟨w, loop_brk ?_, hw⟩
    unfold law06_VaryTakes_lp2
    dsimp only
    rw [bifFd (by omega)]
  | succ m ih =>
    intro i w x hi hw hx
    have hlt : i < l.length := by omega
    have hb := rowBits_len l i
    obtain ⟨x', w1, p1, s1, r1⟩ := hx.put hw (hl _ (List.getElem_mem hlt)) (by rw [List.length_take]; omega) (by omega)
    rw [← List.take_succ_eq_append_getElem hlt] at s1
    have r1' : WR w1 (rowBits l (i + 1)) := by rw [rowBits, getD_lt hlt]; exact r1
    obtain ⟨w', h1, h2⟩ := ih (i + 1) w1 x' (by omega) r1' s1
    refine ⟨w', ?_, h2⟩
    rw [← h1]
    refine loop_next ?_
    have p1' : vary_Row_Put ⟨x.n, x.last, x.step⟩ ⟨w.b, w.n⟩ l[i] = _ := p1
    unfold law06_VaryTakes_lp2
    dsimp only
    rw [bifTd (by omega), idx_nat hlt, bind_some, p1', bind_some]
    dsimp only
    rw [lett_eq, w64_succ (by omega)]
theorem rowBits_snoc (l : List Int) (x : Int) : ∀ i, i ≤ l.length → rowBits (l ++ [x]) i = rowBits l i
  | 0, _ => rfl
  | i + 1, h => by
    rw [rowBits, rowBits, rowBits_snoc l x i (by omega), List.take_append_of_le_length (by omega)]
    congr 2
    rw [getD_lt (by simp; omega), getD_lt (by omega), List.getElem_append_left]
theorem rowBits_next (l : List Int) (x : Int) : rowBits (l ++ [x]) (l ++ [x]).length = rowBits l l.length ++ nextBits l x := by
  rw [List.length_append, List.length_singleton, rowBits, rowBits_snoc l x _ (Nat.le_refl _), List.take_left, getD_lt (by simp)]
  simp

theorem takes_loop (N : Nat) (hN : N ≤ 100) {A : List Int} (hA : A.length ≤ 1000) : ∀ (m i : Nat) (r : bitio_Reader) (p : Nat) (x : vary_Row) (row : List Int), i + m = N → row.length = i → RA r A p → RowS x row → A.take p = rowBits row row.length →
    ∃ (row' : List Int) (p' : Nat), loop (law06_VaryTakes_lp1 (N : Int)) (r.b, r.n, r.at_, A, x.n, x.last, x.step, row, (p : Int), (i : Int)) = some (.go (A, row', (p' : Int))) ∧ (∀ y ∈ row', I64 y) ∧ row'.length ≤ 100 ∧ p' ≤ A.length ∧ A.take p' = rowBits row' row'.length := by
  intro m
  induction m with
  | zero =>
    intro i r p x row hi hrow hr hx hbits
    refine ⟨row, p, loop_brk ?_, hx.all, by omega, hr.le, hbits⟩
    unfold law06_VaryTakes_lp1
    dsimp only
    rw [bifFd (by omega)]
  | succ m ih =>
    intro i r p x row hi hrow hr hx hbits
    have hb := hr.bit.drop p
    have hs : (A.drop p).length ≤ 1000000 := by rw [List.length_drop]; omega
    obtain ⟨x', r', g1, g2, g3, g4⟩ := hx.get hr (by omega)
    have g1' : vary_Row_Get ⟨x.n, x.last, x.step⟩ ⟨r.b, r.n, r.at_⟩ = _ := g1
    have hnx := Next_eq (row := row) (l := A.drop p) hx.all (by omega) hb hs
    have hnle : p + (nextGot row (A.drop p)).n ≤ A.length := g2.le
    have hle := hr.le
    have hat := g2.at'
    generalize hg : nextGot row (A.drop p) = g at *
    by_cases he : g.e = 0
    · rw [if_pos he] at g1'
      have hr1 : law06_VaryTakes_lp1 (N : Int) (r.b, r.n, r.at_, A, x.n, x.last, x.step, row, (p : Int), (i : Int)) = some (.next (r'.b, r'.n, r'.at_, A, x'.n, x'.last, x'.step, row ++ [sg g.v], ((p + g.n : Nat) : Int), ((i + 1 : Nat) : Int))) := by
        unfold law06_VaryTakes_lp1
        dsimp only
        rw [bifTd (by omega), slc_rest hr.le, bind_some, hnx, bind_some, g1', bind_some]
        dsimp only
        have c1 : ((!decide (g.e = g.e)) || (!decide (toU64 (sg g.v) = g.v))) = false := by rw [toU64_sg]; simp
        rw [c1, cond_false, hat, bind_some, w64_addN (by omega), bind_some, bifF (by simp), bifF (by rw [he]; rfl), lett_eq, app_ok (by simp; omega), bind_some, lett_eq, w64_succ (by omega)]
      rw [loop_next hr1]
      have hgot := nextGot_got hb (by rw [hg]; exact he)
      rw [hg] at hgot
      refine ih (i + 1) r' (p + g.n) x' _ (by omega) (by simp; omega) g2 (g3 he) ?_
      rw [rowBits_next, List.take_add, hbits, hgot.2]
    · obtain ⟨e1, e2⟩ := g4 he
      subst e1; subst e2
      rw [if_neg he] at g1'
      have hg0 : g.v = 0 ∧ g.n = 0 := by
        rw [← hg] at he ⊢
        unfold nextGot at *
        split
        · rename_i h1
          rw [if_pos h1] at he
          dsimp only at *
          split
          · rename_i h2; rw [if_pos h2] at he; exact absurd rfl he
          · exact ⟨rfl, rfl⟩
        · rename_i h1
          rw [if_neg h1] at he
          dsimp only at *
          split
          · rename_i h2; rw [if_pos h2] at he; exact absurd rfl he
          · exact ⟨rfl, rfl⟩
      refine ⟨row, p, loop_brk ?_, hx.all, by omega, hr.le, hbits⟩
      have hlen : vary_Row_Len x' = some (row.length : Int) := by unfold vary_Row_Len; rw [hx.n]
      unfold law06_VaryTakes_lp1
      dsimp only
      rw [bifTd (by omega), slc_rest hr.le, bind_some, hnx, bind_some, g1', bind_some]
      dsimp only
      have z0 : toU64 0 = 0 := by apply UInt64.toNat_inj.1; exact toU64_nat (x := 0) (by omega)
      have c1 : ((!decide (g.e = g.e)) || (!decide (toU64 0 = g.v))) = false := by rw [hg0.1, z0]; simp
      have g1'' : vary_Row_Get x' r' = _ := g1'
      rw [c1, cond_false, hat, bind_some, w64_addN (by omega), bind_some, bifF (by simp), bifT (by rw [decide_eq_false he]; rfl), g1'', bind_some]
      dsimp only
      rw [bifF (by simp), hlen, bind_some, bind_some, bifF (by simp)]
theorem varyTakes (a0 : List UInt8) (a1 : Int) : law06_VaryTakes a0 a1 = some true := by
  unfold law06_VaryTakes
  rw [awake06, bind_some, bifF (by rfl)]
  by_cases h : (60 < (a0.length : Int) ∨ a1 < 0) ∨ 100 < a1
  · rw [bifT (by simpa using h)]
  obtain ⟨n1, n2⟩ := RA.whole (b := a0) (by omega)
  have e8 : w64 (8 * (a0.length : Int)) = ((8 * a0.length : Nat) : Int) := by rw [w64_8 (by omega)]; simp
  obtain ⟨N, rfl⟩ : ∃ N : Nat, a1 = (N : Int) := ⟨a1.toNat, by omega⟩
  have hbl := bitsOf_len a0
  obtain ⟨row, p, t1, t2, t3, t4, t5⟩ := takes_loop N (by omega) (A := bitsOf a0) (by omega) N 0 _ 0 ⟨0, 0, 0⟩ [] (by omega) rfl n2 RowS.new rfl
  have t1' : loop (law06_VaryTakes_lp1 (N : Int)) (a0, ((8 * a0.length : Nat) : Int), 0, bitsOf a0, 0, 0, 0, [], 0, 0) = _ := t1
  obtain ⟨w, u1, u2⟩ := put_loop06 row t2 (by omega) row.length 0 ⟨[], 0⟩ ⟨0, 0, 0⟩ (by omega) WR.new (by simpa using RowS.new)
  have u1' : loop (law06_VaryTakes_lp2 row) ([], 0, 0, 0, 0, 0) = _ := u1
  rw [bifF (by simpa using h), e8, n1, bind_some]
  dsimp only
  rw [bifF (by rfl), bits_eq (by omega), bind_some, show vary_NewRow = some ⟨0, 0, 0⟩ from rfl, bind_some, bind_some]
  dsimp only
  rw [t1', flow_go]
  dsimp only
  rw [flow_go]
  dsimp only
  rw [show bitio_NewWriter = some ⟨[], 0⟩ from rfl, bind_some, bind_some]
  dsimp only
  rw [u1', flow_go]
  dsimp only
  rw [bind_some]
  dsimp only
  have hlen : (rowBits row row.length).length = p := by rw [← t5, List.length_take]; omega
  have g1 : bitio_Writer_Len ⟨w.b, w.n⟩ = _ := u2.len
  have g2 : bitio_Writer_Bytes ⟨w.b, w.n⟩ = _ := u2.bytes
  have g3 := u2.ref
  have hsl : slc (bitsOf a0) 0 (p : Int) = some (rowBits row row.length) := by
    rw [show (0 : Int) = ((0 : Nat) : Int) from rfl, slc_nat (by omega) t4, List.drop_zero, t5]
  rw [g1, bind_some, hlen, bifTd rfl, hsl, bind_some, g2, bind_some, g3, bind_some, bind_some, decide_eq_true rfl]

/-! ### VaryRows -/
theorem Row_eq {l : List Int} (hl : ∀ x ∈ l, I64 x) (hn : l.length ≤ 1000) : ref06_Row l = some (rowBits l l.length) := by
  have hloop : loop (ref06_Row_lp1 l) (rowBits l 0, ((0 : Nat) : Int)) = some (.go (rowBits l l.length)) := by
    refine loop_for (fun i => (rowBits l i, (i : Int))) l.length (fun i hi => ?_) ?_
    · have hb := rowBits_len l i
      have hI := hl _ (List.getElem_mem hi)
      unfold ref06_Row_lp1
      dsimp only
      rw [bifTd (by omega), lett_eq]
      have key : rowBits l (i + 1) = rowBits l i ++ nextBits (l.take i) l[i] := by rw [rowBits, getD_lt hi]
      have hnb := nextBits_le (l.take i) l[i]
      rw [key, w64_succ (by omega)]
      have hlt : (l.take i).length = i := by rw [List.length_take]; omega
      by_cases h0 : i = 0
      · subst h0
        have e : nextBits (l.take 0) l[0] = smallBits (zz l[0]) := by unfold nextBits; rw [if_pos (by simp)]
        rw [bifTd (by omega), idx_0 hi, bind_some, refZig_eq hI, bind_some, Small_eq, bind_some, u64_ofNat (zz_lt hI), ← e, app_ok (by omega), bind_some, bind_some, lett_eq]
      rw [bifFd (by omega), lett_eq]
      by_cases h1 : i = 1
      · subst h1
        have e : nextBits (l.take 1) l[1] = smallBits (zz (sg (toU64 l[1] - toU64 l[0]))) := by
          unfold nextBits
          rw [if_neg (by omega), if_pos hlt, getD_lt (by omega)]
          simp
        have hz := zz_lt (sg_I64 (toU64 l[1] - toU64 l[0]))
        have z1 : ref02_Zig (w64 ((toU64 l[1] - toU64 l[0]).toNat : Int)) = some (UInt64.ofNat (zz (sg (toU64 l[1] - toU64 l[0])))) := refZig_eq (sg_I64 (toU64 l[1] - toU64 l[0]))
        rw [bifTd (by omega), idx_1 hi, bind_some, idx_0 (by omega), bind_some, z1, bind_some, Small_eq, bind_some, u64_ofNat hz, ← e, app_ok (by omega), bind_some, bind_some, lett_eq]
      have e : nextBits (l.take i) l[i] = stepBits (sg (toU64 l[i] - 2 * toU64 l[i - 1] + toU64 l[i - 2])) := by
        unfold nextBits
        rw [if_neg (by omega), if_neg (by omega), hlt, getD_lt (by omega), getD_lt (by omega)]
        simp
      have z1 : ref06_Step (w64 ((toU64 l[i] - 2 * toU64 l[i - 1] + toU64 l[i - 2]).toNat : Int)) = some (stepBits (sg (toU64 l[i] - 2 * toU64 l[i - 1] + toU64 l[i - 2]))) := Step_eq (sg (toU64 l[i] - 2 * toU64 l[i - 1] + toU64 l[i - 2]))
      have e1 : w64 ((i : Int) - 1) = ((i - 1 : Nat) : Int) := w64_subN (b := 1) (by omega) (by omega)
      have e2 : w64 ((i : Int) - 2) = ((i - 2 : Nat) : Int) := w64_subN (b := 2) (by omega) (by omega)
      rw [bifFd (by omega), idx_nat hi, bind_some, e1, idx_nat (by omega), bind_some, e2, idx_nat (by omega), bind_some, z1, bind_some, ← e, app_ok (by omega), bind_some, bind_some, lett_eq]
    · unfold ref06_Row_lp1
      dsimp only
      rw [bifFd (by omega)]
  unfold ref06_Row
  have h' : loop (ref06_Row_lp1 l) ([], 0) = _ := hloop
  rw [h']; rfl
theorem varyRows_put (l : List Int) (o : Int) (ho : I64 o) (hl : ∀ x ∈ l, I64 x) (hn : l.length ≤ 60) : ∀ (m i : Nat) (w : bitio_Writer) (x : vary_Row), i + m = l.length → WR w (rowBits l i) → RowS x (l.take i) →
    ∃ w', loop (law06_VaryRows_lp1 l o) (w.b, w.n, x.n, x.last, x.step, (i : Int)) = some (.go (w'.b, w'.n)) ∧ WR w' (rowBits l l.length) := by
  intro m
  induction m with
  | zero =>
    intro i w x hi hw hx
    obtain rfl : i = l.length := by omega
    refine ⟨w, loop_brk ?_, hw⟩
    unfold law06_VaryRows_lp1
    dsimp only
    rw [bifFd (by omega)]
  | succ m ih =>
    intro i w x hi hw hx
    have hlt : i < l.length := by omega
    have hb := rowBits_len l i
    have htl : (l.take i).length = i := by rw [List.length_take]; omega
    obtain ⟨y, v1, q1, q2, _⟩ := hx.put WR.new ho (by omega) (by simp)
    obtain ⟨x', w1, p1, s1, r1⟩ := hx.put hw (hl _ (List.getElem_mem hlt)) (by omega) (by omega)
    have hy : vary_Row_Len y = some ((i + 1 : Nat) : Int) := by unfold vary_Row_Len; rw [q2.n, List.length_append, htl]; rfl
    have hx' : vary_Row_Len x' = some ((i + 1 : Nat) : Int) := by unfold vary_Row_Len; rw [s1.n, List.length_append, htl]; rfl
    rw [← List.take_succ_eq_append_getElem hlt] at s1
    have r1' : WR w1 (rowBits l (i + 1)) := by rw [rowBits, getD_lt hlt]; exact r1
    obtain ⟨w', h1, h2⟩ := ih (i + 1) w1 x' (by omega) r1' s1
    refine ⟨w', ?_, h2⟩
    rw [← h1]
    refine loop_next ?_
    have p1' : vary_Row_Put ⟨x.n, x.last, x.step⟩ ⟨w.b, w.n⟩ l[i] = _ := p1
    have q1' : vary_Row_Put ⟨x.n, x.last, x.step⟩ ⟨[], 0⟩ o = _ := q1
    unfold law06_VaryRows_lp1
    dsimp only
    rw [bifTd (by omega), show vary_Row_Clone ⟨x.n, x.last, x.step⟩ = some ⟨x.n, x.last, x.step⟩ from rfl, bind_some, show bitio_NewWriter = some ⟨[], 0⟩ from rfl, bind_some, q1', bind_some]
    dsimp only
    rw [idx_nat hlt, bind_some, p1', bind_some]
    dsimp only
    rw [hy, bind_some, w64_succ (by omega), bifF (by simp), hx', bind_some, bind_some, bifF (by simp), lett_eq]
theorem varyRows_get (l : List Int) (hl : ∀ x ∈ l, I64 x) (hn : l.length ≤ 60) : ∀ (m i : Nat) (r : bitio_Reader) (x : vary_Row), i + m = l.length → RA r (rowBits l l.length) (rowBits l i).length → RowS x (l.take i) →
    ∃ r', loop (law06_VaryRows_lp2 l) (x.n, x.last, x.step, r.b, r.n, r.at_, (i : Int)) = some (.go (r'.b, r'.n, r'.at_)) ∧ RA r' (rowBits l l.length) (rowBits l l.length).length := by
  have hpre : ∀ m i, i + m = l.length → ∃ rest, rowBits l l.length = rowBits l i ++ rest := by
    intro m
    induction m with
    | zero => intro i hi; obtain rfl : i = l.length := by omega
              exact ⟨[], by simp⟩
    | succ m ih =>
      intro i hi
      obtain ⟨rest, h⟩ := ih (i + 1) (by omega)
      exact ⟨_, by rw [h, rowBits, List.append_assoc]⟩
  intro m
  induction m with
  | zero =>
    intro i r x hi hr hx
    obtain rfl : i = l.length := by omega
    refine ⟨r, loop_brk ?_, hr⟩
    unfold law06_VaryRows_lp2
    dsimp only
    rw [bifFd (by omega)]
  | succ m ih =>
    intro i r x hi hr hx
    have hlt : i < l.length := by omega
    have hI := hl _ (List.getElem_mem hlt)
    have htl : (l.take i).length = i := by rw [List.length_take]; omega
    obtain ⟨rest, hrest⟩ := hpre m (i + 1) (by omega)
    have hdrop : (rowBits l l.length).drop (rowBits l i).length = nextBits (l.take i) l[i] ++ rest := by
      rw [hrest, rowBits, List.append_assoc, drop_app rfl, getD_lt hlt]
    obtain ⟨x', r', g1, g2, g3, g4⟩ := hx.get hr (by omega)
    rw [hdrop, nextGot_put hI] at g1 g2 g3
    dsimp only at g1 g2 g3
    rw [if_pos rfl, sg_toU64 hI] at g1
    have g3' := g3 rfl
    rw [sg_toU64 hI, ← List.take_succ_eq_append_getElem hlt] at g3'
    have g2' : RA r' (rowBits l l.length) (rowBits l (i + 1)).length := by
      have : (rowBits l (i + 1)).length = (rowBits l i).length + (nextBits (l.take i) l[i]).length := by rw [rowBits, List.length_append, getD_lt hlt]
      rw [this]; exact g2
    obtain ⟨r2, h1, h2⟩ := ih (i + 1) r' x' (by omega) g2' g3'
    refine ⟨r2, ?_, h2⟩
    rw [← h1]
    refine loop_next ?_
    have g1' : vary_Row_Get ⟨x.n, x.last, x.step⟩ ⟨r.b, r.n, r.at_⟩ = _ := g1
    unfold law06_VaryRows_lp2
    dsimp only
    rw [bifTd (by omega), g1', bind_some]
    dsimp only
    rw [idx_nat hlt, bind_some, bifF (by simp), lett_eq, w64_succ (by omega)]
theorem varyRows (a0 : List Int) (a1 : Int) (h0 : ∀ x ∈ a0, I64 x) (h1 : I64 a1) : law06_VaryRows a0 a1 = some true := by
  unfold law06_VaryRows
  rw [awake06, bind_some, bifF (by rfl)]
  by_cases h : 60 < (a0.length : Int)
  · rw [bifTd h]
  obtain ⟨w, u1, u2⟩ := varyRows_put a0 a1 h1 h0 (by omega) a0.length 0 ⟨[], 0⟩ ⟨0, 0, 0⟩ (by omega) WR.new (by simpa using RowS.new)
  have u1' : loop (law06_VaryRows_lp1 a0 a1) ([], 0, 0, 0, 0, 0) = _ := u1
  obtain ⟨n1, n2⟩ := RA.of u2
  obtain ⟨r, v1, v2⟩ := varyRows_get a0 h0 (by omega) a0.length 0 _ ⟨0, 0, 0⟩ (by omega) n2 (by simpa using RowS.new)
  have v1' : loop (law06_VaryRows_lp2 a0) (0, 0, 0, w.b, ((rowBits a0 a0.length).length : Int), 0, 0) = _ := v1
  rw [bifFd h, show bitio_NewWriter = some ⟨[], 0⟩ from rfl, bind_some, show vary_NewRow = some ⟨0, 0, 0⟩ from rfl, bind_some]
  dsimp only
  rw [u1', flow_go]
  dsimp only
  rw [flow_go]
  dsimp only
  have g1 : bitio_Writer_Len ⟨w.b, w.n⟩ = _ := u2.len
  have g2 : bitio_Writer_Bytes ⟨w.b, w.n⟩ = _ := u2.bytes
  rw [Row_eq h0 (by omega), bind_some, g1, bind_some, bifF (by simp), g2, bind_some, u2.ref, bind_some, bind_some, bifF (by simp), bind_some, bind_some, n1, bind_some]
  dsimp only
  rw [bifF (by rfl), bind_some, bind_some]
  dsimp only
  rw [v1', flow_go]
  dsimp only
  rw [flow_go]
  dsimp only
  have g3 : bitio_Reader_Left ⟨r.b, r.n, r.at_⟩ = _ := v2.left
  rw [g3, bind_some, lett_eq, Nat.sub_self]
  rfl
end Go.Lg
