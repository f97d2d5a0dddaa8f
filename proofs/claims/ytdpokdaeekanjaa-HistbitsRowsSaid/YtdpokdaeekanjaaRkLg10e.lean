/- Law 10: what the program reads, piece by piece. -/
import Derived.Test.YtdpokdaeekanjaaRkLg10d
set_option linter.unusedVariables false
namespace Go.Lg
attribute [local irreducible] w64 toU64 toU8 shlU shrU shlB shrB
theorem zag_0 : zag 0 = 0 := by decide
theorem rdB {r : bitio_Reader} {A : List Int} {p q : Nat} (h : RA r A (p + q)) {k : Nat} (hk : k ≤ 8) (e : Int) :
    ∃ r', (bif (!decide (e = 0)) then some (r.b, r.n, r.at_, e, 0) else
      (bitio_Reader_Take (bitio_Reader.mk r.b r.n r.at_) (k : Int)).bind fun (r1029, r1030, r1031) =>
 bif (!r1030) then
 lett (w64 (r1029.toNat : Int)) fun t1050 =>
 some (r1031.b, r1031.n, r1031.at_, 2, t1050)
 else
 lett (w64 (r1029.toNat : Int)) fun t1053 =>
 some (r1031.b, r1031.n, r1031.at_, e, t1053) : Option (List UInt8 × Int × Int × Int × Int)) = some (r'.b, r'.n, r'.at_, (rB (A.drop p) k q e).e, ((rB (A.drop p) k q e).v : Int)) ∧ RA r' A (p + (rB (A.drop p) k q e).q) := by
  have hle := h.le
  have hl : (A.drop p).length = A.length - p := List.length_drop
  have hb := h.bit.drop p
  have hlt := rB_lt hb (k := k) (q := q) (e := e)
  have h256 : 2 ^ k ≤ 2 ^ 8 := Nat.pow_le_pow_right (by omega) hk
  by_cases he : e = 0
  · subst he
    unfold rB at *
    rw [if_neg (by simp)] at *
    by_cases h1 : (A.drop p).length - q < k
    · have ht : bitio_Reader_Take ⟨r.b, r.n, r.at_⟩ (k : Int) = _ := h.takeNo (k := k) (by omega)
      refine ⟨r, ?_, by rw [if_pos h1]; exact h⟩
      rw [bifF (by rfl), ht, bind_some, if_pos h1]
      dsimp only
      rw [bifT (by rfl), lett_eq, show w64 ((UInt64.toNat 0 : Nat) : Int) = 0 by rw [show UInt64.toNat 0 = 0 from rfl]; exact w64_id (by omega) (by omega)]; rfl
    · obtain ⟨r', t1, t2, _⟩ := h.take (k := k) (by omega) (by omega)
      have ht : bitio_Reader_Take ⟨r.b, r.n, r.at_⟩ (k : Int) = _ := t1
      rw [if_neg h1] at *
      dsimp only at *
      rw [List.drop_drop] at *
      refine ⟨r', ?_, by rw [← Nat.add_assoc]; exact t2⟩
      rw [bifF (by rfl), ht, bind_some]
      dsimp only
      rw [bifF (by rfl), lett_eq, u64_ofNat (by omega), w64_nat (by omega)]
  · refine ⟨r, ?_, ?_⟩
    · rw [bifT (by rw [decide_eq_false he]; rfl)]
      unfold rB; rw [if_pos he]; rfl
    · unfold rB; rw [if_pos he]; exact h
theorem rdI {r : bitio_Reader} {A : List Int} {p q : Nat} (h : RA r A (p + q)) (e : Int) :
    ∃ r', (bif (!decide (e = 0)) then some (r.b, r.n, r.at_, e, 0) else
 (vary_GetInt (bitio_Reader.mk r.b r.n r.at_)).bind fun (r628, r629, r630) =>
 some (r630.b, r630.n, r630.at_, r629, r628) : Option (List UInt8 × Int × Int × Int × Int)) = some (r'.b, r'.n, r'.at_, (rS (A.drop p) q e).e, zag (rS (A.drop p) q e).v) ∧ RA r' A (p + (rS (A.drop p) q e).q) := by
  by_cases he : e = 0
  · subst he
    obtain ⟨r', t1, t2, _⟩ := getInt_eq h
    have t1' : vary_GetInt ⟨r.b, r.n, r.at_⟩ = _ := t1
    unfold rS
    rw [if_neg (by simp), List.drop_drop]
    refine ⟨r', ?_, by rw [← Nat.add_assoc]; exact t2⟩
    rw [bifF (by rfl), t1', bind_some]
  · refine ⟨r, ?_, ?_⟩
    · rw [bifT (by rw [decide_eq_false he]; rfl)]
      unfold rS; rw [if_pos he]; dsimp only; rw [zag_0]
    · unfold rS; rw [if_pos he]; exact h
theorem rdS {r : bitio_Reader} {A : List Int} {p q : Nat} (h : RA r A (p + q)) (e : Int) :
    ∃ r', (bif (!decide (e = 0)) then some (r.b, r.n, r.at_, e, 0) else
 (vary_Get (bitio_Reader.mk r.b r.n r.at_)).bind fun (r1949, r1950, r1951) =>
 some (r1951.b, r1951.n, r1951.at_, r1950, r1949) : Option (List UInt8 × Int × Int × Int × UInt64)) = some (r'.b, r'.n, r'.at_, (rS (A.drop p) q e).e, UInt64.ofNat (rS (A.drop p) q e).v) ∧ RA r' A (p + (rS (A.drop p) q e).q) := by
  by_cases he : e = 0
  · subst he
    obtain ⟨r', t1, t2, _⟩ := get_eq h
    have t1' : vary_Get ⟨r.b, r.n, r.at_⟩ = _ := t1
    unfold rS
    rw [if_neg (by simp), List.drop_drop]
    refine ⟨r', ?_, by rw [← Nat.add_assoc]; exact t2⟩
    rw [bifF (by rfl), t1', bind_some]
  · refine ⟨r, ?_, ?_⟩
    · rw [bifT (by rw [decide_eq_false he]; rfl)]
      unfold rS; rw [if_pos he]; rfl
    · unfold rS; rw [if_pos he]; exact h
theorem mk_n {α : Type} {n : Nat} (z : α) (h : n ≤ 17179869184) : mk (n : Int) z = some (List.replicate n z) := by
  unfold mk
  rw [if_pos (by unfold LIM; omega), Int.toNat_natCast]
theorem rdSide {r : bitio_Reader} {A : List Int} {p q : Nat} (h : RA r A (p + q)) (e : Int) :
    ∃ r', ((bif (!decide (e = 0)) then
 some (r.b, r.n, r.at_, e, 0)
 else
 (bitio_Reader_Take (bitio_Reader.mk r.b r.n r.at_) 8).bind fun (r1110, r1111, r1112) =>
 bif (!r1111) then
 lett (w64 (r1110.toNat : Int)) fun t1131 =>
 some (r1112.b, r1112.n, r1112.at_, 2, t1131)
 else
 lett (w64 (r1110.toNat : Int)) fun t1134 =>
 some (r1112.b, r1112.n, r1112.at_, e, t1134) : Option (List UInt8 × Int × Int × Int × Int)).bind fun (c1087, c1090, c1091, c1092, x1093) =>
 (bif ((decide (c1092 = 0)) && (decide (160 < x1093))) then
 some 4
 else
 some c1092 : Option Int).bind fun c1137 =>
 bif ((!decide (c1137 = 0)) || (decide (x1093 = 0))) then
 some (c1087, c1090, c1091, c1137, 0, [])
 else
 ((bif (!decide (c1137 = 0)) then
 some (c1087, c1090, c1091, c1137, 0)
 else
 (vary_GetInt (bitio_Reader.mk c1087 c1090 c1091)).bind fun (r1210, r1211, r1212) =>
 some (r1212.b, r1212.n, r1212.at_, r1211, r1210) : Option (List UInt8 × Int × Int × Int × Int)).bind fun (c1187, c1190, c1191, c1193, x1194) =>
 (mk x1093 (0 : UInt64)).bind fun t1232 =>
 some (x1194, t1232, c1187, c1190, c1191, c1193)).bind fun (x1168, x1169, c1173, c1176, c1177, c1179) =>
 some (c1173, c1176, c1177, c1179, x1168, x1169) : Option (List UInt8 × Int × Int × Int × Int × List UInt64)) =
     some (r'.b, r'.n, r'.at_, (rSide (A.drop p) q e).e, (rSide (A.drop p) q e).s.Offset, (rSide (A.drop p) q e).s.Counts) ∧ RA r' A (p + (rSide (A.drop p) q e).q) := by
  have hb := h.bit.drop p
  have hlt := rB_lt hb (k := 8) (q := q) (e := e)
  obtain ⟨r1, h1, h2⟩ := rdB h (k := 8) (by omega) e
  have h1' : (bif (!decide (e = 0)) then some (r.b, r.n, r.at_, e, 0) else
      (bitio_Reader_Take (bitio_Reader.mk r.b r.n r.at_) 8).bind fun (r1029, r1030, r1031) =>
 bif (!r1030) then
 lett (w64 (r1029.toNat : Int)) fun t1050 =>
 some (r1031.b, r1031.n, r1031.at_, 2, t1050)
 else
 lett (w64 (r1029.toNat : Int)) fun t1053 =>
 some (r1031.b, r1031.n, r1031.at_, e, t1053) : Option (List UInt8 × Int × Int × Int × Int)) = _ := h1
  rw [h1', bind_some]
  dsimp only
  unfold rSide
  generalize rB (A.drop p) 8 q e = a at *
  have he4 : (bif ((decide (a.e = 0)) && (decide (160 < (a.v : Int)))) then some 4 else some a.e : Option Int) = some (e4 a) := by
    unfold e4
    by_cases h : a.e = 0 ∧ 160 < a.v
    · rw [bifT (by rw [decide_eq_true h.1, decide_eq_true (by omega)]; rfl), if_pos h]
    · rw [bifF (by rw [Bool.and_eq_false_iff, decide_eq_false_iff_not, decide_eq_false_iff_not]; omega), if_neg h]
  rw [he4, bind_some]
  by_cases h5 : e4 a ≠ 0 ∨ a.v = 0
  · rw [if_pos h5]
    refine ⟨r1, ?_, h2⟩
    rw [bifT]
    rw [Bool.or_eq_true, Bool.not_eq_true', decide_eq_false_iff_not, decide_eq_true_eq]; omega
  · obtain ⟨r2, h6, h7⟩ := rdI h2 (e4 a)
    rw [if_neg h5]
    refine ⟨r2, ?_, h7⟩
    rw [bifF (by rw [Bool.or_eq_false_iff, Bool.not_eq_false', decide_eq_true_eq, decide_eq_false_iff_not]; omega), h6, bind_some]
    dsimp only
    rw [mk_n _ (by omega), bind_some, bind_some]
theorem oneD {r : bitio_Reader} {A : List Int} {p q : Nat} (h : RA r A (p + q)) (e : Int) {was : List UInt64} {j : Nat} (hj : j < was.length) (hw : was.length ≤ 100000) :
    ∃ r', (((bif (!decide (e = 0)) then
 some (r.b, r.n, r.at_, e, 0)
 else
 (vary_GetInt (bitio_Reader.mk r.b r.n r.at_)).bind fun (r628, r629, r630) =>
 some (r630.b, r630.n, r630.at_, r629, r628) : Option (List UInt8 × Int × Int × Int × Int)).bind fun (c609, c612, c613, c615, x616) =>
 lett (toU64 x616) fun t650 =>
 some (c609, c612, c613, c615, t650) : Option (List UInt8 × Int × Int × Int × UInt64)).bind fun (c583, c586, c587, c589, x590) =>
 (bif decide ((j : Int) < (was.length : Int)) then
 (idx was (j : Int)).bind fun e674 =>
 lett ((x590 + e674)) fun c684 =>
 some c684
 else
 some x590 : Option UInt64).bind fun c651 =>
 lett (w64 ((j : Int) + 1)) fun t687 =>
 some (c583, c586, c587, c589, t687, c651) : Option (List UInt8 × Int × Int × Int × Int × UInt64)) =
     some (r'.b, r'.n, r'.at_, (rS (A.drop p) q e).e, ((j + 1 : Nat) : Int), val (some was[j]) (rS (A.drop p) q e).v) ∧ RA r' A (p + (rS (A.drop p) q e).q) := by
  obtain ⟨r1, h1, h2⟩ := rdI h e
  refine ⟨r1, ?_, h2⟩
  rw [h1, bind_some]
  dsimp only
  rw [lett_eq, bind_some]
  dsimp only
  rw [bifTd (by omega), idx_nat hj, bind_some, lett_eq, bind_some, lett_eq, w64_succ (by omega)]; rfl
theorem oneF {r : bitio_Reader} {A : List Int} {p q : Nat} (h : RA r A (p + q)) (e : Int) {j : Nat} (hj : j ≤ 100000) :
    ∃ r', ((bif (!decide (e = 0)) then
 some (r.b, r.n, r.at_, e, 0)
 else
 (vary_Get (bitio_Reader.mk r.b r.n r.at_)).bind fun (r1949, r1950, r1951) =>
 some (r1951.b, r1951.n, r1951.at_, r1950, r1949) : Option (List UInt8 × Int × Int × Int × UInt64)).bind fun (c1930, c1933, c1934, c1936, x1937) =>
 (bif decide ((j : Int) < (([] : List UInt64).length : Int)) then
 (idx ([] : List UInt64) (j : Int)).bind fun _ => none
 else
 some ()).bind fun (_ : Unit) =>
 lett (w64 ((j : Int) + 1)) fun t1995 =>
 some (c1930, c1933, c1934, c1936, t1995, x1937) : Option (List UInt8 × Int × Int × Int × Int × UInt64)) =
     some (r'.b, r'.n, r'.at_, (rS (A.drop p) q e).e, ((j + 1 : Nat) : Int), val none (rS (A.drop p) q e).v) ∧ RA r' A (p + (rS (A.drop p) q e).q) := by
  obtain ⟨r1, h1, h2⟩ := rdS h e
  refine ⟨r1, ?_, h2⟩
  rw [h1, bind_some]
  dsimp only
  rw [bifFd (by simp), bind_some, lett_eq, w64_succ (by omega)]; rfl
theorem take_set_succ {α : Type} {xs : List α} {i : Nat} (h : i < xs.length) (v : α) : (xs.set i v).take (i + 1) = xs.take i ++ [v] := by
  rw [List.take_succ_eq_append_getElem (by simpa using h), List.getElem_set_self, List.take_set_of_le (Nat.le_refl _)]
theorem wasNext {was : List UInt64} {j m : Nat} (h : j < was.length) : ((was.drop j).take (m + 1)).map some = some was[j] :: ((was.drop (j + 1)).take m).map some := by
  rw [List.drop_eq_getElem_cons h, List.take_succ_cons, List.map_cons]
theorem lp1_eq {A : List Int} {p : Nat} {h : api_Hist} {was : List UInt64} (hN : 1 + h.Pos.Counts.length ≤ was.length) (hw : was.length ≤ 10000) : ∀ (m i q : Nat) (e : Int) (xs : List UInt64) (r : bitio_Reader), i + m = h.Pos.Counts.length → RA r A (p + q) → xs.length = h.Pos.Counts.length →
    ∃ r', loop (histbits_Row_Get_lp1 h was) (xs, r.b, r.n, r.at_, e, ((1 + i : Nat) : Int), (i : Int)) =
      some (.go (xs.take i ++ (rC (A.drop p) (((was.drop (1 + i)).take m).map some) q e).l, r'.b, r'.n, r'.at_, (rC (A.drop p) (((was.drop (1 + i)).take m).map some) q e).e, ((1 + h.Pos.Counts.length : Nat) : Int))) ∧ RA r' A (p + (rC (A.drop p) (((was.drop (1 + i)).take m).map some) q e).q)
  | 0, i, q, e, xs, r, hi, hr, hx => by
    rw [List.take_zero, List.map_nil, rC]
    refine ⟨r, loop_brk ?_, hr⟩
    unfold histbits_Row_Get_lp1
    dsimp only
    rw [bifFd (by omega), List.take_of_length_le (by omega), List.append_nil, show 1 + i = 1 + h.Pos.Counts.length by omega]
  | m + 1, i, q, e, xs, r, hi, hr, hx => by
    have hj : 1 + i < was.length := by omega
    have hxi : i < xs.length := by omega
    obtain ⟨r1, g1, g2⟩ := oneD hr e hj (by omega)
    obtain ⟨r2, f1, f2⟩ := lp1_eq hN hw m (i + 1) (rS (A.drop p) q e).q (rS (A.drop p) q e).e (xs.set i (val (some was[1 + i]) (rS (A.drop p) q e).v)) r1 (by omega) g2 (by simpa using hx)
    rw [wasNext hj, rC]
    refine ⟨r2, ?_, f2⟩
    rw [loop_next (s' := (xs.set i (val (some was[1 + i]) (rS (A.drop p) q e).v), r1.b, r1.n, r1.at_, (rS (A.drop p) q e).e, ((1 + (i + 1) : Nat) : Int), ((i + 1 : Nat) : Int)))]
    · rw [f1, take_set_succ hxi, List.append_assoc]; rfl
    · unfold histbits_Row_Get_lp1
      dsimp only
      rw [bifTd (by omega), g1, bind_some]
      dsimp only
      rw [idx_nat hxi, bind_some, setI_nat hxi, bind_some, w64_succ (by omega)]; rfl
theorem lp2_eq {A : List Int} {p : Nat} {h : api_Hist} {was : List UInt64} {o : Nat} (hN : o + h.Neg.Counts.length ≤ was.length) (hw : was.length ≤ 10000) : ∀ (m i q : Nat) (e : Int) (xs : List UInt64) (r : bitio_Reader), i + m = h.Neg.Counts.length → RA r A (p + q) → xs.length = h.Neg.Counts.length →
    ∃ r', loop (histbits_Row_Get_lp2 h was) (xs, r.b, r.n, r.at_, e, ((o + i : Nat) : Int), (i : Int)) =
      some (.go (r'.b, r'.n, r'.at_, (rC (A.drop p) (((was.drop (o + i)).take m).map some) q e).e, xs.take i ++ (rC (A.drop p) (((was.drop (o + i)).take m).map some) q e).l)) ∧ RA r' A (p + (rC (A.drop p) (((was.drop (o + i)).take m).map some) q e).q)
  | 0, i, q, e, xs, r, hi, hr, hx => by
    rw [List.take_zero, List.map_nil, rC]
    refine ⟨r, loop_brk ?_, hr⟩
    unfold histbits_Row_Get_lp2
    dsimp only
    rw [bifFd (by omega), List.take_of_length_le (by omega), List.append_nil]
  | m + 1, i, q, e, xs, r, hi, hr, hx => by
    have hj : o + i < was.length := by omega
    have hxi : i < xs.length := by omega
    obtain ⟨r1, g1, g2⟩ := oneD hr e hj (by omega)
    obtain ⟨r2, f1, f2⟩ := lp2_eq hN hw m (i + 1) (rS (A.drop p) q e).q (rS (A.drop p) q e).e (xs.set i (val (some was[o + i]) (rS (A.drop p) q e).v)) r1 (by omega) g2 (by simpa using hx)
    rw [wasNext hj, rC]
    refine ⟨r2, ?_, f2⟩
    rw [loop_next (s' := (xs.set i (val (some was[o + i]) (rS (A.drop p) q e).v), r1.b, r1.n, r1.at_, (rS (A.drop p) q e).e, ((o + (i + 1) : Nat) : Int), ((i + 1 : Nat) : Int)))]
    · rw [f1, take_set_succ hxi, List.append_assoc]; rfl
    · unfold histbits_Row_Get_lp2
      dsimp only
      rw [bifTd (by omega), g1, bind_some]
      dsimp only
      rw [idx_nat hxi, bind_some, setI_nat hxi, bind_some, w64_succ (by omega)]; rfl
theorem lp3_eq {A : List Int} {p : Nat} {N : Nat} (hN : N ≤ 1000) {o : Nat} (ho : o ≤ 1000) {ys : List UInt64} (hys : ys.length = N) : ∀ (m i q : Nat) (e : Int) (xs : List UInt64) (r : bitio_Reader), i + m = N → RA r A (p + q) → xs.length = N →
    ∃ r', loop (histbits_Row_Get_lp3 ys) (xs, r.b, r.n, r.at_, e, ((o + i : Nat) : Int), (i : Int)) =
      some (.go (xs.take i ++ (rC (A.drop p) (List.replicate m none) q e).l, r'.b, r'.n, r'.at_, (rC (A.drop p) (List.replicate m none) q e).e, ((o + N : Nat) : Int))) ∧ RA r' A (p + (rC (A.drop p) (List.replicate m none) q e).q)
  | 0, i, q, e, xs, r, hi, hr, hx => by
    rw [List.replicate_zero, rC]
    refine ⟨r, loop_brk ?_, hr⟩
    unfold histbits_Row_Get_lp3
    dsimp only
    rw [bifFd (by omega), List.take_of_length_le (by omega), List.append_nil, show o + i = o + N by omega]
  | m + 1, i, q, e, xs, r, hi, hr, hx => by
    have hxi : i < xs.length := by omega
    obtain ⟨r1, g1, g2⟩ := oneF hr e (j := o + i) (by omega)
    obtain ⟨r2, f1, f2⟩ := lp3_eq hN ho hys m (i + 1) (rS (A.drop p) q e).q (rS (A.drop p) q e).e (xs.set i (val none (rS (A.drop p) q e).v)) r1 (by omega) g2 (by simpa using hx)
    rw [List.replicate_succ, rC]
    refine ⟨r2, ?_, f2⟩
    rw [loop_next (s' := (xs.set i (val none (rS (A.drop p) q e).v), r1.b, r1.n, r1.at_, (rS (A.drop p) q e).e, ((o + (i + 1) : Nat) : Int), ((i + 1 : Nat) : Int)))]
    · rw [f1, take_set_succ hxi, List.append_assoc]; rfl
    · unfold histbits_Row_Get_lp3
      dsimp only
      rw [bifTd (by omega), g1, bind_some]
      dsimp only
      rw [idx_nat hxi, bind_some, setI_nat hxi, bind_some, w64_succ (by omega)]; rfl
theorem lp4_eq {A : List Int} {p : Nat} {N : Nat} (hN : N ≤ 1000) {o : Nat} (ho : o ≤ 10000) {ys : List UInt64} (hys : ys.length = N) : ∀ (m i q : Nat) (e : Int) (xs : List UInt64) (r : bitio_Reader), i + m = N → RA r A (p + q) → xs.length = N →
    ∃ r', loop (histbits_Row_Get_lp4 ys) (xs, r.b, r.n, r.at_, e, ((o + i : Nat) : Int), (i : Int)) =
      some (.go (r'.b, r'.n, r'.at_, (rC (A.drop p) (List.replicate m none) q e).e, xs.take i ++ (rC (A.drop p) (List.replicate m none) q e).l)) ∧ RA r' A (p + (rC (A.drop p) (List.replicate m none) q e).q)
  | 0, i, q, e, xs, r, hi, hr, hx => by
    rw [List.replicate_zero, rC]
    refine ⟨r, loop_brk ?_, hr⟩
    unfold histbits_Row_Get_lp4
    dsimp only
    rw [bifFd (by omega), List.take_of_length_le (by omega), List.append_nil]
  | m + 1, i, q, e, xs, r, hi, hr, hx => by
    have hxi : i < xs.length := by omega
    obtain ⟨r1, g1, g2⟩ := oneF hr e (j := o + i) (by omega)
    obtain ⟨r2, f1, f2⟩ := lp4_eq hN ho hys m (i + 1) (rS (A.drop p) q e).q (rS (A.drop p) q e).e (xs.set i (val none (rS (A.drop p) q e).v)) r1 (by omega) g2 (by simpa using hx)
    rw [List.replicate_succ, rC]
    refine ⟨r2, ?_, f2⟩
    rw [loop_next (s' := (xs.set i (val none (rS (A.drop p) q e).v), r1.b, r1.n, r1.at_, (rS (A.drop p) q e).e, ((o + (i + 1) : Nat) : Int), ((i + 1 : Nat) : Int)))]
    · rw [f1, take_set_succ hxi, List.append_assoc]; rfl
    · unfold histbits_Row_Get_lp4
      dsimp only
      rw [bifTd (by omega), g1, bind_some]
      dsimp only
      rw [idx_nat hxi, bind_some, setI_nat hxi, bind_some, w64_succ (by omega)]; rfl
end Go.Lg
