/- Lemmas about the given model and about plain data, which the rows stand on: no statement of the program by itself. -/
import Derived.Test.YtdpokdaeekanjaaRkLg01b
set_option linter.unusedVariables false
namespace Go.Lg
attribute [local irreducible] w64 toU64 toU8 shlU shrU shlB shrB
/-! ### classes -/
def cls (v : Nat) : Nat := if v = 0 then 0 else if v < 128 then 1 else if v < 1048576 then 2 else 3
def sz : Nat → Nat | 0 => 0 | 1 => 7 | 2 => 20 | _ => 64
theorem cls_le (v : Nat) : cls v ≤ 3 := by unfold cls; split <;> (try split) <;> (try split) <;> omega
theorem cls_lt {v : Nat} (h : v < 2 ^ 64) : v < 2 ^ sz (cls v) := by
  unfold cls
  split
  · subst_vars; decide
  · split
    · simpa [sz] using by omega
    · split
      · simpa [sz] using by omega
      · simpa [sz] using h
theorem sz_le (c : Nat) : sz c ≤ 64 := by unfold sz; split <;> omega
theorem sizes_at {c : Nat} (h : c ≤ 3) : idx [0, 7, 20, 64] (c : Int) = some ((sz c : Nat) : Int) := by
  match c, h with
  | 0, _ => rfl
  | 1, _ => rfl
  | 2, _ => rfl
  | 3, _ => rfl
theorem size_eq {c : Nat} (h : c ≤ 3) : ref06_size (c : Int) = some ((sz c : Nat) : Int) := by unfold ref06_size; rw [sizes_at h]; rfl
theorem shr0 (a : UInt64) {n : Nat} (h : n ≤ 64) : (shrU a n = 0) ↔ a.toNat < 2 ^ n := by
  rw [← UInt64.toNat_inj, shrU_nat a h]
  have := two_pow_pos' n
  rw [show (0 : UInt64).toNat = 0 from rfl, Nat.div_eq_zero_iff]; omega
theorem class_eq (v : UInt64) : vary_class v = some ((cls v.toNat : Nat) : Int) := by
  have T0 : (toU64 0).toNat = 0 := toU64_nat (x := 0) (by omega)
  have T1 : (toU64 7).toNat = 7 := toU64_nat (x := 7) (by omega)
  have T2 : (toU64 20).toNat = 20 := toU64_nat (x := 20) (by omega)
  have T3 : (toU64 64).toNat = 64 := toU64_nat (x := 64) (by omega)
  have hv := UInt64.toNat_lt v
  have r : ∀ (c : Nat) (hc : c ≤ 3), vary_class_lp1 v [0, 7, 20, 64] (c : Int) = if v.toNat < 2 ^ sz c then some (.out (c : Int)) else some (.next ((c + 1 : Nat) : Int)) := by
    intro c hc
    unfold vary_class_lp1
    rw [bifT (by rw [decide_eq_true_eq]; omega), sizes_at hc, bind_some, toU64_nat (by have := sz_le c; omega)]
    by_cases h : v.toNat < 2 ^ sz c
    · rw [if_pos h, bifT (by rw [decide_eq_true_eq]; exact (shr0 v (sz_le c)).2 h)]; rfl
    · rw [if_neg h, bifF (by rw [decide_eq_false_iff_not]; exact fun e => h ((shr0 v (sz_le c)).1 e)), w64_succ (by omega)]
  unfold vary_class
  rw [show vary_sizes = some [0, 7, 20, 64] from rfl, bind_some]
  have r0 := r 0 (by omega); have r1 := r 1 (by omega); have r2 := r 2 (by omega); have r3 := r 3 (by omega)
  simp only [sz] at r0 r1 r2 r3
  show flow (loop (vary_class_lp1 v [0, 7, 20, 64]) ((0 : Nat) : Int)) _ = _
  unfold cls
  by_cases h0 : v.toNat = 0
  · rw [if_pos (by omega)] at r0; rw [loop_out r0, if_pos h0]; rfl
  rw [if_neg (by omega)] at r0; rw [loop_next r0, if_neg h0]
  by_cases h1 : v.toNat < 128
  · rw [if_pos h1] at r1; rw [loop_out r1, if_pos h1]; rfl
  rw [if_neg h1] at r1; rw [loop_next r1, if_neg h1]
  by_cases h2 : v.toNat < 1048576
  · rw [if_pos h2] at r2; rw [loop_out r2, if_pos h2]; rfl
  rw [if_neg h2] at r2; rw [loop_next r2, if_neg h2]
  rw [if_pos hv] at r3; rw [loop_out r3]; rfl
theorem power_eq {n : Nat} (h : n ≤ 63) : ref06_power (n : Int) = some (UInt64.ofNat (2 ^ n)) := by
  have hl : loop (ref06_power_lp1 (n : Int)) (UInt64.ofNat (2 ^ 0), ((0 : Nat) : Int)) = some (.go (UInt64.ofNat (2 ^ n))) := by
    refine loop_for (fun i => (UInt64.ofNat (2 ^ i), (i : Int))) n (fun i hi => ?_) ?_
    · unfold ref06_power_lp1
      dsimp only
      rw [bifT (by rw [decide_eq_true_eq]; omega), lett_eq, lett_eq, w64_succ (by omega)]
      congr 3
      apply UInt64.toNat_inj.1
      have e : 2 ^ (i + 1) = 2 * 2 ^ i := by rw [Nat.pow_succ, Nat.mul_comm]
      rw [UInt64.toNat_mul, UInt64.toNat_ofNat', UInt64.toNat_ofNat', e]
      simp
    · unfold ref06_power_lp1
      dsimp only
      rw [bifF (by rw [decide_eq_false_iff_not]; omega)]
  unfold ref06_power
  have hl' : loop (ref06_power_lp1 (n : Int)) (1, 0) = some (.go (UInt64.ofNat (2 ^ n))) := hl
  rw [hl']; rfl
theorem pow_nat {n : Nat} (h : n ≤ 63) : (UInt64.ofNat (2 ^ n)).toNat = 2 ^ n := by
  have : (2 : Nat) ^ n ≤ 2 ^ 63 := Nat.pow_le_pow_right (by omega) h
  exact u64_ofNat (by omega)
theorem Class_eq (v : UInt64) : ref06_Class v = some ((cls v.toNat : Nat) : Int) := by
  have r : ∀ (c : Nat) (hc : c ≤ 2), ref06_Class_lp1 v (c : Int) = if v.toNat < 2 ^ sz c then some (.out (c : Int)) else some (.next ((c + 1 : Nat) : Int)) := by
    intro c hc
    have hs : sz c ≤ 63 := by match c, hc with | 0, _ => decide | 1, _ => decide | 2, _ => decide
    unfold ref06_Class_lp1
    rw [bifT (by rw [decide_eq_true_eq]; omega), size_eq (by omega), bind_some, power_eq hs, bind_some]
    by_cases h : v.toNat < 2 ^ sz c
    · rw [if_pos h, bifT (by rw [decide_eq_true_eq, UInt64.lt_iff_toNat_lt, pow_nat hs]; exact h)]; rfl
    · rw [if_neg h, bifF (by rw [decide_eq_false_iff_not, UInt64.lt_iff_toNat_lt, pow_nat hs]; exact h), lett_eq, w64_succ (by omega)]
  have r3 : ref06_Class_lp1 v ((3 : Nat) : Int) = some (.brk ()) := by unfold ref06_Class_lp1; rw [bifF (by decide)]
  unfold ref06_Class
  have r0 := r 0 (by omega); have r1 := r 1 (by omega); have r2 := r 2 (by omega)
  simp only [sz] at r0 r1 r2
  rw [show (0 : Int) = ((0 : Nat) : Int) from rfl]
  unfold cls
  by_cases h0 : v.toNat = 0
  · rw [if_pos (by omega)] at r0; rw [loop_out r0, if_pos h0]; rfl
  rw [if_neg (by omega)] at r0; rw [loop_next r0, if_neg h0]
  by_cases h1 : v.toNat < 128
  · rw [if_pos h1] at r1; rw [loop_out r1, if_pos h1]; rfl
  rw [if_neg h1] at r1; rw [loop_next r1, if_neg h1]
  by_cases h2 : v.toNat < 1048576
  · rw [if_pos h2] at r2; rw [loop_out r2, if_pos h2]; rfl
  rw [if_neg h2] at r2; rw [loop_next r2, if_neg h2]
  rw [loop_brk r3]; rfl
/-! ### the small form -/
def smallBits (v : Nat) : List Int := rowN (cls v) 2 ++ rowN v (sz (cls v))
theorem smallBits_len (v : Nat) : (smallBits v).length = 2 + sz (cls v) := by unfold smallBits; rw [List.length_append, rowN_len, rowN_len]
theorem smallBits_le (v : Nat) : (smallBits v).length ≤ 66 := by rw [smallBits_len]; have := sz_le (cls v); omega
theorem toU64_n {x : Nat} (h : x < 18446744073709551616) : toU64 (x : Int) = UInt64.ofNat x := by
  apply UInt64.toNat_inj.1; rw [toU64_nat h, u64_ofNat h]
theorem Small_eq (v : UInt64) : ref06_Small v = some (smallBits v.toNat) := by
  have hc := cls_le v.toNat
  unfold ref06_Small smallBits
  rw [Class_eq, bind_some, toU64_n (by omega), show (2 : Int) = ((2 : Nat) : Int) from rfl, row_eq (by omega), bind_some]
  dsimp only
  rw [size_eq hc, bind_some, row_eq (sz_le _), bind_some]
  dsimp only
  rw [app_ok (by rw [rowN_len, rowN_len]; have := sz_le (cls v.toNat); omega), bind_some, u64_ofNat (by omega)]
theorem WR.small_ {w : bitio_Writer} {L : List Int} (h : WR w L) (v : UInt64) (hs : L.length + 66 ≤ 1000000) : ∃ w', vary_Put w v = some w' ∧ WR w' (L ++ smallBits v.toNat) := by
  have hc := cls_le v.toNat
  have hz := sz_le (cls v.toNat)
  have hcn : (UInt64.ofNat (cls v.toNat)).toNat = cls v.toNat := u64_ofNat (by omega)
  obtain ⟨w1, h1, h2⟩ := h.put (v := UInt64.ofNat (cls v.toNat)) (n := 2) (by omega) (by rw [hcn]; omega) (by omega)
  rw [hcn] at h2
  obtain ⟨w2, h3, h4⟩ := h2.put (v := v) (n := sz (cls v.toNat)) hz (cls_lt (UInt64.toNat_lt v)) (by rw [List.length_append, rowN_len]; omega)
  refine ⟨w2, ?_, by unfold smallBits; rw [← List.append_assoc]; exact h4⟩
  unfold vary_Put
  rw [class_eq, bind_some, toU64_n (by omega)]
  have h1' : bitio_Writer_Put w (UInt64.ofNat (cls v.toNat)) 2 = some (true, w1) := h1
  rw [h1', bind_some]
  dsimp only
  rw [show vary_sizes = some [0, 7, 20, 64] from rfl, bind_some, sizes_at hc, bind_some, h3]
  rfl
/-- what the document reads -/
structure GotS where
  v : Nat
  n : Nat
  e : Int
def getSmall (l : List Int) : GotS :=
  if l.length < 2 then ⟨0, 0, 2⟩ else
  let c := dv (l.take 2)
  if l.length - 2 < sz c then ⟨0, 0, 2⟩ else
  let v := dv ((l.drop 2).take (sz c))
  if cls v = c then ⟨v, 2 + sz c, 0⟩ else ⟨0, 0, 3⟩
theorem dv_take_lt {l : List Int} (h : Bit l) (k : Nat) (hk : k ≤ 64) : dv (l.take k) < 18446744073709551616 := by
  have h1 := dv_lt (h.take k)
  have h2 : 2 ^ (l.take k).length ≤ 2 ^ 64 := Nat.pow_le_pow_right (by omega) (by rw [List.length_take]; omega)
  omega
theorem dv2 {l : List Int} (hb : Bit l) (h : 2 ≤ l.length) : w64 ((w64 ((2 : Int) * l[0])) + l[1]) = ((dv (l.take 2) : Nat) : Int) ∧ dv (l.take 2) ≤ 3 := by
  match l, h with
  | x :: y :: l, _ =>
    have hx := hb x (by simp)
    have hy := hb y (by simp)
    simp only [List.getElem_cons_zero, List.getElem_cons_succ, List.take_succ_cons, List.take_zero]
    rcases hx with e | e <;> rcases hy with f | f <;> subst e <;> subst f
    · refine ⟨?_, by decide⟩; rw [w64_id (x := 2 * 0) (by omega) (by omega), w64_id (by omega) (by omega)]; rfl
    · refine ⟨?_, by decide⟩; rw [w64_id (x := 2 * 0) (by omega) (by omega), w64_id (by omega) (by omega)]; rfl
    · refine ⟨?_, by decide⟩; rw [w64_id (x := 2 * 1) (by omega) (by omega), w64_id (by omega) (by omega)]; rfl
    · refine ⟨?_, by decide⟩; rw [w64_id (x := 2 * 1) (by omega) (by omega), w64_id (by omega) (by omega)]; rfl
theorem dv_take_drop {l : List Int} (hb : Bit l) {n m : Nat} (h : n + m ≤ l.length) : dv ((l.drop n).take m) = dv (l.take (n + m)) % 2 ^ m ∧ dv (l.take (n + m)) = dv (l.take n) * 2 ^ m + dv ((l.drop n).take m) := by
  have e : l.take (n + m) = l.take n ++ (l.drop n).take m := by rw [List.take_add]
  have hl : ((l.drop n).take m).length = m := by rw [List.length_take, List.length_drop]; omega
  have h2 : dv (l.take (n + m)) = dv (l.take n) * 2 ^ m + dv ((l.drop n).take m) := by rw [e, dv_append, hl]
  have h3 := dv_lt ((hb.drop n).take m)
  rw [hl] at h3
  refine ⟨?_, h2⟩
  rw [h2, Nat.add_comm, Nat.add_mul_mod_self_right, Nat.mod_eq_of_lt h3]
theorem wide_eq {r : bitio_Reader} {A : List Int} {p : Nat} (h : RA r A p) (hp : p + 66 ≤ A.length) : vary_wide r 2 = some (UInt64.ofNat (dv (((A.drop p).drop 2).take 64))) := by
  have l1 := h.look (k := 64) (by omega) (by omega)
  obtain ⟨r', s1, s2, _⟩ := h.skip (k := 64) (by omega)
  have l2 := s2.look (k := 2) (by omega) (by omega)
  have T : (toU64 2).toNat = 2 := toU64_nat (x := 2) (by omega)
  have hb := h.bit.drop p
  have hlen : (A.drop p).length = A.length - p := List.length_drop
  have d1 := dv_take_drop hb (n := 2) (m := 64) (by omega)
  have d2 := dv_take_drop hb (n := 64) (m := 2) (by omega)
  rw [List.drop_drop] at d2
  have b1 := dv_take_lt hb 64 (by omega)
  have b2 : dv ((A.drop (p + 64)).take 2) < 4 := by
    have := dv_lt ((h.bit.drop (p + 64)).take 2)
    rw [List.length_take, List.length_drop, Nat.min_eq_left (by omega)] at this
    exact this
  unfold vary_wide
  have l1' : bitio_Reader_Look r 64 = _ := l1
  have s1' : bitio_Reader_Skip r 64 = _ := s1
  have l2' : bitio_Reader_Look r' 2 = _ := l2
  rw [l1', bind_some]
  dsimp only
  rw [s1', bind_some]
  dsimp only
  rw [l2', bind_some]
  dsimp only
  rw [lett_eq, T]
  congr 1
  apply UInt64.toNat_inj.1
  rw [d1.1, show 2 + 64 = 64 + 2 from rfl, d2.2]
  rw [UInt64.toNat_or, u64_ofNat (by omega), u64_ofNat (Nat.mod_lt _ (by omega))]
  have hs : (shlU (UInt64.ofNat (dv ((A.drop p).take 64))) 2).toNat = (dv ((A.drop p).take 64) % 2 ^ 62) * 2 ^ 2 := by
    unfold shlU
    rw [UInt64.toNat_ofNat', u64_ofNat b1]
    rw [show min 2 64 = 2 from rfl]
    omega
  rw [hs, or_add (by omega)]
  omega
theorem get_eq {r : bitio_Reader} {A : List Int} {p : Nat} (h : RA r A p) : ∃ r', vary_Get r = some (UInt64.ofNat (getSmall (A.drop p)).v, (getSmall (A.drop p)).e, r') ∧ RA r' A (p + (getSmall (A.drop p)).n) ∧ ((getSmall (A.drop p)).e ≠ 0 → r' = r) := by
  have hlen : (A.drop p).length = A.length - p := List.length_drop
  have hb := h.bit.drop p
  have hle := h.le
  have hbig : A.length ≤ 8000000 := by have := h.len; have := h.small; omega
  unfold vary_Get getSmall
  by_cases h1 : (A.drop p).length < 2
  · rw [if_pos h1]
    have l1 : bitio_Reader_Look r 2 = some (0, false) := h.lookNo (k := 2) (by omega)
    refine ⟨r, ?_, h, fun _ => rfl⟩
    rw [l1, bind_some]; rfl
  rw [if_neg h1]
  have l1 : bitio_Reader_Look r 2 = some (UInt64.ofNat (dv ((A.drop p).take 2)), true) := h.look (k := 2) (by omega) (by omega)
  have d2 := (dv2 hb (by omega)).2
  have hz := sz_le (dv ((A.drop p).take 2))
  have hv := dv_take_lt (hb.drop 2) _ hz
  dsimp only
  rw [l1, bind_some]
  dsimp only
  rw [bifF (by rfl), show vary_sizes = some [0, 7, 20, 64] from rfl, bind_some, u64_ofNat (by omega), sizes_at d2, bind_some, h.left, bind_some]
  have e2 : w64 (2 + ((sz (dv ((A.drop p).take 2)) : Nat) : Int)) = ((2 + sz (dv ((A.drop p).take 2)) : Nat) : Int) := w64_addN (a := 2) (by omega)
  rw [e2]
  clear e2
  have hsz : sz (dv ((A.drop p).take 2)) = 0 ∨ sz (dv ((A.drop p).take 2)) = 7 ∨ sz (dv ((A.drop p).take 2)) = 20 ∨ sz (dv ((A.drop p).take 2)) = 64 := by
    generalize dv ((A.drop p).take 2) = c at d2
    match c, d2 with
    | 0, _ => exact .inl rfl
    | 1, _ => exact .inr (.inl rfl)
    | 2, _ => exact .inr (.inr (.inl rfl))
    | 3, _ => exact .inr (.inr (.inr rfl))
  generalize hc : dv ((A.drop p).take 2) = c at *
  generalize hn : sz c = n at *
  by_cases h2 : (A.drop p).length - 2 < n
  · rw [if_pos h2, bifTd (by omega)]
    exact ⟨r, rfl, h, fun _ => rfl⟩
  rw [if_neg h2, bifFd (by omega)]
  have hlook : (bitio_Reader_Look r (min ((2 + n : Nat) : Int) 64)) = some (UInt64.ofNat (dv ((A.drop p).take (min (2 + n) 64))), true) := by
    have := h.look (k := min (2 + n) 64) (by omega) (by omega)
    rw [← this]; congr 1; omega
  rw [hlook, bind_some]
  dsimp only
  have hval : (bif decide ((n : Int) < 64) then lett (UInt64.ofNat (dv ((A.drop p).take (min (2 + n) 64))) &&& (shlU (1 : UInt64) ((toU64 (n : Int)).toNat) - 1)) fun v80 => some v80 else (vary_wide r 2).bind fun r83 => some r83) = some (UInt64.ofNat (dv (((A.drop p).drop 2).take n))) := by
    by_cases h64 : n = 64
    · subst h64
      rw [bifFd (by omega), wide_eq h (by omega)]; rfl
    · have hn2 : n ≤ 20 := by omega
      have d1 := (dv_take_drop hb (n := 2) (m := n) (by omega)).1
      rw [bifTd (by omega), lett_eq, toU64_nat (by omega)]
      congr 1
      apply UInt64.toNat_inj.1
      rw [mask_nat _ (by omega), u64_ofNat hv, d1, u64_ofNat (dv_take_lt hb _ (by omega)), Nat.min_eq_left (by omega)]
  rw [hval, bind_some, class_eq, bind_some, u64_ofNat hv, w64_nat (by omega)]
  by_cases h3 : cls (dv (((A.drop p).drop 2).take n)) = c
  · obtain ⟨r', s1, s2, _⟩ := h.skip (k := 2 + n) (by omega)
    rw [if_pos h3, bifF (by rw [h3]; simp), s1, bind_some]
    exact ⟨r', rfl, s2, fun h => absurd rfl h⟩
  · rw [if_neg h3, bifT (by rw [decide_eq_false (fun e => h3 (by omega))]; rfl)]
    exact ⟨r, rfl, h, fun _ => rfl⟩
/-! ### signed as unsigned -/
def zz (x : Int) : Nat := if 0 ≤ x then (2 * x).toNat else (-2 * x - 1).toNat
def zag (u : Nat) : Int := if u % 2 = 0 then ((u / 2 : Nat) : Int) else -1 - ((u / 2 : Nat) : Int)
theorem zz_lt {x : Int} (h : I64 x) : zz x < 18446744073709551616 := by unfold I64 at h; unfold zz; split <;> omega
theorem zag_I64 {u : Nat} (h : u < 18446744073709551616) : I64 (zag u) := by unfold I64 zag; split <;> omega
theorem zag_zz (x : Int) : zag (zz x) = x := by unfold zag zz; split <;> split <;> omega
theorem refZig_eq {x : Int} (h : I64 x) : ref02_Zig x = some (UInt64.ofNat (zz x)) := by
  have h' := h
  unfold I64 at h
  unfold ref02_Zig zz
  by_cases h0 : 0 ≤ x
  · rw [bifTd h0, if_pos h0, lett_eq]
    congr 1
    apply UInt64.toNat_inj.1
    rw [UInt64.toNat_mul, toU64_val h0 (by omega), u64_ofNat (by omega), show (2 : UInt64).toNat = 2 from rfl]
    omega
  · rw [bifFd h0, if_neg h0, lett_eq, w64_id (x := -1 - x) (by omega) (by omega)]
    congr 1
    apply UInt64.toNat_inj.1
    rw [UInt64.toNat_add, UInt64.toNat_mul, toU64_val (by omega) (by omega), u64_ofNat (by omega), show (2 : UInt64).toNat = 2 from rfl, show (1 : UInt64).toNat = 1 from rfl]
    omega
theorem xorAll (x : UInt64) : (x ^^^ (18446744073709551615 : UInt64)).toNat = 18446744073709551615 - x.toNat := by
  have : (x ^^^ (18446744073709551615 : UInt64)) = ~~~ x := by
    apply UInt64.toBitVec_inj.1
    rw [UInt64.toBitVec_xor, UInt64.toBitVec_not]
    exact BitVec.xor_allOnes
  rw [this, UInt64.toNat_not]; rfl
theorem zig_eq {x : Int} (h : I64 x) : pack_Zig x = some (UInt64.ofNat (zz x)) := by
  have h' := h
  unfold I64 at h
  unfold pack_Zig
  rw [lett_eq]
  congr 1
  have e1 : (1 : UInt64).toNat = 1 := rfl
  have e63 : (63 : UInt64).toNat = 63 := rfl
  have hu := toU64_toNat x
  have hs : (shlU (toU64 x) 1).toNat = ((toU64 x).toNat * 2) % 18446744073709551616 := by
    unfold shlU
    rw [UInt64.toNat_ofNat']; rfl
  have hsh : shrI x 63 = if 0 ≤ x then 0 else -1 := by
    unfold shrI
    rw [show (2 : Int) ^ min 63 64 = 9223372036854775808 by decide]
    split <;> omega
  rw [e1, e63, hsh]
  apply UInt64.toNat_inj.1
  rw [u64_ofNat (zz_lt h')]
  unfold zz
  by_cases h0 : 0 ≤ x
  · rw [if_pos h0, if_pos h0]
    have : toU64 0 = 0 := by apply UInt64.toNat_inj.1; exact toU64_nat (x := 0) (by omega)
    rw [this, UInt64.xor_zero, hs]
    omega
  · rw [if_neg h0, if_neg h0]
    have : toU64 (-1) = 18446744073709551615 := by
      apply UInt64.toNat_inj.1
      have := toU64_toNat (-1)
      have e : (18446744073709551615 : UInt64).toNat = 18446744073709551615 := rfl
      omega
    rw [this, xorAll, hs]
    omega
theorem zag_eq (u : UInt64) : pack_Zag u = some (zag u.toNat) := by
  have hu := UInt64.toNat_lt u
  have e1 : (1 : UInt64).toNat = 1 := rfl
  have hd : (shrU u 1).toNat = u.toNat / 2 := shrU_nat u (by omega)
  have ha : (u &&& 1).toNat = u.toNat % 2 := by
    rw [UInt64.toNat_and]
    exact Nat.and_two_pow_sub_one_eq_mod u.toNat 1
  unfold pack_Zag zag
  rw [lett_eq, e1, hd, ha, w64_nat (by omega), w64_nat (by omega)]
  congr 1
  by_cases h0 : u.toNat % 2 = 0
  · rw [if_pos h0, h0, w64_id (by omega) (by omega)]
    unfold xorI
    rw [show ((0 : Int) - ((0 : Nat) : Int)) = 0 from rfl, show BitVec.ofInt 64 0 = 0#64 from rfl, BitVec.xor_zero, BitVec.toNat_ofInt, w64_id (by omega) (by omega)]
    omega
  · rw [if_neg h0, show u.toNat % 2 = 1 by omega, w64_id (by omega) (by omega)]
    unfold xorI
    rw [show ((0 : Int) - ((1 : Nat) : Int)) = -1 from rfl, show BitVec.ofInt 64 (-1) = BitVec.allOnes 64 from rfl, BitVec.xor_allOnes, BitVec.toNat_not, BitVec.toNat_ofInt]
    unfold w64
    omega
theorem getInt_eq {r : bitio_Reader} {A : List Int} {p : Nat} (h : RA r A p) : ∃ r', vary_GetInt r = some (zag (getSmall (A.drop p)).v, (getSmall (A.drop p)).e, r') ∧ RA r' A (p + (getSmall (A.drop p)).n) ∧ ((getSmall (A.drop p)).e ≠ 0 → r' = r) := by
  obtain ⟨r', h1, h2, h3⟩ := get_eq h
  refine ⟨r', ?_, h2, h3⟩
  unfold vary_GetInt
  rw [h1, bind_some]
  dsimp only
  have hv : (getSmall (A.drop p)).v < 18446744073709551616 := by
    unfold getSmall
    split
    · simp
    · dsimp only
      split
      · simp
      · split
        · exact dv_take_lt ((h.bit.drop p).drop 2) _ (sz_le _)
        · simp
  rw [zag_eq, bind_some, u64_ofNat hv]
theorem WR.int {w : bitio_Writer} {L : List Int} (h : WR w L) {x : Int} (hx : I64 x) (hs : L.length + 66 ≤ 1000000) : ∃ w', vary_PutInt w x = some w' ∧ WR w' (L ++ smallBits (zz x)) := by
  obtain ⟨w', h1, h2⟩ := h.small_ (UInt64.ofNat (zz x)) hs
  rw [u64_ofNat (zz_lt hx)] at h2
  refine ⟨w', ?_, h2⟩
  unfold vary_PutInt
  rw [zig_eq hx, bind_some, h1]; rfl
/-! ### ways -/
def wy (d : Int) : Nat := if d = 0 then 0 else if -32 ≤ d ∧ d < 32 then 1 else if -512 ≤ d ∧ d < 512 then 2 else if -32768 ≤ d ∧ d < 32768 then 3 else 4
def wd : Nat → Nat | 0 => 0 | 1 => 6 | 2 => 10 | 3 => 16 | _ => 64
theorem wy_le (d : Int) : wy d ≤ 4 := by unfold wy; split <;> (try split) <;> (try split) <;> (try split) <;> omega
theorem wd_le (k : Nat) : wd k ≤ 64 := by unfold wd; split <;> omega
theorem widths_at {c : Nat} (h : c ≤ 4) : idx [0, 6, 10, 16, 64] (c : Int) = some ((wd c : Nat) : Int) := by
  match c, h with
  | 0, _ => rfl
  | 1, _ => rfl
  | 2, _ => rfl
  | 3, _ => rfl
  | 4, _ => rfl
def inW (d : Int) : Nat → Bool
  | 0 => decide (d = 0)
  | 1 => decide (-32 ≤ d ∧ d < 32)
  | 2 => decide (-512 ≤ d ∧ d < 512)
  | 3 => decide (-32768 ≤ d ∧ d < 32768)
  | _ => true
theorem fits_eq {d : Int} {k : Nat} (hk : k ≤ 4) : vary_fits d ((wd k : Nat) : Int) = some (inW d k) := by
  have t5 : (toU64 5).toNat = 5 := toU64_nat (x := 5) (by omega)
  have t9 : (toU64 9).toNat = 9 := toU64_nat (x := 9) (by omega)
  have t15 : (toU64 15).toNat = 15 := toU64_nat (x := 15) (by omega)
  have key : ∀ m : Nat, m = 5 ∨ m = 9 ∨ m = 15 → shlI (-1) m = -2 ^ m ∧ shlI 1 m = 2 ^ m := by
    intro m hm
    rcases hm with e | e | e <;> subst e <;> (unfold shlI; constructor <;> rw [w64_id] <;> decide)
  unfold vary_fits
  match k, hk with
  | 0, _ =>
    rw [lett_eq, show ((wd 0 : Nat) : Int) = 0 from rfl, bifTd rfl, lett_eq]
    rfl
  | 1, _ =>
    rw [lett_eq, show ((wd 1 : Nat) : Int) = 6 from rfl, bifFd (by omega), lett_eq, bifFd (by omega), lett_eq, show w64 (6 - 1) = 5 from w64_id (by omega) (by omega), t5, (key 5 (by simp)).1, (key 5 (by simp)).2, ← Bool.decide_and]
    rfl
  | 2, _ =>
    rw [lett_eq, show ((wd 2 : Nat) : Int) = 10 from rfl, bifFd (by omega), lett_eq, bifFd (by omega), lett_eq, show w64 (10 - 1) = 9 from w64_id (by omega) (by omega), t9, (key 9 (by simp)).1, (key 9 (by simp)).2, ← Bool.decide_and]
    rfl
  | 3, _ =>
    rw [lett_eq, show ((wd 3 : Nat) : Int) = 16 from rfl, bifFd (by omega), lett_eq, bifFd (by omega), lett_eq, show w64 (16 - 1) = 15 from w64_id (by omega) (by omega), t15, (key 15 (by simp)).1, (key 15 (by simp)).2, ← Bool.decide_and]
    rfl
  | 4, _ =>
    rw [lett_eq, show ((wd 4 : Nat) : Int) = 64 from rfl, bifFd (by omega), lett_eq, bifTd rfl]
    rfl
theorem way_eq (d : Int) : vary_way d = some ((wy d : Nat) : Int) := by
  have r : ∀ (c : Nat) (hc : c ≤ 4), vary_way_lp1 d [0, 6, 10, 16, 64] (c : Int) = bif inW d c then some (.out (c : Int)) else some (.next ((c + 1 : Nat) : Int)) := by
    intro c hc
    unfold vary_way_lp1
    rw [bifTd (by omega), widths_at hc, bind_some, fits_eq hc, bind_some, w64_succ (by omega)]
    rfl
  unfold vary_way
  rw [show vary_widths = some [0, 6, 10, 16, 64] from rfl, bind_some]
  have r0 := r 0 (by omega); have r1 := r 1 (by omega); have r2 := r 2 (by omega); have r3 := r 3 (by omega); have r4 := r 4 (by omega)
  show flow (loop (vary_way_lp1 d [0, 6, 10, 16, 64]) ((0 : Nat) : Int)) _ = _
  unfold wy
  by_cases h0 : d = 0
  · rw [show inW d 0 = true from decide_eq_true h0, cond_true] at r0; rw [loop_out r0, if_pos h0]; rfl
  rw [show inW d 0 = false from decide_eq_false h0, cond_false] at r0; rw [loop_next r0, if_neg h0]
  by_cases h1 : -32 ≤ d ∧ d < 32
  · rw [show inW d 1 = true from decide_eq_true h1, cond_true] at r1; rw [loop_out r1, if_pos h1]; rfl
  rw [show inW d 1 = false from decide_eq_false h1, cond_false] at r1; rw [loop_next r1, if_neg h1]
  by_cases h2 : -512 ≤ d ∧ d < 512
  · rw [show inW d 2 = true from decide_eq_true h2, cond_true] at r2; rw [loop_out r2, if_pos h2]; rfl
  rw [show inW d 2 = false from decide_eq_false h2, cond_false] at r2; rw [loop_next r2, if_neg h2]
  by_cases h3 : -32768 ≤ d ∧ d < 32768
  · rw [show inW d 3 = true from decide_eq_true h3, cond_true] at r3; rw [loop_out r3, if_pos h3]; rfl
  rw [show inW d 3 = false from decide_eq_false h3, cond_false] at r3; rw [loop_next r3, if_neg h3]
  rw [show inW d 4 = true from rfl, cond_true] at r4; rw [loop_out r4]; rfl
/-! ### a difference's bits -/
def ones (k : Nat) : List Int := List.replicate k 1
def headBits (k : Nat) : List Int := if k < 4 then ones k ++ [0] else ones k
def stepBits (d : Int) : List Int := headBits (wy d) ++ rowN (toU64 d).toNat (wd (wy d))
theorem headBits_len {k : Nat} (h : k ≤ 4) : (headBits k).length = min (k + 1) 4 := by
  unfold headBits ones; split <;> simp <;> omega
theorem rowN_mod (v n : Nat) : rowN (v % 2 ^ n) n = rowN v n :=
  dv_inj (rowN_bit _ _) (rowN_bit _ _) (by rw [rowN_len, rowN_len]) (by rw [rowN_dv, rowN_dv, Nat.mod_mod])
/-! ### a row's state -/
theorem WR.ones_ {w : bitio_Writer} {L : List Int} (h : WR w L) (k : Nat) (hk : k ≤ 4) (hs : L.length + 4 ≤ 1000000) : ∃ w', loop (vary_Row_Put_lp1 (k : Int)) (w.b, w.n, 0) = some (.go (w'.b, w'.n)) ∧ WR w' (L ++ ones k) := by
  have key : ∀ (m i : Nat) (w : bitio_Writer), i + m = k → WR w (L ++ ones i) → ∃ w', loop (vary_Row_Put_lp1 (k : Int)) (w.b, w.n, (i : Int)) = some (.go (w'.b, w'.n)) ∧ WR w' (L ++ ones k) := by
    intro m
    induction m with
    | zero =>
      intro i w hi hw
      obtain rfl : i = k := by omega
      refine ⟨w, loop_brk ?_, hw⟩
      unfold vary_Row_Put_lp1
      dsimp only
      rw [bifFd (by omega)]
    | succ m ih =>
      intro i w hi hw
      have hol : (ones i).length = i := by simp [ones]
      obtain ⟨w1, h1, h2⟩ := hw.put (v := 1) (n := 1) (by omega) (by decide) (by rw [List.length_append, hol]; omega)
      have hro : rowN (1 : UInt64).toNat 1 = [1] := by decide
      rw [hro, List.append_assoc, show ones i ++ [1] = ones (i + 1) by simp [ones, List.replicate_succ']] at h2
      obtain ⟨w', h3, h4⟩ := ih (i + 1) w1 (by omega) h2
      refine ⟨w', ?_, h4⟩
      rw [loop_next (s' := (w1.b, w1.n, ((i + 1 : Nat) : Int))), h3]
      have h1' : bitio_Writer_Put ⟨w.b, w.n⟩ 1 1 = some (true, w1) := h1
      unfold vary_Row_Put_lp1
      dsimp only
      rw [bifTd (by omega), h1', bind_some]
      dsimp only
      rw [w64_succ (by omega)]
  have h0 : WR w (L ++ ones 0) := by simpa [ones] using h
  exact key k 0 w (by omega) h0
theorem WR.head_ {w1 : bitio_Writer} {L : List Int} {k : Nat} (h2 : WR w1 (L ++ ones k)) (hk : k ≤ 4) (hs : L.length + 5 ≤ 1000000) :
    ∃ w', (bif decide ((k : Int) < 4) then (bitio_Writer_Put (bitio_Writer.mk w1.b w1.n) (0 : UInt64) 1).bind fun (r133, r134) => some (r134.b, r134.n) else some (w1.b, w1.n)) = some (w'.b, w'.n) ∧ WR w' (L ++ headBits k) := by
  unfold headBits
  by_cases hlt : k < 4
  · obtain ⟨w2, h3, h4⟩ := h2.put (v := 0) (n := 1) (by omega) (by decide) (by simp [ones]; omega)
    have hro : rowN (0 : UInt64).toNat 1 = [0] := by decide
    rw [hro, List.append_assoc] at h4
    have h3' : bitio_Writer_Put ⟨w1.b, w1.n⟩ 0 1 = some (true, w2) := h3
    exact ⟨w2, by rw [bifTd (by omega), h3', bind_some], by rw [if_pos hlt]; exact h4⟩
  · exact ⟨w1, by rw [bifFd (by omega)], by rw [if_neg hlt]; exact h2⟩
/-- a number's low bits, shifted up and down -/
theorem low_bits (u : UInt64) {n : Nat} (hn : n ≤ 64) : (shrU (shlU u (64 - n)) (64 - n)).toNat = u.toNat % 2 ^ n := by
  rw [shrU_nat _ (by omega)]
  unfold shlU
  rw [Nat.min_eq_left (by omega), UInt64.toNat_ofNat', show 2 ^ 64 = 2 ^ n * 2 ^ (64 - n) by rw [← Nat.pow_add, show n + (64 - n) = 64 by omega], Nat.mul_mod_mul_right, Nat.mul_div_cancel _ (two_pow_pos' _)]
/-- the state behind i numbers -/
structure RowS (x : vary_Row) (l : List Int) : Prop where
  n : x.n = (l.length : Int)
  last : ∀ (h : 0 < l.length), x.last = toU64 (l[l.length - 1])
  last0 : l.length = 0 → x.last = 0
  step : ∀ (h : 2 ≤ l.length), x.step = toU64 (l[l.length - 1]) - toU64 (l[l.length - 2])
  all : ∀ y ∈ l, I64 y
  small : l.length ≤ 1000000
theorem RowS.new : RowS ⟨0, 0, 0⟩ [] := ⟨rfl, fun h => by simp at h, fun _ => rfl, fun h => by simp at h, fun y h => by simp at h, by simp⟩
/-- what the next number's bits are -/
def nextBits (l : List Int) (x : Int) : List Int :=
  if l.length = 0 then smallBits (zz x)
  else if l.length = 1 then smallBits (zz (sg (toU64 x - toU64 (l.getD 0 0))))
  else stepBits (sg (toU64 x - 2 * toU64 (l.getD (l.length - 1) 0) + toU64 (l.getD (l.length - 2) 0)))
theorem RowS.follow {x : vary_Row} {l : List Int} (h : RowS x l) {y : Int} (hy : I64 y) (hs : l.length + 1 ≤ 1000000) : ∃ x', vary_Row_follow x (toU64 y) = some x' ∧ RowS x' (l ++ [y]) := by
  unfold vary_Row_follow
  have hall : ∀ z ∈ l ++ [y], I64 z := fun z hz => (List.mem_append.1 hz).elim (h.all z) (fun e => by simp at e; subst e; exact hy)
  have e1 : w64 (x.n + 1) = ((l.length + 1 : Nat) : Int) := by rw [h.n, w64_succ (by omega)]
  by_cases h0 : 0 < l.length
  · rw [bifTd (by rw [h.n]; omega), lett_eq, bind_some, lett_eq, e1]
    refine ⟨_, rfl, ⟨by simp, fun _ => by simp, fun hl => by simp at hl, fun _ => ?_, hall, by simpa using hs⟩⟩
    dsimp only
    rw [h.last h0]
    simp only [List.getElem_append, List.length_append, List.length_singleton]
    rw [dif_neg (by omega), dif_pos (by omega)]
    simp
  · have hl : l = [] := List.eq_nil_of_length_eq_zero (by omega)
    rw [bifFd (by rw [h.n]; omega), bind_some, lett_eq, e1]
    subst hl
    exact ⟨_, rfl, ⟨rfl, fun _ => rfl, fun hl => by simp at hl, fun hl => by simp at hl, hall, by simp⟩⟩
theorem RowS.put {x : vary_Row} {l : List Int} (h : RowS x l) {w : bitio_Writer} {L : List Int} (hw : WR w L) {y : Int} (hy : I64 y) (hs : l.length + 1 ≤ 1000000) (hL : L.length + 68 ≤ 1000000) :
    ∃ x' w', vary_Row_Put x w y = some (x', w') ∧ RowS x' (l ++ [y]) ∧ WR w' (L ++ nextBits l y) := by
  obtain ⟨x', f1, f2⟩ := h.follow hy hs
  unfold vary_Row_Put nextBits
  by_cases h0 : l.length = 0
  · obtain ⟨w', p1, p2⟩ := hw.int hy (by omega)
    refine ⟨x', w', ?_, f2, by rw [if_pos h0]; exact p2⟩
    rw [lett_eq, bifTd (by rw [h.n]; omega), p1, bind_some, bind_some]
    dsimp only
    rw [f1]; rfl
  by_cases h1 : l.length = 1
  · have hl : x.last = toU64 (l.getD 0 0) := by rw [h.last (by omega), getD_lt (by omega)]; congr 2; omega
    obtain ⟨w', p1, p2⟩ := hw.int (sg_I64 (toU64 y - toU64 (l.getD 0 0))) (by omega)
    refine ⟨x', w', ?_, f2, by rw [if_neg h0, if_pos h1]; exact p2⟩
    have p1' : vary_PutInt w (w64 ((toU64 y - x.last).toNat : Int)) = some w' := by rw [hl]; exact p1
    rw [lett_eq, bifFd (by rw [h.n]; omega), lett_eq, bifTd (by rw [h.n]; omega), p1', bind_some, bind_some]
    dsimp only
    rw [f1]; rfl
  have hd : toU64 y - x.last - x.step = toU64 y - 2 * toU64 (l.getD (l.length - 1) 0) + toU64 (l.getD (l.length - 2) 0) := by
    rw [h.last (by omega), h.step (by omega), getD_lt (by omega), getD_lt (by omega)]
    grind
  rw [if_neg h0, if_neg h1]
  generalize hg : toU64 y - 2 * toU64 (l.getD (l.length - 1) 0) + toU64 (l.getD (l.length - 2) 0) = g at *
  have hk := wy_le (sg g)
  have hwl := wd_le (wy (sg g))
  obtain ⟨w0, q1, q0⟩ := hw.ones_ (wy (sg g)) hk (by omega)
  obtain ⟨w1, qh, q2⟩ := q0.head_ hk (by omega)
  have hvn : (shrU (shlU g (64 - wd (wy (sg g)))) (64 - wd (wy (sg g)))).toNat = g.toNat % 2 ^ wd (wy (sg g)) := low_bits g hwl
  obtain ⟨w2, q3, q4⟩ := q2.put (v := shrU (shlU g (64 - wd (wy (sg g)))) (64 - wd (wy (sg g)))) (n := wd (wy (sg g))) hwl (by rw [hvn]; exact Nat.mod_lt _ (two_pow_pos' _)) (by rw [List.length_append, headBits_len hk]; omega)
  rw [hvn, rowN_mod, List.append_assoc] at q4
  refine ⟨x', w2, ?_, f2, by unfold stepBits; rw [toU64_sg]; exact q4⟩
  have hT : (toU64 ((64 - wd (wy (sg g)) : Nat) : Int)).toNat = 64 - wd (wy (sg g)) := toU64_nat (by omega)
  rw [lett_eq, bifFd (by rw [h.n]; omega), lett_eq, bifFd (by rw [h.n]; omega), lett_eq, hd, show w64 (g.toNat : Int) = sg g from rfl, way_eq, bind_some, q1, flow_go, bind_some]
  dsimp only
  rw [qh, bind_some]
  dsimp only
  have q3' : bitio_Writer_Put ⟨w1.b, w1.n⟩ _ _ = _ := q3
  rw [show vary_widths = some [0, 6, 10, 16, 64] from rfl, bind_some, widths_at hk, bind_some, show w64 (64 - ((wd (wy (sg g)) : Nat) : Int)) = ((64 - wd (wy (sg g)) : Nat) : Int) from w64_subN (a := 64) hwl (by omega), hT, toU64_sg, q3', bind_some, bind_some]
  dsimp only
  rw [f1]; rfl
end Go.Lg
