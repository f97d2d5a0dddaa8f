/- Lemmas about the given model and about plain data, which the rows stand on: no statement of the program by itself. -/
import Derived.Test.YtoiklipabcecfaaCsLgPart0
import Ieee.Arith
set_option linter.unusedVariables false
namespace Go.Lg
attribute [local irreducible] w64 toU64 toU8 shlU shrU shlB shrB
theorem shrU_nat (a : UInt64) {n : Nat} (h : n ≤ 64) : (shrU a n).toNat = a.toNat / 2 ^ n := by
  unfold shrU
  rw [Nat.min_eq_left h, UInt64.toNat_ofNat', Nat.mod_eq_of_lt]
  exact Nat.lt_of_le_of_lt (Nat.div_le_self _ _) (UInt64.toNat_lt a)
theorem shlU_nat (a : UInt64) {n : Nat} (h : n ≤ 64) (h' : a.toNat * 2 ^ n < 2 ^ 64) : (shlU a n).toNat = a.toNat * 2 ^ n := by
  unfold shlU
  rw [Nat.min_eq_left h, UInt64.toNat_ofNat', Nat.mod_eq_of_lt h']
theorem mask_nat (p : UInt64) {k : Nat} (h : k < 64) : (p &&& (shlU (1 : UInt64) k - 1)).toNat = p.toNat % 2 ^ k := by
  have h1 : (2 : Nat) ^ k < 2 ^ 64 := Nat.pow_lt_pow_right (by omega) h
  have h2 : 1 ≤ (2 : Nat) ^ k := Nat.one_le_two_pow
  have h3 : (shlU (1 : UInt64) k).toNat = 2 ^ k := by
    rw [shlU_nat _ (by omega)] <;> simp
    exact h1
  rw [UInt64.toNat_and, UInt64.toNat_sub_of_le]
  · rw [h3]; exact Nat.and_two_pow_sub_one_eq_mod _ _
  · rw [UInt64.le_iff_toNat_le, h3]; exact h2
theorem shrB_nat (a : UInt8) {n : Nat} (h : n ≤ 8) : (shrB a n).toNat = a.toNat / 2 ^ n := by
  unfold shrB
  rw [Nat.min_eq_left h, UInt8.toNat_ofNat', Nat.mod_eq_of_lt]
  exact Nat.lt_of_le_of_lt (Nat.div_le_self _ _) (UInt8.toNat_lt a)
theorem shlB_nat (a : UInt8) {n : Nat} (h : n ≤ 8) : (shlB a n).toNat = a.toNat * 2 ^ n % 256 := by
  unfold shlB
  rw [Nat.min_eq_left h, UInt8.toNat_ofNat']
/-- the mask of k low bits of a byte: at k = 8 all of them -/
theorem maskB_nat (p : UInt8) {k : Nat} (h : k ≤ 8) : (p &&& (shlB (1 : UInt8) k - 1)).toNat = p.toNat % 2 ^ k := by
  have key : ∀ k : Fin 9, (shlB (1 : UInt8) k.1 - 1).toNat = 2 ^ k.1 - 1 := by decide +kernel
  rw [UInt8.toNat_and, key ⟨k, by omega⟩]
  exact Nat.and_two_pow_sub_one_eq_mod _ _
/-- the writer holds N bits, V as a number -/
structure WA (b : List UInt8) (N V : Nat) : Prop where
  le : N ≤ 8 * b.length
  lt : 8 * b.length < N + 8
  val : bv b = V * 2 ^ (8 * b.length - N)
theorem room_eq {b : List UInt8} {n : Nat} (h : n ≤ 8 * b.length) (hb : b.length ≤ 1000000000000) : bitio_Writer_room ⟨b, (n : Int)⟩ = some ((8 * b.length - n : Nat) : Int) := by
  unfold bitio_Writer_room
  rw [lett_eq, w64_id (x := 8 * (b.length : Int)) (by omega) (by omega), w64_id (by simp only; omega) (by simp only; omega)]
  simp only; congr 1; omega
/-- a byte's low bits that are nought are set -/
theorem snoc_or {c : List UInt8} {e : UInt8} {V free k p : Nat} (hf : free ≤ 8) (hk : k ≤ free) (hp : p < 2 ^ k) (hv : bv (c ++ [e]) = V * 2 ^ free) (t : UInt8) (ht : t.toNat = p * 2 ^ (free - k)) :
    bv (c ++ [e ||| t]) = (V * 2 ^ k + p) * 2 ^ (free - k) := by
  have hlt : p * 2 ^ (free - k) < 2 ^ free := by
    have : 2 ^ k * 2 ^ (free - k) = 2 ^ free := by rw [← Nat.pow_add]; congr 1; omega
    rw [← this]; exact Nat.mul_lt_mul_of_pos_right hp (Nat.pow_pos (by omega))
  have h2 : (256 : Nat) = 2 ^ (8 - free) * 2 ^ free := by rw [← Nat.pow_add, show 8 - free + free = 8 by omega]
  have he : e.toNat = V % 2 ^ (8 - free) * 2 ^ free := by
    have h1 : e.toNat = bv (c ++ [e]) % 256 := by rw [bv_snoc]; have := u8_lt' e; omega
    rw [h1, hv, h2, Nat.mul_mod_mul_right]
  rw [bv_snoc, UInt8.toNat_or, ht, he, or_add hlt, ← he]
  rw [bv_snoc] at hv
  have : 2 ^ free = 2 ^ k * 2 ^ (free - k) := by rw [← Nat.pow_add]; congr 1; omega
  grind
theorem put_round (a1 : UInt64) (c : List UInt8) (N r : Nat) (i : List UInt8) (e : UInt8) (free k : Nat) (t : UInt8)
    (hstep : (((bitio_Writer_room (bitio_Writer.mk c (N : Int))).bind fun r62 => bif decide (r62 = 0) then (app c [0]).bind fun xs78 => some xs78 else some c) = some (i ++ [e])))
    (hN : N + free = 8 * (i.length + 1)) (hf1 : 1 ≤ free) (hf8 : free ≤ 8) (hk1 : 1 ≤ k) (hkr : k ≤ r) (hkf : k ≤ free) (hr : r ≤ 64) (hc : N + r ≤ 100000000000) (hk : k = min r free)
    (ht : t = (shlU (shrU a1 (r - k) &&& (shlU (1 : UInt64) k - 1)) (free - k)).toUInt8) :
    bitio_Writer_Put_lp1 a1 (c, (N : Int), (r : Int)) = some (.next (i ++ [e ||| t], ((N + k : Nat) : Int), ((r - k : Nat) : Int))) := by
  have B0 : (i ++ [e]).length = i.length + 1 := by simp
  have B1 : 8 * (i ++ [e]).length - N = free := by omega
  have B2 : i.length < 100000000000 := by omega
  have B3 : min r free = k := hk.symm
  have E0 : decide ((0 : Int) < (r : Int)) = true := by rw [decide_eq_true_eq]; omega
  have E7 : decide ((k : Int) < 64) = true := by rw [decide_eq_true_eq]; omega
  have T1 : (toU64 ((r - k : Nat) : Int)).toNat = r - k := toU64_nat (by omega)
  have T2 : (toU64 (k : Int)).toNat = k := toU64_nat (by omega)
  have T3 : (toU64 ((free - k : Nat) : Int)).toNat = free - k := toU64_nat (by omega)
  have E6 : bitio_Writer_room ⟨i ++ [e], (N : Int)⟩ = some ((free : Nat) : Int) := by
    rw [room_eq (by omega) (by omega), B1]
  have E1 : (min (r : Int) (free : Int)) = (k : Int) := by rw [← B3]; omega
  have E2 : (w64 ((r : Int) - (k : Int))) = ((r - k : Nat) : Int) := w64_subN hkr (by omega)
  have E3 : (w64 ((free : Int) - (k : Int))) = ((free - k : Nat) : Int) := w64_subN hkf (by omega)
  have E4 : (w64 (((i ++ [e]).length : Int) - 1)) = (i.length : Int) := by rw [B0]; exact w64_subN (b := 1) (by omega) (by omega)
  have E5 : (w64 ((N : Int) + (k : Int))) = ((N + k : Nat) : Int) := w64_addN (by omega)
  unfold bitio_Writer_Put_lp1
  dsimp only
  rw [E0, cond_true, hstep, bind_some, E6, bind_some, lett_eq, lett_eq, E1, E2, E7, cond_true, lett_eq, bind_some, E4, idx_last, bind_some, bind_some, lett_eq, T1, T2, E3, T3, ← ht, setI_last, bind_some, lett_eq, E5, lett_eq]
  rfl
theorem put_loop (a1 : UInt64) : ∀ (r : Nat) (c : List UInt8) (N V : Nat), r ≤ 64 → WA c N V → N + r ≤ 100000000000 →
    ∃ c', loop (bitio_Writer_Put_lp1 a1) (c, (N : Int), (r : Int)) = some (.go (c', ((N + r : Nat) : Int))) ∧ WA c' (N + r) (V * 2 ^ r + a1.toNat % 2 ^ r) := by
  intro r
  induction r using Nat.strongRecOn with
  | _ r ih =>
    intro c N V hr hw hc
    by_cases h0 : r = 0
    · subst h0
      refine ⟨c, loop_brk ?_, by simpa [Nat.mod_one] using hw⟩
      simp [bitio_Writer_Put_lp1]
    obtain ⟨hle, hlt, hval⟩ := hw
    -- the byte that has room
    obtain ⟨i, e, free, hstep, hN, hf1, hf8, hv⟩ : ∃ (i : List UInt8) (e : UInt8) (free : Nat), (((bitio_Writer_room (bitio_Writer.mk c (N : Int))).bind fun r62 => bif decide (r62 = 0) then (app c [0]).bind fun xs78 => some xs78 else some c) = some (i ++ [e])) ∧
        N + free = 8 * (i.length + 1) ∧ 1 ≤ free ∧ free ≤ 8 ∧ bv (i ++ [e]) = V * 2 ^ free := by
      by_cases hz : 8 * c.length - N = 0
      · refine ⟨c, 0, 8, ?_, by omega, by omega, by omega, ?_⟩
        · rw [room_eq hle (by omega), hz, bind_some, bifT (by simp), app_ok (by simp; omega)]; rfl
        · rw [bv_snoc, hval, hz]; simp
      · have hne : c ≠ [] := fun e => by subst e; simp at hz
        refine ⟨c.dropLast, c.getLast hne, 8 * c.length - N, ?_, ?_, by omega, by omega, ?_⟩
        · rw [room_eq hle (by omega), bind_some, bifF (by simpa using by omega), List.dropLast_concat_getLast]
        · have := List.length_pos_iff.2 hne
          rw [List.length_dropLast]; omega
        · rw [List.dropLast_concat_getLast, hval]
    -- how many bits
    obtain ⟨k, hk⟩ : ∃ k, k = min r free := ⟨_, rfl⟩
    have hk1 : 1 ≤ k := by omega
    have hkr : k ≤ r := by omega
    have hkf : k ≤ free := by omega
    obtain ⟨p, hp⟩ : ∃ p, p = a1.toNat / 2 ^ (r - k) % 2 ^ k := ⟨_, rfl⟩
    have hpl : p < 2 ^ k := by rw [hp]; exact Nat.mod_lt _ (Nat.pow_pos (by omega))
    have hpf : p * 2 ^ (free - k) < 256 := by
      have h1 : p * 2 ^ (free - k) < 2 ^ k * 2 ^ (free - k) := Nat.mul_lt_mul_of_pos_right hpl (Nat.pow_pos (by omega))
      rw [← Nat.pow_add] at h1
      have : 2 ^ (k + (free - k)) ≤ 2 ^ 8 := Nat.pow_le_pow_right (by omega) (by omega)
      omega
    obtain ⟨t, ht⟩ : ∃ t : UInt8, t = (shlU (shrU a1 (r - k) &&& (shlU (1 : UInt64) k - 1)) (free - k)).toUInt8 := ⟨_, rfl⟩
    have htn : t.toNat = p * 2 ^ (free - k) := by
      have h1 : (shrU a1 (r - k) &&& (shlU (1 : UInt64) k - 1)).toNat = p := by rw [mask_nat _ (by omega), shrU_nat _ (by omega), hp]
      rw [ht, UInt64.toNat_toUInt8, shlU_nat _ (by omega) (by rw [h1]; omega), h1]
      omega
    have hnew := snoc_or hf8 hkf hpl hv t htn
    have hround := put_round a1 c N r i e free k t hstep hN hf1 hf8 hk1 hkr hkf hr hc (by omega) ht
    obtain ⟨c', h1, h2⟩ := ih (r - k) (by omega) (i ++ [e ||| t]) (N + k) (V * 2 ^ k + p) (by omega)
      ⟨by rw [List.length_append, List.length_singleton]; omega, by rw [List.length_append, List.length_singleton]; omega, by rw [hnew]; congr 2; rw [List.length_append, List.length_singleton]; omega⟩ (by omega)
    have hNr : N + k + (r - k) = N + r := by omega
    refine ⟨c', by rw [loop_next hround, h1, hNr], ?_⟩
    have hj := div_mod_join a1.toNat 0 k (r - k)
    simp only [Nat.zero_add, Nat.pow_zero, Nat.div_one] at hj
    rw [← hp, show k + (r - k) = r by omega] at hj
    rw [hNr, Nat.add_mul, Nat.mul_assoc, ← Nat.pow_add, show k + (r - k) = r by omega, Nat.add_assoc, hj] at h2
    exact h2
theorem two_pow_pos' (n : Nat) : 0 < 2 ^ n := Nat.pow_pos (by omega)
theorem put_ok {b : List UInt8} {N V : Nat} {v : UInt64} {n : Nat} (hw : WA b N V) (hN : N + n ≤ 100000000000) (hn : n ≤ 64) (hv : v.toNat < 2 ^ n) :
    ∃ b', bitio_Writer_Put ⟨b, (N : Int)⟩ v (n : Int) = some (true, ⟨b', ((N + n : Nat) : Int)⟩) ∧ WA b' (N + n) (V * 2 ^ n + v.toNat) := by
  obtain ⟨b', h1, h2⟩ := put_loop v n b N V hn hw hN
  rw [Nat.mod_eq_of_lt hv] at h2
  refine ⟨b', ?_, h2⟩
  unfold bitio_Writer_Put
  have e1 : (toU64 (n : Int)).toNat = n := toU64_nat (by omega)
  have h5 : shrU v n = 0 := by
    apply UInt64.toNat_inj.1
    rw [shrU_nat v hn, Nat.div_eq_of_lt hv]; rfl
  rw [e1, h5, bifF (by simp; omega), h1]
  rfl
theorem WA.new : WA [] 0 0 := ⟨by simp, by simp, by simp [bv]⟩
theorem WA.inj {b b' : List UInt8} {N V : Nat} (h : WA b N V) (k : WA b' N V) : b = b' := by
  have hl : b.length = b'.length := by have := h.le; have := h.lt; have := k.le; have := k.lt; omega
  exact bv_inj hl (by rw [h.val, k.val, hl])
theorem clone_eq {b : List UInt8} (h : b.length ≤ 17179869184) : bytes_Clone b = some b := by
  unfold bytes_Clone; rw [app_ok (by simpa using h)]; rfl
/-! ### the document's rows -/
/-- a byte's bits -/
def byteBits (x : UInt8) : List Int := [128, 64, 32, 16, 8, 4, 2, 1].map fun k : Nat => ((x.toNat / k % 2 : Nat) : Int)
def bitsOf (b : List UInt8) : List Int := b.flatMap byteBits
theorem byteBits_len (x : UInt8) : (byteBits x).length = 8 := rfl
theorem byteBits_bit (x : UInt8) : Bit (byteBits x) := by
  intro y hy
  simp only [byteBits, List.mem_map] at hy
  obtain ⟨k, _, rfl⟩ := hy
  omega
theorem byteBits_dv (x : UInt8) : dv (byteBits x) = x.toNat := by
  have key : ∀ n : Fin 256, dv ([128, 64, 32, 16, 8, 4, 2, 1].map fun k : Nat => ((n.1 / k % 2 : Nat) : Int)) = n.1 := by decide +kernel
  exact key ⟨x.toNat, u8_lt' x⟩
theorem bitsOf_len (b : List UInt8) : (bitsOf b).length = 8 * b.length := by
  induction b with
  | nil => rfl
  | cons x b ih => simp only [bitsOf, List.flatMap_cons, List.length_append, List.length_cons] at *; rw [ih, byteBits_len]; omega
theorem bitsOf_bit (b : List UInt8) : Bit (bitsOf b) := by
  intro y hy
  obtain ⟨x, _, hx⟩ := List.mem_flatMap.1 hy
  exact byteBits_bit x y hx
theorem bitsOf_snoc (b : List UInt8) (x : UInt8) : bitsOf (b ++ [x]) = bitsOf b ++ byteBits x := by simp [bitsOf]
theorem bitsOf_dv (b : List UInt8) : dv (bitsOf b) = bv b := by
  have : ∀ (b c : List UInt8), dv (bitsOf c) = bv c → dv (bitsOf (c ++ b)) = bv (c ++ b) := by
    intro b
    induction b with
    | nil => intro c h; simpa using h
    | cons x b ih =>
      intro c h
      rw [show c ++ x :: b = (c ++ [x]) ++ b by simp]
      refine ih _ ?_
      rw [bitsOf_snoc, dv_append, byteBits_dv, byteBits_len, bv_snoc, h]
  simpa using this b [] rfl
/-! ### a row of bits as bytes -/
/-! ### which bytes are a row -/
def openE (b : List UInt8) (n : Int) : Int :=
  if n < 0 then 1 else if 8 * (b.length : Int) < n then 2 else if 7 < 8 * (b.length : Int) - n then 3 else if bv b % 2 ^ (8 * b.length - n.toNat) = 0 then 0 else 3
theorem tdiv8 (m : Nat) (h : m ≤ 9223372036854775807) : w64 ((m : Int).tdiv 8) = ((m / 8 : Nat) : Int) := by rw [show (8 : Int) = ((8 : Nat) : Int) from rfl, tdivN, w64_nat (by omega)]
theorem tmod8 (m : Nat) : (m : Int).tmod 8 = ((m % 8 : Nat) : Int) := by rw [show (8 : Int) = ((8 : Nat) : Int) from rfl, tmodN]
theorem add7 (m : Nat) (h : m ≤ 9223372036854775800) : w64 ((m : Int) + 7) = ((m + 7 : Nat) : Int) := by rw [w64_id] <;> omega
theorem newReader_eq {b : List UInt8} {n : Int} (hn : I64 n) (hb : b.length ≤ 1000000) : bitio_NewReader b n = some (if openE b n = 0 then some ⟨b, n, 0⟩ else none, openE b n) := by
  unfold I64 at hn
  unfold bitio_NewReader
  by_cases h1 : n < 0
  · have hE : openE b n = 1 := if_pos h1
    rw [lett_eq, bifT (by simpa using h1), hE]; rfl
  rw [lett_eq, bifF (by simpa using h1), lett_eq]
  obtain ⟨m, rfl⟩ : ∃ m : Nat, n = (m : Int) := ⟨n.toNat, by omega⟩
  rw [tdiv8 _ (by omega), tmod8]
  by_cases h2 : 8 * b.length < m
  · have hE : openE b m = 2 := by unfold openE; rw [if_neg h1, if_pos (by omega)]
    rw [bifT (by simp; omega), hE]; rfl
  rw [bifF (by simp; omega), lett_eq, add7 _ (by omega), tdiv8 _ (by omega)]
  by_cases h3 : 7 < 8 * b.length - m
  · have hE : openE b m = 3 := by unfold openE; rw [if_neg h1, if_neg (by omega), if_pos (by omega)]
    rw [bifT (by simp; omega), hE]; rfl
  rw [bifF (by simp; omega), clone_eq (by omega)]
  have key : ((bif decide (0 < ((m % 8 : Nat) : Int)) then (idx b ((m / 8 : Nat) : Int)).bind fun e27 => some (!decide (shlB e27 ((toU64 ((m % 8 : Nat) : Int)).toNat) = 0)) else some false) : Option Bool) = some (!decide (bv b % 2 ^ (8 * b.length - m) = 0)) := by
    by_cases h5 : m % 8 = 0
    · rw [bifF (by simp; omega), show 8 * b.length - m = 0 by omega]; simp [Nat.mod_one]
    · have hlt : m / 8 < b.length := by omega
      rw [bifT (by simp; omega), idx_nat hlt, bind_some, toU64_nat (by omega)]
      congr 2
      rw [decide_eq_decide, ← UInt8.toNat_inj, shlB_nat _ (by omega), bv_at hlt, show b.length - 1 - m / 8 = 0 by omega, Nat.pow_zero, Nat.div_one]
      have h256 : 256 = 2 ^ (8 * b.length - m) * 2 ^ (m % 8) := by rw [← Nat.pow_add, show 8 * b.length - m + m % 8 = 8 by omega]
      have hd : bv b % 256 % 2 ^ (8 * b.length - m) = bv b % 2 ^ (8 * b.length - m) := Nat.mod_mod_of_dvd _ ⟨_, h256⟩
      rw [← hd]
      generalize bv b % 256 = y
      conv => lhs; rw [h256, Nat.mul_mod_mul_right]
      have := two_pow_pos' (m % 8)
      rw [show (0 : UInt8).toNat = 0 from rfl, Nat.mul_eq_zero]
      omega
  rw [key, bind_some]
  by_cases h4 : bv b % 2 ^ (8 * b.length - m) = 0
  · have hE : openE b m = 0 := by unfold openE; rw [if_neg h1, if_neg (by omega), if_neg (by omega), Int.toNat_natCast, if_pos h4]
    rw [bifF (by simpa using h4), hE]; rfl
  · have hE : openE b m = 3 := by unfold openE; rw [if_neg h1, if_neg (by omega), if_neg (by omega), Int.toNat_natCast, if_neg h4]
    rw [bifT (by simpa using h4), hE]; rfl
/-! ### the reader -/
theorem look_loop {b : List UInt8} {n : Int} {a : Int} (hb : b.length ≤ 1000000) : ∀ (r m at' : Nat) (v : UInt64), m + r ≤ 64 → at' + r ≤ 8 * b.length → v.toNat = bv b / 2 ^ (8 * b.length - at') % 2 ^ m →
    ∃ v', loop (bitio_Reader_Look_lp1 ⟨b, n, a⟩) ((r : Int), v, (at' : Int)) = some (.go v') ∧ v'.toNat = bv b / 2 ^ (8 * b.length - at' - r) % 2 ^ (m + r) := by
  intro r
  induction r using Nat.strongRecOn with
  | _ r ih =>
    intro m at' v hm hat hv
    by_cases h0 : r = 0
    · subst h0
      refine ⟨v, loop_brk ?_, by simpa using hv⟩
      unfold bitio_Reader_Look_lp1
      dsimp only
      rw [bifF (by simp)]
    obtain ⟨j, free, hj, hf1, hf8⟩ : ∃ j free, at' + free = 8 * (j + 1) ∧ 1 ≤ free ∧ free ≤ 8 := ⟨at' / 8, 8 - at' % 8, by omega, by omega, by omega⟩
    have hjl : j < b.length := by omega
    obtain ⟨k, hk⟩ : ∃ k, k = min r free := ⟨_, rfl⟩
    have hk1 : 1 ≤ k := by omega
    have hkr : k ≤ r := by omega
    have hkf : k ≤ free := by omega
    have hk8 : k ≤ 8 := by omega
    have B1 : at' / 8 = j := by omega
    have B2 : 8 - at' % 8 = free := by omega
    have B3 : 8 * (b.length - 1 - j) + (free - k) = 8 * b.length - at' - k := by omega
    have B4 : 8 * b.length - at' = (8 * b.length - at' - k) + k := by omega
    have B5 : at' % 8 ≤ 8 := by omega
    have B6 : m + k ≤ 64 := by omega
    have B7 : at' + k < 9223372036854775808 := by omega
    have B8 : free < 9223372036854775808 := by omega
    have B9 : r < 9223372036854775808 := by omega
    have B10 : at' ≤ 9223372036854775807 := by omega
    have T1 : (toU64 ((free - k : Nat) : Int)).toNat = free - k := toU64_nat (by omega)
    have T2 : (toU64 (k : Int)).toNat = k := toU64_nat (by omega)
    obtain ⟨pc, hpc⟩ : ∃ pc, pc = shrB b[j] (free - k) &&& (shlB (1 : UInt8) k - 1) := ⟨_, rfl⟩
    have hpn : pc.toNat = bv b / 2 ^ (8 * b.length - at' - k) % 2 ^ k := by
      rw [hpc, maskB_nat _ hk8, shrB_nat _ (by omega), bv_at hjl, p256, show (256 : Nat) = 2 ^ 8 from rfl, mod_div_mod _ _ _ _ (by omega), Nat.div_div_eq_div_mul, ← Nat.pow_add, B3]
    have hpl : pc.toNat < 2 ^ k := by rw [hpn]; exact Nat.mod_lt _ (two_pow_pos' k)
    have hvl : v.toNat < 2 ^ m := by rw [hv]; exact Nat.mod_lt _ (two_pow_pos' m)
    have hmk : v.toNat * 2 ^ k < 2 ^ 64 := by
      have h1 : v.toNat * 2 ^ k < 2 ^ m * 2 ^ k := Nat.mul_lt_mul_of_pos_right hvl (two_pow_pos' k)
      rw [← Nat.pow_add] at h1
      exact Nat.lt_of_lt_of_le h1 (Nat.pow_le_pow_right (by omega) B6)
    have hr : bitio_Reader_Look_lp1 ⟨b, n, a⟩ ((r : Int), v, (at' : Int)) = some (.next (((r - k : Nat) : Int), shlU v k ||| pc.toUInt64, ((at' + k : Nat) : Int))) := by
      have E0 : decide ((0 : Int) < (r : Int)) = true := by rw [decide_eq_true_eq]; omega
      have E1 : (min (r : Int) (free : Int)) = (k : Int) := by rw [hk]; omega
      have E2 : w64 (8 - ((at' : Int).tmod 8)) = (free : Int) := by
        rw [tmod8, show (8 : Int) = ((8 : Nat) : Int) from rfl, w64_subN B5 (by decide), B2]
      have E3 : w64 ((at' : Int).tdiv 8) = (j : Int) := by rw [tdiv8 _ B10, B1]
      have E4 : w64 ((free : Int) - (k : Int)) = ((free - k : Nat) : Int) := w64_subN hkf B8
      have E5 : w64 ((at' : Int) + (k : Int)) = ((at' + k : Nat) : Int) := w64_addN B7
      have E6 : w64 ((r : Int) - (k : Int)) = ((r - k : Nat) : Int) := w64_subN hkr B9
      unfold bitio_Reader_Look_lp1
      dsimp only
      rw [E0, cond_true, lett_eq, E2, lett_eq, E1, E3, idx_nat hjl, bind_some, lett_eq, E4, T1, T2, ← hpc, lett_eq, lett_eq, lett_eq, E5, E6]
    have hv2 : (shlU v k ||| pc.toUInt64).toNat = bv b / 2 ^ (8 * b.length - (at' + k)) % 2 ^ (m + k) := by
      rw [UInt64.toNat_or, shlU_nat _ (by omega) hmk, UInt8.toNat_toUInt64, or_add hpl, hpn, hv]
      rw [show 8 * b.length - (at' + k) = 8 * b.length - at' - k by omega]
      have := div_mod_join (bv b) (8 * b.length - at' - k) m k
      rw [← B4] at this
      exact this
    obtain ⟨v', h1, h2⟩ := ih (r - k) (by omega) (m + k) (at' + k) _ (by omega) (by omega) hv2
    refine ⟨v', by rw [loop_next hr, h1], ?_⟩
    rw [h2, show 8 * b.length - (at' + k) - (r - k) = 8 * b.length - at' - r by omega, show m + k + (r - k) = m + r by omega]
/-- the bits that are asked for are there -/
def lookOk (n at' : Nat) (k : Int) : Bool := decide (0 ≤ k ∧ k ≤ 64 ∧ k ≤ (n : Int) - (at' : Int))
def lookV (b : List UInt8) (at' k : Nat) : Nat := bv b / 2 ^ (8 * b.length - at' - k) % 2 ^ k
theorem look_eq {b : List UInt8} {n at' : Nat} {k : Int} (hb : b.length ≤ 1000000) (hn : n ≤ 8 * b.length) (hat : at' ≤ n) :
    ∃ v : UInt64, bitio_Reader_Look ⟨b, (n : Int), (at' : Int)⟩ k = some (v, lookOk n at' k) ∧ v.toNat = if lookOk n at' k then lookV b at' k.toNat else 0 := by
  have hleft : bitio_Reader_Left ⟨b, (n : Int), (at' : Int)⟩ = some (((n - at' : Nat) : Int)) := by
    unfold bitio_Reader_Left
    dsimp only
    rw [lett_eq, w64_subN hat (by omega)]
  unfold bitio_Reader_Look
  cases h : lookOk n at' k with
  | true =>
    unfold lookOk at h
    rw [decide_eq_true_eq] at h
    obtain ⟨r, rfl⟩ : ∃ r : Nat, k = (r : Int) := ⟨k.toNat, by omega⟩
    obtain ⟨v, h1, h2⟩ := look_loop (b := b) (n := (n : Int)) (a := (at' : Int)) hb r 0 at' 0 (by omega) (by omega) (by simp [Nat.mod_one])
    refine ⟨v, ?_, ?_⟩
    · rw [bifF (by simp; omega), hleft, bind_some, bind_some, bifF (by simp; omega)]
      dsimp only
      rw [h1, flow_go]
    · rw [h2]; simp [lookV]
  | false =>
    unfold lookOk at h
    rw [decide_eq_false_iff_not] at h
    refine ⟨0, ?_, rfl⟩
    by_cases h1 : k < 0 ∨ 64 < k
    · rw [bifT (by simpa using h1), bind_some]; rfl
    · rw [bifF (by simpa using h1), hleft, bind_some, bind_some, bifT (by simp; omega)]
theorem skip_eq {b : List UInt8} {n at' : Nat} {k : Int} (hb : n ≤ 1000000000) (hat : at' ≤ n) :
    bitio_Reader_Skip ⟨b, (n : Int), (at' : Int)⟩ k = some (decide (0 ≤ k ∧ k ≤ (n : Int) - (at' : Int)), ⟨b, (n : Int), ((if 0 ≤ k ∧ k ≤ (n : Int) - (at' : Int) then at' + k.toNat else at' : Nat) : Int)⟩) := by
  have hleft : bitio_Reader_Left ⟨b, (n : Int), (at' : Int)⟩ = some (((n - at' : Nat) : Int)) := by
    unfold bitio_Reader_Left
    dsimp only
    rw [lett_eq, w64_subN hat (by omega)]
  unfold bitio_Reader_Skip
  by_cases h : 0 ≤ k ∧ k ≤ (n : Int) - (at' : Int)
  · obtain ⟨r, rfl⟩ : ∃ r : Nat, k = (r : Int) := ⟨k.toNat, by omega⟩
    rw [bifF (by simp), hleft, bind_some, bind_some, bifF (by simp; omega), lett_eq, if_pos h, decide_eq_true h]
    dsimp only
    rw [w64_addN (by omega), Int.toNat_natCast]
  · rw [if_neg h, decide_eq_false h]
    by_cases h1 : k < 0
    · rw [bifT (by simpa using h1), bind_some]; rfl
    · rw [bifF (by simpa using h1), hleft, bind_some, bind_some, bifT (by simp; omega)]
/-! ### the document's waking call -/
/-! ### LAW 01, BitsTake -/
theorem bv_take {b : List UInt8} {i : Nat} (h : i ≤ b.length) : bv (b.take i) = bv b / 2 ^ (8 * b.length - 8 * i) := by
  have e : b = b.take i ++ b.drop i := by simp
  have h3 := bv_lt (b.drop i)
  have hl : (b.drop i).length = b.length - i := by rw [List.length_drop]
  rw [hl, p256] at h3
  have h1 : bv b = bv (b.take i) * 2 ^ (8 * b.length - 8 * i) + bv (b.drop i) := by
    conv => lhs; rw [e, bv_append, hl, p256]
    rw [show 8 * (b.length - i) = 8 * b.length - 8 * i by omega]
  rw [show 8 * (b.length - i) = 8 * b.length - 8 * i by omega] at h3
  rw [h1, Nat.add_comm, Nat.add_mul_div_right _ _ (two_pow_pos' _), Nat.div_eq_of_lt h3, Nat.zero_add]
/-! ### LAW 01, BitsPut -/
theorem maskHi : ∀ (e : UInt8) (s : Nat), s ≤ 7 → (e &&& shlB (255 : UInt8) s).toNat = e.toNat / 2 ^ s * 2 ^ s := by
  have key : ∀ (e : Fin 256) (s : Fin 8), ((UInt8.ofNat e.1) &&& shlB (255 : UInt8) s.1).toNat = e.1 / 2 ^ s.1 * 2 ^ s.1 := by decide +kernel
  intro e s hs
  have := key ⟨e.toNat, u8_lt' e⟩ ⟨s, by omega⟩
  simpa using this
theorem cut_ok {b : List UInt8} {N V m : Nat} (hw : WA b N V) (hm : m ≤ N) (hN : N ≤ 90000000000) :
    ∃ b', bitio_Writer_Cut ⟨b, (N : Int)⟩ (m : Int) = some (true, ⟨b', (m : Int)⟩) ∧ WA b' m (V / 2 ^ (N - m)) := by
  obtain ⟨hle, hlt, hval⟩ := hw
  obtain ⟨q, hq⟩ : ∃ q, q = (m + 7) / 8 := ⟨_, rfl⟩
  have hql : q ≤ b.length := by omega
  have hmq : m ≤ 8 * q := by omega
  have hmq2 : 8 * q < m + 8 := by omega
  have e1 : bv b / 2 ^ (8 * b.length - m) = V / 2 ^ (N - m) := by
    rw [hval, show 8 * b.length - m = (8 * b.length - N) + (N - m) by omega, Nat.pow_add, ← Nat.div_div_eq_div_mul, Nat.mul_div_cancel _ (two_pow_pos' _)]
  have e2 : bv (b.take q) / 2 ^ (8 * q - m) = V / 2 ^ (N - m) := by
    rw [bv_take hql, Nat.div_div_eq_div_mul, ← Nat.pow_add, show 8 * b.length - 8 * q + (8 * q - m) = 8 * b.length - m by omega, e1]
  have hsl : slc b 0 (w64 ((w64 ((m : Int) + 7)).tdiv 8)) = some (b.take q) := by
    rw [add7 _ (by omega), tdiv8 _ (by omega), ← hq, show (0 : Int) = ((0 : Nat) : Int) from rfl, slc_nat (by omega) hql, List.drop_zero]
  unfold bitio_Writer_Cut
  dsimp only
  rw [bifF (by simp; omega), hsl, bind_some, lett_eq, tmod8]
  by_cases hr : m % 8 = 0
  · refine ⟨b.take q, ?_, ?_⟩
    · rw [bifF (by simp; omega), bind_some]
    · have : 8 * q - m = 0 := by omega
      rw [this] at e2
      refine ⟨by rw [List.length_take]; omega, by rw [List.length_take]; omega, ?_⟩
      rw [← e2]; simp [List.length_take, Nat.min_eq_left hql, this]
  · have hne : b.take q ≠ [] := fun e => by
      have := congrArg List.length e
      rw [List.length_take, List.length_nil] at this; omega
    obtain ⟨i, e, hie⟩ : ∃ i e, b.take q = i ++ [e] := ⟨_, _, (List.dropLast_concat_getLast hne).symm⟩
    have hil : i.length + 1 = q := by
      have := congrArg List.length hie
      rw [List.length_take, List.length_append, List.length_singleton] at this; omega
    have hs : 8 - m % 8 = 8 * q - m := by omega
    have hs7 : 8 * q - m ≤ 7 := by omega
    have B1 : m % 8 ≤ 8 := by omega
    have T1 : (toU64 ((8 * q - m : Nat) : Int)).toNat = 8 * q - m := toU64_nat (by omega)
    have B2 : 1 ≤ (i ++ [e]).length := by simp
    have B3 : (i ++ [e]).length < 9223372036854775808 := by rw [List.length_append, List.length_singleton]; omega
    have B4 : (i ++ [e]).length - 1 = i.length := by simp
    refine ⟨i ++ [e &&& shlB (255 : UInt8) (8 * q - m)], ?_, ?_⟩
    · have hb1 : (0 : Int) < ((m % 8 : Nat) : Int) := by omega
      rw [bifT (decide_eq_true hb1), hie, show w64 (((i ++ [e]).length : Int) - 1) = (i.length : Int) from by rw [show (1 : Int) = ((1 : Nat) : Int) from rfl, w64_subN B2 B3, B4], idx_last, bind_some, bind_some, lett_eq,
        show (8 : Int) = ((8 : Nat) : Int) from rfl, w64_subN B1 (by decide), hs, T1, setI_last, bind_some, bind_some]
    · refine ⟨by rw [List.length_append, List.length_singleton]; omega, by rw [List.length_append, List.length_singleton]; omega, ?_⟩
      rw [List.length_append, List.length_singleton, hil, bv_snoc, maskHi _ _ hs7, ← e2, hie, bv_snoc]
      generalize 8 * q - m = s at *
      have h256 : 256 = 2 ^ (8 - s) * 2 ^ s := by rw [← Nat.pow_add, show 8 - s + s = 8 by omega]
      have e5 : (bv i * 2 ^ (8 - s) * 2 ^ s + e.toNat) / 2 ^ s = bv i * 2 ^ (8 - s) + e.toNat / 2 ^ s := by rw [Nat.add_comm, Nat.add_mul_div_right _ _ (two_pow_pos' _), Nat.add_comm]
      rw [h256, ← Nat.mul_assoc, e5, Nat.add_mul]
theorem WA.len {c : List UInt8} {N V : Nat} (h : WA c N V) (hN : N ≤ 1000000000) : c.length ≤ 17179869184 := by have := h.lt; omega
/-! ### LAW 01, BitsBack -/
theorem getD_lt {α : Type} {l : List α} {i : Nat} (h : i < l.length) (d : α) : l.getD i d = l[i] := by simp [List.getD, h]
end Go.Lg
namespace Go.Lg
attribute [local irreducible] w64 toU64 toU8 shlU shrU shlB shrB
theorem dv_inj {l m : List Int} (hl : Bit l) (hm : Bit m) (h : l.length = m.length) (hv : dv l = dv m) : l = m := by
  induction l generalizing m with
  | nil => exact (List.eq_nil_of_length_eq_zero h.symm).symm
  | cons x l ih =>
    match m, h with
    | y :: m, h =>
      have hl' : Bit l := fun z hz => hl z (by simp [hz])
      have hm' : Bit m := fun z hz => hm z (by simp [hz])
      have h' : l.length = m.length := by simpa using h
      rw [dv_cons, dv_cons, h'] at hv
      have b1 := dv_lt hl'
      have b2 := dv_lt hm'
      rw [h'] at b1
      have hx := hl x (by simp)
      have hy := hm y (by simp)
      have hxy : x = y := by
        rcases hx with e | e <;> rcases hy with f | f <;> subst e <;> subst f <;> simp at hv <;> first | rfl | omega
      subst hxy
      rw [ih hl' hm' h' (by omega)]
/-- n bits of a number, the highest first -/
def rowN (v : Nat) : Nat → List Int
  | 0 => []
  | n + 1 => ((v / 2 ^ n % 2 : Nat) : Int) :: rowN v n
theorem rowN_len (v : Nat) : ∀ n, (rowN v n).length = n
  | 0 => rfl
  | n + 1 => by rw [rowN, List.length_cons, rowN_len v n]
theorem rowN_bit (v : Nat) : ∀ n, Bit (rowN v n)
  | 0 => Bit.nil
  | n + 1 => fun x hx => by
    rcases List.mem_cons.1 hx with e | e
    · subst e; omega
    · exact rowN_bit v n x e
theorem rowN_dv (v : Nat) : ∀ n, dv (rowN v n) = v % 2 ^ n
  | 0 => by simp [rowN, dv, Nat.mod_one]
  | n + 1 => by
    rw [rowN, dv_cons, rowN_len, rowN_dv v n, Int.toNat_natCast]
    have := div_mod_join v 0 1 n
    simp only [Nat.zero_add, Nat.pow_zero, Nat.div_one, Nat.pow_one] at this
    rw [this, Nat.add_comm]
/-! ### a writer that holds a row of bits; a reader of one -/
structure WR (w : bitio_Writer) (L : List Int) : Prop where
  n : w.n = (L.length : Int)
  a : WA w.b L.length (dv L)
  bit : Bit L
  small : L.length ≤ 1000000
theorem WR.new : WR ⟨[], 0⟩ [] := ⟨rfl, by simpa [dv_nil] using WA.new, Bit.nil, by simp⟩
theorem WR.eq {w : bitio_Writer} {L : List Int} (h : WR w L) : w = ⟨w.b, (L.length : Int)⟩ := by rw [← h.n]
theorem WR.len {w : bitio_Writer} {L : List Int} (h : WR w L) : bitio_Writer_Len w = some (L.length : Int) := by unfold bitio_Writer_Len; rw [h.n]
theorem WR.bytes {w : bitio_Writer} {L : List Int} (h : WR w L) : bitio_Writer_Bytes w = some w.b := by
  unfold bitio_Writer_Bytes
  rw [clone_eq (h.a.len (by have := h.small; omega))]; rfl
theorem WR.put {w : bitio_Writer} {L : List Int} (h : WR w L) {v : UInt64} {n : Nat} (hn : n ≤ 64) (hv : v.toNat < 2 ^ n) (hs : L.length + n ≤ 1000000) :
    ∃ w', bitio_Writer_Put w v (n : Int) = some (true, w') ∧ WR w' (L ++ rowN v.toNat n) := by
  obtain ⟨b', h1, h2⟩ := put_ok h.a (n := n) (by omega) hn hv
  refine ⟨_, by rw [h.eq]; exact h1, ?_, ?_, h.bit.app (rowN_bit _ _), by rw [List.length_append, rowN_len]; exact hs⟩
  · dsimp only; rw [List.length_append, rowN_len]
  · dsimp only; rw [List.length_append, dv_append, rowN_len, rowN_dv, Nat.mod_eq_of_lt hv]; exact h2
theorem WR.cut {w : bitio_Writer} {L : List Int} (h : WR w L) {m : Nat} (hm : m ≤ L.length) : ∃ w', bitio_Writer_Cut w (m : Int) = some (true, w') ∧ WR w' (L.take m) := by
  obtain ⟨b', h1, h2⟩ := cut_ok h.a hm (by have := h.small; omega)
  have hl : (L.take m).length = m := by rw [List.length_take]; omega
  refine ⟨_, by rw [h.eq]; exact h1, by rw [hl], ?_, h.bit.take m, by have := h.small; omega⟩
  dsimp only
  rw [hl]
  have hp := dv_part h.bit (a := 0) (n := m) (by omega)
  rw [Nat.zero_add, List.drop_zero, Nat.sub_zero] at hp
  rw [hp, Nat.mod_eq_of_lt]
  · exact h2
  · rw [Nat.div_lt_iff_lt_mul (two_pow_pos' _), ← Nat.pow_add, show m + (L.length - m) = L.length by omega]
    exact dv_lt h.bit
structure RA (r : bitio_Reader) (A : List Int) (p : Nat) : Prop where
  n : r.n = (A.length : Int)
  at_ : r.at_ = (p : Int)
  le : p ≤ A.length
  len : A.length ≤ 8 * r.b.length
  small : r.b.length ≤ 1000000
  bits : (bitsOf r.b).take A.length = A
theorem RA.eq {r : bitio_Reader} {A : List Int} {p : Nat} (h : RA r A p) : r = ⟨r.b, (A.length : Int), (p : Int)⟩ := by rw [← h.n, ← h.at_]
theorem RA.bit {r : bitio_Reader} {A : List Int} {p : Nat} (h : RA r A p) : Bit A := by rw [← h.bits]; exact (bitsOf_bit _).take _
theorem RA.at' {r : bitio_Reader} {A : List Int} {p : Nat} (h : RA r A p) : bitio_Reader_At r = some (p : Int) := by unfold bitio_Reader_At; rw [h.at_]
theorem RA.left {r : bitio_Reader} {A : List Int} {p : Nat} (h : RA r A p) : bitio_Reader_Left r = some ((A.length - p : Nat) : Int) := by
  have := h.le; have := h.len; have := h.small
  unfold bitio_Reader_Left
  rw [h.n, h.at_, lett_eq, w64_subN h.le (by omega)]
theorem RA.moved {r : bitio_Reader} {A : List Int} {p q : Nat} (h : RA r A p) (hq : q ≤ A.length) : RA ⟨r.b, (A.length : Int), (q : Int)⟩ A q := ⟨rfl, rfl, hq, h.len, h.small, h.bits⟩
theorem RA.lookV {r : bitio_Reader} {A : List Int} {p : Nat} (h : RA r A p) {k : Nat} (hk : p + k ≤ A.length) : lookV r.b p k = dv ((A.drop p).take k) := by
  have hl := bitsOf_len r.b
  have := h.len
  have h1 := dv_part (bitsOf_bit r.b) (a := p) (n := k) (by omega)
  rw [bitsOf_dv, hl] at h1
  unfold Lg.lookV
  rw [← h1]
  congr 1
  have e : (A.drop p).take k = (A.take (p + k)).drop p := by rw [List.drop_take]; congr 1; omega
  have e2 : A.take (p + k) = (bitsOf r.b).take (p + k) := by
    conv => lhs; rw [← h.bits]
    rw [List.take_take, Nat.min_eq_left hk]
  rw [e, e2]
/-- looked at: what is there, or not -/
theorem RA.look {r : bitio_Reader} {A : List Int} {p : Nat} (h : RA r A p) {k : Nat} (hk : k ≤ 64) (hp : p + k ≤ A.length) : bitio_Reader_Look r (k : Int) = some (UInt64.ofNat (dv ((A.drop p).take k)), true) := by
  obtain ⟨v, h1, h2⟩ := look_eq (b := r.b) (n := A.length) (at' := p) (k := (k : Int)) h.small h.len h.le
  have hok : lookOk A.length p (k : Int) = true := by unfold lookOk; rw [decide_eq_true_eq]; omega
  rw [hok, if_pos rfl, Int.toNat_natCast, h.lookV hp] at h2
  rw [hok] at h1
  rw [h.eq, h1, ← h2]
  simp
theorem RA.lookNo {r : bitio_Reader} {A : List Int} {p : Nat} (h : RA r A p) {k : Nat} (hp : A.length < p + k) : bitio_Reader_Look r (k : Int) = some (0, false) := by
  obtain ⟨v, h1, h2⟩ := look_eq (b := r.b) (n := A.length) (at' := p) (k := (k : Int)) h.small h.len h.le
  have hok : lookOk A.length p (k : Int) = false := by unfold lookOk; rw [decide_eq_false_iff_not]; omega
  rw [hok] at h1 h2
  have : v = 0 := by apply UInt64.toNat_inj.1; rw [h2]; rfl
  rw [h.eq, h1, this]
theorem RA.take {r : bitio_Reader} {A : List Int} {p : Nat} (h : RA r A p) {k : Nat} (hk : k ≤ 64) (hp : p + k ≤ A.length) :
    ∃ r', bitio_Reader_Take r (k : Int) = some (UInt64.ofNat (dv ((A.drop p).take k)), true, r') ∧ RA r' A (p + k) ∧ r'.b = r.b := by
  refine ⟨⟨r.b, (A.length : Int), ((p + k : Nat) : Int)⟩, ?_, h.moved hp, rfl⟩
  have := h.small; have := h.len
  unfold bitio_Reader_Take
  rw [h.look hk hp, bind_some]
  dsimp only
  rw [cond_true, lett_eq, h.at_, w64_addN (by omega), h.n]
theorem RA.takeNo {r : bitio_Reader} {A : List Int} {p : Nat} (h : RA r A p) {k : Nat} (hp : A.length < p + k) : bitio_Reader_Take r (k : Int) = some (0, false, r) := by
  unfold bitio_Reader_Take
  rw [h.lookNo hp, bind_some]; rfl
theorem RA.skip {r : bitio_Reader} {A : List Int} {p : Nat} (h : RA r A p) {k : Nat} (hp : p + k ≤ A.length) :
    ∃ r', bitio_Reader_Skip r (k : Int) = some (true, r') ∧ RA r' A (p + k) ∧ r'.b = r.b := by
  refine ⟨⟨r.b, (A.length : Int), ((p + k : Nat) : Int)⟩, ?_, h.moved hp, rfl⟩
  have hs := skip_eq (b := r.b) (n := A.length) (at' := p) (k := (k : Int)) (by have := h.len; have := h.small; omega) h.le
  have hc : 0 ≤ (k : Int) ∧ (k : Int) ≤ (A.length : Int) - (p : Int) := by omega
  rw [if_pos hc, decide_eq_true hc, Int.toNat_natCast] at hs
  rw [h.eq]; exact hs
/-- a reader of the bits that a writer holds -/
theorem RA.of {w : bitio_Writer} {L : List Int} (h : WR w L) : bitio_NewReader w.b (L.length : Int) = some (some ⟨w.b, (L.length : Int), 0⟩, 0) ∧ RA ⟨w.b, (L.length : Int), 0⟩ L 0 := by
  have h1 := h.a.le; have h2 := h.a.lt; have h3 := h.small
  have hE : openE w.b (L.length : Int) = 0 := by
    unfold openE
    rw [if_neg (by omega), if_neg (by omega), if_neg (by omega), Int.toNat_natCast, h.a.val, Nat.mul_mod_left, if_pos rfl]
  refine ⟨by rw [newReader_eq (by unfold I64; omega) (by omega), hE]; rfl, rfl, rfl, Nat.zero_le _, h1, by dsimp only; omega, ?_⟩
  dsimp only
  have hl := bitsOf_len w.b
  have hlen : ((bitsOf w.b).take L.length).length = L.length := by rw [List.length_take]; omega
  refine dv_inj ((bitsOf_bit _).take _) h.bit hlen ?_
  have hp := dv_part (bitsOf_bit w.b) (a := 0) (n := L.length) (by omega)
  rw [Nat.zero_add, List.drop_zero, Nat.sub_zero, hl, bitsOf_dv, h.a.val, Nat.mul_div_cancel _ (two_pow_pos' _), Nat.mod_eq_of_lt (dv_lt h.bit)] at hp
  exact hp
/-- .. of whole bytes -/
theorem RA.whole {b : List UInt8} (hb : b.length ≤ 1000000) : bitio_NewReader b ((8 * b.length : Nat) : Int) = some (some ⟨b, ((8 * b.length : Nat) : Int), 0⟩, 0) ∧ RA ⟨b, ((8 * b.length : Nat) : Int), 0⟩ (bitsOf b) 0 := by
  have hl := bitsOf_len b
  have hE : openE b ((8 * b.length : Nat) : Int) = 0 := by
    unfold openE
    rw [if_neg (by omega), if_neg (by omega), if_neg (by omega), Int.toNat_natCast, Nat.sub_self, Nat.pow_zero, Nat.mod_one, if_pos rfl]
  refine ⟨by rw [newReader_eq (by unfold I64; omega) (by omega), hE]; rfl, by rw [hl], rfl, Nat.zero_le _, by dsimp only; omega, hb, by rw [List.take_length]⟩
/-! ### signed and unsigned -/
def sg (u : UInt64) : Int := w64 (u.toNat : Int)
theorem sg_val (u : UInt64) : sg u = if u.toNat < 9223372036854775808 then (u.toNat : Int) else (u.toNat : Int) - 18446744073709551616 := by
  have := UInt64.toNat_lt u
  unfold sg w64
  split <;> omega
theorem sg_I64 (u : UInt64) : I64 (sg u) := by
  have := UInt64.toNat_lt u
  rw [sg_val]; unfold I64
  split <;> omega
theorem toU64_sg (u : UInt64) : toU64 (sg u) = u := by
  apply UInt64.toNat_inj.1
  have h := UInt64.toNat_lt u
  have h2 := toU64_toNat (sg u)
  have h3 := sg_val u
  generalize sg u = x at *
  split at h3 <;> omega
theorem u64_ofNat {n : Nat} (h : n < 18446744073709551616) : (UInt64.ofNat n).toNat = n := by rw [UInt64.toNat_ofNat']; omega
end Go.Lg
namespace Go.Lg
attribute [local irreducible] w64 toU64 toU8 shlU shrU shlB shrB
/-! ### classes -/
def cls (v : Nat) : Nat := if v = 0 then 0 else if v < 128 then 1 else if v < 1048576 then 2 else 3
def sz : Nat → Nat | 0 => 0 | 1 => 7 | 2 => 20 | _ => 64
theorem cls_le (v : Nat) : cls v ≤ 3 := by unfold cls; split <;> (try split) <;> (try split) <;> omega
theorem cls_lt {v : Nat} (h : v < 2 ^ 64) : v < 2 ^ sz (cls v) := by
  unfold cls
  split
  · subst_vars; decide
  · split
    · simpa [sz] using by omega
    · split
      · simpa [sz] using by omega
      · simpa [sz] using h
theorem sz_le (c : Nat) : sz c ≤ 64 := by unfold sz; split <;> omega
theorem sizes_at {c : Nat} (h : c ≤ 3) : idx [0, 7, 20, 64] (c : Int) = some ((sz c : Nat) : Int) := by
  match c, h with
  | 0, _ => rfl
  | 1, _ => rfl
  | 2, _ => rfl
  | 3, _ => rfl
theorem shr0 (a : UInt64) {n : Nat} (h : n ≤ 64) : (shrU a n = 0) ↔ a.toNat < 2 ^ n := by
  rw [← UInt64.toNat_inj, shrU_nat a h]
  have := two_pow_pos' n
  rw [show (0 : UInt64).toNat = 0 from rfl, Nat.div_eq_zero_iff]; omega
theorem class_eq (v : UInt64) : vary_class v = some ((cls v.toNat : Nat) : Int) := by
  have T0 : (toU64 0).toNat = 0 := toU64_nat (x := 0) (by omega)
  have T1 : (toU64 7).toNat = 7 := toU64_nat (x := 7) (by omega)
  have T2 : (toU64 20).toNat = 20 := toU64_nat (x := 20) (by omega)
  have T3 : (toU64 64).toNat = 64 := toU64_nat (x := 64) (by omega)
  have hv := UInt64.toNat_lt v
  have r : ∀ (c : Nat) (hc : c ≤ 3), vary_class_lp1 v [0, 7, 20, 64] (c : Int) = if v.toNat < 2 ^ sz c then some (.out (c : Int)) else some (.next ((c + 1 : Nat) : Int)) := by
    intro c hc
    unfold vary_class_lp1
    rw [bifT (by rw [decide_eq_true_eq]; omega), sizes_at hc, bind_some, toU64_nat (by have := sz_le c; omega)]
    by_cases h : v.toNat < 2 ^ sz c
    · rw [if_pos h, bifT (by rw [decide_eq_true_eq]; exact (shr0 v (sz_le c)).2 h)]; rfl
    · rw [if_neg h, bifF (by rw [decide_eq_false_iff_not]; exact fun e => h ((shr0 v (sz_le c)).1 e)), w64_succ (by omega)]
  unfold vary_class
  rw [show vary_sizes = some [0, 7, 20, 64] from rfl, bind_some]
  have r0 := r 0 (by omega); have r1 := r 1 (by omega); have r2 := r 2 (by omega); have r3 := r 3 (by omega)
  simp only [sz] at r0 r1 r2 r3
  show flow (loop (vary_class_lp1 v [0, 7, 20, 64]) ((0 : Nat) : Int)) _ = _
  unfold cls
  by_cases h0 : v.toNat = 0
  · rw [if_pos (by omega)] at r0; rw [loop_out r0, if_pos h0]; rfl
  rw [if_neg (by omega)] at r0; rw [loop_next r0, if_neg h0]
  by_cases h1 : v.toNat < 128
  · rw [if_pos h1] at r1; rw [loop_out r1, if_pos h1]; rfl
  rw [if_neg h1] at r1; rw [loop_next r1, if_neg h1]
  by_cases h2 : v.toNat < 1048576
  · rw [if_pos h2] at r2; rw [loop_out r2, if_pos h2]; rfl
  rw [if_neg h2] at r2; rw [loop_next r2, if_neg h2]
  rw [if_pos hv] at r3; rw [loop_out r3]; rfl
/-! ### the small form -/
def smallBits (v : Nat) : List Int := rowN (cls v) 2 ++ rowN v (sz (cls v))
theorem toU64_n {x : Nat} (h : x < 18446744073709551616) : toU64 (x : Int) = UInt64.ofNat x := by
  apply UInt64.toNat_inj.1; rw [toU64_nat h, u64_ofNat h]
theorem WR.small_ {w : bitio_Writer} {L : List Int} (h : WR w L) (v : UInt64) (hs : L.length + 66 ≤ 1000000) : ∃ w', vary_Put w v = some w' ∧ WR w' (L ++ smallBits v.toNat) := by
  have hc := cls_le v.toNat
  have hz := sz_le (cls v.toNat)
  have hcn : (UInt64.ofNat (cls v.toNat)).toNat = cls v.toNat := u64_ofNat (by omega)
  obtain ⟨w1, h1, h2⟩ := h.put (v := UInt64.ofNat (cls v.toNat)) (n := 2) (by omega) (by rw [hcn]; omega) (by omega)
  rw [hcn] at h2
  obtain ⟨w2, h3, h4⟩ := h2.put (v := v) (n := sz (cls v.toNat)) hz (cls_lt (UInt64.toNat_lt v)) (by rw [List.length_append, rowN_len]; omega)
  refine ⟨w2, ?_, by unfold smallBits; rw [← List.append_assoc]; exact h4⟩
  unfold vary_Put
  rw [class_eq, bind_some, toU64_n (by omega)]
  have h1' : bitio_Writer_Put w (UInt64.ofNat (cls v.toNat)) 2 = some (true, w1) := h1
  rw [h1', bind_some]
  dsimp only
  rw [show vary_sizes = some [0, 7, 20, 64] from rfl, bind_some, sizes_at hc, bind_some, h3]
  rfl
/-- what the document reads -/
structure GotS where
  v : Nat
  n : Nat
  e : Int
def getSmall (l : List Int) : GotS :=
  if l.length < 2 then ⟨0, 0, 2⟩ else
  let c := dv (l.take 2)
  if l.length - 2 < sz c then ⟨0, 0, 2⟩ else
  let v := dv ((l.drop 2).take (sz c))
  if cls v = c then ⟨v, 2 + sz c, 0⟩ else ⟨0, 0, 3⟩
theorem dv_take_lt {l : List Int} (h : Bit l) (k : Nat) (hk : k ≤ 64) : dv (l.take k) < 18446744073709551616 := by
  have h1 := dv_lt (h.take k)
  have h2 : 2 ^ (l.take k).length ≤ 2 ^ 64 := Nat.pow_le_pow_right (by omega) (by rw [List.length_take]; omega)
  omega
theorem dv2 {l : List Int} (hb : Bit l) (h : 2 ≤ l.length) : w64 ((w64 ((2 : Int) * l[0])) + l[1]) = ((dv (l.take 2) : Nat) : Int) ∧ dv (l.take 2) ≤ 3 := by
  match l, h with
  | x :: y :: l, _ =>
    have hx := hb x (by simp)
    have hy := hb y (by simp)
    simp only [List.getElem_cons_zero, List.getElem_cons_succ, List.take_succ_cons, List.take_zero]
    rcases hx with e | e <;> rcases hy with f | f <;> subst e <;> subst f
    · refine ⟨?_, by decide⟩; rw [w64_id (x := 2 * 0) (by omega) (by omega), w64_id (by omega) (by omega)]; rfl
    · refine ⟨?_, by decide⟩; rw [w64_id (x := 2 * 0) (by omega) (by omega), w64_id (by omega) (by omega)]; rfl
    · refine ⟨?_, by decide⟩; rw [w64_id (x := 2 * 1) (by omega) (by omega), w64_id (by omega) (by omega)]; rfl
    · refine ⟨?_, by decide⟩; rw [w64_id (x := 2 * 1) (by omega) (by omega), w64_id (by omega) (by omega)]; rfl
theorem dv_take_drop {l : List Int} (hb : Bit l) {n m : Nat} (h : n + m ≤ l.length) : dv ((l.drop n).take m) = dv (l.take (n + m)) % 2 ^ m ∧ dv (l.take (n + m)) = dv (l.take n) * 2 ^ m + dv ((l.drop n).take m) := by
  have e : l.take (n + m) = l.take n ++ (l.drop n).take m := by rw [List.take_add]
  have hl : ((l.drop n).take m).length = m := by rw [List.length_take, List.length_drop]; omega
  have h2 : dv (l.take (n + m)) = dv (l.take n) * 2 ^ m + dv ((l.drop n).take m) := by rw [e, dv_append, hl]
  have h3 := dv_lt ((hb.drop n).take m)
  rw [hl] at h3
  refine ⟨?_, h2⟩
  rw [h2, Nat.add_comm, Nat.add_mul_mod_self_right, Nat.mod_eq_of_lt h3]
theorem wide_eq {r : bitio_Reader} {A : List Int} {p : Nat} (h : RA r A p) (hp : p + 66 ≤ A.length) : vary_wide r 2 = some (UInt64.ofNat (dv (((A.drop p).drop 2).take 64))) := by
  have l1 := h.look (k := 64) (by omega) (by omega)
  obtain ⟨r', s1, s2, _⟩ := h.skip (k := 64) (by omega)
  have l2 := s2.look (k := 2) (by omega) (by omega)
  have T : (toU64 2).toNat = 2 := toU64_nat (x := 2) (by omega)
  have hb := h.bit.drop p
  have hlen : (A.drop p).length = A.length - p := List.length_drop
  have d1 := dv_take_drop hb (n := 2) (m := 64) (by omega)
  have d2 := dv_take_drop hb (n := 64) (m := 2) (by omega)
  rw [List.drop_drop] at d2
  have b1 := dv_take_lt hb 64 (by omega)
  have b2 : dv ((A.drop (p + 64)).take 2) < 4 := by
    have := dv_lt ((h.bit.drop (p + 64)).take 2)
    rw [List.length_take, List.length_drop, Nat.min_eq_left (by omega)] at this
    exact this
  unfold vary_wide
  have l1' : bitio_Reader_Look r 64 = _ := l1
  have s1' : bitio_Reader_Skip r 64 = _ := s1
  have l2' : bitio_Reader_Look r' 2 = _ := l2
  rw [l1', bind_some]
  dsimp only
  rw [s1', bind_some]
  dsimp only
  rw [l2', bind_some]
  dsimp only
  rw [lett_eq, T]
  congr 1
  apply UInt64.toNat_inj.1
  rw [d1.1, show 2 + 64 = 64 + 2 from rfl, d2.2]
  rw [UInt64.toNat_or, u64_ofNat (by omega), u64_ofNat (Nat.mod_lt _ (by omega))]
  have hs : (shlU (UInt64.ofNat (dv ((A.drop p).take 64))) 2).toNat = (dv ((A.drop p).take 64) % 2 ^ 62) * 2 ^ 2 := by
    unfold shlU
    rw [UInt64.toNat_ofNat', u64_ofNat b1]
    rw [show min 2 64 = 2 from rfl]
    omega
  rw [hs, or_add (by omega)]
  omega
theorem get_eq {r : bitio_Reader} {A : List Int} {p : Nat} (h : RA r A p) : ∃ r', vary_Get r = some (UInt64.ofNat (getSmall (A.drop p)).v, (getSmall (A.drop p)).e, r') ∧ RA r' A (p + (getSmall (A.drop p)).n) ∧ ((getSmall (A.drop p)).e ≠ 0 → r' = r) := by
  have hlen : (A.drop p).length = A.length - p := List.length_drop
  have hb := h.bit.drop p
  have hle := h.le
  have hbig : A.length ≤ 8000000 := by have := h.len; have := h.small; omega
  unfold vary_Get getSmall
  by_cases h1 : (A.drop p).length < 2
  · rw [if_pos h1]
    have l1 : bitio_Reader_Look r 2 = some (0, false) := h.lookNo (k := 2) (by omega)
    refine ⟨r, ?_, h, fun _ => rfl⟩
    rw [l1, bind_some]; rfl
  rw [if_neg h1]
  have l1 : bitio_Reader_Look r 2 = some (UInt64.ofNat (dv ((A.drop p).take 2)), true) := h.look (k := 2) (by omega) (by omega)
  have d2 := (dv2 hb (by omega)).2
  have hz := sz_le (dv ((A.drop p).take 2))
  have hv := dv_take_lt (hb.drop 2) _ hz
  dsimp only
  rw [l1, bind_some]
  dsimp only
  rw [bifF (by rfl), show vary_sizes = some [0, 7, 20, 64] from rfl, bind_some, u64_ofNat (by omega), sizes_at d2, bind_some, h.left, bind_some]
  have e2 : w64 (2 + ((sz (dv ((A.drop p).take 2)) : Nat) : Int)) = ((2 + sz (dv ((A.drop p).take 2)) : Nat) : Int) := w64_addN (a := 2) (by omega)
  rw [e2]
  clear e2
  have hsz : sz (dv ((A.drop p).take 2)) = 0 ∨ sz (dv ((A.drop p).take 2)) = 7 ∨ sz (dv ((A.drop p).take 2)) = 20 ∨ sz (dv ((A.drop p).take 2)) = 64 := by
    generalize dv ((A.drop p).take 2) = c at d2
    match c, d2 with
    | 0, _ => exact .inl rfl
    | 1, _ => exact .inr (.inl rfl)
    | 2, _ => exact .inr (.inr (.inl rfl))
    | 3, _ => exact .inr (.inr (.inr rfl))
  generalize hc : dv ((A.drop p).take 2) = c at *
  generalize hn : sz c = n at *
  by_cases h2 : (A.drop p).length - 2 < n
  · rw [if_pos h2, bifTd (by omega)]
    exact ⟨r, rfl, h, fun _ => rfl⟩
  rw [if_neg h2, bifFd (by omega)]
  have hlook : (bitio_Reader_Look r (min ((2 + n : Nat) : Int) 64)) = some (UInt64.ofNat (dv ((A.drop p).take (min (2 + n) 64))), true) := by
    have := h.look (k := min (2 + n) 64) (by omega) (by omega)
    rw [← this]; congr 1; omega
  rw [hlook, bind_some]
  dsimp only
  have hval : (bif decide ((n : Int) < 64) then lett (UInt64.ofNat (dv ((A.drop p).take (min (2 + n) 64))) &&& (shlU (1 : UInt64) ((toU64 (n : Int)).toNat) - 1)) fun v80 => some v80 else (vary_wide r 2).bind fun r83 => some r83) = some (UInt64.ofNat (dv (((A.drop p).drop 2).take n))) := by
    by_cases h64 : n = 64
    · subst h64
      rw [bifFd (by omega), wide_eq h (by omega)]; rfl
    · have hn2 : n ≤ 20 := by omega
      have d1 := (dv_take_drop hb (n := 2) (m := n) (by omega)).1
      rw [bifTd (by omega), lett_eq, toU64_nat (by omega)]
      congr 1
      apply UInt64.toNat_inj.1
      rw [mask_nat _ (by omega), u64_ofNat hv, d1, u64_ofNat (dv_take_lt hb _ (by omega)), Nat.min_eq_left (by omega)]
  rw [hval, bind_some, class_eq, bind_some, u64_ofNat hv, w64_nat (by omega)]
  by_cases h3 : cls (dv (((A.drop p).drop 2).take n)) = c
  · obtain ⟨r', s1, s2, _⟩ := h.skip (k := 2 + n) (by omega)
    rw [if_pos h3, bifF (by rw [h3]; simp), s1, bind_some]
    exact ⟨r', rfl, s2, fun h => absurd rfl h⟩
  · rw [if_neg h3, bifT (by rw [decide_eq_false (fun e => h3 (by omega))]; rfl)]
    exact ⟨r, rfl, h, fun _ => rfl⟩
/-! ### signed as unsigned -/
def zz (x : Int) : Nat := if 0 ≤ x then (2 * x).toNat else (-2 * x - 1).toNat
def zag (u : Nat) : Int := if u % 2 = 0 then ((u / 2 : Nat) : Int) else -1 - ((u / 2 : Nat) : Int)
theorem zz_lt {x : Int} (h : I64 x) : zz x < 18446744073709551616 := by unfold I64 at h; unfold zz; split <;> omega
theorem xorAll (x : UInt64) : (x ^^^ (18446744073709551615 : UInt64)).toNat = 18446744073709551615 - x.toNat := by
  have : (x ^^^ (18446744073709551615 : UInt64)) = ~~~ x := by
    apply UInt64.toBitVec_inj.1
    rw [UInt64.toBitVec_xor, UInt64.toBitVec_not]
    exact BitVec.xor_allOnes
  rw [this, UInt64.toNat_not]; rfl
theorem zig_eq {x : Int} (h : I64 x) : pack_Zig x = some (UInt64.ofNat (zz x)) := by
  have h' := h
  unfold I64 at h
  unfold pack_Zig
  rw [lett_eq]
  congr 1
  have e1 : (1 : UInt64).toNat = 1 := rfl
  have e63 : (63 : UInt64).toNat = 63 := rfl
  have hu := toU64_toNat x
  have hs : (shlU (toU64 x) 1).toNat = ((toU64 x).toNat * 2) % 18446744073709551616 := by
    unfold shlU
    rw [UInt64.toNat_ofNat']; rfl
  have hsh : shrI x 63 = if 0 ≤ x then 0 else -1 := by
    unfold shrI
    rw [show (2 : Int) ^ min 63 64 = 9223372036854775808 by decide]
    split <;> omega
  rw [e1, e63, hsh]
  apply UInt64.toNat_inj.1
  rw [u64_ofNat (zz_lt h')]
  unfold zz
  by_cases h0 : 0 ≤ x
  · rw [if_pos h0, if_pos h0]
    have : toU64 0 = 0 := by apply UInt64.toNat_inj.1; exact toU64_nat (x := 0) (by omega)
    rw [this, UInt64.xor_zero, hs]
    omega
  · rw [if_neg h0, if_neg h0]
    have : toU64 (-1) = 18446744073709551615 := by
      apply UInt64.toNat_inj.1
      have := toU64_toNat (-1)
      have e : (18446744073709551615 : UInt64).toNat = 18446744073709551615 := rfl
      omega
    rw [this, xorAll, hs]
    omega
theorem zag_eq (u : UInt64) : pack_Zag u = some (zag u.toNat) := by
  have hu := UInt64.toNat_lt u
  have e1 : (1 : UInt64).toNat = 1 := rfl
  have hd : (shrU u 1).toNat = u.toNat / 2 := shrU_nat u (by omega)
  have ha : (u &&& 1).toNat = u.toNat % 2 := by
    rw [UInt64.toNat_and]
    exact Nat.and_two_pow_sub_one_eq_mod u.toNat 1
  unfold pack_Zag zag
  rw [lett_eq, e1, hd, ha, w64_nat (by omega), w64_nat (by omega)]
  congr 1
  by_cases h0 : u.toNat % 2 = 0
  · rw [if_pos h0, h0, w64_id (by omega) (by omega)]
    unfold xorI
    rw [show ((0 : Int) - ((0 : Nat) : Int)) = 0 from rfl, show BitVec.ofInt 64 0 = 0#64 from rfl, BitVec.xor_zero, BitVec.toNat_ofInt, w64_id (by omega) (by omega)]
    omega
  · rw [if_neg h0, show u.toNat % 2 = 1 by omega, w64_id (by omega) (by omega)]
    unfold xorI
    rw [show ((0 : Int) - ((1 : Nat) : Int)) = -1 from rfl, show BitVec.ofInt 64 (-1) = BitVec.allOnes 64 from rfl, BitVec.xor_allOnes, BitVec.toNat_not, BitVec.toNat_ofInt]
    unfold w64
    omega
theorem getInt_eq {r : bitio_Reader} {A : List Int} {p : Nat} (h : RA r A p) : ∃ r', vary_GetInt r = some (zag (getSmall (A.drop p)).v, (getSmall (A.drop p)).e, r') ∧ RA r' A (p + (getSmall (A.drop p)).n) ∧ ((getSmall (A.drop p)).e ≠ 0 → r' = r) := by
  obtain ⟨r', h1, h2, h3⟩ := get_eq h
  refine ⟨r', ?_, h2, h3⟩
  unfold vary_GetInt
  rw [h1, bind_some]
  dsimp only
  have hv : (getSmall (A.drop p)).v < 18446744073709551616 := by
    unfold getSmall
    split
    · simp
    · dsimp only
      split
      · simp
      · split
        · exact dv_take_lt ((h.bit.drop p).drop 2) _ (sz_le _)
        · simp
  rw [zag_eq, bind_some, u64_ofNat hv]
theorem WR.int {w : bitio_Writer} {L : List Int} (h : WR w L) {x : Int} (hx : I64 x) (hs : L.length + 66 ≤ 1000000) : ∃ w', vary_PutInt w x = some w' ∧ WR w' (L ++ smallBits (zz x)) := by
  obtain ⟨w', h1, h2⟩ := h.small_ (UInt64.ofNat (zz x)) hs
  rw [u64_ofNat (zz_lt hx)] at h2
  refine ⟨w', ?_, h2⟩
  unfold vary_PutInt
  rw [zig_eq hx, bind_some, h1]; rfl
/-! ### ways -/
def wy (d : Int) : Nat := if d = 0 then 0 else if -32 ≤ d ∧ d < 32 then 1 else if -512 ≤ d ∧ d < 512 then 2 else if -32768 ≤ d ∧ d < 32768 then 3 else 4
def wd : Nat → Nat | 0 => 0 | 1 => 6 | 2 => 10 | 3 => 16 | _ => 64
theorem wy_le (d : Int) : wy d ≤ 4 := by unfold wy; split <;> (try split) <;> (try split) <;> (try split) <;> omega
theorem wd_le (k : Nat) : wd k ≤ 64 := by unfold wd; split <;> omega
theorem widths_at {c : Nat} (h : c ≤ 4) : idx [0, 6, 10, 16, 64] (c : Int) = some ((wd c : Nat) : Int) := by
  match c, h with
  | 0, _ => rfl
  | 1, _ => rfl
  | 2, _ => rfl
  | 3, _ => rfl
  | 4, _ => rfl
def inW (d : Int) : Nat → Bool
  | 0 => decide (d = 0)
  | 1 => decide (-32 ≤ d ∧ d < 32)
  | 2 => decide (-512 ≤ d ∧ d < 512)
  | 3 => decide (-32768 ≤ d ∧ d < 32768)
  | _ => true
theorem fits_eq {d : Int} {k : Nat} (hk : k ≤ 4) : vary_fits d ((wd k : Nat) : Int) = some (inW d k) := by
  have t5 : (toU64 5).toNat = 5 := toU64_nat (x := 5) (by omega)
  have t9 : (toU64 9).toNat = 9 := toU64_nat (x := 9) (by omega)
  have t15 : (toU64 15).toNat = 15 := toU64_nat (x := 15) (by omega)
  have key : ∀ m : Nat, m = 5 ∨ m = 9 ∨ m = 15 → shlI (-1) m = -2 ^ m ∧ shlI 1 m = 2 ^ m := by
    intro m hm
    rcases hm with e | e | e <;> subst e <;> (unfold shlI; constructor <;> rw [w64_id] <;> decide)
  unfold vary_fits
  match k, hk with
  | 0, _ =>
    rw [lett_eq, show ((wd 0 : Nat) : Int) = 0 from rfl, bifTd rfl, lett_eq]
    rfl
  | 1, _ =>
    rw [lett_eq, show ((wd 1 : Nat) : Int) = 6 from rfl, bifFd (by omega), lett_eq, bifFd (by omega), lett_eq, show w64 (6 - 1) = 5 from w64_id (by omega) (by omega), t5, (key 5 (by simp)).1, (key 5 (by simp)).2, ← Bool.decide_and]
    rfl
  | 2, _ =>
    rw [lett_eq, show ((wd 2 : Nat) : Int) = 10 from rfl, bifFd (by omega), lett_eq, bifFd (by omega), lett_eq, show w64 (10 - 1) = 9 from w64_id (by omega) (by omega), t9, (key 9 (by simp)).1, (key 9 (by simp)).2, ← Bool.decide_and]
    rfl
  | 3, _ =>
    rw [lett_eq, show ((wd 3 : Nat) : Int) = 16 from rfl, bifFd (by omega), lett_eq, bifFd (by omega), lett_eq, show w64 (16 - 1) = 15 from w64_id (by omega) (by omega), t15, (key 15 (by simp)).1, (key 15 (by simp)).2, ← Bool.decide_and]
    rfl
  | 4, _ =>
    rw [lett_eq, show ((wd 4 : Nat) : Int) = 64 from rfl, bifFd (by omega), lett_eq, bifTd rfl]
    rfl
theorem way_eq (d : Int) : vary_way d = some ((wy d : Nat) : Int) := by
  have r : ∀ (c : Nat) (hc : c ≤ 4), vary_way_lp1 d [0, 6, 10, 16, 64] (c : Int) = bif inW d c then some (.out (c : Int)) else some (.next ((c + 1 : Nat) : Int)) := by
    intro c hc
    unfold vary_way_lp1
    rw [bifTd (by omega), widths_at hc, bind_some, fits_eq hc, bind_some, w64_succ (by omega)]
    rfl
  unfold vary_way
  rw [show vary_widths = some [0, 6, 10, 16, 64] from rfl, bind_some]
  have r0 := r 0 (by omega); have r1 := r 1 (by omega); have r2 := r 2 (by omega); have r3 := r 3 (by omega); have r4 := r 4 (by omega)
  show flow (loop (vary_way_lp1 d [0, 6, 10, 16, 64]) ((0 : Nat) : Int)) _ = _
  unfold wy
  by_cases h0 : d = 0
  · rw [show inW d 0 = true from decide_eq_true h0, cond_true] at r0; rw [loop_out r0, if_pos h0]; rfl
  rw [show inW d 0 = false from decide_eq_false h0, cond_false] at r0; rw [loop_next r0, if_neg h0]
  by_cases h1 : -32 ≤ d ∧ d < 32
  · rw [show inW d 1 = true from decide_eq_true h1, cond_true] at r1; rw [loop_out r1, if_pos h1]; rfl
  rw [show inW d 1 = false from decide_eq_false h1, cond_false] at r1; rw [loop_next r1, if_neg h1]
  by_cases h2 : -512 ≤ d ∧ d < 512
  · rw [show inW d 2 = true from decide_eq_true h2, cond_true] at r2; rw [loop_out r2, if_pos h2]; rfl
  rw [show inW d 2 = false from decide_eq_false h2, cond_false] at r2; rw [loop_next r2, if_neg h2]
  by_cases h3 : -32768 ≤ d ∧ d < 32768
  · rw [show inW d 3 = true from decide_eq_true h3, cond_true] at r3; rw [loop_out r3, if_pos h3]; rfl
  rw [show inW d 3 = false from decide_eq_false h3, cond_false] at r3; rw [loop_next r3, if_neg h3]
  rw [show inW d 4 = true from rfl, cond_true] at r4; rw [loop_out r4]; rfl
/-! ### a difference's bits -/
def ones (k : Nat) : List Int := List.replicate k 1
def headBits (k : Nat) : List Int := if k < 4 then ones k ++ [0] else ones k
def stepBits (d : Int) : List Int := headBits (wy d) ++ rowN (toU64 d).toNat (wd (wy d))
theorem headBits_len {k : Nat} (h : k ≤ 4) : (headBits k).length = min (k + 1) 4 := by
  unfold headBits ones; split <;> simp <;> omega
theorem rowN_mod (v n : Nat) : rowN (v % 2 ^ n) n = rowN v n :=
  dv_inj (rowN_bit _ _) (rowN_bit _ _) (by rw [rowN_len, rowN_len]) (by rw [rowN_dv, rowN_dv, Nat.mod_mod])
/-! ### a row's state -/
theorem WR.ones_ {w : bitio_Writer} {L : List Int} (h : WR w L) (k : Nat) (hk : k ≤ 4) (hs : L.length + 4 ≤ 1000000) : ∃ w', loop (vary_Row_Put_lp1 (k : Int)) (w.b, w.n, 0) = some (.go (w'.b, w'.n)) ∧ WR w' (L ++ ones k) := by
  have key : ∀ (m i : Nat) (w : bitio_Writer), i + m = k → WR w (L ++ ones i) → ∃ w', loop (vary_Row_Put_lp1 (k : Int)) (w.b, w.n, (i : Int)) = some (.go (w'.b, w'.n)) ∧ WR w' (L ++ ones k) := by
    intro m
    induction m with
    | zero =>
      intro i w hi hw
      obtain rfl : i = k := by omega
      refine ⟨w, loop_brk ?_, hw⟩
      unfold vary_Row_Put_lp1
      dsimp only
      rw [bifFd (by omega)]
    | succ m ih =>
      intro i w hi hw
      have hol : (ones i).length = i := by simp [ones]
      obtain ⟨w1, h1, h2⟩ := hw.put (v := 1) (n := 1) (by omega) (by decide) (by rw [List.length_append, hol]; omega)
      have hro : rowN (1 : UInt64).toNat 1 = [1] := by decide
      rw [hro, List.append_assoc, show ones i ++ [1] = ones (i + 1) by simp [ones, List.replicate_succ']] at h2
      obtain ⟨w', h3, h4⟩ := ih (i + 1) w1 (by omega) h2
      refine ⟨w', ?_, h4⟩
      rw [loop_next (s' := (w1.b, w1.n, ((i + 1 : Nat) : Int))), h3]
      have h1' : bitio_Writer_Put ⟨w.b, w.n⟩ 1 1 = some (true, w1) := h1
      unfold vary_Row_Put_lp1
      dsimp only
      rw [bifTd (by omega), h1', bind_some]
      dsimp only
      rw [w64_succ (by omega)]
  have h0 : WR w (L ++ ones 0) := by simpa [ones] using h
  exact key k 0 w (by omega) h0
theorem WR.head_ {w1 : bitio_Writer} {L : List Int} {k : Nat} (h2 : WR w1 (L ++ ones k)) (hk : k ≤ 4) (hs : L.length + 5 ≤ 1000000) :
    ∃ w', (bif decide ((k : Int) < 4) then (bitio_Writer_Put (bitio_Writer.mk w1.b w1.n) (0 : UInt64) 1).bind fun (r133, r134) => some (r134.b, r134.n) else some (w1.b, w1.n)) = some (w'.b, w'.n) ∧ WR w' (L ++ headBits k) := by
  unfold headBits
  by_cases hlt : k < 4
  · obtain ⟨w2, h3, h4⟩ := h2.put (v := 0) (n := 1) (by omega) (by decide) (by simp [ones]; omega)
    have hro : rowN (0 : UInt64).toNat 1 = [0] := by decide
    rw [hro, List.append_assoc] at h4
    have h3' : bitio_Writer_Put ⟨w1.b, w1.n⟩ 0 1 = some (true, w2) := h3
    exact ⟨w2, by rw [bifTd (by omega), h3', bind_some], by rw [if_pos hlt]; exact h4⟩
  · exact ⟨w1, by rw [bifFd (by omega)], by rw [if_neg hlt]; exact h2⟩
/-- a number's low bits, shifted up and down -/
theorem low_bits (u : UInt64) {n : Nat} (hn : n ≤ 64) : (shrU (shlU u (64 - n)) (64 - n)).toNat = u.toNat % 2 ^ n := by
  rw [shrU_nat _ (by omega)]
  unfold shlU
  rw [Nat.min_eq_left (by omega), UInt64.toNat_ofNat', show 2 ^ 64 = 2 ^ n * 2 ^ (64 - n) by rw [← Nat.pow_add, show n + (64 - n) = 64 by omega], Nat.mul_mod_mul_right, Nat.mul_div_cancel _ (two_pow_pos' _)]
/-- the state behind i numbers -/
structure RowS (x : vary_Row) (l : List Int) : Prop where
  n : x.n = (l.length : Int)
  last : ∀ (h : 0 < l.length), x.last = toU64 (l[l.length - 1])
  last0 : l.length = 0 → x.last = 0
  step : ∀ (h : 2 ≤ l.length), x.step = toU64 (l[l.length - 1]) - toU64 (l[l.length - 2])
  all : ∀ y ∈ l, I64 y
  small : l.length ≤ 1000000
theorem RowS.new : RowS ⟨0, 0, 0⟩ [] := ⟨rfl, fun h => by simp at h, fun _ => rfl, fun h => by simp at h, fun y h => by simp at h, by simp⟩
/-- what the next number's bits are -/
def nextBits (l : List Int) (x : Int) : List Int :=
  if l.length = 0 then smallBits (zz x)
  else if l.length = 1 then smallBits (zz (sg (toU64 x - toU64 (l.getD 0 0))))
  else stepBits (sg (toU64 x - 2 * toU64 (l.getD (l.length - 1) 0) + toU64 (l.getD (l.length - 2) 0)))
theorem RowS.follow {x : vary_Row} {l : List Int} (h : RowS x l) {y : Int} (hy : I64 y) (hs : l.length + 1 ≤ 1000000) : ∃ x', vary_Row_follow x (toU64 y) = some x' ∧ RowS x' (l ++ [y]) := by
  unfold vary_Row_follow
  have hall : ∀ z ∈ l ++ [y], I64 z := fun z hz => (List.mem_append.1 hz).elim (h.all z) (fun e => by simp at e; subst e; exact hy)
  have e1 : w64 (x.n + 1) = ((l.length + 1 : Nat) : Int) := by rw [h.n, w64_succ (by omega)]
  by_cases h0 : 0 < l.length
  · rw [bifTd (by rw [h.n]; omega), lett_eq, bind_some, lett_eq, e1]
    refine ⟨_, rfl, ⟨by simp, fun _ => by simp, fun hl => by simp at hl, fun _ => ?_, hall, by simpa using hs⟩⟩
    dsimp only
    rw [h.last h0]
    simp only [List.getElem_append, List.length_append, List.length_singleton]
    rw [dif_neg (by omega), dif_pos (by omega)]
    simp
  · have hl : l = [] := List.eq_nil_of_length_eq_zero (by omega)
    rw [bifFd (by rw [h.n]; omega), bind_some, lett_eq, e1]
    subst hl
    exact ⟨_, rfl, ⟨rfl, fun _ => rfl, fun hl => by simp at hl, fun hl => by simp at hl, hall, by simp⟩⟩
theorem RowS.put {x : vary_Row} {l : List Int} (h : RowS x l) {w : bitio_Writer} {L : List Int} (hw : WR w L) {y : Int} (hy : I64 y) (hs : l.length + 1 ≤ 1000000) (hL : L.length + 68 ≤ 1000000) :
    ∃ x' w', vary_Row_Put x w y = some (x', w') ∧ RowS x' (l ++ [y]) ∧ WR w' (L ++ nextBits l y) := by
  obtain ⟨x', f1, f2⟩ := h.follow hy hs
  unfold vary_Row_Put nextBits
  by_cases h0 : l.length = 0
  · obtain ⟨w', p1, p2⟩ := hw.int hy (by omega)
    refine ⟨x', w', ?_, f2, by rw [if_pos h0]; exact p2⟩
    rw [lett_eq, bifTd (by rw [h.n]; omega), p1, bind_some, bind_some]
    dsimp only
    rw [f1]; rfl
  by_cases h1 : l.length = 1
  · have hl : x.last = toU64 (l.getD 0 0) := by rw [h.last (by omega), getD_lt (by omega)]; congr 2; omega
    obtain ⟨w', p1, p2⟩ := hw.int (sg_I64 (toU64 y - toU64 (l.getD 0 0))) (by omega)
    refine ⟨x', w', ?_, f2, by rw [if_neg h0, if_pos h1]; exact p2⟩
    have p1' : vary_PutInt w (w64 ((toU64 y - x.last).toNat : Int)) = some w' := by rw [hl]; exact p1
    rw [lett_eq, bifFd (by rw [h.n]; omega), lett_eq, bifTd (by rw [h.n]; omega), p1', bind_some, bind_some]
    dsimp only
    rw [f1]; rfl
  have hd : toU64 y - x.last - x.step = toU64 y - 2 * toU64 (l.getD (l.length - 1) 0) + toU64 (l.getD (l.length - 2) 0) := by
    rw [h.last (by omega), h.step (by omega), getD_lt (by omega), getD_lt (by omega)]
    grind
  rw [if_neg h0, if_neg h1]
  generalize hg : toU64 y - 2 * toU64 (l.getD (l.length - 1) 0) + toU64 (l.getD (l.length - 2) 0) = g at *
  have hk := wy_le (sg g)
  have hwl := wd_le (wy (sg g))
  obtain ⟨w0, q1, q0⟩ := hw.ones_ (wy (sg g)) hk (by omega)
  obtain ⟨w1, qh, q2⟩ := q0.head_ hk (by omega)
  have hvn : (shrU (shlU g (64 - wd (wy (sg g)))) (64 - wd (wy (sg g)))).toNat = g.toNat % 2 ^ wd (wy (sg g)) := low_bits g hwl
  obtain ⟨w2, q3, q4⟩ := q2.put (v := shrU (shlU g (64 - wd (wy (sg g)))) (64 - wd (wy (sg g)))) (n := wd (wy (sg g))) hwl (by rw [hvn]; exact Nat.mod_lt _ (two_pow_pos' _)) (by rw [List.length_append, headBits_len hk]; omega)
  rw [hvn, rowN_mod, List.append_assoc] at q4
  refine ⟨x', w2, ?_, f2, by unfold stepBits; rw [toU64_sg]; exact q4⟩
  have hT : (toU64 ((64 - wd (wy (sg g)) : Nat) : Int)).toNat = 64 - wd (wy (sg g)) := toU64_nat (by omega)
  rw [lett_eq, bifFd (by rw [h.n]; omega), lett_eq, bifFd (by rw [h.n]; omega), lett_eq, hd, show w64 (g.toNat : Int) = sg g from rfl, way_eq, bind_some, q1, flow_go, bind_some]
  dsimp only
  rw [qh, bind_some]
  dsimp only
  have q3' : bitio_Writer_Put ⟨w1.b, w1.n⟩ _ _ = _ := q3
  rw [show vary_widths = some [0, 6, 10, 16, 64] from rfl, bind_some, widths_at hk, bind_some, show w64 (64 - ((wd (wy (sg g)) : Nat) : Int)) = ((64 - wd (wy (sg g)) : Nat) : Int) from w64_subN (a := 64) hwl (by omega), hT, toU64_sg, q3', bind_some, bind_some]
  dsimp only
  rw [f1]; rfl
end Go.Lg
namespace Go.Lg
attribute [local irreducible] w64 toU64 toU8 shlU shrU shlB shrB
/-! ### a difference is read -/
def lead : Nat → List Int → Nat
  | 0, _ => 0
  | _ + 1, [] => 0
  | m + 1, x :: l => if x = 1 then 1 + lead m l else 0
theorem lead_le : ∀ (m : Nat) (l : List Int), lead m l ≤ m ∧ lead m l ≤ l.length
  | 0, l => by simp [lead]
  | m + 1, [] => by simp [lead]
  | m + 1, x :: l => by
    have := lead_le m l
    rw [lead]; split
    · simp; omega
    · simp
theorem lead_drop (l : List Int) {k m : Nat} (h : k < l.length) : lead (m + 1) (l.drop k) = if l[k] = 1 then 1 + lead m (l.drop (k + 1)) else 0 := by
  rw [List.drop_eq_getElem_cons h, lead]
theorem lead_end (l : List Int) {k m : Nat} (h : l.length ≤ k) : lead m (l.drop k) = 0 := by
  rw [List.drop_eq_nil_of_le h]
  cases m <;> rfl
/-- the sign of a way's bits -/
def sxt (k v : Nat) : Nat := if 0 < k ∧ k < 4 ∧ 2 ^ (wd k - 1) ≤ v then v + 18446744073709551616 - 2 ^ wd k else v
def getStep (l : List Int) : GotS :=
  let k := lead 4 l
  if k < 4 ∧ k = l.length then ⟨0, 0, 2⟩ else
  let a := min (k + 1) 4
  if l.length - a < wd k then ⟨0, 0, 2⟩ else
  let v := sxt k (dv ((l.drop a).take (wd k)))
  if wy (sg (UInt64.ofNat v)) = k then ⟨v, a + wd k, 0⟩ else ⟨0, 0, 3⟩
theorem wd_cases {k : Nat} (h : k ≤ 4) : (k = 0 ∧ wd k = 0) ∨ (k = 1 ∧ wd k = 6) ∨ (k = 2 ∧ wd k = 10) ∨ (k = 3 ∧ wd k = 16) ∨ (k = 4 ∧ wd k = 64) := by
  match k, h with
  | 0, _ => exact .inl ⟨rfl, rfl⟩
  | 1, _ => exact .inr (.inl ⟨rfl, rfl⟩)
  | 2, _ => exact .inr (.inr (.inl ⟨rfl, rfl⟩))
  | 3, _ => exact .inr (.inr (.inr (.inl ⟨rfl, rfl⟩)))
  | 4, _ => exact .inr (.inr (.inr (.inr ⟨rfl, rfl⟩)))
theorem sxt_lt {k v : Nat} (hk : k ≤ 4) (hv : v < 2 ^ wd k) : sxt k v < 18446744073709551616 := by
  unfold sxt
  rcases wd_cases hk with ⟨rfl, h⟩ | ⟨rfl, h⟩ | ⟨rfl, h⟩ | ⟨rfl, h⟩ | ⟨rfl, h⟩ <;> rw [h] at hv ⊢ <;> split <;> omega
theorem dv_part_lt {l : List Int} (hb : Bit l) {a k : Nat} (h : a + k ≤ l.length) : dv ((l.drop a).take k) < 2 ^ k := by
  have := dv_lt ((hb.drop a).take k)
  rwa [List.length_take, List.length_drop, Nat.min_eq_left (by omega)] at this
theorem sext_num {n m P H F v : Nat} (hm : min (64 - n) 64 = m) (hP : (2 : Nat) ^ m = P) (hH : 2 ^ (n - 1) = H) (hF : 2 ^ n = F) (hHF : F = 2 * H) (hPF : P * H = 9223372036854775808) (hv : v < F) (h0 : 0 < P) (hH0 : 0 < H) :
    ((((v * P % 18446744073709551616 : Nat) : Int) + 9223372036854775808) % 18446744073709551616 - 9223372036854775808) / (P : Int) = if (if H ≤ v then v + 18446744073709551616 - F else v) < 9223372036854775808 then (((if H ≤ v then v + 18446744073709551616 - F else v) : Nat) : Int) else (((if H ≤ v then v + 18446744073709551616 - F else v) : Nat) : Int) - 18446744073709551616 := by
  have h1 : v * P < 18446744073709551616 := by
    have h2 : v * P < F * P := Nat.mul_lt_mul_of_pos_right hv h0
    rw [hHF, Nat.mul_assoc, Nat.mul_comm H P, hPF] at h2
    omega
  have hHle : H ≤ 9223372036854775808 := by rw [← hPF]; exact Nat.le_mul_of_pos_left _ h0
  rw [Nat.mod_eq_of_lt h1]
  by_cases hc : H ≤ v
  · rw [if_pos hc, if_neg (by omega)]
    have h3 : 9223372036854775808 ≤ v * P := by rw [← hPF, Nat.mul_comm]; exact Nat.mul_le_mul_right _ hc
    have e : (((v * P : Nat) : Int) + 9223372036854775808) % 18446744073709551616 - 9223372036854775808 = ((v : Int) - (F : Int)) * (P : Int) := by
      have e2 : (F : Int) * (P : Int) = 18446744073709551616 := by
        have h7 : F * P = 18446744073709551616 := by rw [hHF, Nat.mul_assoc, Nat.mul_comm H P, hPF]
        rw [← Int.natCast_mul, h7]; rfl
      rw [Int.sub_mul, e2, ← Int.natCast_mul]
      omega
    rw [e, Int.mul_ediv_cancel _ (by omega)]
    omega
  · rw [if_neg hc]
    have h3 : v * P < 9223372036854775808 := by rw [← hPF, Nat.mul_comm P H]; exact Nat.mul_lt_mul_of_pos_right (by omega) h0
    have e : (((v * P : Nat) : Int) + 9223372036854775808) % 18446744073709551616 - 9223372036854775808 = (v : Int) * (P : Int) := by
      rw [← Int.natCast_mul]
      omega
    rw [e, Int.mul_ediv_cancel _ (by omega)]
    have : v < 9223372036854775808 := by omega
    rw [if_pos this]
theorem sext {k v : Nat} (hk : k ≤ 4) (hv : v < 2 ^ wd k) : shrI (w64 ((shlU (UInt64.ofNat v) (64 - wd k)).toNat : Int)) (64 - wd k) = sg (UInt64.ofNat (sxt k v)) := by
  have hs := sxt_lt hk hv
  have hw := wd_le k
  have hv64 : v < 18446744073709551616 := Nat.lt_of_lt_of_le hv (Nat.pow_le_pow_right (n := 2) (by omega) hw)
  rw [sg_val, u64_ofNat hs]
  have hsh : (shlU (UInt64.ofNat v) (64 - wd k)).toNat = v * 2 ^ (min (64 - wd k) 64) % 18446744073709551616 := by
    unfold shlU
    rw [UInt64.toNat_ofNat', u64_ofNat hv64]
  rw [hsh]
  have hd : ∀ x : Int, shrI (w64 x) (64 - wd k) = ((x + 9223372036854775808) % 18446744073709551616 - 9223372036854775808) / ((2 ^ min (64 - wd k) 64 : Nat) : Int) := by
    intro x; unfold shrI w64; rw [Int.natCast_pow]; rfl
  rw [hd]
  rcases wd_cases hk with ⟨rfl, h⟩ | ⟨rfl, h⟩ | ⟨rfl, h⟩ | ⟨rfl, h⟩ | ⟨rfl, h⟩
  · rw [h] at hv ⊢
    have : v = 0 := by omega
    subst this
    decide
  · rw [h] at hv ⊢
    have := sext_num (n := 6) (m := 58) (P := 288230376151711744) (H := 32) (F := 64) (v := v) rfl (by decide) rfl rfl rfl rfl hv (by omega) (by omega)
    simpa [sxt, h] using this
  · rw [h] at hv ⊢
    have := sext_num (n := 10) (m := 54) (P := 18014398509481984) (H := 512) (F := 1024) (v := v) rfl (by decide) rfl rfl rfl rfl hv (by omega) (by omega)
    simpa [sxt, h] using this
  · rw [h] at hv ⊢
    have := sext_num (n := 16) (m := 48) (P := 281474976710656) (H := 32768) (F := 65536) (v := v) rfl (by decide) rfl rfl rfl rfl hv (by omega) (by omega)
    simpa [sxt, h] using this
  · rw [h] at hv ⊢
    have e : sxt 4 v = v := by unfold sxt; rw [if_neg (by omega)]
    rw [e, show (2 : Nat) ^ min (64 - 64) 64 = 1 by decide]
    split <;> omega
theorem step_loop (a0 : bitio_Reader) {A : List Int} {p : Nat} : ∀ (m k : Nat) (x : bitio_Reader), k + m = 4 → RA x A (p + k) →
    (if k + lead m (A.drop (p + k)) < 4 ∧ p + (k + lead m (A.drop (p + k))) = A.length then loop (vary_step_lp1 a0) (x.b, x.n, x.at_, (k : Int)) = some (.out (.out (0, 2, a0)))
    else ∃ x', loop (vary_step_lp1 a0) (x.b, x.n, x.at_, (k : Int)) = some (.go (x'.b, x'.n, x'.at_, ((k + lead m (A.drop (p + k)) : Nat) : Int))) ∧ RA x' A (p + min (k + lead m (A.drop (p + k)) + 1) 4)) := by
  intro m
  induction m with
  | zero =>
    intro k x hk hx
    obtain rfl : k = 4 := by omega
    rw [if_neg (by simp [lead])]
    refine ⟨x, loop_brk ?_, by simpa [lead] using hx⟩
    unfold vary_step_lp1
    dsimp only
    rw [bifFd (by omega)]
    simp [lead]
  | succ m ih =>
    intro k x hk hx
    by_cases h : p + k < A.length
    · obtain ⟨x', t1, t2, _⟩ := hx.take (k := 1) (by omega) (by omega)
      have hd1 : (A.drop (p + k)).take 1 = [A[p + k]] := by rw [List.drop_eq_getElem_cons h, List.take_succ_cons, List.take_zero]
      rw [hd1, dv_one] at t1
      have t1' : bitio_Reader_Take ⟨x.b, x.n, x.at_⟩ 1 = _ := t1
      rw [lead_drop A h]
      have hbit := hx.bit _ (List.getElem_mem h)
      by_cases h1 : A[p + k] = 1
      · rw [if_pos h1]
        have := ih (k + 1) x' (by omega) (by rw [← Nat.add_assoc]; exact t2)
        rw [← Nat.add_assoc] at this
        have hr : vary_step_lp1 a0 (x.b, x.n, x.at_, (k : Int)) = some (.next (x'.b, x'.n, x'.at_, ((k + 1 : Nat) : Int))) := by
          unfold vary_step_lp1
          dsimp only
          rw [bifTd (by omega), t1', bind_some]
          dsimp only
          rw [bifF (by rfl), bifFd (by rw [h1]; decide), lett_eq, w64_succ (by omega)]
        rw [loop_next hr, show k + (1 + lead m (A.drop (p + k + 1))) = k + 1 + lead m (A.drop (p + k + 1)) by omega]
        exact this
      · have h0 : A[p + k] = 0 := by rcases hbit with e | e <;> first | exact e | exact absurd e h1
        rw [if_neg h1, if_neg (by omega)]
        refine ⟨x', loop_brk ?_, ?_⟩
        · unfold vary_step_lp1
          dsimp only
          rw [bifTd (by omega), t1', bind_some]
          dsimp only
          rw [bifF (by rfl), bifTd (by rw [h0]; decide)]
          simp
        · rw [show p + min (k + 0 + 1) 4 = p + k + 1 by omega]; exact t2
    · have hle := hx.le
      have t1 := hx.takeNo (k := 1) (by omega)
      have t1' : bitio_Reader_Take ⟨x.b, x.n, x.at_⟩ 1 = _ := t1
      rw [lead_end A (by omega), if_pos (by omega)]
      refine loop_out ?_
      unfold vary_step_lp1
      dsimp only
      rw [bifTd (by omega), t1', bind_some]
      dsimp only
      rw [bifT (by rfl)]
      rfl
theorem vstep_eq {r : bitio_Reader} {A : List Int} {p : Nat} (h : RA r A p) : ∃ r', vary_step r = some (if (getStep (A.drop p)).e = 0 then sg (UInt64.ofNat (getStep (A.drop p)).v) else 0, (getStep (A.drop p)).e, r') ∧ RA r' A (p + (getStep (A.drop p)).n) ∧ ((getStep (A.drop p)).e ≠ 0 → r' = r) := by
  have hlen : (A.drop p).length = A.length - p := List.length_drop
  have hle := h.le
  have hbig : A.length ≤ 8000000 := by have := h.len; have := h.small; omega
  have hl := step_loop r (A := A) (p := p) 4 0 r (by omega) h
  have hld := lead_le 4 (A.drop p)
  simp only [Nat.add_zero, Nat.zero_add] at hl
  unfold vary_step getStep
  have hloop : loop (vary_step_lp1 r) (r.b, r.n, r.at_, 0) = loop (vary_step_lp1 r) (r.b, r.n, r.at_, ((0 : Nat) : Int)) := rfl
  rw [hloop]
  generalize lead 4 (A.drop p) = k at *
  dsimp only
  by_cases h1 : k < 4 ∧ k = (A.drop p).length
  · rw [if_pos (by omega)] at hl
    rw [if_pos h1, hl]
    exact ⟨r, rfl, h, fun _ => rfl⟩
  rw [if_neg (by omega)] at hl
  obtain ⟨x', l1, l2⟩ := hl
  rw [if_neg h1, l1, flow_go]
  dsimp only
  rw [flow_go]
  dsimp only
  have hw := wd_le k
  have ha4 : min (k + 1) 4 ≤ 4 := by omega
  have ha := l2.le
  have hk4 := hld.1
  clear l1 hloop hld
  generalize min (k + 1) 4 = a at *
  rw [show vary_widths = some [0, 6, 10, 16, 64] from rfl, bind_some, widths_at hk4, bind_some]
  by_cases h3 : (A.drop p).length - a < wd k
  · have t1 := l2.takeNo (k := wd k) (by omega)
    have t1' : bitio_Reader_Take ⟨x'.b, x'.n, x'.at_⟩ _ = _ := t1
    rw [if_pos h3, t1', bind_some]
    exact ⟨r, rfl, h, fun _ => rfl⟩
  obtain ⟨x2, t1, t2, _⟩ := l2.take (k := wd k) hw (by omega)
  have t1' : bitio_Reader_Take ⟨x'.b, x'.n, x'.at_⟩ _ = _ := t1
  rw [← List.drop_drop] at t1'
  have hv := dv_part_lt (h.bit.drop p) (a := a) (k := wd k) (by omega)
  rw [if_neg h3, t1', bind_some]
  dsimp only
  generalize dv (((A.drop p).drop a).take (wd k)) = v at *
  have hT : (toU64 ((64 - wd k : Nat) : Int)).toNat = 64 - wd k := toU64_nat (by omega)
  have e64 : w64 (64 - ((wd k : Nat) : Int)) = ((64 - wd k : Nat) : Int) := w64_subN (a := 64) hw (by omega)
  rw [bifF (by rfl), lett_eq, e64, hT, sext hk4 hv, way_eq, bind_some]
  clear e64 hT
  by_cases h6 : wy (sg (UInt64.ofNat (sxt k v))) = k
  · have e7 : w64 (((p + a + wd k : Nat) : Int) - (p : Int)) = ((a + wd k : Nat) : Int) := by rw [w64_subN (by omega) (by omega)]; congr 1; omega
    obtain ⟨r', s1, s2, _⟩ := h.skip (k := a + wd k) (by omega)
    rw [if_pos h6, bifF (by rw [h6]; simp), t2.at', bind_some, h.at', bind_some, e7, s1, bind_some]
    exact ⟨r', by rw [if_pos rfl], s2, fun h => absurd rfl h⟩
  · rw [if_neg h6, bifT (by rw [decide_eq_false (fun e => h6 (by omega))]; rfl)]
    exact ⟨r, rfl, h, fun _ => rfl⟩
/-! ### the row's next number -/
structure GotU where
  v : UInt64
  n : Nat
  e : Int
def nextGot (row l : List Int) : GotU :=
  if row.length < 2 then
    let g := getSmall l
    if g.e = 0 then ⟨(if row.length = 1 then toU64 (zag g.v) + toU64 (row.getD 0 0) else toU64 (zag g.v)), g.n, 0⟩ else ⟨0, 0, g.e⟩
  else
    let g := getStep l
    if g.e = 0 then ⟨UInt64.ofNat g.v + 2 * toU64 (row.getD (row.length - 1) 0) - toU64 (row.getD (row.length - 2) 0), g.n, 0⟩ else ⟨0, 0, g.e⟩
theorem RowS.get {x : vary_Row} {row : List Int} (h : RowS x row) {r : bitio_Reader} {A : List Int} {p : Nat} (hr : RA r A p) (hs : row.length + 1 ≤ 1000000) :
    ∃ x' r', vary_Row_Get x r = some (if (nextGot row (A.drop p)).e = 0 then sg (nextGot row (A.drop p)).v else 0, (nextGot row (A.drop p)).e, x', r') ∧ RA r' A (p + (nextGot row (A.drop p)).n) ∧
      ((nextGot row (A.drop p)).e = 0 → RowS x' (row ++ [sg (nextGot row (A.drop p)).v])) ∧ ((nextGot row (A.drop p)).e ≠ 0 → x' = x ∧ r' = r) := by
  unfold vary_Row_Get
  by_cases hn : row.length < 2
  · obtain ⟨r', g1, g2, g3⟩ := getInt_eq hr
    rw [bifTd (by rw [h.n]; omega), g1, bind_some]
    dsimp only
    by_cases he : (getSmall (A.drop p)).e = 0
    · have hN : nextGot row (A.drop p) = ⟨(if row.length = 1 then toU64 (zag (getSmall (A.drop p)).v) + toU64 (row.getD 0 0) else toU64 (zag (getSmall (A.drop p)).v)), (getSmall (A.drop p)).n, 0⟩ := by
        unfold nextGot; rw [if_pos hn]; dsimp only; rw [if_pos he]
      rw [bifF (by rw [he]; rfl), lett_eq, flow_go, hN]
      dsimp only
      have hv : x.last + toU64 (zag (getSmall (A.drop p)).v) = if row.length = 1 then toU64 (zag (getSmall (A.drop p)).v) + toU64 (row.getD 0 0) else toU64 (zag (getSmall (A.drop p)).v) := by
        by_cases h1 : row.length = 1
        · rw [if_pos h1, h.last (by omega), getD_lt (by omega), UInt64.add_comm]
          congr 3; omega
        · rw [if_neg h1, h.last0 (by omega), UInt64.zero_add]
      rw [hv]
      generalize (if row.length = 1 then toU64 (zag (getSmall (A.drop p)).v) + toU64 (row.getD 0 0) else toU64 (zag (getSmall (A.drop p)).v)) = u
      obtain ⟨x', f1, f2⟩ := h.follow (sg_I64 u) hs
      rw [toU64_sg] at f1
      rw [f1, bind_some, lett_eq]
      exact ⟨x', r', by rw [if_pos rfl]; rfl, g2, fun _ => f2, fun h => absurd rfl h⟩
    · have hr' := g3 he
      subst hr'
      have hN : nextGot row (A.drop p) = ⟨0, 0, (getSmall (A.drop p)).e⟩ := by
        unfold nextGot; rw [if_pos hn]; dsimp only; rw [if_neg he]
      rw [bifT (by rw [decide_eq_false he]; rfl), hN]
      refine ⟨x, _, ?_, hr, fun h => absurd h he, fun _ => ⟨rfl, rfl⟩⟩
      dsimp only
      rw [if_neg he]; rfl
  · obtain ⟨r', g1, g2, g3⟩ := vstep_eq hr
    rw [bifFd (by rw [h.n]; omega), g1, bind_some]
    dsimp only
    by_cases he : (getStep (A.drop p)).e = 0
    · have hN : nextGot row (A.drop p) = ⟨UInt64.ofNat (getStep (A.drop p)).v + 2 * toU64 (row.getD (row.length - 1) 0) - toU64 (row.getD (row.length - 2) 0), (getStep (A.drop p)).n, 0⟩ := by
        unfold nextGot; rw [if_neg hn]; dsimp only; rw [if_pos he]
      rw [bifF (by rw [he]; rfl), lett_eq, flow_go, hN, if_pos he]
      dsimp only
      have hv : x.last + x.step + toU64 (sg (UInt64.ofNat (getStep (A.drop p)).v)) = UInt64.ofNat (getStep (A.drop p)).v + 2 * toU64 (row.getD (row.length - 1) 0) - toU64 (row.getD (row.length - 2) 0) := by
        rw [h.last (by omega), h.step (by omega), getD_lt (by omega), getD_lt (by omega), toU64_sg]
        grind
      rw [hv]
      generalize UInt64.ofNat (getStep (A.drop p)).v + 2 * toU64 (row.getD (row.length - 1) 0) - toU64 (row.getD (row.length - 2) 0) = u
      obtain ⟨x', f1, f2⟩ := h.follow (sg_I64 u) hs
      rw [toU64_sg] at f1
      rw [f1, bind_some, lett_eq]
      exact ⟨x', r', by rw [if_pos rfl]; rfl, g2, fun _ => f2, fun h => absurd rfl h⟩
    · have hr' := g3 he
      subst hr'
      have hN : nextGot row (A.drop p) = ⟨0, 0, (getStep (A.drop p)).e⟩ := by
        unfold nextGot; rw [if_neg hn]; dsimp only; rw [if_neg he]
      rw [bifT (by rw [decide_eq_false he]; rfl), hN]
      refine ⟨x, _, ?_, hr, fun h => absurd h he, fun _ => ⟨rfl, rfl⟩⟩
      dsimp only
      rw [if_neg he]; rfl
end Go.Lg
namespace Go.Lg
attribute [local irreducible] w64 toU64 toU8 shlU shrU shlB shrB
/-! ### what is put is read, and the other way round -/
end Go.Lg
namespace Go.Lg
attribute [local irreducible] w64 toU64 toU8 shlU shrU shlB shrB
/-! ### LAW 06 -/
theorem WR.is {w : bitio_Writer} {L : List Int} (h : WR w L) (b : List UInt8) (hl : b.length = (L.length + 7) / 8) (hv : bv b = dv L * 2 ^ (8 * b.length - L.length)) : w.b = b :=
  WA.inj h.a ⟨by omega, by omega, hv⟩
/-! all the bits of a row -/
/-! ### VaryRows -/
end Go.Lg
namespace Go.Lg
structure api_Side where
  Offset : Int
  Counts : List UInt64
  deriving DecidableEq
structure api_Hist where
  Scale : Int
  Zero : UInt64
  Pos : api_Side
  Neg : api_Side
  deriving DecidableEq
structure histbits_Row where
  n : Int
  last : api_Hist
  deriving DecidableEq
structure histbits_shape where
  scale : Int
  posAt : Int
  posSize : Int
  negAt : Int
  negSize : Int
  deriving DecidableEq
structure anon_struct_to_api_Side_a_api_Side_b_api_Side where
  to : Option api_Side
  a : api_Side
  b : api_Side
  deriving DecidableEq
structure ref09_Pair where
  X : api_Hist
  Y : api_Hist
  E : Int
  deriving DecidableEq
structure ref10_State where
  L : List Int
  At : Int
  E : Int
  deriving DecidableEq
structure ref10_Got where
  H : api_Hist
  N : Int
  E : Int
  deriving DecidableEq
structure histbits_reader where
  r : Option bitio_Reader
  e : Int
  deriving DecidableEq
noncomputable def hist_sides (a0 : api_Hist) : Option (List api_Side) :=
 some [a0.Pos, a0.Neg]
noncomputable def hist_Total_lp2 (e67 : api_Side) : (UInt64 × UInt64 × Int) → Option (Rnd (UInt64 × UInt64 × Int) (UInt64 × UInt64) (UInt64 × UInt64)) := fun (sum91, over92, x93) =>
 bif decide (x93 < (e67.Counts.length : Int)) then
 (idx e67.Counts x93).bind fun e103 =>
 lett ((add64S sum91 e103 (0 : UInt64))) fun sum115 =>
 lett ((add64C sum91 e103 (0 : UInt64))) fun carry116 =>
 lett ((over92 ||| carry116)) fun over117 =>
 some (.next (sum115, over117, w64 (x93 + 1)))
 else
 some (.brk (sum91, over92))
noncomputable def hist_Total_lp1 (r28 : List api_Side) : (UInt64 × UInt64 × Int) → Option (Rnd (UInt64 × UInt64 × Int) (UInt64 × UInt64) (UInt64 × UInt64)) := fun (sum48, over49, x50) =>
 bif decide (x50 < 2) then
 (idx r28 x50).bind fun e67 =>
 (flow (loop (hist_Total_lp2 e67) (sum48, over49, 0)) fun (sum94, over95) =>
 some (sum94, over95)).bind fun (sum87, over88) =>
 some (.next (sum87, over88, w64 (x50 + 1)))
 else
 some (.brk (sum48, over49))
noncomputable def hist_Total (a0 : api_Hist) : Option (UInt64 × Bool) :=
 (hist_sides a0).bind fun r28 =>
 (flow (loop (hist_Total_lp1 r28) (a0.Zero, 0, 0)) fun (sum54, over55) =>
 some (sum54, over55)).bind fun (sum41, over42) =>
 bif (!decide (over42 = 0)) then
 some (0, false)
 else
 some (sum41, true)
noncomputable def hist_check (a0 : api_Side) : Option Int :=
 lett ((a0.Counts.length : Int)) fun nv22 =>
 lett (decide (160 < nv22)) fun t23 =>
 bif t23 then
 some 4
 else
 lett (((decide (nv22 = 0)) && (!decide (a0.Offset = 0)))) fun t27 =>
 bif t27 then
 some 3
 else
 lett (decide (nv22 = 0)) fun t30 =>
 bif t30 then
 some 0
 else
 (idx a0.Counts 0).bind fun e33 =>
 (bif decide (e33 = 0) then
 some true
 else
 (idx a0.Counts (w64 (nv22 - 1))).bind fun e49 =>
 some (decide (e49 = 0))).bind fun x45 =>
 bif x45 then
 some 3
 else
 lett (((decide (a0.Offset < (-1073741824))) || (decide (w64 (1073741824 - (w64 (nv22 - 1))) < a0.Offset)))) fun t64 =>
 bif t64 then
 some 1
 else
 some 0
noncomputable def hist_Check_lp1 (r31 : List api_Side) : Int → Option (Rnd Int Unit (Flow Unit Int)) := fun x49 =>
 bif decide (x49 < 2) then
 (idx r31 x49).bind fun e64 =>
 (hist_check e64).bind fun r84 =>
 bif (!decide (r84 = 0)) then
 outr (outs (some r84))
 else
 some (.next (w64 (x49 + 1)))
 else
 some (.brk ())
noncomputable def hist_Check (a0 : api_Hist) : Option Int :=
 bif ((decide (a0.Scale < (-10))) || (decide (20 < a0.Scale))) then
 some 1
 else
 (hist_sides a0).bind fun r31 =>
 flow (flow (loop (hist_Check_lp1 r31) 0) fun (_ : Unit) =>
 some (.go ())) fun (_ : Unit) =>
 (hist_Total a0).bind fun (r101, r102) =>
 bif (!r102) then
 some 4
 else
 some 0
noncomputable def hist_span (a0 : api_Side) (a1 : UInt64) : Option Int :=
 lett ((a0.Counts.length : Int)) fun nv22 =>
 bif decide (nv22 = 0) then
 some 0
 else
 lett (w64 ((w64 ((shrI (w64 ((w64 (a0.Offset + nv22)) - 1)) a1.toNat) - (shrI a0.Offset a1.toNat))) + 1)) fun t25 =>
 some t25
noncomputable def hist_down_lp1 (a0 : api_Side) (a1 : UInt64) : (List UInt64 × Int) → Option (Rnd (List UInt64 × Int) (List UInt64) api_Side) := fun (c204, x207) =>
 bif decide (x207 < (a0.Counts.length : Int)) then
 (idx a0.Counts x207).bind fun e228 =>
 (idx c204 (w64 ((shrI (w64 (a0.Offset + x207)) a1.toNat) - (shrI a0.Offset a1.toNat)))).bind fun e243 =>
 (idx c204 (w64 ((shrI (w64 (a0.Offset + x207)) a1.toNat) - (shrI a0.Offset a1.toNat)))).bind fun e253 =>
 lett ((e243 + e228)) fun t263 =>
 (setI c204 (w64 ((shrI (w64 (a0.Offset + x207)) a1.toNat) - (shrI a0.Offset a1.toNat))) t263).bind fun xs264 =>
 some (.next (xs264, w64 (x207 + 1)))
 else
 some (.brk c204)
noncomputable def hist_down (a0 : api_Side) (a1 : UInt64) : Option api_Side :=
 bif decide ((a0.Counts.length : Int) = 0) then
 some (api_Side.mk 0 [])
 else
 ((hist_span a0 a1).bind fun r70 =>
 ((mk r70 (0 : UInt64)).bind fun t90 =>
 some t90).bind fun x81 =>
 some x81).bind fun x60 =>
 flow (loop (hist_down_lp1 a0 a1) (x60, 0)) fun c211 =>
 some (api_Side.mk (shrI a0.Offset a1.toNat) c211)
noncomputable def hist_Down (a0 : api_Hist) (a1 : Int) : Option (api_Hist × Int) :=
 (hist_Check a0).bind fun r36 =>
 bif (!decide (r36 = 0)) then
 some ((api_Hist.mk 0 0 (api_Side.mk 0 []) (api_Side.mk 0 [])), r36)
 else
 bif ((decide (a1 < 0)) || (decide (w64 (a0.Scale - (-10)) < a1))) then
 some ((api_Hist.mk 0 0 (api_Side.mk 0 []) (api_Side.mk 0 [])), 1)
 else
 (hist_down a0.Pos (toU64 a1)).bind fun r117 =>
 (hist_down a0.Neg (toU64 a1)).bind fun r132 =>
 some ((api_Hist.mk (w64 (a0.Scale - a1)) a0.Zero r117 r132), 0)
noncomputable def hist_At (a0 : api_Side) (a1 : Int) : Option UInt64 :=
 bif ((decide (a1 < a0.Offset)) || (decide (toU64 (a0.Counts.length : Int) ≤ ((toU64 a1) - (toU64 a0.Offset))))) then
 some 0
 else
 (idx a0.Counts (w64 (a1 - a0.Offset))).bind fun e25 =>
 some e25
noncomputable def ref08_Light (a0 : api_Hist) : Option Bool :=
 lett (((decide ((a0.Pos.Counts.length : Int) ≤ 300)) && (decide ((a0.Neg.Counts.length : Int) ≤ 300)))) fun t29 =>
 some t29
noncomputable def ref08_sum_lp1 (a1 : List UInt64) : (UInt64 × Int) → Option (Rnd (UInt64 × Int) UInt64 (UInt64 × Bool)) := fun (a12, i13) =>
 bif decide (i13 < (a1.length : Int)) then
 (idx a1 i13).bind fun e22 =>
 bif decide (((18446744073709551615 : UInt64) - a12) < e22) then
 outr (some (0, false))
 else
 (idx a1 i13).bind fun e36 =>
 lett ((a12 + e36)) fun a48 =>
 lett (w64 (i13 + 1)) fun i49 =>
 some (.next (a48, i49))
 else
 some (.brk a12)
noncomputable def ref08_sum (a0 : UInt64) (a1 : List UInt64) : Option (UInt64 × Bool) :=
 flow (loop (ref08_sum_lp1 a1) (a0, 0)) fun a14 =>
 some (a14, true)
noncomputable def ref08_Total (a0 : api_Hist) : Option (UInt64 × Bool) :=
 (ref08_sum a0.Zero a0.Pos.Counts).bind fun (r27, r28) =>
 bif (!r28) then
 some (0, false)
 else
 (ref08_sum r27 a0.Neg.Counts).bind fun (r42, r43) =>
 some (r42, r43)
noncomputable def ref08_side (a0 : api_Side) : Option Int :=
 lett ((a0.Counts.length : Int)) fun nv22 =>
 bif decide (160 < nv22) then
 some 4
 else
 bif decide (nv22 = 0) then
 bif (!decide (a0.Offset = 0)) then
 some 3
 else
 some 0
 else
 (idx a0.Counts 0).bind fun e29 =>
 (bif decide (e29 = 0) then
 some true
 else
 (idx a0.Counts (w64 (nv22 - 1))).bind fun e45 =>
 some (decide (e45 = 0))).bind fun x41 =>
 bif x41 then
 some 3
 else
 bif (((decide (a0.Offset < (-1073741824))) || (decide (1073741824 < a0.Offset))) || (decide (1073741824 < w64 ((w64 (a0.Offset + nv22)) - 1)))) then
 some 1
 else
 some 0
noncomputable def ref08_Check (a0 : api_Hist) : Option Int :=
 bif ((decide (a0.Scale < (-10))) || (decide (20 < a0.Scale))) then
 some 1
 else
 (ref08_side a0.Pos).bind fun r30 =>
 bif (!decide (r30 = 0)) then
 some r30
 else
 (ref08_side a0.Neg).bind fun r44 =>
 bif (!decide (r44 = 0)) then
 some r44
 else
 (ref08_Total a0).bind fun (r59, r60) =>
 bif (!r60) then
 some 4
 else
 some 0
noncomputable def ref08_SameSide_lp1 (a0 : api_Side) (a1 : api_Side) : Int → Option (Rnd Int Unit Bool) := fun i39 =>
 bif decide (i39 < (a0.Counts.length : Int)) then
 (idx a0.Counts i39).bind fun e60 =>
 (idx a1.Counts i39).bind fun e75 =>
 bif (!decide (e60 = e75)) then
 outr (some false)
 else
 lett (w64 (i39 + 1)) fun i92 =>
 some (.next i92)
 else
 some (.brk ())
noncomputable def ref08_SameSide (a0 : api_Side) (a1 : api_Side) : Option Bool :=
 bif ((!decide (a0.Offset = a1.Offset)) || (!decide ((a0.Counts.length : Int) = (a1.Counts.length : Int)))) then
 some false
 else
 flow (loop (ref08_SameSide_lp1 a0 a1) 0) fun (_ : Unit) =>
 some true
noncomputable def ref08_Same (a0 : api_Hist) (a1 : api_Hist) : Option Bool :=
 (bif ((decide (a0.Scale = a1.Scale)) && (decide (a0.Zero = a1.Zero))) then
 (ref08_SameSide a0.Pos a1.Pos).bind fun r55 =>
 some r55
 else
 some false).bind fun x45 =>
 (bif x45 then
 (ref08_SameSide a0.Neg a1.Neg).bind fun r78 =>
 some r78
 else
 some false).bind fun x64 =>
 some x64
noncomputable def ref08_Trim_lp1 : (List UInt64 × Int) → Option (Rnd (List UInt64 × Int) (List UInt64 × Int) (List UInt64 × Int)) := fun (l36, at39) =>
 (bif decide (0 < (l36.length : Int)) then
 (idx l36 0).bind fun e62 =>
 some (decide (e62 = 0))
 else
 some false).bind fun x58 =>
 bif x58 then
 (slc l36 1 (l36.length : Int)).bind fun t75 =>
 lett (w64 (at39 + 1)) fun at79 =>
 some (.next (t75, at79))
 else
 some (.brk (l36, at39))
noncomputable def ref08_Trim_lp2 : (List UInt64) → Option (Rnd (List UInt64) (List UInt64) (List UInt64)) := fun l88 =>
 (bif decide (0 < (l88.length : Int)) then
 (idx l88 (w64 ((l88.length : Int) - 1))).bind fun e110 =>
 some (decide (e110 = 0))
 else
 some false).bind fun x106 =>
 bif x106 then
 (slc l88 0 (w64 ((l88.length : Int) - 1))).bind fun t123 =>
 some (.next t123)
 else
 some (.brk l88)
noncomputable def ref08_Trim (a0 : api_Side) : Option api_Side :=
 (flow (loop (ref08_Trim_lp1) (a0.Counts, a0.Offset)) fun (l43, at46) =>
 some (l43, at46)).bind fun (l27, at30) =>
 (flow (loop (ref08_Trim_lp2) l27) fun l94 =>
 some l94).bind fun l80 =>
 bif decide ((l80.length : Int) = 0) then
 some (api_Side.mk 0 [])
 else
 (app [] l80).bind fun xs134 =>
 some (api_Side.mk at30 xs134)
noncomputable def ref08_half (a0 : Int) : Option Int :=
 bif decide (a0 < 0) then
 lett (w64 (0 - (w64 ((w64 (1 - a0)).tdiv 2)))) fun t12 =>
 some t12
 else
 lett (w64 (a0.tdiv 2)) fun t14 =>
 some t14
noncomputable def ref08_once_lp1 (a0 : api_Side) : (Int × List UInt64 × Int) → Option (Rnd (Int × List UInt64 × Int) (Int × List UInt64) api_Side) := fun (c32, c33, i36) =>
 bif decide (i36 < (a0.Counts.length : Int)) then
 ((ref08_half (w64 (a0.Offset + i36))).bind fun r72 =>
 bif decide ((c33.length : Int) = 0) then
 (idx a0.Counts i36).bind fun e89 =>
 some (r72, [e89])
 else
 bif decide (r72 = w64 ((w64 (c32 + (c33.length : Int))) - 1)) then
 lett ((c33.length : Int)) fun nv122 =>
 (idx c33 (w64 (nv122 - 1))).bind fun e126 =>
 (idx a0.Counts i36).bind fun e139 =>
 lett ((e126 + e139)) fun last153 =>
 (slc c33 0 (w64 (nv122 - 1))).bind fun t160 =>
 (app [] t160).bind fun xs164 =>
 (app xs164 [last153]).bind fun xs175 =>
 some (c32, xs175)
 else
 (idx a0.Counts i36).bind fun e219 =>
 (app c33 [e219]).bind fun xs245 =>
 some (c32, xs245)).bind fun (c63, c64) =>
 lett (w64 (i36 + 1)) fun i271 =>
 some (.next (c63, c64, i271))
 else
 some (.brk (c32, c33))
noncomputable def ref08_once (a0 : api_Side) : Option api_Side :=
 flow (loop (ref08_once_lp1 a0) (0, [], 0)) fun (c41, c42) =>
 some (api_Side.mk c41 c42)
noncomputable def ref08_Down_lp1 (a1 : Int) : (Int × Int × List UInt64 × Int × List UInt64 × Int) → Option (Rnd (Int × Int × List UInt64 × Int × List UInt64 × Int) (Int × Int × List UInt64 × Int × List UInt64) (api_Hist × Int)) := fun (c293, c294, c295, c298, c299, i302) =>
 bif decide (i302 < a1) then
 (ref08_once (api_Side.mk c294 c295)).bind fun r366 =>
 (ref08_once (api_Side.mk c298 c299)).bind fun r380 =>
 lett (w64 (i302 + 1)) fun i410 =>
 some (.next (w64 (c293 - 1), r366.Offset, r366.Counts, r380.Offset, r380.Counts, i410))
 else
 some (.brk (c293, c294, c295, c298, c299))
noncomputable def ref08_Down (a0 : api_Hist) (a1 : Int) : Option (api_Hist × Int) :=
 (ref08_Check a0).bind fun r36 =>
 bif (!decide (r36 = 0)) then
 some ((api_Hist.mk 0 0 (api_Side.mk 0 []) (api_Side.mk 0 [])), r36)
 else
 bif ((decide (a1 < 0)) || (decide (w64 (a0.Scale - (-10)) < a1))) then
 some ((api_Hist.mk 0 0 (api_Side.mk 0 []) (api_Side.mk 0 [])), 1)
 else
 ((ref08_Trim a0.Pos).bind fun r115 =>
 ((ref08_Trim a0.Neg).bind fun r145 =>
 some (r115.Counts, r145.Offset, r145.Counts)).bind fun (x129, x132, x133) =>
 some (r115.Offset, x129, x132, x133)).bind fun (x99, x100, x103, x104) =>
 flow (loop (ref08_Down_lp1 a1) (a0.Scale, x99, x100, x103, x104, 0)) fun (c307, c308, c309, c312, c313) =>
 some ((api_Hist.mk c307 a0.Zero (api_Side.mk c308 c309) (api_Side.mk c312 c313)), 0)
noncomputable def hist_Fit_lp1 (a0 : api_Hist) (a1 : Int) : Int → Option (Rnd Int Unit (api_Hist × Int)) := fun by51 =>
 bif decide (by51 ≤ w64 (a0.Scale - (-10))) then
 (hist_span a0.Pos (toU64 by51)).bind fun r103 =>
 (hist_span a0.Neg (toU64 by51)).bind fun r116 =>
 bif decide ((max r103 r116) ≤ a1) then
 (hist_Down a0 by51).bind fun (r138, r139) =>
 outr (some (r138, r139))
 else
 lett (w64 (by51 + 1)) fun by174 =>
 some (.next by174)
 else
 some (.brk ())
noncomputable def hist_Fit (a0 : api_Hist) (a1 : Int) : Option (api_Hist × Int) :=
 (hist_Check a0).bind fun r36 =>
 bif (!decide (r36 = 0)) then
 some ((api_Hist.mk 0 0 (api_Side.mk 0 []) (api_Side.mk 0 [])), r36)
 else
 flow (loop (hist_Fit_lp1 a0 a1) 0) fun (_ : Unit) =>
 some ((api_Hist.mk 0 0 (api_Side.mk 0 []) (api_Side.mk 0 [])), 4)
noncomputable def ref08_Fit_lp1 (a0 : api_Hist) (a1 : Int) : Int → Option (Rnd Int Unit (api_Hist × Int)) := fun by51 =>
 bif decide (by51 ≤ w64 (a0.Scale - (-10))) then
 (ref08_Down a0 by51).bind fun (r71, r72) =>
 bif ((decide ((r71.Pos.Counts.length : Int) ≤ a1)) && (decide ((r71.Neg.Counts.length : Int) ≤ a1))) then
 outr (some (r71, 0))
 else
 lett (w64 (by51 + 1)) fun by121 =>
 some (.next by121)
 else
 some (.brk ())
noncomputable def ref08_Fit (a0 : api_Hist) (a1 : Int) : Option (api_Hist × Int) :=
 (ref08_Check a0).bind fun r36 =>
 bif (!decide (r36 = 0)) then
 some ((api_Hist.mk 0 0 (api_Side.mk 0 []) (api_Side.mk 0 [])), r36)
 else
 flow (loop (ref08_Fit_lp1 a0 a1) 0) fun (_ : Unit) =>
 some ((api_Hist.mk 0 0 (api_Side.mk 0 []) (api_Side.mk 0 [])), 4)
def slices_Clone_uint64_uint64 (a0 : List UInt64) : Option (List UInt64) := app [] a0
noncomputable def hist_Clone (a0 : api_Hist) : Option api_Hist :=
 (slices_Clone_uint64_uint64 a0.Pos.Counts).bind fun r60 =>
 (slices_Clone_uint64_uint64 a0.Neg.Counts).bind fun r82 =>
 some (api_Hist.mk a0.Scale a0.Zero (api_Side.mk a0.Pos.Offset r60) (api_Side.mk a0.Neg.Offset r82))
noncomputable def fold_Level_lp1 (a0 : api_Hist) (a1 : api_Hist) : Int → Option (Rnd Int Unit (Flow Unit (api_Hist × api_Hist × Int))) := fun x63 =>
 bif decide (x63 < 2) then
 (idx [a0, a1] x63).bind fun e95 =>
 (hist_Check e95).bind fun r123 =>
 bif (!decide (r123 = 0)) then
 outr (outs (some ((api_Hist.mk 0 0 (api_Side.mk 0 []) (api_Side.mk 0 [])), (api_Hist.mk 0 0 (api_Side.mk 0 []) (api_Side.mk 0 [])), r123)))
 else
 some (.next (w64 (x63 + 1)))
 else
 some (.brk ())
noncomputable def fold_Level (a0 : api_Hist) (a1 : api_Hist) : Option (api_Hist × api_Hist × Int) :=
 flow (flow (loop (fold_Level_lp1 a0 a1) 0) fun (_ : Unit) =>
 some (.go ())) fun (_ : Unit) =>
 lett ((min a0.Scale a1.Scale)) fun scale153 =>
 (hist_Down a0 (w64 (a0.Scale - scale153))).bind fun (r164, r165) =>
 (hist_Down a1 (w64 (a1.Scale - scale153))).bind fun (r208, r209) =>
 some (r164, r208, 0)
noncomputable def fold_ends (a0 : api_Side) : Option (Int × Int) :=
 lett (w64 (a0.Offset + (a0.Counts.length : Int))) fun to26 =>
 some (a0.Offset, to26)
noncomputable def fold_cover (a0 : api_Side) (a1 : api_Side) : Option (Int × Int) :=
 bif decide ((a0.Counts.length : Int) = 0) then
 lett ((a1.Counts.length : Int)) fun nv41 =>
 some (a1.Offset, nv41)
 else
 bif decide ((a1.Counts.length : Int) = 0) then
 lett ((a0.Counts.length : Int)) fun nv49 =>
 some (a0.Offset, nv49)
 else
 (fold_ends a0).bind fun (r51, r52) =>
 (fold_ends a1).bind fun (r63, r64) =>
 lett ((min r51 r63)) fun from73 =>
 lett ((max r52 r64)) fun end74 =>
 lett (w64 (end74 - from73)) fun nv75 =>
 some (from73, nv75)
noncomputable def ref09_Level (a0 : api_Hist) (a1 : api_Hist) : Option ref09_Pair :=
 (ref08_Check a0).bind fun r56 =>
 bif (!decide (r56 = 0)) then
 some (ref09_Pair.mk (api_Hist.mk 0 0 (api_Side.mk 0 []) (api_Side.mk 0 [])) (api_Hist.mk 0 0 (api_Side.mk 0 []) (api_Side.mk 0 [])) r56)
 else
 (ref08_Check a1).bind fun r79 =>
 bif (!decide (r79 = 0)) then
 some (ref09_Pair.mk (api_Hist.mk 0 0 (api_Side.mk 0 []) (api_Side.mk 0 [])) (api_Hist.mk 0 0 (api_Side.mk 0 []) (api_Side.mk 0 [])) r79)
 else
 (bif decide (a1.Scale < a0.Scale) then
 some a1.Scale
 else
 some a0.Scale).bind fun s97 =>
 (ref08_Down a0 (w64 (a0.Scale - s97))).bind fun (r106, r107) =>
 (ref08_Down a1 (w64 (a1.Scale - s97))).bind fun (r152, r153) =>
 some (ref09_Pair.mk r106 r152 0)
noncomputable def ref09_At (a0 : api_Side) (a1 : Int) : Option UInt64 :=
 bif ((decide (a1 < a0.Offset)) || (decide (w64 (a0.Offset + (a0.Counts.length : Int)) ≤ a1))) then
 some 0
 else
 (idx a0.Counts (w64 (a1 - a0.Offset))).bind fun e25 =>
 some e25
def rep_api_Side : Rep api_Side := Rep.via (Rep.pair Rep.i (Rep.sl Rep.u)) fun d => (d.Offset, d.Counts)
def rep_api_Hist : Rep api_Hist := Rep.via (Rep.pair Rep.i (Rep.pair Rep.u (Rep.pair rep_api_Side rep_api_Side))) fun d => (d.Scale, d.Zero, d.Pos, d.Neg)
end Go.Lg
namespace Go.Lg
attribute [local irreducible] w64 toU64 toU8 shlU shrU shlB shrB
/-! ### sums of counts -/
def su (l : List UInt64) : Nat := (l.map (·.toNat)).sum
def us (l : List UInt64) : UInt64 := l.foldl (· + ·) 0
theorem su_append (l m : List UInt64) : su (l ++ m) = su l + su m := by simp [su]
theorem su_snoc (l : List UInt64) (x : UInt64) : su (l ++ [x]) = su l + x.toNat := by simp [su]
theorem take_snoc {α : Type} {l : List α} {i : Nat} (h : i < l.length) : l.take (i + 1) = l.take i ++ [l[i]] := List.take_succ_eq_append_getElem h
theorem su_take_le (l : List UInt64) (k : Nat) : su (l.take k) ≤ su l := by
  have := List.take_append_drop k l
  have h2 : su l = su (l.take k) + su (l.drop k) := by rw [← su_append, this]
  omega
theorem or_zero {a b : UInt64} : a ||| b = 0 ↔ a = 0 ∧ b = 0 := by
  constructor
  · intro h
    have h1 : (a ||| b).toBitVec = 0 := by rw [h]; rfl
    rw [UInt64.toBitVec_or] at h1
    have h2 := BitVec.or_eq_zero_iff.1 h1
    exact ⟨UInt64.toBitVec_inj.1 h2.1, UInt64.toBitVec_inj.1 h2.2⟩
  · rintro ⟨rfl, rfl⟩; rfl
/-- a running sum and whether it has passed 2^64 -/
def Acc (T : Nat) (s o : UInt64) : Prop := s.toNat = T % 18446744073709551616 ∧ (o = 0 ↔ T < 18446744073709551616)
theorem Acc.step {T : Nat} {s o : UInt64} (h : Acc T s o) (c : UInt64) : Acc (T + c.toNat) (add64S s c 0) (o ||| add64C s c 0) := by
  obtain ⟨h1, h2⟩ := h
  have hc := UInt64.toNat_lt c
  have hs := UInt64.toNat_lt s
  refine ⟨?_, ?_⟩
  · unfold add64S
    rw [UInt64.add_zero, UInt64.toNat_add, h1]; omega
  · rw [or_zero, h2]
    have h3 : (add64C s c 0).toNat = (s.toNat + c.toNat) / 18446744073709551616 := by
      unfold add64C
      rw [u64_ofNat (by simp; omega)]; simp
    rw [← UInt64.toNat_inj, h3, show (0 : UInt64).toNat = 0 from rfl, h1]
    omega
theorem total_inner (sd : api_Side) (hl : sd.Counts.length ≤ 1000000) (T : Nat) : ∀ (m x : Nat) (s o : UInt64), x + m = sd.Counts.length → Acc (T + su (sd.Counts.take x)) s o →
    ∃ s' o', loop (hist_Total_lp2 sd) (s, o, (x : Int)) = some (.go (s', o')) ∧ Acc (T + su sd.Counts) s' o' := by
  intro m
  induction m with
  | zero =>
    intro x s o hx h
    obtain rfl : x = sd.Counts.length := by omega
    rw [List.take_length] at h
    refine ⟨s, o, loop_brk ?_, h⟩
    unfold hist_Total_lp2
    dsimp only
    rw [bifFd (by omega)]
  | succ m ih =>
    intro x s o hx h
    have hlt : x < sd.Counts.length := by omega
    have h' := h.step sd.Counts[x]
    rw [Nat.add_assoc, ← su_snoc, ← take_snoc hlt] at h'
    obtain ⟨s', o', g1, g2⟩ := ih (x + 1) _ _ (by omega) h'
    refine ⟨s', o', ?_, g2⟩
    rw [← g1]
    refine loop_next ?_
    unfold hist_Total_lp2
    dsimp only
    rw [bifTd (by omega), idx_nat hlt, bind_some, lett_eq, lett_eq, lett_eq, w64_succ (by omega)]
/-- all that a histogram counts -/
def tot (h : api_Hist) : Nat := h.Zero.toNat + su h.Pos.Counts + su h.Neg.Counts
theorem total_eq {h : api_Hist} (hp : h.Pos.Counts.length ≤ 1000000) (hn : h.Neg.Counts.length ≤ 1000000) :
    hist_Total h = some (if tot h < 18446744073709551616 then (UInt64.ofNat (tot h), true) else (0, false)) := by
  have a0 : Acc (h.Zero.toNat + su (h.Pos.Counts.take 0)) h.Zero 0 := by
    have := UInt64.toNat_lt h.Zero
    refine ⟨by simp [su], by simp [su]; omega⟩
  obtain ⟨s1, o1, p1, q1⟩ := total_inner h.Pos hp h.Zero.toNat h.Pos.Counts.length 0 h.Zero 0 (by omega) a0
  obtain ⟨s2, o2, p2, q2⟩ := total_inner h.Neg hn (h.Zero.toNat + su h.Pos.Counts) h.Neg.Counts.length 0 s1 o1 (by omega) (by simpa [su] using q1)
  have p1' : loop (hist_Total_lp2 h.Pos) (h.Zero, 0, 0) = _ := p1
  have p2' : loop (hist_Total_lp2 h.Neg) (s1, o1, 0) = _ := p2
  have r0 : hist_Total_lp1 [h.Pos, h.Neg] (h.Zero, 0, ((0 : Nat) : Int)) = some (.next (s1, o1, ((1 : Nat) : Int))) := by
    unfold hist_Total_lp1
    dsimp only
    rw [bifTd (by omega), idx_nat (by simp), bind_some, w64_succ (by omega)]
    dsimp only [List.getElem_cons_zero]
    rw [p1', flow_go]; rfl
  have r1 : hist_Total_lp1 [h.Pos, h.Neg] (s1, o1, ((1 : Nat) : Int)) = some (.next (s2, o2, ((2 : Nat) : Int))) := by
    unfold hist_Total_lp1
    dsimp only
    rw [bifTd (by omega), idx_nat (by simp), bind_some, w64_succ (by omega)]
    dsimp only [List.getElem_cons_succ, List.getElem_cons_zero]
    rw [p2', flow_go]; rfl
  have r2 : hist_Total_lp1 [h.Pos, h.Neg] (s2, o2, ((2 : Nat) : Int)) = some (.brk (s2, o2)) := by
    unfold hist_Total_lp1
    dsimp only
    rw [bifFd (by omega)]
  have hl : loop (hist_Total_lp1 [h.Pos, h.Neg]) (h.Zero, 0, 0) = some (.go (s2, o2)) := by
    have e : loop (hist_Total_lp1 [h.Pos, h.Neg]) (h.Zero, 0, 0) = loop (hist_Total_lp1 [h.Pos, h.Neg]) (h.Zero, 0, ((0 : Nat) : Int)) := rfl
    rw [e, loop_next r0, loop_next r1, loop_brk r2]
  unfold hist_Total
  rw [show hist_sides h = some [h.Pos, h.Neg] from rfl, bind_some, hl, flow_go]
  dsimp only
  rw [bind_some]
  dsimp only
  have hT : tot h = h.Zero.toNat + su h.Pos.Counts + su h.Neg.Counts := rfl
  rw [← hT] at q2
  by_cases hlt : tot h < 18446744073709551616
  · have e : s2 = UInt64.ofNat (tot h) := by apply UInt64.toNat_inj.1; rw [q2.1, u64_ofNat hlt]; omega
    rw [if_pos hlt, bifF (by rw [decide_eq_true (q2.2.2 hlt)]; rfl), e]
  · rw [if_neg hlt, bifT (by rw [decide_eq_false (fun e => hlt (q2.2.1 e))]; rfl)]
theorem refSum_eq {a : UInt64} {l : List UInt64} (hl : l.length ≤ 1000000) : ref08_sum a l = some (if a.toNat + su l < 18446744073709551616 then (UInt64.ofNat (a.toNat + su l), true) else (0, false)) := by
  have key : ∀ (m i : Nat) (s : UInt64), i + m = l.length → s.toNat = a.toNat + su (l.take i) →
      loop (ref08_sum_lp1 l) (s, (i : Int)) = some (if a.toNat + su l < 18446744073709551616 then .go (UInt64.ofNat (a.toNat + su l)) else .out (0, false)) := by
    intro m
    induction m with
    | zero =>
      intro i s hi hs
      obtain rfl : i = l.length := by omega
      rw [List.take_length] at hs
      have := UInt64.toNat_lt s
      rw [if_pos (by omega), ← hs]
      refine loop_brk ?_
      unfold ref08_sum_lp1
      dsimp only
      rw [bifFd (by omega)]; simp
    | succ m ih =>
      intro i s hi hs
      have hlt : i < l.length := by omega
      have hle : su (l.take (i + 1)) ≤ su l := su_take_le l (i + 1)
      rw [take_snoc hlt, su_snoc] at hle
      have hsl := UInt64.toNat_lt s
      have hsub : ((18446744073709551615 : UInt64) - s).toNat = 18446744073709551615 - s.toNat := by
        rw [UInt64.toNat_sub_of_le]
        · rfl
        · rw [UInt64.le_iff_toNat_le]
          have : (18446744073709551615 : UInt64).toNat = 18446744073709551615 := rfl
          omega
      by_cases hov : 18446744073709551615 - s.toNat < (l[i]).toNat
      · rw [if_neg (by omega)]
        refine loop_out ?_
        unfold ref08_sum_lp1
        dsimp only
        rw [bifTd (by omega), idx_nat hlt, bind_some, bifTd (by rw [UInt64.lt_iff_toNat_lt, hsub]; exact hov)]
        rfl
      · rw [loop_next (s' := (s + l[i], ((i + 1 : Nat) : Int))), ih (i + 1) _ (by omega)]
        · rw [take_snoc hlt, su_snoc, UInt64.toNat_add, hs]; omega
        · unfold ref08_sum_lp1
          dsimp only
          rw [bifTd (by omega), idx_nat hlt, bind_some, bifFd (by rw [UInt64.lt_iff_toNat_lt, hsub]; exact hov), bind_some, lett_eq, lett_eq, w64_succ (by omega)]
  unfold ref08_sum
  have h0 := key l.length 0 a (by omega) (by simp [su])
  have h0' : loop (ref08_sum_lp1 l) (a, 0) = _ := h0
  rw [h0']
  split <;> rfl
theorem refTotal_eq {h : api_Hist} (hp : h.Pos.Counts.length ≤ 1000000) (hn : h.Neg.Counts.length ≤ 1000000) :
    ref08_Total h = some (if tot h < 18446744073709551616 then (UInt64.ofNat (tot h), true) else (0, false)) := by
  unfold ref08_Total
  have hT : tot h = h.Zero.toNat + su h.Pos.Counts + su h.Neg.Counts := rfl
  rw [refSum_eq hp, bind_some]
  by_cases h1 : h.Zero.toNat + su h.Pos.Counts < 18446744073709551616
  · rw [if_pos h1]
    dsimp only
    rw [bifF (by rfl), refSum_eq hn, bind_some, u64_ofNat h1, ← hT]
  · rw [if_neg h1, if_neg (by omega)]
    rfl
/-! ### what is wrong with a side, with a histogram -/
def sideE (s : api_Side) : Int :=
  if 160 < s.Counts.length then 4
  else if s.Counts.length = 0 then (if s.Offset = 0 then 0 else 3)
  else if s.Counts.getD 0 0 = 0 ∨ s.Counts.getD (s.Counts.length - 1) 0 = 0 then 3
  else if s.Offset < -1073741824 ∨ 1073741824 - ((s.Counts.length : Int) - 1) < s.Offset then 1 else 0
theorem ends_eq {c : List UInt64} (h : 0 < c.length) (hl : c.length ≤ 1000000) :
    ((idx c 0).bind fun e33 => (bif decide (e33 = 0) then some true else (idx c (w64 ((c.length : Int) - 1))).bind fun e49 => some (decide (e49 = 0)))) = some (decide (c.getD 0 0 = 0 ∨ c.getD (c.length - 1) 0 = 0)) := by
  have e1 : w64 ((c.length : Int) - 1) = ((c.length - 1 : Nat) : Int) := w64_subN (b := 1) h (by omega)
  rw [idx_0 h, bind_some, e1, idx_nat (by omega), bind_some, getD_lt h, getD_lt (by omega)]
  by_cases h0 : c[0] = 0
  · rw [bifTd h0, decide_eq_true (.inl h0)]
  · rw [bifFd h0]
    congr 1
    rw [decide_eq_decide]
    exact ⟨.inr, fun h => h.elim (fun e => absurd e h0) id⟩
theorem bind_assoc' {α β γ : Type} (x : Option α) (f : α → Option β) (g : β → Option γ) : (x.bind f).bind g = x.bind fun a => (f a).bind g := by cases x <;> rfl
theorem check_eq {s : api_Side} (ho : I64 s.Offset) (hl : s.Counts.length ≤ 1000000) : hist_check s = some (sideE s) := by
  unfold I64 at ho
  unfold hist_check sideE
  rw [lett_eq, lett_eq]
  by_cases h1 : 160 < s.Counts.length
  · rw [bifTd (by omega), if_pos h1]
  rw [bifFd (by omega), if_neg h1, lett_eq]
  by_cases h2 : s.Counts.length = 0
  · rw [if_pos h2]
    by_cases h3 : s.Offset = 0
    · rw [if_pos h3, bifF (by simp [h3]), lett_eq, bifTd (by omega)]
    · rw [if_neg h3, bifT (by simp [h3, h2])]
  rw [if_neg h2, bifF (by simp [h2]), lett_eq, bifFd (by omega), ← bind_assoc', ends_eq (by omega) hl, bind_some]
  by_cases h4 : s.Counts.getD 0 0 = 0 ∨ s.Counts.getD (s.Counts.length - 1) 0 = 0
  · rw [bifTd h4, if_pos h4]
  rw [bifFd h4, if_neg h4, lett_eq, w64_id (x := (s.Counts.length : Int) - 1) (by omega) (by omega), w64_id (by omega) (by omega), ← Bool.decide_or]
  by_cases h5 : s.Offset < -1073741824 ∨ 1073741824 - ((s.Counts.length : Int) - 1) < s.Offset
  · rw [bifTd h5, if_pos h5]
  · rw [bifFd h5, if_neg h5]
theorem side_eq {s : api_Side} (ho : I64 s.Offset) (hl : s.Counts.length ≤ 1000000) : ref08_side s = some (sideE s) := by
  unfold I64 at ho
  unfold ref08_side sideE
  rw [lett_eq]
  by_cases h1 : 160 < s.Counts.length
  · rw [bifTd (by omega), if_pos h1]
  rw [bifFd (by omega), if_neg h1]
  by_cases h2 : s.Counts.length = 0
  · rw [if_pos h2, bifTd (by omega)]
    by_cases h3 : s.Offset = 0
    · rw [if_pos h3, bifF (by simp [h3])]
    · rw [if_neg h3, bifT (by simp [h3])]
  rw [if_neg h2, bifFd (by omega), ← bind_assoc', ends_eq (by omega) hl, bind_some]
  by_cases h4 : s.Counts.getD 0 0 = 0 ∨ s.Counts.getD (s.Counts.length - 1) 0 = 0
  · rw [bifTd h4, if_pos h4]
  rw [bifFd h4, if_neg h4, ← Bool.decide_or, ← Bool.decide_or]
  by_cases h5 : s.Offset < -1073741824 ∨ 1073741824 - ((s.Counts.length : Int) - 1) < s.Offset
  · rw [if_pos h5, bifTd]
    by_cases h6 : 1073741824 < s.Offset
    · exact .inl (.inr h6)
    · rcases h5 with h5 | h5
      · exact .inl (.inl h5)
      · refine .inr ?_
        rw [w64_id (x := s.Offset + (s.Counts.length : Int)) (by omega) (by omega), w64_id (by omega) (by omega)]; omega
  · rw [if_neg h5, bifFd]
    rw [w64_id (x := s.Offset + (s.Counts.length : Int)) (by omega) (by omega), w64_id (by omega) (by omega)]; omega
def histE (h : api_Hist) : Int :=
  if h.Scale < -10 ∨ 20 < h.Scale then 1
  else if sideE h.Pos ≠ 0 then sideE h.Pos
  else if sideE h.Neg ≠ 0 then sideE h.Neg
  else if tot h < 18446744073709551616 then 0 else 4
structure OkH (h : api_Hist) : Prop where
  s : I64 h.Scale
  po : I64 h.Pos.Offset
  no : I64 h.Neg.Offset
  pl : h.Pos.Counts.length ≤ 1000000
  nl : h.Neg.Counts.length ≤ 1000000
theorem Check_eq {h : api_Hist} (o : OkH h) : hist_Check h = some (histE h) := by
  have c1 := check_eq o.po o.pl
  have c2 := check_eq o.no o.nl
  have r0 : hist_Check_lp1 [h.Pos, h.Neg] ((0 : Nat) : Int) = if sideE h.Pos ≠ 0 then some (.out (.out (sideE h.Pos))) else some (.next ((1 : Nat) : Int)) := by
    unfold hist_Check_lp1
    rw [bifTd (by omega), idx_nat (by simp), bind_some]
    dsimp only [List.getElem_cons_zero]
    rw [c1, bind_some]
    by_cases e : sideE h.Pos = 0
    · rw [if_neg (fun h => h e), bifF (by simp [e]), w64_succ (by omega)]
    · rw [if_pos e, bifT (by simp [e])]; rfl
  have r1 : hist_Check_lp1 [h.Pos, h.Neg] ((1 : Nat) : Int) = if sideE h.Neg ≠ 0 then some (.out (.out (sideE h.Neg))) else some (.next ((2 : Nat) : Int)) := by
    unfold hist_Check_lp1
    rw [bifTd (by omega), idx_nat (by simp), bind_some]
    dsimp only [List.getElem_cons_succ, List.getElem_cons_zero]
    rw [c2, bind_some]
    by_cases e : sideE h.Neg = 0
    · rw [if_neg (fun h => h e), bifF (by simp [e]), w64_succ (by omega)]
    · rw [if_pos e, bifT (by simp [e])]; rfl
  have r2 : hist_Check_lp1 [h.Pos, h.Neg] ((2 : Nat) : Int) = some (.brk ()) := by
    unfold hist_Check_lp1
    rw [bifFd (by omega)]
  unfold hist_Check histE
  by_cases h1 : h.Scale < -10 ∨ 20 < h.Scale
  · rw [if_pos h1, bifT (by simpa using h1)]
  rw [if_neg h1, bifF (by simpa using h1), show hist_sides h = some [h.Pos, h.Neg] from rfl, bind_some]
  show flow (flow (loop (hist_Check_lp1 [h.Pos, h.Neg]) ((0 : Nat) : Int)) _) _ = _
  by_cases h2 : sideE h.Pos ≠ 0
  · rw [if_pos h2] at r0
    rw [if_pos h2, loop_out r0]; rfl
  rw [if_neg h2] at r0
  rw [if_neg h2, loop_next r0]
  by_cases h3 : sideE h.Neg ≠ 0
  · rw [if_pos h3] at r1
    rw [if_pos h3, loop_out r1]; rfl
  rw [if_neg h3] at r1
  rw [if_neg h3, loop_next r1, loop_brk r2, flow_go, flow_go, total_eq o.pl o.nl, bind_some]
  by_cases h4 : tot h < 18446744073709551616
  · rw [if_pos h4, if_pos h4]; rfl
  · rw [if_neg h4, if_neg h4]; rfl
theorem RCheck_eq {h : api_Hist} (o : OkH h) : ref08_Check h = some (histE h) := by
  unfold ref08_Check histE
  by_cases h1 : h.Scale < -10 ∨ 20 < h.Scale
  · rw [if_pos h1, bifT (by simpa using h1)]
  rw [if_neg h1, bifF (by simpa using h1), side_eq o.po o.pl, bind_some]
  by_cases h2 : sideE h.Pos ≠ 0
  · rw [if_pos h2, bifT (by simp [h2])]
  rw [if_neg h2, bifF (by simpa using h2), side_eq o.no o.nl, bind_some]
  by_cases h3 : sideE h.Neg ≠ 0
  · rw [if_pos h3, bifT (by simp [h3])]
  rw [if_neg h3, bifF (by simpa using h3), refTotal_eq o.pl o.nl, bind_some]
  by_cases h4 : tot h < 18446744073709551616
  · rw [if_pos h4, if_pos h4]; rfl
  · rw [if_neg h4, if_neg h4]; rfl
end Go.Lg
namespace Go.Lg
attribute [local irreducible] w64 toU64 toU8 shlU shrU shlB shrB
theorem su_nil : su [] = 0 := rfl
theorem su_cons (x : UInt64) (l : List UInt64) : su (x :: l) = x.toNat + su l := by simp [su]
theorem su_take_mono (l : List UInt64) {a b : Nat} (h : a ≤ b) : su (l.take a) ≤ su (l.take b) := by
  have := su_take_le (l.take b) a
  rwa [List.take_take, Nat.min_eq_left h] at this
theorem su_take_succ {l : List UInt64} {i : Nat} (h : i < l.length) : su (l.take (i + 1)) = su (l.take i) + (l[i]).toNat := by rw [take_snoc h, su_snoc]
theorem su_all (l : List UInt64) {k : Nat} (h : l.length ≤ k) : su (l.take k) = su l := by rw [List.take_of_length_le h]
theorem su_get_le {l : List UInt64} {i : Nat} (h : i < l.length) : (l[i]).toNat ≤ su l := by
  have := su_take_succ h
  have := su_take_le l (i + 1)
  omega
theorem su_zeros (n : Nat) : su (List.replicate n 0) = 0 := by
  induction n with
  | zero => rfl
  | succ n ih => rw [List.replicate_succ, su_cons, ih]; rfl
theorem su_set {l : List UInt64} {k : Nat} (h : k < l.length) (e : UInt64) (hb : (l[k]).toNat + e.toNat < 18446744073709551616) (j : Nat) :
    su ((l.set k (l[k] + e)).take j) = su (l.take j) + if k < j then e.toNat else 0 := by
  induction l generalizing k j with
  | nil => simp at h
  | cons x l ih =>
    cases j with
    | zero => simp [su]
    | succ j =>
      cases k with
      | zero =>
        simp only [List.set_cons_zero, List.take_succ_cons, List.getElem_cons_zero] at hb ⊢
        rw [su_cons, su_cons, if_pos (by omega), UInt64.toNat_add, Nat.mod_eq_of_lt hb]; omega
      | succ k =>
        simp only [List.set_cons_succ, List.take_succ_cons, List.getElem_cons_succ] at hb ⊢
        rw [su_cons, su_cons, ih (by simpa using h) hb]
        by_cases hkj : k < j
        · rw [if_pos hkj, if_pos (by omega)]; omega
        · rw [if_neg hkj, if_neg (by omega)]; omega
/-- lists that sum up alike are alike -/
theorem su_ext {l m : List UInt64} (hl : l.length = m.length) (h : ∀ j, su (l.take j) = su (m.take j)) : l = m := by
  apply List.ext_getElem hl
  intro i h1 h2
  apply UInt64.toNat_inj.1
  have a := su_take_succ h1
  have b := su_take_succ h2
  have c := h i
  have d := h (i + 1)
  omega
/-- more coarsely, by P: t is s with each P buckets one -/
structure Dn (P : Int) (s t : api_Side) : Prop where
  o : t.Offset = s.Offset / P
  l : (t.Counts.length : Int) = (s.Offset + s.Counts.length - 1) / P - s.Offset / P + 1
  su : ∀ j : Nat, su (t.Counts.take j) = su (s.Counts.take (P * (t.Offset + j) - s.Offset).toNat)
theorem Dn.inj {P : Int} {s t u : api_Side} (h : Dn P s t) (k : Dn P s u) : t = u := by
  have ho : t.Offset = u.Offset := by rw [h.o, k.o]
  have hl : t.Counts.length = u.Counts.length := by have := h.l; have := k.l; omega
  have hc : t.Counts = u.Counts := su_ext hl fun j => by rw [h.su, k.su, ho]
  cases t; cases u; simp only at ho hc; subst ho; subst hc; rfl
/-- from what holds of the places alone -/
theorem Dn.of {P : Int} {s t : api_Side} (hP : 0 < P) (o : t.Offset = s.Offset / P) (l : (t.Counts.length : Int) = (s.Offset + s.Counts.length - 1) / P - s.Offset / P + 1)
    (h : ∀ j : Nat, j ≤ t.Counts.length → Lg.su (t.Counts.take j) = Lg.su (s.Counts.take (P * (t.Offset + j) - s.Offset).toNat)) : Dn P s t := by
  refine ⟨o, l, fun j => ?_⟩
  by_cases hj : j ≤ t.Counts.length
  · exact h j hj
  · have hend : ∀ j : Nat, t.Counts.length ≤ j → s.Counts.length ≤ (P * (t.Offset + j) - s.Offset).toNat := by
      intro j hj
      have h1 : P * (t.Offset + j) ≥ P * ((s.Offset + s.Counts.length - 1) / P + 1) := Int.mul_le_mul_of_nonneg_left (by omega) (by omega)
      have h2 : s.Offset + s.Counts.length - 1 < P * ((s.Offset + s.Counts.length - 1) / P + 1) := by
        have h3 := Int.mul_ediv_add_emod (s.Offset + s.Counts.length - 1) P
        have h4 := Int.emod_lt_of_pos (s.Offset + s.Counts.length - 1) hP
        rw [Int.mul_add, Int.mul_one]; omega
      omega
    have h1 := h t.Counts.length (Nat.le_refl _)
    rw [su_all _ (hend _ (Nat.le_refl _)), List.take_length] at h1
    rw [su_all _ (hend j (by omega)), su_all _ (by omega), h1]
theorem Dn.comp {P Q : Int} {s t u : api_Side} (hP : 0 < P) (hQ : 0 < Q) (h : Dn P s t) (k : Dn Q t u) : Dn (P * Q) s u := by
  have ho : u.Offset = s.Offset / (P * Q) := by rw [k.o, h.o, Int.ediv_ediv_of_nonneg (by omega)]
  have hend : t.Offset + t.Counts.length - 1 = (s.Offset + s.Counts.length - 1) / P := by have := h.l; have := h.o; omega
  refine ⟨ho, ?_, fun j => ?_⟩
  · rw [k.l, hend, Int.ediv_ediv_of_nonneg (by omega), h.o, Int.ediv_ediv_of_nonneg (by omega)]
  · rw [k.su, h.su]
    have hq : Q * u.Offset ≤ t.Offset := by rw [k.o]; exact Int.mul_ediv_self_le (by omega)
    by_cases hz : Q * (u.Offset + j) ≤ t.Offset
    · have e1 : (Q * (u.Offset + j) - t.Offset).toNat = 0 := by omega
      have hp : P * t.Offset ≤ s.Offset := by rw [h.o]; exact Int.mul_ediv_self_le (by omega)
      have h2 : P * (Q * (u.Offset + j)) ≤ P * t.Offset := Int.mul_le_mul_of_nonneg_left hz (by omega)
      rw [e1, Int.mul_assoc]
      have e2 : (P * (Q * (u.Offset + j)) - s.Offset).toNat = 0 := by omega
      have e3 : (P * (t.Offset + ((0 : Nat) : Int)) - s.Offset).toNat = 0 := by rw [show t.Offset + ((0 : Nat) : Int) = t.Offset by omega]; omega
      rw [e2, e3]
    · have e1 : t.Offset + ((Q * (u.Offset + j) - t.Offset).toNat : Int) = Q * (u.Offset + j) := by omega
      rw [e1, Int.mul_assoc]
theorem Dn.id (s : api_Side) : Dn 1 s s := by
  refine ⟨by simp, by rw [Int.ediv_one, Int.ediv_one]; omega, fun j => ?_⟩
  congr 2; omega
theorem Dn.tot {P : Int} {s t : api_Side} (hP : 0 < P) (h : Dn P s t) (hn : 0 < s.Counts.length) : Lg.su t.Counts = Lg.su s.Counts := by
  have h1 := h.su t.Counts.length
  rw [List.take_length] at h1
  rw [h1, su_all]
  have hl := h.l
  have ho := h.o
  have h2 : s.Offset + s.Counts.length - 1 < P * ((s.Offset + s.Counts.length - 1) / P + 1) := by
    have h3 := Int.mul_ediv_add_emod (s.Offset + s.Counts.length - 1) P
    have h4 := Int.emod_lt_of_pos (s.Offset + s.Counts.length - 1) hP
    rw [Int.mul_add, Int.mul_one]; omega
  have e : t.Offset + (t.Counts.length : Int) = (s.Offset + s.Counts.length - 1) / P + 1 := by omega
  rw [e]; omega
/-! ### the program's way -/
theorem shrI_nat (a : Int) {n : Nat} (h : n ≤ 64) : shrI a n = a / 2 ^ n := by unfold shrI; rw [Nat.min_eq_left h]
theorem p2 (n : Nat) : (0 : Int) < 2 ^ n := Int.pow_pos (by omega)
theorem div_bd {a : Int} {P : Int} (hP : 0 < P) {b : Int} (hb : 0 ≤ b) (h : -b ≤ a ∧ a ≤ b) : -b ≤ a / P ∧ a / P ≤ b := by
  constructor
  · have : -b ≤ a / P ↔ -b * P ≤ a := Int.le_ediv_iff_mul_le hP
    rw [this]
    have : b ≤ b * P := by
      have := Int.mul_le_mul_of_nonneg_left (show (1 : Int) ≤ P by omega) hb
      omega
    rw [Int.neg_mul]; omega
  · have h1 : a / P ≤ b ↔ a / P < b + 1 := by omega
    rw [h1, Int.ediv_lt_iff_lt_mul hP]
    have := Int.mul_le_mul_of_nonneg_left (show (1 : Int) ≤ P by omega) (show 0 ≤ b + 1 by omega)
    omega
theorem span_eq {s : api_Side} {by_ : Nat} (hb : by_ ≤ 64) (ho : -1100000000000 ≤ s.Offset ∧ s.Offset ≤ 1100000000000) (hn : 0 < s.Counts.length) (hl : s.Counts.length ≤ 1000000) {u : UInt64} (hu : u.toNat = by_) :
    hist_span s u = some ((s.Offset + s.Counts.length - 1) / 2 ^ by_ - s.Offset / 2 ^ by_ + 1) := by
  unfold hist_span
  have h1 := div_bd (p2 by_) (b := 1200000000000) (by omega) (a := s.Offset + s.Counts.length - 1) (by omega)
  have h2 := div_bd (p2 by_) (b := 1200000000000) (by omega) (a := s.Offset) (by omega)
  rw [lett_eq, bifFd (by omega), hu, w64_id (x := s.Offset + s.Counts.length) (by omega) (by omega), w64_id (x := s.Offset + s.Counts.length - 1) (by omega) (by omega), shrI_nat _ hb, shrI_nat _ hb]
  rw [lett_eq, w64_id (x := (s.Offset + s.Counts.length - 1) / 2 ^ by_ - s.Offset / 2 ^ by_) (by omega) (by omega), w64_id (by omega) (by omega)]
theorem ediv_mono {a b P : Int} (hP : 0 < P) (h : a ≤ b) : a / P ≤ b / P := Int.ediv_le_ediv hP h
theorem down_eq {s : api_Side} {by_ : Nat} (hb : by_ ≤ 64) (ho : -1100000000000 ≤ s.Offset ∧ s.Offset ≤ 1100000000000) (hn : 0 < s.Counts.length) (hl : s.Counts.length ≤ 1000000) (hs : su s.Counts < 18446744073709551616) {u : UInt64} (hu : u.toNat = by_) :
    ∃ t, hist_down s u = some t ∧ Dn (2 ^ by_) s t := by
  have hP := p2 by_
  have hspan := span_eq hb ho hn hl hu
  unfold hist_down
  rw [bifFd (by omega), hspan, bind_some, hu, shrI_nat _ hb]
  have h1 := div_bd hP (b := 1200000000000) (by omega) (a := s.Offset + s.Counts.length - 1) (by omega)
  have h2 := div_bd hP (b := 1200000000000) (by omega) (a := s.Offset) (by omega)
  have hmono := ediv_mono hP (show s.Offset ≤ s.Offset + s.Counts.length - 1 by omega)
  have hlen2 : (s.Offset + s.Counts.length - 1) / 2 ^ by_ - s.Offset / 2 ^ by_ ≤ s.Counts.length - 1 := by
    have e1 := Int.mul_ediv_add_emod s.Offset (2 ^ by_)
    have e2 := Int.emod_nonneg s.Offset (show (2 : Int) ^ by_ ≠ 0 by omega)
    have h3 : (s.Offset + s.Counts.length - 1) / 2 ^ by_ < s.Offset / 2 ^ by_ + s.Counts.length := by
      rw [Int.ediv_lt_iff_lt_mul hP]
      have h4 : (s.Offset / 2 ^ by_ + s.Counts.length) * 2 ^ by_ = 2 ^ by_ * (s.Offset / 2 ^ by_) + s.Counts.length * 2 ^ by_ := by rw [Int.add_mul, Int.mul_comm (s.Offset / 2 ^ by_)]
      have h5 : (s.Counts.length : Int) * 1 ≤ s.Counts.length * 2 ^ by_ := Int.mul_le_mul_of_nonneg_left (by omega) (by omega)
      have h6 := Int.emod_lt_of_pos s.Offset hP
      rw [h4]
      have h7 : (s.Counts.length : Int) - 1 + s.Offset % 2 ^ by_ < s.Counts.length * 2 ^ by_ := by
        have h8 : ((s.Counts.length : Int) - 1) * 1 ≤ (s.Counts.length - 1) * 2 ^ by_ := Int.mul_le_mul_of_nonneg_left (by omega) (by omega)
        have h9 : ((s.Counts.length : Int) - 1) * 2 ^ by_ = s.Counts.length * 2 ^ by_ - 2 ^ by_ := by rw [Int.sub_mul, Int.one_mul]
        rw [h9, Int.mul_one] at h8; omega
      omega
    omega
  obtain ⟨m, hm⟩ : ∃ m : Nat, (s.Offset + s.Counts.length - 1) / 2 ^ by_ - s.Offset / 2 ^ by_ + 1 = (m : Int) := ⟨((s.Offset + s.Counts.length - 1) / 2 ^ by_ - s.Offset / 2 ^ by_ + 1).toNat, by omega⟩
  have hmk : mk ((s.Offset + s.Counts.length - 1) / 2 ^ by_ - s.Offset / 2 ^ by_ + 1) (0 : UInt64) = some (List.replicate m 0) := by
    unfold mk LIM
    rw [hm, if_pos (by omega)]; simp
  rw [hmk, bind_some, bind_some, bind_some]
  have key : ∀ (k x : Nat) (c : List UInt64), x + k = s.Counts.length → c.length = m → (∀ j : Nat, su (c.take j) = su ((s.Counts.take x).take (2 ^ by_ * (s.Offset / 2 ^ by_ + j) - s.Offset).toNat)) →
      ∃ c', loop (hist_down_lp1 s u) (c, (x : Int)) = some (.go c') ∧ c'.length = m ∧ (∀ j : Nat, su (c'.take j) = su (s.Counts.take (2 ^ by_ * (s.Offset / 2 ^ by_ + j) - s.Offset).toNat)) := by
    intro k
    induction k with
    | zero =>
      intro x c hx hc hinv
      obtain rfl : x = s.Counts.length := by omega
      refine ⟨c, loop_brk ?_, hc, fun j => by rw [hinv j, List.take_length]⟩
      unfold hist_down_lp1
      dsimp only
      rw [bifFd (by omega)]
    | succ k ih =>
      intro x c hx hc hinv
      have hlt : x < s.Counts.length := by omega
      have m1 := ediv_mono hP (show s.Offset ≤ s.Offset + x by omega)
      have m2 := ediv_mono hP (show s.Offset + x ≤ s.Offset + s.Counts.length - 1 by omega)
      obtain ⟨q, hq⟩ : ∃ q : Nat, (s.Offset + x) / 2 ^ by_ - s.Offset / 2 ^ by_ = (q : Int) := ⟨((s.Offset + x) / 2 ^ by_ - s.Offset / 2 ^ by_).toNat, by omega⟩
      have hqm : q < m := by omega
      have hql : q < c.length := by omega
      have hsum : (c[q]).toNat + (s.Counts[x]).toNat < 18446744073709551616 := by
        have a := su_get_le hql
        have b := hinv c.length
        rw [List.take_length] at b
        have d := su_take_le (s.Counts.take x) (2 ^ by_ * (s.Offset / 2 ^ by_ + (c.length : Int)) - s.Offset).toNat
        have e := su_take_succ hlt
        have f := su_take_le s.Counts (x + 1)
        omega
      have hr : hist_down_lp1 s u (c, (x : Int)) = some (.next (c.set q (c[q] + s.Counts[x]), ((x + 1 : Nat) : Int))) := by
        unfold hist_down_lp1
        dsimp only
        rw [bifTd (by omega), idx_nat hlt, bind_some, hu, shrI_nat _ hb, shrI_nat _ hb, w64_id (x := s.Offset + x) (by omega) (by omega), hq, w64_nat (by omega), idx_nat hql, bind_some, bind_some, lett_eq, setI_nat hql, bind_some, w64_succ (by omega)]
      obtain ⟨c', g1, g2, g3⟩ := ih (x + 1) (c.set q (c[q] + s.Counts[x])) (by omega) (by simpa using hc) (fun j => by
        rw [su_set hql _ hsum, hinv j]
        have hiff : q < j ↔ x < (2 ^ by_ * (s.Offset / 2 ^ by_ + j) - s.Offset).toNat := by
          have h3 : (s.Offset + x) / 2 ^ by_ < s.Offset / 2 ^ by_ + j ↔ s.Offset + x < (s.Offset / 2 ^ by_ + j) * 2 ^ by_ := Int.ediv_lt_iff_lt_mul hP
          rw [Int.mul_comm] at h3
          omega
        generalize (2 ^ by_ * (s.Offset / 2 ^ by_ + (j : Int)) - s.Offset).toNat = t at hiff
        by_cases hqj : q < j
        · have ht := hiff.1 hqj
          have e1 : (s.Counts.take x).take t = s.Counts.take x := List.take_of_length_le (by rw [List.length_take]; omega)
          have e2 : (s.Counts.take (x + 1)).take t = s.Counts.take (x + 1) := List.take_of_length_le (by rw [List.length_take]; omega)
          rw [if_pos hqj, e1, e2, su_take_succ hlt]
        · have ht : t ≤ x := by have := mt hiff.2 hqj; omega
          rw [if_neg hqj, List.take_take, List.take_take, Nat.min_eq_left ht, Nat.min_eq_left (by omega)]; omega)
      exact ⟨c', by rw [loop_next hr]; exact g1, g2, g3⟩
  obtain ⟨c', g1, g2, g3⟩ := key s.Counts.length 0 (List.replicate m 0) (by omega) (by simp) (fun j => by
    rw [List.take_zero, List.take_nil, List.take_replicate, su_zeros]; rfl)
  have g1' : loop (hist_down_lp1 s u) (List.replicate m 0, 0) = some (.go c') := g1
  rw [g1', flow_go]
  exact ⟨_, rfl, rfl, by dsimp only; omega, g3⟩
end Go.Lg
namespace Go.Lg
attribute [local irreducible] w64 toU64 toU8 shlU shrU shlB shrB
theorem half_eq {i : Int} (h : -2000000000000 ≤ i ∧ i ≤ 2000000000000) : ref08_half i = some (i / 2) := by
  unfold ref08_half
  by_cases h0 : i < 0
  · obtain ⟨m, hm⟩ : ∃ m : Nat, 1 - i = (m : Int) := ⟨(1 - i).toNat, by omega⟩
    rw [bifTd h0, lett_eq, w64_id (x := 1 - i) (by omega) (by omega), hm, show (2 : Int) = ((2 : Nat) : Int) from rfl, tdivN, w64_nat (by omega), w64_id (by omega) (by omega)]
    congr 1; omega
  · obtain ⟨m, rfl⟩ : ∃ m : Nat, i = (m : Int) := ⟨i.toNat, by omega⟩
    rw [bifFd h0, lett_eq, show (2 : Int) = ((2 : Nat) : Int) from rfl, tdivN, w64_nat (by omega)]
    congr 1
theorem su_app1 (l : List UInt64) (x : UInt64) (j : Nat) : su ((l ++ [x]).take j) = su (l.take j) + if l.length < j then x.toNat else 0 := by
  by_cases h : l.length < j
  · rw [if_pos h, List.take_of_length_le (by simp; omega), List.take_of_length_le (by omega), su_snoc]
  · rw [if_neg h, List.take_append_of_le_length (by omega)]; rfl
theorem set_last {l : List UInt64} {q : Nat} (h : q + 1 = l.length) (x : UInt64) : l.take q ++ [x] = l.set q x := by
  apply List.ext_getElem?
  intro i
  rw [List.getElem?_set, List.getElem?_append, List.length_take]
  by_cases h1 : i < q
  · rw [if_pos (by omega), if_neg (by omega), List.getElem?_take, if_pos h1]
  · rw [if_neg (by omega)]
    by_cases h2 : q = i
    · subst h2; rw [if_pos rfl, if_pos (by omega)]; simp [show min q l.length = q by omega]
    · rw [if_neg h2, List.getElem?_eq_none (by simp; omega), List.getElem?_eq_none (by omega)]
theorem once_eq {s : api_Side} (ho : -1100000000000 ≤ s.Offset ∧ s.Offset ≤ 1100000000000) (hn : 0 < s.Counts.length) (hl : s.Counts.length ≤ 1000000) (hs : su s.Counts < 18446744073709551616) :
    ∃ t, ref08_once s = some t ∧ Dn 2 s t := by
  have key : ∀ (k i : Nat) (c : List UInt64), i + k = s.Counts.length → 1 ≤ i → (c.length : Int) = (s.Offset + i - 1) / 2 - s.Offset / 2 + 1 → (∀ j : Nat, su (c.take j) = su ((s.Counts.take i).take (2 * (s.Offset / 2 + j) - s.Offset).toNat)) →
      ∃ c', loop (ref08_once_lp1 s) (s.Offset / 2, c, (i : Int)) = some (.go (s.Offset / 2, c')) ∧ (c'.length : Int) = (s.Offset + s.Counts.length - 1) / 2 - s.Offset / 2 + 1 ∧ (∀ j : Nat, su (c'.take j) = su (s.Counts.take (2 * (s.Offset / 2 + j) - s.Offset).toNat)) := by
    intro k
    induction k with
    | zero =>
      intro i c hi _ hc hinv
      obtain rfl : i = s.Counts.length := by omega
      refine ⟨c, loop_brk ?_, hc, fun j => by rw [hinv j, List.take_length]⟩
      unfold ref08_once_lp1
      dsimp only
      rw [bifFd (by omega)]
    | succ k ih =>
      intro i c hi h1 hc hinv
      have hlt : i < s.Counts.length := by omega
      have hcl : 0 < c.length := by omega
      have hclb : c.length ≤ 1000000 := by omega
      have hiff : ∀ (q j : Nat), (s.Offset + i) / 2 - s.Offset / 2 = (q : Int) → (q < j ↔ i < (2 * (s.Offset / 2 + j) - s.Offset).toNat) := by
        intro q j hq; omega
      have hstep : ∀ c2 : List UInt64, (∃ q : Nat, (s.Offset + i) / 2 - s.Offset / 2 = (q : Int) ∧ ∀ j : Nat, su (c2.take j) = su (c.take j) + if q < j then (s.Counts[i]).toNat else 0) →
          ∀ j : Nat, su (c2.take j) = su ((s.Counts.take (i + 1)).take (2 * (s.Offset / 2 + j) - s.Offset).toNat) := by
        rintro c2 ⟨q, hq, hc2⟩ j
        rw [hc2, hinv j]
        have hi2 := hiff q j hq
        generalize (2 * (s.Offset / 2 + (j : Int)) - s.Offset).toNat = t at hi2
        by_cases hqj : q < j
        · have ht := hi2.1 hqj
          have e1 : (s.Counts.take i).take t = s.Counts.take i := List.take_of_length_le (by rw [List.length_take]; omega)
          have e2 : (s.Counts.take (i + 1)).take t = s.Counts.take (i + 1) := List.take_of_length_le (by rw [List.length_take]; omega)
          rw [if_pos hqj, e1, e2, su_take_succ hlt]
        · have ht : t ≤ i := by have := mt hi2.2 hqj; omega
          rw [if_neg hqj, List.take_take, List.take_take, Nat.min_eq_left ht, Nat.min_eq_left (by omega)]; omega
      have B1 : i + 1 < 9223372036854775808 := by omega
      have E1 : w64 (s.Offset + (i : Int)) = s.Offset + i := w64_id (by omega) (by omega)
      have E2 : w64 ((w64 (s.Offset / 2 + (c.length : Int))) - 1) = s.Offset / 2 + c.length - 1 := by rw [w64_id (x := s.Offset / 2 + (c.length : Int)) (by omega) (by omega), w64_id (by omega) (by omega)]
      by_cases hsame : (s.Offset + i) / 2 = s.Offset / 2 + c.length - 1
      · obtain ⟨q, hq⟩ : ∃ q : Nat, q + 1 = c.length := ⟨c.length - 1, by omega⟩
        have hql : q < c.length := by omega
        have hsum : (c[q]).toNat + (s.Counts[i]).toNat < 18446744073709551616 := by
          have a := su_get_le hql
          have b := hinv c.length
          rw [List.take_length] at b
          have d := su_take_le (s.Counts.take i) (2 * (s.Offset / 2 + (c.length : Int)) - s.Offset).toNat
          have e := su_take_succ hlt
          have f := su_take_le s.Counts (i + 1)
          clear hinv hstep hiff E1 E2
          omega
        have hr : ref08_once_lp1 s (s.Offset / 2, c, (i : Int)) = some (.next (s.Offset / 2, c.set q (c[q] + s.Counts[i]), ((i + 1 : Nat) : Int))) := by
          have E3 : w64 ((c.length : Int) - 1) = (q : Int) := by rw [w64_id (by omega) (by omega)]; omega
          unfold ref08_once_lp1
          dsimp only
          rw [bifTd (by omega), E1, half_eq (by omega), bind_some, bifFd (by omega), E2, bifTd hsame, lett_eq, E3, idx_nat hql, bind_some, idx_nat hlt, bind_some, lett_eq, show (0 : Int) = ((0 : Nat) : Int) from rfl, slc_nat (by omega) (by omega), bind_some, List.drop_zero,
            app_ok (by simp; omega), bind_some, List.nil_append, app_ok (by simp; omega), bind_some, bind_some]
          dsimp only
          rw [lett_eq, w64_succ B1, set_last hq]
        obtain ⟨c', g1, g2, g3⟩ := ih (i + 1) _ (by omega) (by omega) (by rw [List.length_set]; omega) (hstep _ ⟨q, by omega, fun j => su_set hql _ hsum j⟩)
        exact ⟨c', by rw [loop_next hr, g1], g2, g3⟩
      · have hr : ref08_once_lp1 s (s.Offset / 2, c, (i : Int)) = some (.next (s.Offset / 2, c ++ [s.Counts[i]], ((i + 1 : Nat) : Int))) := by
          unfold ref08_once_lp1
          dsimp only
          rw [bifTd (by omega), E1, half_eq (by omega), bind_some, bifFd (by omega), E2, bifFd hsame, idx_nat hlt, bind_some, app_ok (by simp; omega), bind_some, bind_some]
          dsimp only
          rw [lett_eq, w64_succ B1]
        obtain ⟨c', g1, g2, g3⟩ := ih (i + 1) _ (by omega) (by omega) (by rw [List.length_append, List.length_singleton]; omega) (hstep _ ⟨c.length, by omega, fun j => su_app1 _ _ j⟩)
        exact ⟨c', by rw [loop_next hr, g1], g2, g3⟩
  have hr0 : ref08_once_lp1 s (0, [], ((0 : Nat) : Int)) = some (.next (s.Offset / 2, [s.Counts[0]], ((1 : Nat) : Int))) := by
    unfold ref08_once_lp1
    dsimp only
    rw [bifTd (by omega), show s.Offset + ((0 : Nat) : Int) = s.Offset by omega, w64_id (by omega) (by omega), half_eq (by omega), bind_some, bifTd (by simp), idx_nat hn, bind_some, bind_some]
    dsimp only
    rw [lett_eq, w64_succ (by omega)]
  obtain ⟨c', g1, g2, g3⟩ := key (s.Counts.length - 1) 1 [s.Counts[0]] (by omega) (by omega) (by simp only [List.length_singleton]; omega) (fun j => by
    have e1 : s.Counts.take 1 = [s.Counts[0]] := by rw [show (1 : Nat) = 0 + 1 from rfl, take_snoc hn]; rfl
    rw [e1]
    by_cases hj : j = 0
    · subst hj
      have : (2 * (s.Offset / 2 + ((0 : Nat) : Int)) - s.Offset).toNat = 0 := by omega
      rw [this]
    · rw [List.take_of_length_le (by simp; omega), List.take_of_length_le (by simp; omega)])
  refine ⟨⟨s.Offset / 2, c'⟩, ?_, rfl, g2, g3⟩
  unfold ref08_once
  have hr0' : ref08_once_lp1 s (0, [], 0) = _ := hr0
  rw [loop_next hr0', g1, flow_go]
/-! ### ends that are nought -/
def zl : List UInt64 → Nat
  | [] => 0
  | x :: l => if x = 0 then 1 + zl l else 0
theorem zl_le : ∀ l : List UInt64, zl l ≤ l.length
  | [] => by simp [zl]
  | x :: l => by have := zl_le l; rw [zl]; split <;> simp <;> omega
theorem zl_at (l : List UInt64) (h : zl l < l.length) : l[zl l] ≠ 0 := by
  induction l with
  | nil => simp at h
  | cons x l ih =>
    simp only [zl] at h ⊢
    by_cases hx : x = 0
    · simp only [if_pos hx] at h ⊢
      have := ih (by simp at h; omega)
      simpa [Nat.add_comm 1] using this
    · simp only [if_neg hx]; simpa using hx
/-- how many stay when noughts behind place a are struck, from place n down -/
def kl (l : List UInt64) (a : Nat) : Nat → Nat
  | 0 => 0
  | n + 1 => if a < n + 1 ∧ l.getD n 0 = 0 then kl l a n else n + 1
theorem kl_le (l : List UInt64) (a : Nat) : ∀ n, kl l a n ≤ n
  | 0 => Nat.le_refl _
  | n + 1 => by rw [kl]; have := kl_le l a n; split <;> omega
theorem kl_gt {l : List UInt64} {a : Nat} (ha : l.getD a 0 ≠ 0) : ∀ n, a < n → a < kl l a n
  | 0, h => by omega
  | n + 1, h => by
    rw [kl]
    by_cases hn : n = a
    · subst hn; rw [if_neg (fun h => ha h.2)]; omega
    · split
      · exact kl_gt ha n (by omega)
      · omega
def trimS (s : api_Side) : api_Side :=
  if zl s.Counts = s.Counts.length then ⟨0, []⟩ else ⟨s.Offset + zl s.Counts, (s.Counts.take (kl s.Counts (zl s.Counts) s.Counts.length)).drop (zl s.Counts)⟩
theorem rtrim_front : ∀ (l : List UInt64) (a : Int), -1200000000000 ≤ a ∧ a + l.length ≤ 1200000000000 → l.length ≤ 1000000 → loop ref08_Trim_lp1 (l, a) = some (.go (l.drop (zl l), a + zl l)) := by
  intro l
  induction l with
  | nil =>
    intro a _ _
    refine loop_brk ?_
    unfold ref08_Trim_lp1
    dsimp only
    rw [bifFd (by simp), bind_some, cond_false]
    simp [zl]
  | cons x l ih =>
    intro a ha hl
    simp only [List.length_cons] at ha hl
    rw [zl]
    by_cases h0 : x = 0
    · rw [if_pos h0, loop_next (s' := (l, a + 1)), ih (a + 1) (by omega) (by omega)]
      · rw [Nat.add_comm 1, List.drop_succ_cons]
        congr 3; omega
      · unfold ref08_Trim_lp1
        dsimp only
        rw [bifTd (by simp only [List.length_cons]; omega), idx_0 (by simp), bind_some, bind_some, bifTd (by simpa using h0), show (1 : Int) = ((1 : Nat) : Int) from rfl, slc_nat (by simp) (Nat.le_refl _), bind_some, lett_eq, List.take_length, w64_id (by omega) (by omega)]
        rfl
    · rw [if_neg h0]
      refine loop_brk ?_
      unfold ref08_Trim_lp1
      dsimp only
      rw [bifTd (by simp only [List.length_cons]; omega), idx_0 (by simp), bind_some, bind_some, bifFd (by simpa using h0)]
      simp
theorem rtrim_back (l : List UInt64) (hl : l.length ≤ 1000000) : ∀ n, n ≤ l.length → loop ref08_Trim_lp2 (l.take n) = some (.go (l.take (kl l 0 n))) := by
  intro n
  induction n with
  | zero =>
    intro _
    refine loop_brk ?_
    unfold ref08_Trim_lp2
    rw [List.take_zero, bifFd (by simp), bind_some, cond_false]; rfl
  | succ n ih =>
    intro hn
    have hlen : (l.take (n + 1)).length = n + 1 := by rw [List.length_take]; omega
    have e1 : w64 (((l.take (n + 1)).length : Int) - 1) = (n : Int) := by rw [hlen, w64_id (by omega) (by omega)]; omega
    have hg : (l.take (n + 1))[n]'(by omega) = l[n]'(by omega) := by simp
    rw [kl]
    by_cases h0 : l.getD n 0 = 0
    · rw [if_pos ⟨by omega, h0⟩, loop_next (s' := l.take n), ih (by omega)]
      unfold ref08_Trim_lp2
      rw [getD_lt (by omega)] at h0
      rw [bifTd (by omega), e1, idx_nat (by omega), hg, bind_some, bind_some, bifTd h0, show (0 : Int) = ((0 : Nat) : Int) from rfl, slc_nat (by omega) (by omega), bind_some, List.drop_zero, List.take_take, Nat.min_eq_left (by omega)]
    · rw [if_neg (fun h => h0 h.2)]
      refine loop_brk ?_
      unfold ref08_Trim_lp2
      rw [getD_lt (by omega)] at h0
      rw [bifTd (by omega), e1, idx_nat (by omega), hg, bind_some, bind_some, bifFd h0]
theorem kl_drop (l : List UInt64) (a : Nat) : ∀ n, a + n ≤ l.length → kl l a (a + n) = a + kl (l.drop a) 0 n
  | 0, h => by
    cases a with
    | zero => rfl
    | succ a =>
      show kl l (a + 1) (a + 1) = a + 1
      rw [kl, if_neg (by omega)]
  | n + 1, h => by
    rw [← Nat.add_assoc, kl, kl]
    have hd : l.getD (a + n) 0 = (l.drop a).getD n 0 := by rw [getD_lt (by omega), getD_lt (by simp; omega)]; simp
    rw [hd, kl_drop l a n (by omega)]
    by_cases h0 : (l.drop a).getD n 0 = 0
    · rw [if_pos ⟨by omega, h0⟩, if_pos ⟨by omega, h0⟩]
    · rw [if_neg (fun h => h0 h.2), if_neg (fun h => h0 h.2)]; omega
theorem RTrim_eq {s : api_Side} (ho : -1100000000000 ≤ s.Offset ∧ s.Offset ≤ 1100000000000) (hl : s.Counts.length ≤ 1000000) : ref08_Trim s = some (trimS s) := by
  have hz := zl_le s.Counts
  have f1 := rtrim_front s.Counts s.Offset (by omega) hl
  have hdl : (s.Counts.drop (zl s.Counts)).length = s.Counts.length - zl s.Counts := List.length_drop
  have f2 := rtrim_back (s.Counts.drop (zl s.Counts)) (by omega) (s.Counts.drop (zl s.Counts)).length (Nat.le_refl _)
  rw [List.take_length, hdl] at f2
  have hk := kl_drop s.Counts (zl s.Counts) (s.Counts.length - zl s.Counts) (by omega)
  rw [show zl s.Counts + (s.Counts.length - zl s.Counts) = s.Counts.length by omega] at hk
  have hkl := kl_le (s.Counts.drop (zl s.Counts)) 0 (s.Counts.length - zl s.Counts)
  unfold ref08_Trim trimS
  rw [f1, flow_go, bind_some]
  dsimp only
  rw [f2, flow_go, bind_some]
  have htl : ((s.Counts.drop (zl s.Counts)).take (kl (s.Counts.drop (zl s.Counts)) 0 (s.Counts.length - zl s.Counts))).length = kl (s.Counts.drop (zl s.Counts)) 0 (s.Counts.length - zl s.Counts) := by rw [List.length_take]; omega
  by_cases h : zl s.Counts = s.Counts.length
  · rw [if_pos h, bifTd (by rw [htl]; omega)]
  · have h0 := zl_at s.Counts (by omega)
    have hgt := kl_gt (l := s.Counts) (a := zl s.Counts) (by rw [getD_lt (by omega)]; exact h0) s.Counts.length (by omega)
    rw [if_neg h, bifFd (by rw [htl]; omega), app_ok (by rw [htl]; simp; omega), bind_some, List.nil_append, hk, List.drop_take]
    congr 3; omega
theorem trim_right {s : api_Side} (h : sideE s = 0) : trimS s = s := by
  unfold sideE at h
  by_cases h1 : 160 < s.Counts.length
  · rw [if_pos h1] at h; exact absurd h (by decide)
  rw [if_neg h1] at h
  by_cases h2 : s.Counts.length = 0
  · rw [if_pos h2] at h
    by_cases h3 : s.Offset = 0
    · have hc : s.Counts = [] := List.eq_nil_of_length_eq_zero h2
      unfold trimS
      rw [hc]
      obtain ⟨o, c⟩ := s
      simp only at h3 hc; subst h3; subst hc; rfl
    · rw [if_neg h3] at h; exact absurd h (by decide)
  rw [if_neg h2] at h
  by_cases h3 : s.Counts.getD 0 0 = 0 ∨ s.Counts.getD (s.Counts.length - 1) 0 = 0
  · rw [if_pos h3] at h; exact absurd h (by decide)
  have hz : zl s.Counts = 0 := by
    match hc : s.Counts with
    | [] => rfl
    | x :: l => rw [hc] at h3; rw [zl, if_neg (by simpa using fun e => h3 (.inl e))]
  have hk : kl s.Counts 0 s.Counts.length = s.Counts.length := by
    match hn : s.Counts.length with
    | 0 => rfl
    | n + 1 => rw [kl, if_neg (fun h' => h3 (.inr (by rw [hn]; exact h'.2)))]
  unfold trimS
  rw [if_neg (by omega), hz, hk, List.take_length]
  obtain ⟨o, c⟩ := s
  simp
end Go.Lg
namespace Go.Lg
attribute [local irreducible] w64 toU64 toU8 shlU shrU shlB shrB
/-! ### right sides -/
structure RightS (s : api_Side) : Prop where
  len : s.Counts.length ≤ 160
  z : s.Counts.length = 0 → s.Offset = 0
  f : ∀ (h : 0 < s.Counts.length), s.Counts[0] ≠ 0
  e : ∀ (h : 0 < s.Counts.length), s.Counts[s.Counts.length - 1] ≠ 0
  lo : 0 < s.Counts.length → -1073741824 ≤ s.Offset
  hi : 0 < s.Counts.length → s.Offset + s.Counts.length - 1 ≤ 1073741824
theorem right_iff (s : api_Side) : sideE s = 0 ↔ RightS s := by
  unfold sideE
  by_cases h1 : 160 < s.Counts.length
  · rw [if_pos h1]; exact ⟨fun h => absurd h (by decide), fun h => by have := h.len; omega⟩
  rw [if_neg h1]
  by_cases h2 : s.Counts.length = 0
  · rw [if_pos h2]
    by_cases h3 : s.Offset = 0
    · rw [if_pos h3]; exact ⟨fun _ => ⟨by omega, fun _ => h3, fun h => by omega, fun h => by omega, fun h => by omega, fun h => by omega⟩, fun _ => rfl⟩
    · rw [if_neg h3]; exact ⟨fun h => absurd h (by decide), fun h => absurd (h.z h2) h3⟩
  rw [if_neg h2]
  by_cases h3 : s.Counts.getD 0 0 = 0 ∨ s.Counts.getD (s.Counts.length - 1) 0 = 0
  · rw [if_pos h3]
    rw [getD_lt (by omega), getD_lt (by omega)] at h3
    exact ⟨fun h => absurd h (by decide), fun h => h3.elim (fun e => absurd e (h.f (by omega))) (fun e => absurd e (h.e (by omega)))⟩
  rw [if_neg h3]
  rw [getD_lt (by omega), getD_lt (by omega)] at h3
  by_cases h5 : s.Offset < -1073741824 ∨ 1073741824 - ((s.Counts.length : Int) - 1) < s.Offset
  · rw [if_pos h5]
    exact ⟨fun h => absurd h (by decide), fun h => by have := h.lo (by omega); have := h.hi (by omega); omega⟩
  · rw [if_neg h5]
    exact ⟨fun _ => ⟨by omega, fun h => absurd h h2, fun _ => fun e => h3 (.inl e), fun _ => fun e => h3 (.inr e), fun _ => by omega, fun _ => by omega⟩, fun _ => rfl⟩
theorem RightS.off {s : api_Side} (h : RightS s) : -1100000000000 ≤ s.Offset ∧ s.Offset ≤ 1100000000000 := by
  by_cases h0 : s.Counts.length = 0
  · have := h.z h0; omega
  · have := h.lo (by omega); have := h.hi (by omega); omega
structure Good (h : api_Hist) : Prop where
  s1 : -10 ≤ h.Scale
  s2 : h.Scale ≤ 20
  p : RightS h.Pos
  n : RightS h.Neg
  t : tot h < 18446744073709551616
theorem good_iff (h : api_Hist) : histE h = 0 ↔ Good h := by
  unfold histE
  by_cases h1 : h.Scale < -10 ∨ 20 < h.Scale
  · rw [if_pos h1]; exact ⟨fun h => absurd h (by decide), fun g => by have := g.s1; have := g.s2; omega⟩
  rw [if_neg h1]
  by_cases h2 : sideE h.Pos ≠ 0
  · rw [if_pos h2]; exact ⟨fun h => absurd h h2, fun g => absurd ((right_iff _).2 g.p) h2⟩
  rw [if_neg h2]
  by_cases h3 : sideE h.Neg ≠ 0
  · rw [if_pos h3]; exact ⟨fun h => absurd h h3, fun g => absurd ((right_iff _).2 g.n) h3⟩
  rw [if_neg h3]
  by_cases h4 : tot h < 18446744073709551616
  · rw [if_pos h4]
    exact ⟨fun _ => ⟨by omega, by omega, (right_iff _).1 (Decidable.not_not.1 h2), (right_iff _).1 (Decidable.not_not.1 h3), h4⟩, fun _ => rfl⟩
  · rw [if_neg h4]; exact ⟨fun h => absurd h (by decide), fun g => absurd g.t h4⟩
theorem Good.ok {h : api_Hist} (g : Good h) : OkH h := by
  have := g.p.off; have := g.n.off; have := g.p.len; have := g.n.len; have := g.s1; have := g.s2
  exact ⟨by unfold I64; omega, by unfold I64; omega, by unfold I64; omega, by omega, by omega⟩
theorem Good.sp {h : api_Hist} (g : Good h) : su h.Pos.Counts < 18446744073709551616 := by have := g.t; unfold tot at this; omega
theorem Good.sn {h : api_Hist} (g : Good h) : su h.Neg.Counts < 18446744073709551616 := by have := g.t; unfold tot at this; omega
/-- a side's image, by 2^k -/
def DnS (k : Nat) (s t : api_Side) : Prop := (s.Counts.length = 0 ∧ t = ⟨0, []⟩) ∨ (0 < s.Counts.length ∧ Dn (2 ^ k) s t)
theorem DnS.inj {k : Nat} {s t u : api_Side} (h : DnS k s t) (h' : DnS k s u) : t = u := by
  rcases h with ⟨a, b⟩ | ⟨a, b⟩ <;> rcases h' with ⟨c, d⟩ | ⟨c, d⟩
  · rw [b, d]
  · omega
  · omega
  · exact b.inj d
theorem Dn.pos {P : Int} {s t : api_Side} (hP : 0 < P) (h : Dn P s t) (hn : 0 < s.Counts.length) : 0 < t.Counts.length := by
  have := h.l
  have := ediv_mono hP (show s.Offset ≤ s.Offset + s.Counts.length - 1 by omega)
  omega
theorem Dn.le {P : Int} {s t : api_Side} (hP : 0 < P) (h : Dn P s t) (hn : 0 < s.Counts.length) : t.Counts.length ≤ s.Counts.length := by
  have h1 := h.l
  have h3 : (s.Offset + s.Counts.length - 1) / P < s.Offset / P + s.Counts.length := by
    rw [Int.ediv_lt_iff_lt_mul hP]
    have e1 := Int.mul_ediv_add_emod s.Offset P
    have h4 : (s.Offset / P + s.Counts.length) * P = P * (s.Offset / P) + s.Counts.length * P := by rw [Int.add_mul, Int.mul_comm (s.Offset / P)]
    have h6 := Int.emod_lt_of_pos s.Offset hP
    have h8 : ((s.Counts.length : Int) - 1) * 1 ≤ (s.Counts.length - 1) * P := Int.mul_le_mul_of_nonneg_left (by omega) (by omega)
    have h9 : ((s.Counts.length : Int) - 1) * P = s.Counts.length * P - P := by rw [Int.sub_mul, Int.one_mul]
    rw [h9, Int.mul_one] at h8
    rw [h4]; omega
  omega
theorem DnS.right {k : Nat} {s t : api_Side} (hs : RightS s) (h : DnS k s t) (hb : su s.Counts < 18446744073709551616) : RightS t := by
  rcases h with ⟨a, rfl⟩ | ⟨hn, h⟩
  · exact ⟨by simp, fun _ => rfl, fun h => by simp at h, fun h => by simp at h, fun h => by simp at h, fun h => by simp at h⟩
  have hP := p2 k
  have hle := h.le hP hn
  have hpos := h.pos hP hn
  have ho := h.o
  have hl := h.l
  have hlo := hs.lo hn
  have hhi := hs.hi hn
  have d1 := div_bd hP (b := 1073741824) (by omega) (a := s.Offset) (by omega)
  have d2 := div_bd hP (b := 1073741824) (by omega) (a := s.Offset + s.Counts.length - 1) (by omega)
  refine ⟨by have := hs.len; omega, fun h => by omega, fun _ => ?_, fun _ => ?_, fun _ => by omega, fun _ => by omega⟩
  · intro e
    have h1 := h.su 1
    have h2 := su_take_succ hpos
    rw [e] at h2
    have h3 := su_take_succ hn
    have h4 := hs.f hn
    have h5 : (s.Counts[0]).toNat ≠ 0 := fun e => h4 (UInt64.toNat_inj.1 (by rw [e]; rfl))
    have h6 : 1 ≤ (2 ^ k * (t.Offset + ((1 : Nat) : Int)) - s.Offset).toNat := by
      have e1 := Int.mul_ediv_add_emod s.Offset (2 ^ k)
      have e2 := Int.emod_lt_of_pos s.Offset hP
      rw [ho, Int.mul_add]; omega
    have h7 := su_take_mono s.Counts h6
    have hz : (0 : UInt64).toNat = 0 := rfl
    simp only [Nat.zero_add, List.take_zero, su_nil] at h1 h2 h3
    omega
  · intro e
    obtain ⟨m, hm⟩ : ∃ m, t.Counts.length = m + 1 := ⟨t.Counts.length - 1, by omega⟩
    have h2 := su_take_succ (l := t.Counts) (i := t.Counts.length - 1) (by omega)
    rw [e, show t.Counts.length - 1 + 1 = t.Counts.length by omega, List.take_length] at h2
    have h1 := h.su (t.Counts.length - 1)
    have h3 := h.tot hP hn
    have h4 := su_take_succ (l := s.Counts) (i := s.Counts.length - 1) (by omega)
    rw [show s.Counts.length - 1 + 1 = s.Counts.length by omega, List.take_length] at h4
    have h5 := hs.e hn
    have h6 : (s.Counts[s.Counts.length - 1]).toNat ≠ 0 := fun e => h5 (UInt64.toNat_inj.1 (by rw [e]; rfl))
    have h7 : (2 ^ k * (t.Offset + ((t.Counts.length - 1 : Nat) : Int)) - s.Offset).toNat ≤ s.Counts.length - 1 := by
      have e1 : t.Offset + ((t.Counts.length - 1 : Nat) : Int) = (s.Offset + s.Counts.length - 1) / 2 ^ k := by omega
      have e2 : 2 ^ k * ((s.Offset + s.Counts.length - 1) / 2 ^ k) ≤ s.Offset + s.Counts.length - 1 := Int.mul_ediv_self_le (by omega)
      rw [e1]; omega
    have h8 := su_take_mono s.Counts h7
    have : (0 : UInt64).toNat = 0 := rfl
    omega
theorem DnS.comp {a b : Nat} {s t u : api_Side} (h : DnS a s t) (k : DnS b t u) : DnS (a + b) s u := by
  rcases h with ⟨x, rfl⟩ | ⟨x, y⟩
  · rcases k with ⟨_, z⟩ | ⟨z, _⟩
    · exact .inl ⟨x, z⟩
    · simp at z
  · have := y.pos (p2 a) x
    rcases k with ⟨z, _⟩ | ⟨_, z⟩
    · omega
    · exact .inr ⟨x, by rw [Int.pow_add]; exact y.comp (p2 a) (p2 b) z⟩
theorem DnS.zero {s : api_Side} (h : RightS s) : DnS 0 s s := by
  by_cases h0 : s.Counts.length = 0
  · refine .inl ⟨h0, ?_⟩
    have := h.z h0
    obtain ⟨o, c⟩ := s
    simp only at this h0
    rw [this, List.eq_nil_of_length_eq_zero h0]
  · exact .inr ⟨by omega, by simpa using Dn.id s⟩
theorem DnS.tot {k : Nat} {s t : api_Side} (h : DnS k s t) : su t.Counts = su s.Counts := by
  rcases h with ⟨a, rfl⟩ | ⟨hn, h⟩
  · rw [List.eq_nil_of_length_eq_zero a]
  · exact h.tot (p2 k) hn
theorem down_side {s : api_Side} (h : RightS s) (hb : su s.Counts < 18446744073709551616) {k : Nat} (hk : k ≤ 64) {u : UInt64} (hu : u.toNat = k) : ∃ t, hist_down s u = some t ∧ DnS k s t := by
  by_cases h0 : s.Counts.length = 0
  · refine ⟨⟨0, []⟩, ?_, .inl ⟨h0, rfl⟩⟩
    unfold hist_down
    rw [bifTd (by omega)]
  · obtain ⟨t, h1, h2⟩ := down_eq hk h.off (by omega) (by have := h.len; omega) hb hu
    exact ⟨t, h1, .inr ⟨by omega, h2⟩⟩
theorem once_side {s : api_Side} (h : RightS s) (hb : su s.Counts < 18446744073709551616) : ∃ t, ref08_once s = some t ∧ DnS 1 s t := by
  by_cases h0 : s.Counts.length = 0
  · refine ⟨⟨0, []⟩, ?_, .inl ⟨h0, rfl⟩⟩
    unfold ref08_once
    rw [loop_brk (b := (0, []))]
    · rfl
    · unfold ref08_once_lp1
      dsimp only
      rw [bifFd (by omega)]
  · obtain ⟨t, h1, h2⟩ := once_eq h.off (by omega) (by have := h.len; omega) hb
    exact ⟨t, h1, .inr ⟨by omega, by simpa using h2⟩⟩
structure DnH (k : Nat) (h g : api_Hist) : Prop where
  s : g.Scale = h.Scale - k
  z : g.Zero = h.Zero
  p : DnS k h.Pos g.Pos
  n : DnS k h.Neg g.Neg
theorem DnH.inj {k : Nat} {h g g' : api_Hist} (a : DnH k h g) (b : DnH k h g') : g = g' := by
  obtain ⟨a1, a2, a3, a4⟩ := a
  obtain ⟨b1, b2, b3, b4⟩ := b
  have c1 := a3.inj b3
  have c2 := a4.inj b4
  cases g; cases g'
  simp only at *
  subst c1; subst c2
  rw [a1, b1, a2, b2]
theorem DnH.tot {k : Nat} {h g : api_Hist} (a : DnH k h g) : Lg.tot g = Lg.tot h := by unfold Lg.tot; rw [a.z, a.p.tot, a.n.tot]
theorem DnH.good {k : Nat} {h g : api_Hist} (a : DnH k h g) (hg : Good h) (hk : (k : Int) ≤ h.Scale + 10) : Good g :=
  ⟨by have := a.s; omega, by have := a.s; have := hg.s2; omega, a.p.right hg.p hg.sp, a.n.right hg.n hg.sn, by rw [a.tot]; exact hg.t⟩
theorem DnH.comp {a b : Nat} {h g i : api_Hist} (x : DnH a h g) (y : DnH b g i) : DnH (a + b) h i :=
  ⟨by rw [y.s, x.s]; omega, by rw [y.z, x.z], x.p.comp y.p, x.n.comp y.n⟩
theorem DnH.zero {h : api_Hist} (g : Good h) : DnH 0 h h := ⟨by simp, rfl, DnS.zero g.p, DnS.zero g.n⟩
def H0 : api_Hist := ⟨0, 0, ⟨0, []⟩, ⟨0, []⟩⟩
theorem Down_ok {h : api_Hist} (g : Good h) {k : Nat} (hk : (k : Int) ≤ h.Scale + 10) : ∃ x, hist_Down h (k : Int) = some (x, 0) ∧ DnH k h x := by
  have hE := (good_iff h).2 g
  have s1 := g.s1
  have s2 := g.s2
  have e : w64 (h.Scale - (-10)) = h.Scale + 10 := by rw [w64_id] <;> omega
  have hu : (toU64 (k : Int)).toNat = k := toU64_nat (by omega)
  obtain ⟨p, p1, p2⟩ := down_side g.p g.sp (k := k) (by omega) hu
  obtain ⟨n, n1, n2⟩ := down_side g.n g.sn (k := k) (by omega) hu
  refine ⟨⟨h.Scale - k, h.Zero, p, n⟩, ?_, rfl, rfl, p2, n2⟩
  unfold hist_Down
  rw [Check_eq g.ok, bind_some, bifF (by simp [hE]), e, bifF (by simp; omega), p1, bind_some, n1, bind_some, w64_id (x := h.Scale - (k : Int)) (by omega) (by omega)]
theorem RDown_ok {h : api_Hist} (g : Good h) {k : Nat} (hk : (k : Int) ≤ h.Scale + 10) : ∃ x, ref08_Down h (k : Int) = some (x, 0) ∧ DnH k h x := by
  have hE := (good_iff h).2 g
  have s1 := g.s1
  have s2 := g.s2
  have key : ∀ (m i : Nat) (y : api_Hist), i + m = k → DnH i h y → ∃ x, loop (ref08_Down_lp1 (k : Int)) (y.Scale, y.Pos.Offset, y.Pos.Counts, y.Neg.Offset, y.Neg.Counts, (i : Int)) = some (.go (x.Scale, x.Pos.Offset, x.Pos.Counts, x.Neg.Offset, x.Neg.Counts)) ∧ DnH k h x := by
    intro m
    induction m with
    | zero =>
      intro i y hi hy
      obtain rfl : i = k := by omega
      refine ⟨y, loop_brk ?_, hy⟩
      unfold ref08_Down_lp1
      dsimp only
      rw [bifFd (by omega)]
    | succ m ih =>
      intro i y hi hy
      have gy := hy.good g (by omega)
      obtain ⟨p, p1, p2⟩ := once_side gy.p gy.sp
      obtain ⟨n, n1, n2⟩ := once_side gy.n gy.sn
      have ys1 := gy.s1
      have ys2 := gy.s2
      have hz : DnH (i + 1) h ⟨y.Scale - 1, y.Zero, p, n⟩ := hy.comp ⟨rfl, rfl, p2, n2⟩
      obtain ⟨x, x1, x2⟩ := ih (i + 1) _ (by omega) hz
      refine ⟨x, ?_, x2⟩
      rw [← x1]
      refine loop_next ?_
      have p1' : ref08_once ⟨y.Pos.Offset, y.Pos.Counts⟩ = some p := p1
      have n1' : ref08_once ⟨y.Neg.Offset, y.Neg.Counts⟩ = some n := n1
      unfold ref08_Down_lp1
      dsimp only
      rw [bifTd (by omega), p1', bind_some, n1', bind_some, lett_eq, w64_succ (by omega), w64_id (x := y.Scale - 1) (by omega) (by omega)]
  have e : w64 (h.Scale - (-10)) = h.Scale + 10 := by rw [w64_id] <;> omega
  obtain ⟨x, x1, x2⟩ := key k 0 h (by omega) (DnH.zero g)
  refine ⟨x, ?_, x2⟩
  have x1' : loop (ref08_Down_lp1 (k : Int)) (h.Scale, h.Pos.Offset, h.Pos.Counts, h.Neg.Offset, h.Neg.Counts, 0) = _ := x1
  have t1 := RTrim_eq g.p.off (by have := g.p.len; omega)
  have t2 := RTrim_eq g.n.off (by have := g.n.len; omega)
  rw [trim_right ((right_iff _).2 g.p)] at t1
  rw [trim_right ((right_iff _).2 g.n)] at t2
  unfold ref08_Down
  rw [RCheck_eq g.ok, bind_some, bifF (by simp [hE]), e, bifF (by simp; omega), t1, bind_some, t2, bind_some, bind_some, bind_some]
  dsimp only
  rw [x1', flow_go, x2.z.symm]
/-! ### which are the same -/
theorem sameSide_self {s : api_Side} (hl : s.Counts.length ≤ 1000000) : ref08_SameSide s s = some true := by
  have key : ∀ (m i : Nat), i + m = s.Counts.length → loop (ref08_SameSide_lp1 s s) (i : Int) = some (.go ()) := by
    intro m
    induction m with
    | zero =>
      intro i hi
      refine loop_brk ?_
      unfold ref08_SameSide_lp1
      rw [bifFd (by omega)]
    | succ m ih =>
      intro i hi
      rw [loop_next (s' := ((i + 1 : Nat) : Int)), ih (i + 1) (by omega)]
      unfold ref08_SameSide_lp1
      rw [bifTd (by omega), idx_nat (by omega), bind_some, bind_some, bifF (by simp), lett_eq, w64_succ (by omega)]
  have h0 : loop (ref08_SameSide_lp1 s s) 0 = _ := key s.Counts.length 0 (by omega)
  unfold ref08_SameSide
  rw [bifF (by simp), h0]; rfl
theorem same_self {h : api_Hist} (hp : h.Pos.Counts.length ≤ 1000000) (hn : h.Neg.Counts.length ≤ 1000000) : ref08_Same h h = some true := by
  unfold ref08_Same
  rw [bifT (by simp), sameSide_self hp, bind_some, bind_some, cond_true, sameSide_self hn]; rfl
/-! ### as coarse as it must be -/
theorem DnS.span {k : Nat} {s t : api_Side} (h : DnS k s t) (hs : RightS s) (hk : k ≤ 64) {u : UInt64} (hu : u.toNat = k) : hist_span s u = some (t.Counts.length : Int) := by
  rcases h with ⟨a, rfl⟩ | ⟨hn, h⟩
  · unfold hist_span
    rw [lett_eq, bifTd (by omega)]; rfl
  · rw [span_eq hk hs.off hn (by have := hs.len; omega) hu, h.l]
/-- as fine as it can be: finer by one does not fit -/
def Fine (h : api_Hist) (most : Int) (k : Nat) : Prop := k = 0 ∨ ∃ (j : Nat) (y : api_Hist), j + 1 = k ∧ DnH j h y ∧ ¬ ((y.Pos.Counts.length : Int) ≤ most ∧ (y.Neg.Counts.length : Int) ≤ most)
theorem Fit_eq {h : api_Hist} (g : Good h) (most : Int) : ∃ x e, hist_Fit h most = some (x, e) ∧ ref08_Fit h most = some (x, e) ∧ ((e = 4 ∧ x = H0) ∨ (e = 0 ∧ ∃ k : Nat, (k : Int) ≤ h.Scale + 10 ∧ DnH k h x ∧ (x.Pos.Counts.length : Int) ≤ most ∧ (x.Neg.Counts.length : Int) ≤ most ∧ Fine h most k)) := by
  have hE := (good_iff h).2 g
  have s1 := g.s1
  have s2 := g.s2
  have e : w64 (h.Scale - (-10)) = h.Scale + 10 := by rw [w64_id] <;> omega
  have key : ∀ (m k : Nat), (k : Int) + m = h.Scale + 11 → Fine h most k →
      ∃ p, loop (hist_Fit_lp1 h most) (k : Int) = some p ∧ loop (ref08_Fit_lp1 h most) (k : Int) = some p ∧
       (p = .go () ∨ ∃ (x : api_Hist) (k : Nat), p = .out (x, 0) ∧ (k : Int) ≤ h.Scale + 10 ∧ DnH k h x ∧ (x.Pos.Counts.length : Int) ≤ most ∧ (x.Neg.Counts.length : Int) ≤ most ∧ Fine h most k) := by
    intro m
    induction m with
    | zero =>
      intro k hk hf
      refine ⟨.go (), loop_brk ?_, loop_brk ?_, .inl rfl⟩
      · unfold hist_Fit_lp1
        rw [e, bifFd (by omega)]
      · unfold ref08_Fit_lp1
        rw [e, bifFd (by omega)]
    | succ m ih =>
      intro k hk hf
      have hk' : (k : Int) ≤ h.Scale + 10 := by omega
      have hu : (toU64 (k : Int)).toNat = k := toU64_nat (by omega)
      obtain ⟨x, x1, x2⟩ := Down_ok g hk'
      obtain ⟨x', y1, y2⟩ := RDown_ok g hk'
      obtain rfl := y2.inj x2
      have sp := x2.p.span g.p (by omega) hu
      have sn := x2.n.span g.n (by omega) hu
      have rr : hist_Fit_lp1 h most (k : Int) = (bif decide (max (x'.Pos.Counts.length : Int) (x'.Neg.Counts.length : Int) ≤ most) then some (.out (x', 0)) else some (.next ((k + 1 : Nat) : Int))) := by
        unfold hist_Fit_lp1
        rw [e, bifTd (by omega), sp, bind_some, sn, bind_some, x1, bind_some]
        dsimp only
        rw [outr_some, lett_eq, w64_succ (by omega)]
      have rf : ref08_Fit_lp1 h most (k : Int) = (bif (decide ((x'.Pos.Counts.length : Int) ≤ most)) && (decide ((x'.Neg.Counts.length : Int) ≤ most)) then some (.out (x', 0)) else some (.next ((k + 1 : Nat) : Int))) := by
        unfold ref08_Fit_lp1
        rw [e, bifTd (by omega), y1, bind_some]
        dsimp only
        rw [outr_some, lett_eq, w64_succ (by omega)]
      by_cases hfit : (x'.Pos.Counts.length : Int) ≤ most ∧ (x'.Neg.Counts.length : Int) ≤ most
      · rw [bifTd (by omega)] at rr
        rw [bifT (by simp [hfit.1, hfit.2])] at rf
        exact ⟨.out (x', 0), loop_out rr, loop_out rf, .inr ⟨x', k, rfl, hk', x2, hfit.1, hfit.2, hf⟩⟩
      · rw [bifFd (by omega)] at rr
        rw [bifF (by rw [← Bool.decide_and]; exact decide_eq_false hfit)] at rf
        rw [loop_next rr, loop_next rf]
        exact ih (k + 1) (by omega) (.inr ⟨k, x', rfl, x2, hfit⟩)
  obtain ⟨p, p1, p2, p3⟩ := key (h.Scale + 11).toNat 0 (by omega) (.inl rfl)
  have p1' : loop (hist_Fit_lp1 h most) 0 = some p := p1
  have p2' : loop (ref08_Fit_lp1 h most) 0 = some p := p2
  unfold hist_Fit ref08_Fit
  rw [Check_eq g.ok, RCheck_eq g.ok, bind_some, bind_some, bifF (by simp [hE]), bifF (by simp [hE]), p1', p2']
  rcases p3 with rfl | ⟨x, k, rfl, q⟩
  · exact ⟨H0, 4, rfl, rfl, .inl ⟨rfl, rfl⟩⟩
  · exact ⟨x, 0, rfl, rfl, .inr ⟨rfl, k, q⟩⟩
end Go.Lg
namespace Go.Lg
attribute [local irreducible] w64 toU64 toU8 shlU shrU shlB shrB
/-! ### a bucket -/
def atS (s : api_Side) (i : Int) : UInt64 := if s.Offset ≤ i then s.Counts.getD (i - s.Offset).toNat 0 else 0
theorem toU64_diff {a b : Int} (ha : I64 a) (hb : I64 b) (h : b ≤ a) : (toU64 a - toU64 b).toNat = (a - b).toNat := by
  unfold I64 at ha hb
  rw [UInt64.toNat_sub]
  have e1 : (toU64 a).toNat = (a % 18446744073709551616).toNat := by
    unfold toU64
    simp only [UInt64.toNat_ofNat']
    rw [Nat.mod_eq_of_lt]; omega
  have e2 : (toU64 b).toNat = (b % 18446744073709551616).toNat := by
    unfold toU64
    simp only [UInt64.toNat_ofNat']
    rw [Nat.mod_eq_of_lt]; omega
  rw [e1, e2]; omega
theorem At_eq {s : api_Side} {i : Int} (ho : I64 s.Offset) (hi : I64 i) (hl : s.Counts.length ≤ 1000000) : hist_At s i = some (atS s i) := by
  unfold hist_At atS
  by_cases h : s.Offset ≤ i
  · rw [if_pos h]
    have hd := toU64_diff hi ho h
    have hn := toU64_nat (x := s.Counts.length) (by omega)
    by_cases hlt : (i - s.Offset).toNat < s.Counts.length
    · rw [bifF, idx_of (n := (i - s.Offset).toNat) _ hlt, bind_some, getD_lt hlt]
      · rw [w64_id] <;> unfold I64 at * <;> omega
      · rw [Bool.or_eq_false_iff]
        exact ⟨decide_eq_false (by omega), decide_eq_false (by rw [UInt64.le_iff_toNat_le, hd, hn]; omega)⟩
    · rw [bifT, List.getD_eq_getElem?_getD, List.getElem?_eq_none (by omega)]; rfl
      rw [Bool.or_eq_true]
      exact .inr (decide_eq_true (by rw [UInt64.le_iff_toNat_le, hd, hn]; omega))
  · rw [if_neg h, bifT]
    rw [Bool.or_eq_true]
    exact .inl (decide_eq_true (by omega))
theorem atS_su (s : api_Side) (i : Int) : su (s.Counts.take (i + 1 - s.Offset).toNat) = su (s.Counts.take (i - s.Offset).toNat) + (atS s i).toNat := by
  unfold atS
  by_cases h : s.Offset ≤ i
  · rw [if_pos h]
    obtain ⟨k, hk⟩ : ∃ k : Nat, i - s.Offset = k := ⟨(i - s.Offset).toNat, by omega⟩
    rw [hk, show (i + 1 - s.Offset).toNat = k + 1 by omega, show ((k : Int)).toNat = k by omega]
    by_cases hlt : k < s.Counts.length
    · rw [su_take_succ hlt, getD_lt hlt]
    · rw [su_all _ (by omega), su_all _ (by omega), List.getD_eq_getElem?_getD, List.getElem?_eq_none (by omega)]; rfl
  · rw [if_neg h, show (i + 1 - s.Offset).toNat = 0 by omega, show (i - s.Offset).toNat = 0 by omega]; rfl
/-! ### answers that the document fixes -/
/-! ### the laws -/
theorem light_eq (h : api_Hist) : ref08_Light h = some (decide ((h.Pos.Counts.length : Int) ≤ 300) && decide ((h.Neg.Counts.length : Int) ≤ 300)) := rfl
structure Is (h : api_Hist) : Prop where
  s : I64 h.Scale
  po : I64 h.Pos.Offset
  no : I64 h.Neg.Offset
theorem Is.ok {h : api_Hist} (i : Is h) (a : (h.Pos.Counts.length : Int) ≤ 300) (b : (h.Neg.Counts.length : Int) ≤ 300) : OkH h := ⟨i.s, i.po, i.no, by omega, by omega⟩
theorem H0_good : Good H0 := ⟨by decide, by decide, (right_iff _).1 (by decide), (right_iff _).1 (by decide), by decide⟩
theorem total_good {h : api_Hist} (g : Good h) : hist_Total h = some (UInt64.ofNat (tot h), true) := by
  rw [total_eq g.ok.pl g.ok.nl, if_pos g.t]
/-! ### any bucket of a side -/
theorem trimS_len (s : api_Side) : (trimS s).Counts.length ≤ s.Counts.length := by
  unfold trimS
  split
  · simp
  · simp only [List.length_drop, List.length_take]; omega
end Go.Lg
namespace Go.Lg
noncomputable def fold_Merge_lp1 (r61 : api_Hist) (r62 : api_Hist) (r233 : Int) (x299 : List UInt64) : (List UInt64 × Int) → Option (Rnd (List UInt64 × Int) (List UInt64) (List UInt64)) := fun (c379, x382) =>
 bif decide (x382 < (x299.length : Int)) then
 (hist_At r61.Pos (w64 (r233 + x382))).bind fun r470 =>
 (hist_At r62.Pos (w64 (r233 + x382))).bind fun r486 =>
 (idx c379 x382).bind fun e498 =>
 lett ((r470 + r486)) fun t514 =>
 (setI c379 x382 t514).bind fun xs515 =>
 some (.next (xs515, w64 (x382 + 1)))
 else
 some (.brk c379)
noncomputable def fold_Merge_lp2 (r61 : api_Hist) (r62 : api_Hist) (r564 : Int) (x630 : List UInt64) : (List UInt64 × Int) → Option (Rnd (List UInt64 × Int) (List UInt64) (List UInt64)) := fun (c708, x711) =>
 bif decide (x711 < (x630.length : Int)) then
 (hist_At r61.Neg (w64 (r564 + x711))).bind fun r799 =>
 (hist_At r62.Neg (w64 (r564 + x711))).bind fun r815 =>
 (idx c708 x711).bind fun e827 =>
 lett ((r799 + r815)) fun t843 =>
 (setI c708 x711 t843).bind fun xs844 =>
 some (.next (xs844, w64 (x711 + 1)))
 else
 some (.brk c708)
noncomputable def fold_Merge (a0 : api_Hist) (a1 : api_Hist) : Option (api_Hist × Int) :=
 (fold_Level a0 a1).bind fun (r61, r62, r63) =>
 bif (!decide (r63 = 0)) then
 some ((api_Hist.mk 0 0 (api_Side.mk 0 []) (api_Side.mk 0 [])), r63)
 else
 (hist_Total r61).bind fun (r143, r144) =>
 (hist_Total r62).bind fun (r158, r159) =>
 lett ((add64S r143 r158 (0 : UInt64))) fun t168 =>
 lett ((add64C r143 r158 (0 : UInt64))) fun carry169 =>
 bif (!decide (carry169 = 0)) then
 some ((api_Hist.mk 0 0 (api_Side.mk 0 []) (api_Side.mk 0 [])), 4)
 else
 flow ((fold_cover r61.Pos r62.Pos).bind fun (r233, r234) =>
 bif decide (160 < r234) then
 outs (some ((api_Hist.mk 0 0 (api_Side.mk 0 []) (api_Side.mk 0 [])), 1))
 else
 bif decide (r234 = 0) then
 some (.go (0, []))
 else
 ((mk r234 (0 : UInt64)).bind fun t308 =>
 some t308).bind fun x299 =>
 (flow (loop (fold_Merge_lp1 r61 r62 r233 x299) (x299, 0)) fun c386 =>
 some c386).bind fun c371 =>
 some (.go (r233, c371))) fun (c203, c204) =>
 flow ((fold_cover r61.Neg r62.Neg).bind fun (r564, r565) =>
 bif decide (160 < r565) then
 outs (some ((api_Hist.mk 0 0 (api_Side.mk 0 []) (api_Side.mk 0 [])), 1))
 else
 bif decide (r565 = 0) then
 some (.go (0, []))
 else
 ((mk r565 (0 : UInt64)).bind fun t639 =>
 some t639).bind fun x630 =>
 (flow (loop (fold_Merge_lp2 r61 r62 r564 x630) (x630, 0)) fun c715 =>
 some c715).bind fun c700 =>
 some (.go (r564, c700))) fun (c531, c532) =>
 some ((api_Hist.mk r61.Scale (r61.Zero + r62.Zero) (api_Side.mk c203 c204) (api_Side.mk c531 c532)), 0)
noncomputable def ref09_reach (a0 : api_Side) (a1 : api_Side) : Option (Int × Int × Bool) :=
 bif ((decide ((a0.Counts.length : Int) = 0)) && (decide ((a1.Counts.length : Int) = 0))) then
 some (0, 0, false)
 else
 (bif decide ((a0.Counts.length : Int) = 0) then
 some (a1.Offset, a1.Counts)
 else
 some (a0.Offset, a0.Counts)).bind fun (c40, c41) =>
 (bif decide ((a1.Counts.length : Int) = 0) then
 some (c40, c41)
 else
 some (a1.Offset, a1.Counts)).bind fun (c60, c61) =>
 lett ((min c40 c60)) fun t85 =>
 lett (w64 ((max (w64 (c40 + (c41.length : Int))) (w64 (c60 + (c61.length : Int)))) - 1)) fun t86 =>
 some (t85, t86, true)
noncomputable def ref09_both_lp1 (a0 : api_Side) (a1 : api_Side) (r46 : Int) : (List UInt64 × Int) → Option (Rnd (List UInt64 × Int) (List UInt64) (api_Side × Bool)) := fun (c77, i80) =>
 bif decide (i80 ≤ r46) then
 (ref09_At a0 i80).bind fun r137 =>
 (ref09_At a1 i80).bind fun r152 =>
 (app c77 [(r137 + r152)]).bind fun xs169 =>
 lett (w64 (i80 + 1)) fun i194 =>
 some (.next (xs169, i194))
 else
 some (.brk c77)
noncomputable def ref09_both (a0 : api_Side) (a1 : api_Side) : Option (api_Side × Bool) :=
 (ref09_reach a0 a1).bind fun (r45, r46, r47) =>
 bif (!r47) then
 some ((api_Side.mk 0 []), true)
 else
 bif decide (160 ≤ w64 (r46 - r45)) then
 some ((api_Side.mk 0 []), false)
 else
 flow (loop (ref09_both_lp1 a0 a1 r46) ([], r45)) fun c85 =>
 some ((api_Side.mk r45 c85), true)
noncomputable def ref09_Merge (a0 : api_Hist) (a1 : api_Hist) : Option (api_Hist × Int) :=
 (ref09_Level a0 a1).bind fun r61 =>
 bif (!decide (r61.E = 0)) then
 some ((api_Hist.mk 0 0 (api_Side.mk 0 []) (api_Side.mk 0 [])), r61.E)
 else
 (ref08_Total r61.X).bind fun (r137, r138) =>
 (ref08_Total r61.Y).bind fun (r152, r153) =>
 bif decide (((18446744073709551615 : UInt64) - r152) < r137) then
 some ((api_Hist.mk 0 0 (api_Side.mk 0 []) (api_Side.mk 0 [])), 4)
 else
 (ref09_both r61.X.Pos r61.Y.Pos).bind fun (r176, r177) =>
 (ref09_both r61.X.Neg r61.Y.Neg).bind fun (r214, r215) =>
 bif ((!r177) || (!r215)) then
 some ((api_Hist.mk 0 0 (api_Side.mk 0 []) (api_Side.mk 0 [])), 1)
 else
 some ((api_Hist.mk r61.X.Scale (r61.X.Zero + r61.Y.Zero) r176 r214), 0)
end Go.Lg
namespace Go.Lg
attribute [local irreducible] w64 toU64 toU8 shlU shrU shlB shrB
/-! ### buckets -/
theorem atS_empty {s : api_Side} (h : s.Counts.length = 0) (i : Int) : atS s i = 0 := by
  unfold atS
  split
  · rw [List.getD_eq_getElem?_getD, List.getElem?_eq_none (by omega)]; rfl
  · rfl
theorem atS_out {s : api_Side} {i : Int} (h : i < s.Offset ∨ s.Offset + s.Counts.length ≤ i) : atS s i = 0 := by
  unfold atS
  split
  · rw [List.getD_eq_getElem?_getD, List.getElem?_eq_none (by omega)]; rfl
  · rfl
theorem atS_in {s : api_Side} {k : Nat} (h : k < s.Counts.length) : atS s (s.Offset + k) = s.Counts[k] := by
  unfold atS
  rw [if_pos (by omega), show (s.Offset + (k : Int) - s.Offset).toNat = k by omega, getD_lt h]
theorem atS_le (s : api_Side) (i : Int) : (atS s i).toNat ≤ su s.Counts := by
  have a := atS_su s i
  have b := su_take_le s.Counts (i + 1 - s.Offset).toNat
  omega
/-- none of its ends is empty -/
structure Tr (s : api_Side) : Prop where
  z : s.Counts.length = 0 → s.Offset = 0
  f : 0 < s.Counts.length → atS s s.Offset ≠ 0
  e : 0 < s.Counts.length → atS s (s.Offset + s.Counts.length - 1) ≠ 0
theorem RightS.tr {s : api_Side} (h : RightS s) : Tr s := by
  refine ⟨h.z, fun hp => ?_, fun hp => ?_⟩
  · have := atS_in (s := s) (k := 0) hp
    rw [show s.Offset + ((0 : Nat) : Int) = s.Offset by omega] at this
    rw [this]; exact h.f hp
  · have := atS_in (s := s) (k := s.Counts.length - 1) (by omega)
    rw [show s.Offset + ((s.Counts.length - 1 : Nat) : Int) = s.Offset + s.Counts.length - 1 by omega] at this
    rw [this]; exact h.e hp
theorem Tr.ext {s t : api_Side} (hs : Tr s) (ht : Tr t) (h : ∀ i, atS s i = atS t i) : s = t := by
  by_cases a : s.Counts.length = 0
  · by_cases b : t.Counts.length = 0
    · have c := hs.z a; have d := ht.z b
      cases s; cases t
      simp only at a b c d
      rw [c, d, List.eq_nil_of_length_eq_zero a, List.eq_nil_of_length_eq_zero b]
    · exact absurd ((h _).symm.trans (atS_empty a _)) (ht.f (by omega))
  · by_cases b : t.Counts.length = 0
    · exact absurd ((h _).trans (atS_empty b _)) (hs.f (by omega))
    · have q : ∀ {u v : api_Side}, Tr u → Tr v → 0 < u.Counts.length → (∀ i, atS u i = atS v i) → v.Offset ≤ u.Offset ∧ u.Offset + u.Counts.length ≤ v.Offset + v.Counts.length := by
        intro u v hu hv hp h
        have h1 := hu.f hp
        have h2 := hu.e hp
        rw [h] at h1 h2
        constructor
        · exact Int.not_lt.1 fun hx => h1 (atS_out (.inl hx))
        · have : u.Offset + u.Counts.length - 1 < v.Offset + v.Counts.length := Int.not_le.1 fun hx => h2 (atS_out (.inr hx))
          omega
      have q1 := q hs ht (by omega) h
      have q2 := q ht hs (by omega) fun i => (h i).symm
      have ho : s.Offset = t.Offset := by omega
      have hc : s.Counts = t.Counts := by
        apply List.ext_getElem (by omega)
        intro i h1 h2
        rw [← atS_in h1, ← atS_in h2, ho, h]
      cases s; cases t
      simp only at ho hc
      rw [ho, hc]
/-! ### two sides together -/
def loS (x y : api_Side) : Int := if x.Counts.length = 0 then y.Offset else if y.Counts.length = 0 then x.Offset else min x.Offset y.Offset
def hiS (x y : api_Side) : Int := if x.Counts.length = 0 then y.Offset + y.Counts.length else if y.Counts.length = 0 then x.Offset + x.Counts.length else max (x.Offset + x.Counts.length) (y.Offset + y.Counts.length)
def onL (f : Int → UInt64) (lo : Int) (n : Nat) : List UInt64 := (List.range n).map fun (i : Nat) => f (lo + i)
theorem onL_len {f : Int → UInt64} {lo : Int} {n : Nat} : (onL f lo n).length = n := by simp [onL]
theorem onL_get {f : Int → UInt64} {lo : Int} {n i : Nat} (h : i < (onL f lo n).length) : (onL f lo n)[i] = f (lo + i) := by simp [onL]
theorem onL_at {f : Int → UInt64} {lo : Int} {n : Nat} (h0 : ∀ i, i < lo ∨ lo + n ≤ i → f i = 0) (i : Int) : atS ⟨lo, onL f lo n⟩ i = f i := by
  by_cases h : lo ≤ i ∧ i < lo + n
  · obtain ⟨k, rfl⟩ : ∃ k : Nat, i = lo + k := ⟨(i - lo).toNat, by omega⟩
    have hk : k < (onL f lo n).length := by rw [onL_len]; omega
    have := atS_in (s := ⟨lo, onL f lo n⟩) (k := k) hk
    rw [this, onL_get]
  · rw [h0 i (by omega)]
    exact atS_out (by dsimp only; rw [onL_len]; omega)
theorem onL_succ {f : Int → UInt64} {lo : Int} {n : Nat} : onL f lo (n + 1) = onL f lo n ++ [f (lo + n)] := by simp [onL, List.range_succ]
def addS (x y : api_Side) (i : Int) : UInt64 := atS x i + atS y i
def widthS (x y : api_Side) : Nat := (hiS x y - loS x y).toNat
def mergeS (x y : api_Side) : api_Side := if widthS x y = 0 then ⟨0, []⟩ else ⟨loS x y, onL (addS x y) (loS x y) (widthS x y)⟩
structure Cov (x y : api_Side) : Prop where
  le : loS x y ≤ hiS x y
  b : -1073741824 ≤ loS x y ∧ hiS x y ≤ 1073741825
  cx : 0 < x.Counts.length → loS x y ≤ x.Offset ∧ x.Offset + x.Counts.length ≤ hiS x y
  cy : 0 < y.Counts.length → loS x y ≤ y.Offset ∧ y.Offset + y.Counts.length ≤ hiS x y
  lo : loS x y = hiS x y ∨ (0 < x.Counts.length ∧ loS x y = x.Offset) ∨ (0 < y.Counts.length ∧ loS x y = y.Offset)
  hi : loS x y = hiS x y ∨ (0 < x.Counts.length ∧ hiS x y = x.Offset + x.Counts.length) ∨ (0 < y.Counts.length ∧ hiS x y = y.Offset + y.Counts.length)
  z : loS x y = hiS x y ↔ x.Counts.length = 0 ∧ y.Counts.length = 0
theorem cov {x y : api_Side} (hx : RightS x) (hy : RightS y) : Cov x y := by
  have a1 := hx.z; have a2 := hx.lo; have a3 := hx.hi
  have b1 := hy.z; have b2 := hy.lo; have b3 := hy.hi
  constructor <;> unfold loS <;> (try unfold hiS) <;> split <;> (try split) <;> omega
theorem cover_eq {x y : api_Side} (hx : RightS x) (hy : RightS y) : fold_cover x y = some (loS x y, (widthS x y : Int)) := by
  have c := cov hx hy
  have l1 := hx.len; have l2 := hy.len
  unfold widthS
  rw [Int.toNat_of_nonneg (by have := c.le; omega)]
  have hxo := hx.off; have hyo := hy.off
  unfold fold_cover
  by_cases h1 : x.Counts.length = 0
  · rw [bifTd (by omega), lett_eq]
    unfold loS hiS
    rw [if_pos h1, if_pos h1]
    congr 2; omega
  · rw [bifFd (by omega)]
    by_cases h2 : y.Counts.length = 0
    · rw [bifTd (by omega), lett_eq]
      unfold loS hiS
      rw [if_neg h1, if_pos h2, if_neg h1, if_pos h2]
      congr 2; omega
    · have e1 : fold_ends x = some (x.Offset, x.Offset + x.Counts.length) := by
        unfold fold_ends
        rw [lett_eq, w64_id (by omega) (by omega)]
      have e2 : fold_ends y = some (y.Offset, y.Offset + y.Counts.length) := by
        unfold fold_ends
        rw [lett_eq, w64_id (by omega) (by omega)]
      rw [bifFd (by omega), e1, e2, bind_some]
      dsimp only
      rw [bind_some]
      dsimp only
      rw [lett_eq, lett_eq, lett_eq]
      unfold loS hiS
      rw [if_neg h1, if_neg h2, if_neg h1, if_neg h2, w64_id (by omega) (by omega)]
theorem add_out {x y : api_Side} (c : Cov x y) (i : Int) (h : i < loS x y ∨ hiS x y ≤ i) : addS x y i = 0 := by
  have hx : atS x i = 0 := by
    by_cases hp : 0 < x.Counts.length
    · have := c.cx hp; exact atS_out (by omega)
    · exact atS_empty (by omega) i
  have hy : atS y i = 0 := by
    by_cases hp : 0 < y.Counts.length
    · have := c.cy hp; exact atS_out (by omega)
    · exact atS_empty (by omega) i
  unfold addS; rw [hx, hy]; rfl
theorem merge_at {x y : api_Side} (c : Cov x y) (i : Int) : atS (mergeS x y) i = addS x y i := by
  have := c.le
  unfold mergeS
  split
  · rename_i h
    unfold widthS at h
    rw [add_out c i (by omega)]
    exact atS_empty rfl i
  · exact onL_at (fun j hj => add_out c j (by unfold widthS at hj; omega)) i
theorem add_nat {x y : api_Side} (hs : su x.Counts + su y.Counts < 18446744073709551616) (i : Int) : (addS x y i).toNat = (atS x i).toNat + (atS y i).toNat := by
  have a := atS_le x i; have b := atS_le y i
  unfold addS
  rw [UInt64.toNat_add, Nat.mod_eq_of_lt (by omega)]
theorem u_ne {a : UInt64} (h : a ≠ 0) : 1 ≤ a.toNat := by
  have : a.toNat ≠ 0 := fun e => h (UInt64.toNat_inj.1 (by rw [e]; rfl))
  omega
theorem ne_u {a : UInt64} (h : 1 ≤ a.toNat) : a ≠ 0 := by
  rintro rfl
  exact absurd h (by decide)
theorem merge_right {x y : api_Side} (hx : RightS x) (hy : RightS y) (hs : su x.Counts + su y.Counts < 18446744073709551616) (hw : widthS x y ≤ 160) : RightS (mergeS x y) := by
  have c := cov hx hy
  have cle := c.le
  have hat := merge_at c
  have hlo : 0 < widthS x y → addS x y (loS x y) ≠ 0 := by
    intro hp
    unfold widthS at hp
    apply ne_u
    rw [add_nat hs]
    rcases c.lo with e | ⟨e1, e2⟩ | ⟨e1, e2⟩
    · omega
    · have := u_ne (hx.tr.f e1); rw [e2]; omega
    · have := u_ne (hy.tr.f e1); rw [e2]; omega
  have hhi : 0 < widthS x y → addS x y (hiS x y - 1) ≠ 0 := by
    intro hp
    unfold widthS at hp
    apply ne_u
    rw [add_nat hs]
    rcases c.hi with e | ⟨e1, e2⟩ | ⟨e1, e2⟩
    · omega
    · have := u_ne (hx.tr.e e1); rw [e2]; omega
    · have := u_ne (hy.tr.e e1); rw [e2]; omega
  have cb := c.b
  unfold mergeS
  by_cases hz : widthS x y = 0
  · rw [if_pos hz]
    exact ⟨by simp, fun _ => rfl, fun h => by simp at h, fun h => by simp at h, fun h => by simp at h, fun h => by simp at h⟩
  · rw [if_neg hz]
    have hw' : (widthS x y : Int) = hiS x y - loS x y := by unfold widthS; omega
    refine ⟨by dsimp only; rw [onL_len]; exact hw, fun h => ?_, fun h => ?_, fun h => ?_, fun _ => ?_, fun _ => ?_⟩
    · dsimp only at h; rw [onL_len] at h; exact absurd h hz
    · dsimp only
      rw [onL_get, show loS x y + ((0 : Nat) : Int) = loS x y by omega]
      exact hlo (by omega)
    · dsimp only
      rw [onL_get]
      simp only [onL_len]
      rw [show loS x y + ((widthS x y - 1 : Nat) : Int) = hiS x y - 1 by omega]
      exact hhi (by omega)
    · exact cb.1
    · dsimp only; rw [onL_len]; omega
theorem merge_su {x y : api_Side} (hx : RightS x) (hy : RightS y) (hs : su x.Counts + su y.Counts < 18446744073709551616) : su (mergeS x y).Counts = su x.Counts + su y.Counts := by
  have c := cov hx hy
  have cle := c.le
  unfold mergeS
  by_cases hz : widthS x y = 0
  · rw [if_pos hz]
    have : loS x y = hiS x y := by unfold widthS at hz; omega
    have := c.z.1 this
    rw [List.eq_nil_of_length_eq_zero this.1, List.eq_nil_of_length_eq_zero this.2]; rfl
  · rw [if_neg hz]
    have hw' : (widthS x y : Int) = hiS x y - loS x y := by unfold widthS; omega
    have S0 : ∀ s : api_Side, (0 < s.Counts.length → loS x y ≤ s.Offset ∧ s.Offset + s.Counts.length ≤ hiS x y) →
        su (s.Counts.take (loS x y - s.Offset).toNat) = 0 ∧ su (s.Counts.take (hiS x y - s.Offset).toNat) = su s.Counts := by
      intro s h
      by_cases hp : 0 < s.Counts.length
      · have := h hp
        rw [show (loS x y - s.Offset).toNat = 0 by omega, su_all _ (show s.Counts.length ≤ (hiS x y - s.Offset).toNat by omega)]
        exact ⟨rfl, rfl⟩
      · rw [List.eq_nil_of_length_eq_zero (by omega : s.Counts.length = 0)]; simp [su_nil]
    have key : ∀ j : Nat, su (onL (addS x y) (loS x y) j) = su (x.Counts.take (loS x y + j - x.Offset).toNat) + su (y.Counts.take (loS x y + j - y.Offset).toNat) := by
      intro j
      induction j with
      | zero =>
        have h1 := (S0 x c.cx).1
        have h2 := (S0 y c.cy).1
        rw [show loS x y + ((0 : Nat) : Int) = loS x y by omega, h1, h2]; rfl
      | succ j ih =>
        rw [onL_succ, su_snoc, ih, add_nat hs]
        have h1 := atS_su x (loS x y + j)
        have h2 := atS_su y (loS x y + j)
        rw [show loS x y + ((j + 1 : Nat) : Int) = loS x y + j + 1 by omega, h1, h2]; omega
    have h := key (widthS x y)
    rw [show loS x y + (widthS x y : Int) = hiS x y by omega, (S0 x c.cx).2, (S0 y c.cy).2] at h
    exact h
end Go.Lg
namespace Go.Lg
attribute [local irreducible] w64 toU64 toU8 shlU shrU shlB shrB
/-! ### to one scale -/
structure Lev (a b x y : api_Hist) : Prop where
  ga : Good a
  gb : Good b
  dx : DnH (a.Scale - min a.Scale b.Scale).toNat a x
  dy : DnH (b.Scale - min a.Scale b.Scale).toNat b y
theorem Lev.gx {a b x y : api_Hist} (l : Lev a b x y) : Good x := l.dx.good l.ga (by have := l.ga.s1; have := l.gb.s1; omega)
theorem Lev.gy {a b x y : api_Hist} (l : Lev a b x y) : Good y := l.dy.good l.gb (by have := l.ga.s1; have := l.gb.s1; omega)
theorem Lev.sx {a b x y : api_Hist} (l : Lev a b x y) : x.Scale = min a.Scale b.Scale := by have := l.dx.s; omega
theorem Lev.sy {a b x y : api_Hist} (l : Lev a b x y) : y.Scale = min a.Scale b.Scale := by have := l.dy.s; omega
theorem Lev.inj {a b x y x' y' : api_Hist} (l : Lev a b x y) (l' : Lev a b x' y') : x = x' ∧ y = y' := ⟨l.dx.inj l'.dx, l.dy.inj l'.dy⟩
theorem Level_eq {a b : api_Hist} (oa : OkH a) (ob : OkH b) :
    (∃ e, e ≠ 0 ∧ fold_Level a b = some (H0, H0, e) ∧ ref09_Level a b = some ⟨H0, H0, e⟩ ∧ (histE a ≠ 0 ∨ histE b ≠ 0)) ∨ ∃ x y, fold_Level a b = some (x, y, 0) ∧ ref09_Level a b = some ⟨x, y, 0⟩ ∧ Lev a b x y := by
  have r0 : fold_Level_lp1 a b ((0 : Nat) : Int) = if histE a ≠ 0 then some (.out (.out (H0, H0, histE a))) else some (.next ((1 : Nat) : Int)) := by
    unfold fold_Level_lp1
    rw [bifTd (by omega), idx_nat (by simp), bind_some]
    dsimp only [List.getElem_cons_zero]
    rw [Check_eq oa, bind_some]
    by_cases e : histE a = 0
    · rw [if_neg (fun h => h e), bifF (by simp [e]), w64_succ (by omega)]
    · rw [if_pos e, bifT (by simp [e])]; rfl
  have r1 : fold_Level_lp1 a b ((1 : Nat) : Int) = if histE b ≠ 0 then some (.out (.out (H0, H0, histE b))) else some (.next ((2 : Nat) : Int)) := by
    unfold fold_Level_lp1
    rw [bifTd (by omega), idx_nat (by simp), bind_some]
    dsimp only [List.getElem_cons_succ, List.getElem_cons_zero]
    rw [Check_eq ob, bind_some]
    by_cases e : histE b = 0
    · rw [if_neg (fun h => h e), bifF (by simp [e]), w64_succ (by omega)]
    · rw [if_pos e, bifT (by simp [e])]; rfl
  have r2 : fold_Level_lp1 a b ((2 : Nat) : Int) = some (.brk ()) := by
    unfold fold_Level_lp1
    rw [bifFd (by omega)]
  have hL : loop (fold_Level_lp1 a b) 0 = loop (fold_Level_lp1 a b) ((0 : Nat) : Int) := rfl
  unfold fold_Level ref09_Level
  rw [hL, RCheck_eq oa, RCheck_eq ob, bind_some, bind_some]
  by_cases ha : histE a = 0
  case neg =>
    rw [if_pos ha] at r0
    refine .inl ⟨histE a, ha, ?_, ?_, .inl ha⟩
    · rw [loop_out r0]; rfl
    · rw [bifT (by simp [ha])]; rfl
  rw [if_neg (fun h => h ha)] at r0
  rw [loop_next r0, bifF (by simp [ha])]
  by_cases hb : histE b = 0
  case neg =>
    rw [if_pos hb] at r1
    refine .inl ⟨histE b, hb, ?_, ?_, .inr hb⟩
    · rw [loop_out r1]; rfl
    · rw [bifT (by simp [hb])]; rfl
  rw [if_neg (fun h => h hb)] at r1
  have ga := (good_iff a).1 ha
  have gb := (good_iff b).1 hb
  have a1 := ga.s1; have a2 := ga.s2; have b1 := gb.s1; have b2 := gb.s2
  have e1 : w64 (a.Scale - min a.Scale b.Scale) = ((a.Scale - min a.Scale b.Scale).toNat : Int) := by rw [w64_id] <;> omega
  have e2 : w64 (b.Scale - min a.Scale b.Scale) = ((b.Scale - min a.Scale b.Scale).toNat : Int) := by rw [w64_id] <;> omega
  have em : (bif decide (b.Scale < a.Scale) then some b.Scale else some a.Scale) = some (min a.Scale b.Scale) := by
    by_cases h : b.Scale < a.Scale
    · rw [bifTd h]; congr 1; omega
    · rw [bifFd h]; congr 1; omega
  obtain ⟨x, x1, x2⟩ := Down_ok ga (k := (a.Scale - min a.Scale b.Scale).toNat) (by omega)
  obtain ⟨y, y1, y2⟩ := Down_ok gb (k := (b.Scale - min a.Scale b.Scale).toNat) (by omega)
  obtain ⟨x', x1', x2'⟩ := RDown_ok ga (k := (a.Scale - min a.Scale b.Scale).toNat) (by omega)
  obtain ⟨y', y1', y2'⟩ := RDown_ok gb (k := (b.Scale - min a.Scale b.Scale).toNat) (by omega)
  obtain rfl := x2.inj x2'
  obtain rfl := y2.inj y2'
  refine .inr ⟨x, y, ?_, ?_, ⟨ga, gb, x2, y2⟩⟩
  · rw [loop_next r1, loop_brk r2, flow_go, flow_go, lett_eq, e1, e2, x1, bind_some]
    dsimp only
    rw [y1, bind_some]
  · rw [bifF (by simp [hb]), em, bind_some, e1, e2, x1', bind_some]
    dsimp only
    rw [y1', bind_some]
/-! ### put together -/
noncomputable def mlp (A B : api_Side) (o : Int) (x : List UInt64) : (List UInt64 × Int) → Option (Rnd (List UInt64 × Int) (List UInt64) (List UInt64)) := fun (c, i) =>
  bif decide (i < (x.length : Int)) then
    (hist_At A (w64 (o + i))).bind fun p => (hist_At B (w64 (o + i))).bind fun q => (idx c i).bind fun _e => lett (p + q) fun t => (setI c i t).bind fun xs => some (.next (xs, w64 (i + 1)))
  else some (.brk c)
theorem mlp_eq {x y : api_Side} (hx : RightS x) (hy : RightS y) (l : List UInt64) (hl : l.length = widthS x y) (c0 : List UInt64) (hc : c0.length = widthS x y) :
    loop (mlp x y (loS x y) l) (c0, 0) = some (.go (onL (addS x y) (loS x y) (widthS x y))) := by
  have c := cov hx hy
  have cb := c.b
  have cle := c.le
  have hw : (widthS x y : Int) = hiS x y - loS x y := by unfold widthS; omega
  have hxo := hx.off; have hyo := hy.off
  have key : ∀ (m i : Nat) (z : List UInt64), i + m = widthS x y → z.length = widthS x y → z.take i = onL (addS x y) (loS x y) i → loop (mlp x y (loS x y) l) (z, (i : Int)) = some (.go (onL (addS x y) (loS x y) (widthS x y))) := by
    intro m
    induction m with
    | zero =>
      intro i z hi hz ht
      refine loop_brk ?_
      unfold mlp
      dsimp only
      rw [bifFd (by omega)]
      obtain rfl : i = widthS x y := by omega
      rw [List.take_of_length_le (by omega)] at ht
      rw [ht]
    | succ m ih =>
      intro i z hi hz ht
      have hlt : i < z.length := by omega
      have e1 : w64 (loS x y + (i : Int)) = loS x y + i := w64_id (by omega) (by omega)
      have i1 : I64 (loS x y + i) := by unfold I64; omega
      have hb : addS x y (loS x y + i) = atS x (loS x y + i) + atS y (loS x y + i) := rfl
      rw [← ih (i + 1) (z.set i (addS x y (loS x y + i))) (by omega) (by simpa using hz) (by
        rw [take_snoc (by simpa using hlt), onL_succ, List.take_set_of_le (Nat.le_refl i), ht, List.getElem_set_self])]
      refine loop_next ?_
      unfold mlp
      dsimp only
      rw [bifTd (by omega), e1, At_eq (by unfold I64; omega) i1 (by have := hx.len; omega), bind_some, At_eq (by unfold I64; omega) i1 (by have := hy.len; omega), bind_some, idx_nat hlt, bind_some, lett_eq, setI_nat hlt, bind_some, w64_succ (by omega), hb]
  exact key (widthS x y) 0 c0 (by omega) hc (by simp [onL])
/-- a side of the sum, or that it is too wide -/
noncomputable def part (p : Option (Int × Int)) (F : Int → Int → Option (Flow (Int × List UInt64) (api_Hist × Int))) : Option (Flow (Int × List UInt64) (api_Hist × Int)) := p.bind fun (a, b) => F a b
theorem merge_side {x y : api_Side} (hx : RightS x) (hy : RightS y) (lp : Int → List UInt64 → (List UInt64 × Int) → Option (Rnd (List UInt64 × Int) (List UInt64) (List UInt64))) (hlp : ∀ o l, lp o l = mlp x y o l) :
    ((fold_cover x y).bind fun (r233, r234) =>
     bif decide (160 < r234) then
      outs (some ((api_Hist.mk 0 0 (api_Side.mk 0 []) (api_Side.mk 0 [])), (1 : Int)))
     else
     bif decide (r234 = 0) then
      some (.go ((0 : Int), []))
     else
     ((mk r234 (0 : UInt64)).bind fun t308 =>
     some t308).bind fun x299 =>
     (flow (loop (lp r233 x299) (x299, 0)) fun c386 =>
     some c386).bind fun c371 =>
     some (.go (r233, c371))) = if 160 < widthS x y then some (.out (H0, 1)) else some (.go ((mergeS x y).Offset, (mergeS x y).Counts)) := by
  rw [cover_eq hx hy, bind_some]
  dsimp only
  by_cases h : 160 < widthS x y
  · rw [if_pos h, bifTd (by omega)]; rfl
  · rw [if_neg h, bifFd (by omega)]
    unfold mergeS
    by_cases hz : widthS x y = 0
    · rw [bifTd (by omega), if_pos hz]
    · have hm : mk (widthS x y : Int) (0 : UInt64) = some (List.replicate (widthS x y) 0) := by
        unfold mk LIM
        rw [if_pos (by omega)]; simp
      rw [bifFd (by omega), if_neg hz, hm, bind_some, bind_some, hlp, mlp_eq hx hy _ (by simp) _ (by simp), flow_go, bind_some]
def sumH (x y : api_Hist) : api_Hist := ⟨x.Scale, x.Zero + y.Zero, mergeS x.Pos y.Pos, mergeS x.Neg y.Neg⟩
/-- what comes of two that were brought to one scale -/
def mergeE (x y : api_Hist) : api_Hist × Int :=
  if 18446744073709551616 ≤ tot x + tot y then (H0, 4) else if 160 < widthS x.Pos y.Pos ∨ 160 < widthS x.Neg y.Neg then (H0, 1) else (sumH x y, 0)
theorem add64C_iff (a b : Nat) (ha : a < 18446744073709551616) (hb : b < 18446744073709551616) : add64C (UInt64.ofNat a) (UInt64.ofNat b) 0 = 0 ↔ a + b < 18446744073709551616 := by
  have z : (0 : UInt64).toNat = 0 := rfl
  have ea : (UInt64.ofNat a).toNat = a := by rw [UInt64.toNat_ofNat']; omega
  have eb : (UInt64.ofNat b).toNat = b := by rw [UInt64.toNat_ofNat']; omega
  have e : (add64C (UInt64.ofNat a) (UInt64.ofNat b) 0).toNat = (a + b) / 18446744073709551616 := by
    unfold add64C
    rw [ea, eb, z, Nat.add_zero, UInt64.toNat_ofNat']; omega
  rw [← UInt64.toNat_inj, e, z]; omega
theorem Merge_lev {a b x y : api_Hist} (h : fold_Level a b = some (x, y, 0)) (gx : Good x) (gy : Good y) : fold_Merge a b = some (mergeE x y) := by
  unfold fold_Merge
  rw [h, bind_some]
  dsimp only
  rw [bifF (by rfl), total_good gx, bind_some]
  dsimp only
  rw [total_good gy, bind_some]
  dsimp only
  rw [lett_eq, lett_eq]
  have hc := add64C_iff (tot x) (tot y) gx.t gy.t
  unfold mergeE
  by_cases h1 : 18446744073709551616 ≤ tot x + tot y
  · rw [if_pos h1, bifT]; rfl
    rw [Bool.not_eq_true', decide_eq_false_iff_not, hc]; omega
  · rw [if_neg h1, bifF (by rw [Bool.not_eq_false', decide_eq_true_eq, hc]; omega)]
    have m1 := merge_side gx.p gy.p (fold_Merge_lp1 x y) (fun _ _ => rfl)
    have m2 := merge_side gx.n gy.n (fold_Merge_lp2 x y) (fun _ _ => rfl)
    rw [m1, m2]
    by_cases h2 : 160 < widthS x.Pos y.Pos
    · rw [if_pos h2, if_pos (Or.inl h2 : 160 < widthS x.Pos y.Pos ∨ 160 < widthS x.Neg y.Neg)]; rfl
    · rw [if_neg h2, flow_go]
      dsimp only
      by_cases h3 : 160 < widthS x.Neg y.Neg
      · rw [if_pos h3, if_pos (Or.inr h3 : 160 < widthS x.Pos y.Pos ∨ 160 < widthS x.Neg y.Neg)]; rfl
      · rw [if_neg h3, if_neg (by omega), flow_go]; rfl
end Go.Lg
namespace Go.Lg
attribute [local irreducible] w64 toU64 toU8 shlU shrU shlB shrB
/-! ### without empty ends -/
theorem zl_lt : ∀ (l : List UInt64) (j : Nat), j < zl l → l.getD j 0 = 0
  | [], j, h => by simp [zl] at h
  | x :: l, j, h => by
    rw [zl] at h
    split at h
    · rename_i hx
      cases j with
      | zero => simpa using hx
      | succ j => have := zl_lt l j (by omega); simpa using this
    · omega
theorem kl_ge {l : List UInt64} {a : Nat} : ∀ n j, kl l a n ≤ j → j < n → l.getD j 0 = 0
  | 0, j, h, h' => by omega
  | n + 1, j, h, h' => by
    rw [kl] at h
    split at h
    · rename_i hx
      by_cases e : j = n
      · rw [e]; exact hx.2
      · exact kl_ge n j h (by omega)
    · omega
theorem kl_last {l : List UInt64} {a : Nat} : ∀ n, a < kl l a n → l.getD (kl l a n - 1) 0 ≠ 0
  | 0, h => by simp [kl] at h
  | n + 1, h => by
    rw [kl] at h ⊢
    split
    · rename_i hx; rw [if_pos hx] at h; exact kl_last n h
    · rename_i hx
      rw [if_neg hx] at h
      intro e
      exact hx ⟨h, by simpa using e⟩
theorem atS_getD {s : api_Side} {i : Int} (h : s.Offset ≤ i) : atS s i = s.Counts.getD (i - s.Offset).toNat 0 := by unfold atS; rw [if_pos h]
theorem trim_at (s : api_Side) (i : Int) : atS (trimS s) i = atS s i := by
  have z1 := zl_le s.Counts
  unfold trimS
  by_cases h : zl s.Counts = s.Counts.length
  · rw [if_pos h, atS_empty rfl]
    by_cases hi : s.Offset ≤ i
    · rw [atS_getD hi]
      by_cases hj : (i - s.Offset).toNat < s.Counts.length
      · rw [zl_lt _ _ (by omega)]
      · rw [List.getD_eq_getElem?_getD, List.getElem?_eq_none (by omega)]; rfl
    · rw [atS_out (.inl (by omega))]
  · rw [if_neg h]
    have k1 := kl_le s.Counts (zl s.Counts) s.Counts.length
    have hz := zl_at s.Counts (by omega)
    have k2 := kl_gt (l := s.Counts) (a := zl s.Counts) (by rw [getD_lt (by omega)]; exact hz) s.Counts.length (by omega)
    by_cases hi : s.Offset + zl s.Counts ≤ i
    · rw [atS_getD hi, atS_getD (by omega)]
      dsimp only
      rw [List.getD_eq_getElem?_getD, List.getElem?_drop, List.getElem?_take]
      rw [show zl s.Counts + (i - (s.Offset + zl s.Counts)).toNat = (i - s.Offset).toNat by omega]
      split
      · rw [List.getD_eq_getElem?_getD]
      · by_cases hj : (i - s.Offset).toNat < s.Counts.length
        · rw [kl_ge (a := zl s.Counts) s.Counts.length _ (by omega) hj]; rfl
        · rw [List.getD_eq_getElem?_getD, List.getElem?_eq_none (by omega)]
    · rw [atS_out (.inl (by dsimp only; omega))]
      by_cases hi : s.Offset ≤ i
      · rw [atS_getD hi, zl_lt _ _ (by omega)]
      · rw [atS_out (.inl (by omega))]
theorem trim_tr (s : api_Side) : Tr (trimS s) := by
  have z1 := zl_le s.Counts
  by_cases h : zl s.Counts = s.Counts.length
  · have e : trimS s = ⟨0, []⟩ := by unfold trimS; rw [if_pos h]
    rw [e]
    exact ⟨fun _ => rfl, fun h => by simp at h, fun h => by simp at h⟩
  · have k1 := kl_le s.Counts (zl s.Counts) s.Counts.length
    have hz := zl_at s.Counts (by omega)
    have k2 := kl_gt (l := s.Counts) (a := zl s.Counts) (by rw [getD_lt (by omega)]; exact hz) s.Counts.length (by omega)
    have k3 := kl_last (l := s.Counts) (a := zl s.Counts) s.Counts.length k2
    have e : trimS s = ⟨s.Offset + zl s.Counts, (s.Counts.take (kl s.Counts (zl s.Counts) s.Counts.length)).drop (zl s.Counts)⟩ := by unfold trimS; rw [if_neg h]
    have el : (trimS s).Counts.length = kl s.Counts (zl s.Counts) s.Counts.length - zl s.Counts := by rw [e]; simp only [List.length_drop, List.length_take]; omega
    have eo : (trimS s).Offset = s.Offset + zl s.Counts := by rw [e]
    refine ⟨fun h => by omega, fun _ => ?_, fun _ => ?_⟩
    · rw [trim_at, eo, atS_getD (by omega), show (s.Offset + (zl s.Counts : Int) - s.Offset).toNat = zl s.Counts by omega, getD_lt (by omega)]; exact hz
    · rw [trim_at, el, eo, atS_getD (by omega), show (s.Offset + (zl s.Counts : Int) + ((kl s.Counts (zl s.Counts) s.Counts.length - zl s.Counts : Nat) : Int) - 1 - s.Offset).toNat = kl s.Counts (zl s.Counts) s.Counts.length - 1 by omega]
      exact k3
/-! ### the document's way to put together -/
theorem RAt_eq {s : api_Side} (h : RightS s) {i : Int} (hi : -2000000000 ≤ i ∧ i ≤ 2000000000) : ref09_At s i = some (atS s i) := by
  have o := h.off; have l := h.len
  have e : w64 (s.Offset + s.Counts.length) = s.Offset + s.Counts.length := w64_id (by omega) (by omega)
  unfold ref09_At
  rw [e]
  by_cases hin : s.Offset ≤ i ∧ i < s.Offset + s.Counts.length
  · have e2 : w64 (i - s.Offset) = ((i - s.Offset).toNat : Int) := by rw [w64_id] <;> omega
    rw [bifF (by rw [Bool.or_eq_false_iff]; exact ⟨decide_eq_false (by omega), decide_eq_false (by omega)⟩), e2, idx_nat (by omega), bind_some, atS_getD hin.1, getD_lt (by omega)]
  · rw [bifT (by rw [Bool.or_eq_true, decide_eq_true_eq, decide_eq_true_eq]; omega), atS_out (by omega)]
theorem reach_eq {x y : api_Side} (hx : RightS x) (hy : RightS y) : ref09_reach x y = some (if loS x y = hiS x y then (0, 0, false) else (loS x y, hiS x y - 1, true)) := by
  have c := cov hx hy
  have hxo := hx.off; have hyo := hy.off; have l1 := hx.len; have l2 := hy.len
  unfold ref09_reach
  by_cases h : x.Counts.length = 0 ∧ y.Counts.length = 0
  · rw [bifT (by simp [h.1, h.2]), if_pos (c.z.2 h)]
  · rw [bifF (by rw [← Bool.decide_and]; exact decide_eq_false (by omega)), if_neg (fun e => h (c.z.1 e))]
    have ex : w64 (x.Offset + x.Counts.length) = x.Offset + x.Counts.length := w64_id (by omega) (by omega)
    have ey : w64 (y.Offset + y.Counts.length) = y.Offset + y.Counts.length := w64_id (by omega) (by omega)
    by_cases h1 : x.Counts.length = 0
    · rw [bifTd (by omega), bind_some]
      dsimp only
      rw [bifFd (by omega), bind_some]
      dsimp only
      rw [lett_eq, lett_eq, ey, w64_id (by omega) (by omega)]
      unfold loS hiS
      rw [if_pos h1, if_pos h1]
      congr 2 <;> (try congr 1) <;> omega
    · rw [bifFd (by omega), bind_some]
      dsimp only
      by_cases h2 : y.Counts.length = 0
      · rw [bifTd (by omega), bind_some]
        dsimp only
        rw [lett_eq, lett_eq, ex, w64_id (by omega) (by omega)]
        unfold loS hiS
        rw [if_neg h1, if_pos h2, if_neg h1, if_pos h2]
        congr 2 <;> (try congr 1) <;> omega
      · rw [bifFd (by omega), bind_some]
        dsimp only
        rw [lett_eq, lett_eq, ex, ey, w64_id (by omega) (by omega)]
        unfold loS hiS
        rw [if_neg h1, if_neg h2, if_neg h1, if_neg h2]
theorem both_eq {x y : api_Side} (hx : RightS x) (hy : RightS y) : ref09_both x y = some (if 160 < widthS x y then (⟨0, []⟩, false) else (mergeS x y, true)) := by
  have c := cov hx hy
  have cb := c.b
  have cle := c.le
  have hw : (widthS x y : Int) = hiS x y - loS x y := by unfold widthS; omega
  unfold ref09_both
  rw [reach_eq hx hy, bind_some]
  by_cases h0 : loS x y = hiS x y
  · rw [if_pos h0, if_neg (by omega)]
    dsimp only
    rw [bifT (by rfl)]
    unfold mergeS
    rw [if_pos (by omega)]
  · rw [if_neg h0]
    dsimp only
    rw [bifF (by rfl), w64_id (x := hiS x y - 1 - loS x y) (by omega) (by omega)]
    by_cases h1 : 160 < widthS x y
    · rw [if_pos h1, bifTd (by omega)]
    · rw [if_neg h1, bifFd (by omega)]
      have key : ∀ (m i : Nat), i + m = widthS x y → loop (ref09_both_lp1 x y (hiS x y - 1)) (onL (addS x y) (loS x y) i, loS x y + (i : Int)) = some (.go (onL (addS x y) (loS x y) (widthS x y))) := by
        intro m
        induction m with
        | zero =>
          intro i hi
          obtain rfl : i = widthS x y := by omega
          refine loop_brk ?_
          unfold ref09_both_lp1
          dsimp only
          rw [bifFd (by omega)]
        | succ m ih =>
          intro i hi
          rw [← ih (i + 1) (by omega)]
          refine loop_next ?_
          have hb : addS x y (loS x y + i) = atS x (loS x y + i) + atS y (loS x y + i) := rfl
          unfold ref09_both_lp1
          dsimp only
          rw [bifTd (by omega), RAt_eq hx (by omega), bind_some, RAt_eq hy (by omega), bind_some, app_ok (by rw [onL_len]; simp; omega), bind_some, lett_eq, onL_succ, hb, w64_id (x := loS x y + (i : Int) + 1) (by omega) (by omega), show loS x y + (i : Int) + 1 = loS x y + ((i + 1 : Nat) : Int) by omega]
      have k0 := key (widthS x y) 0 (by omega)
      rw [show loS x y + ((0 : Nat) : Int) = loS x y by omega] at k0
      have k0' : loop (ref09_both_lp1 x y (hiS x y - 1)) ([], loS x y) = _ := k0
      rw [k0', flow_go]
      unfold mergeS
      rw [if_neg (by omega)]
theorem u_lt {m n : Nat} (hm : m < 18446744073709551616) (hn : n < 18446744073709551616) : ((18446744073709551615 : UInt64) - UInt64.ofNat n < UInt64.ofNat m) ↔ 18446744073709551616 ≤ m + n := by
  have em : (UInt64.ofNat m).toNat = m := by rw [UInt64.toNat_ofNat']; omega
  have en : (UInt64.ofNat n).toNat = n := by rw [UInt64.toNat_ofNat']; omega
  have e9 : (18446744073709551615 : UInt64).toNat = 18446744073709551615 := rfl
  rw [UInt64.lt_iff_toNat_lt, UInt64.toNat_sub, em, en, e9]; omega
theorem RMerge_lev {a b x y : api_Hist} (h : ref09_Level a b = some ⟨x, y, 0⟩) (gx : Good x) (gy : Good y) : ref09_Merge a b = some (mergeE x y) := by
  unfold ref09_Merge
  rw [h, bind_some]
  dsimp only
  rw [bifF (by rfl), refTotal_eq gx.ok.pl gx.ok.nl, if_pos gx.t, bind_some]
  dsimp only
  rw [refTotal_eq gy.ok.pl gy.ok.nl, if_pos gy.t, bind_some]
  dsimp only
  unfold mergeE
  by_cases h1 : 18446744073709551616 ≤ tot x + tot y
  · rw [if_pos h1, bifTd ((u_lt gx.t gy.t).2 h1)]; rfl
  · rw [if_neg h1, bifFd (fun e => h1 ((u_lt gx.t gy.t).1 e)), both_eq gx.p gy.p, both_eq gx.n gy.n, bind_some]
    by_cases h2 : 160 < widthS x.Pos y.Pos
    · rw [if_pos h2, if_pos (Or.inl h2 : 160 < widthS x.Pos y.Pos ∨ 160 < widthS x.Neg y.Neg)]
      dsimp only
      rw [bind_some]
      generalize (if 160 < widthS x.Neg y.Neg then ((⟨0, []⟩ : api_Side), false) else (mergeS x.Neg y.Neg, true)) = p
      obtain ⟨p, q⟩ := p
      rfl
    · rw [if_neg h2]
      dsimp only
      rw [bind_some]
      by_cases h3 : 160 < widthS x.Neg y.Neg
      · rw [if_pos h3, if_pos (Or.inr h3 : 160 < widthS x.Pos y.Pos ∨ 160 < widthS x.Neg y.Neg)]; rfl
      · rw [if_neg h3, if_neg (by omega)]; rfl
end Go.Lg
namespace Go.Lg
attribute [local irreducible] w64 toU64 toU8 shlU shrU shlB shrB
/-! ### taken away -/
def Enough (x y : api_Side) (n : Nat) : Prop := ∀ (k : Nat) (h : k < y.Counts.length), k < n → y.Counts[k] ≤ atS x (y.Offset + k)
def enough (x y : api_Side) : Bool := (List.range y.Counts.length).all fun (k : Nat) => decide (y.Counts.getD k 0 ≤ atS x (y.Offset + k))
theorem enough_iff (x y : api_Side) : enough x y = true ↔ Enough x y y.Counts.length := by
  unfold enough Enough
  rw [List.all_eq_true]
  constructor
  · intro h k hk _
    have := of_decide_eq_true (h k (List.mem_range.2 hk))
    rwa [getD_lt hk] at this
  · intro h k hk
    have hk := List.mem_range.1 hk
    rw [getD_lt hk]
    exact decide_eq_true (h k hk hk)
def subS (x y : api_Side) (i : Int) : UInt64 := atS x i - atS y i
def leftT (x y : api_Side) : api_Side := trimS ⟨x.Offset, onL (subS x y) x.Offset x.Counts.length⟩
def subE (x y : api_Hist) : api_Hist × Int :=
  if y.Zero ≤ x.Zero ∧ enough x.Pos y.Pos = true ∧ enough x.Neg y.Neg = true then (⟨x.Scale, x.Zero - y.Zero, leftT x.Pos y.Pos, leftT x.Neg y.Neg⟩, 0) else (H0, 7)
end Go.Lg
namespace Go.Lg
attribute [local irreducible] w64 toU64 toU8 shlU shrU shlB shrB
theorem Level_good {a b : api_Hist} (ga : Good a) (gb : Good b) : ∃ x y, fold_Level a b = some (x, y, 0) ∧ ref09_Level a b = some ⟨x, y, 0⟩ ∧ Lev a b x y := by
  rcases Level_eq ga.ok gb.ok with ⟨e, _, _, _, h⟩ | h
  · rcases h with h | h
    · exact absurd ((good_iff a).2 ga) h
    · exact absurd ((good_iff b).2 gb) h
  · exact h
end Go.Lg
namespace Go.Lg
attribute [local irreducible] w64 toU64 toU8 shlU shrU shlB shrB
/-- how much lies below place i -/
def cum (s : api_Side) (i : Int) : Nat := su (s.Counts.take (i - s.Offset).toNat)
theorem cum_succ (s : api_Side) (i : Int) : cum s (i + 1) = cum s i + (atS s i).toNat := atS_su s i
theorem cum_low {s : api_Side} {i : Int} (h : i ≤ s.Offset) : cum s i = 0 := by
  unfold cum; rw [show (i - s.Offset).toNat = 0 by omega]; rfl
theorem cum_high {s : api_Side} {i : Int} (h : s.Offset + s.Counts.length ≤ i) : cum s i = su s.Counts := su_all _ (by omega)
theorem cum_nil {o : Int} (i : Int) : cum ⟨o, []⟩ i = 0 := by simp [cum, su_nil]
theorem cum_ext {s t : api_Side} (hs : Tr s) (ht : Tr t) (h : ∀ i, cum s i = cum t i) : s = t :=
  hs.ext ht fun i => UInt64.toNat_inj.1 (by
    have h1 := cum_succ s i; have h2 := cum_succ t i; have h3 := h i; have h4 := h (i + 1); omega)
theorem DnS.cum {k : Nat} {s t : api_Side} (h : DnS k s t) (i : Int) : Lg.cum t i = Lg.cum s (2 ^ k * i) := by
  rcases h with ⟨a, rfl⟩ | ⟨hn, h⟩
  · rw [cum_nil]; unfold Lg.cum; rw [List.eq_nil_of_length_eq_zero a]; simp [su_nil]
  · by_cases hi : t.Offset ≤ i
    · have := h.su (i - t.Offset).toNat
      unfold Lg.cum
      rw [this, show t.Offset + ((i - t.Offset).toNat : Int) = i by omega]
    · rw [cum_low (by omega), cum_low]
      have hP := p2 k
      have hp : 2 ^ k * t.Offset ≤ s.Offset := by rw [h.o]; exact Int.mul_ediv_self_le (by omega)
      have : (2 : Int) ^ k * i ≤ 2 ^ k * t.Offset := Int.mul_le_mul_of_nonneg_left (by omega) (by omega)
      omega
theorem cum_add {s x y : api_Side} (h : ∀ i, (atS s i).toNat = (atS x i).toNat + (atS y i).toNat) (i : Int) : cum s i = cum x i + cum y i := by
  have key : ∀ n : Nat, cum s (min s.Offset (min x.Offset y.Offset) + n) = cum x (min s.Offset (min x.Offset y.Offset) + n) + cum y (min s.Offset (min x.Offset y.Offset) + n) := by
    intro n
    induction n with
    | zero => rw [cum_low (by omega), cum_low (by omega), cum_low (by omega)]
    | succ n ih =>
      have e : min s.Offset (min x.Offset y.Offset) + ((n + 1 : Nat) : Int) = min s.Offset (min x.Offset y.Offset) + n + 1 := by omega
      rw [e, cum_succ, cum_succ, cum_succ, ih, h]; omega
  by_cases hi : min s.Offset (min x.Offset y.Offset) ≤ i
  · have := key (i - min s.Offset (min x.Offset y.Offset)).toNat
    rwa [show min s.Offset (min x.Offset y.Offset) + ((i - min s.Offset (min x.Offset y.Offset)).toNat : Int) = i by omega] at this
  · rw [cum_low (by omega), cum_low (by omega), cum_low (by omega)]
theorem cum_merge {x y : api_Side} (hx : RightS x) (hy : RightS y) (hs : su x.Counts + su y.Counts < 18446744073709551616) (i : Int) : cum (mergeS x y) i = cum x i + cum y i :=
  cum_add (fun i => by rw [merge_at (cov hx hy), add_nat hs]) i
/-- a hull is no wider than what holds both -/
theorem width_le {x y z : api_Side} (hx : RightS x) (hy : RightS y) (h : ∀ i, cum x (i + 1) + cum y (i + 1) - (cum x i + cum y i) ≤ cum z (i + 1) - cum z i) : widthS x y ≤ z.Counts.length := by
  have hat : ∀ i, (atS x i ≠ 0 ∨ atS y i ≠ 0) → z.Offset ≤ i ∧ i < z.Offset + z.Counts.length := by
    intro i hi
    have h1 := h i
    rw [cum_succ, cum_succ, cum_succ] at h1
    have : 1 ≤ (atS x i).toNat + (atS y i).toNat := by
      rcases hi with e | e
      · have := u_ne e; omega
      · have := u_ne e; omega
    have hz : atS z i ≠ 0 := ne_u (by omega)
    constructor
    · exact Int.not_lt.1 fun hh => hz (atS_out (.inl hh))
    · exact Int.not_le.1 fun hh => hz (atS_out (.inr hh))
  have c := cov hx hy
  have cle := c.le
  unfold widthS
  by_cases e : loS x y = hiS x y
  · omega
  · have hlo : z.Offset ≤ loS x y := by
      rcases c.lo with q | ⟨q1, q2⟩ | ⟨q1, q2⟩
      · omega
      · have := hat x.Offset (.inl (hx.tr.f q1)); omega
      · have := hat y.Offset (.inr (hy.tr.f q1)); omega
    have hhi : hiS x y ≤ z.Offset + z.Counts.length := by
      rcases c.hi with q | ⟨q1, q2⟩ | ⟨q1, q2⟩
      · omega
      · have := hat _ (.inl (hx.tr.e q1)); omega
      · have := hat _ (.inr (hy.tr.e q1)); omega
    omega
theorem lev_same {x y : api_Hist} (gx : Good x) (gy : Good y) (hs : x.Scale = y.Scale) : fold_Level x y = some (x, y, 0) ∧ ref09_Level x y = some ⟨x, y, 0⟩ := by
  obtain ⟨x', y', h1, h2, l⟩ := Level_good gx gy
  have e1 : (x.Scale - min x.Scale y.Scale).toNat = 0 := by omega
  have e2 : (y.Scale - min x.Scale y.Scale).toNat = 0 := by omega
  have dx := l.dx
  have dy := l.dy
  rw [e1] at dx
  rw [e2] at dy
  have := dx.inj (DnH.zero gx)
  have := dy.inj (DnH.zero gy)
  subst_vars
  exact ⟨h1, h2⟩
theorem sumH_tot {x y : api_Hist} (gx : Good x) (gy : Good y) (h : tot x + tot y < 18446744073709551616) : tot (sumH x y) = tot x + tot y := by
  have h1 := gx.sp; have h2 := gx.sn
  unfold tot at *
  unfold sumH
  dsimp only
  rw [merge_su gx.p gy.p (by omega), merge_su gx.n gy.n (by omega), UInt64.toNat_add, Nat.mod_eq_of_lt (by omega)]
  omega
theorem sumH_good {x y : api_Hist} (gx : Good x) (gy : Good y) (h : tot x + tot y < 18446744073709551616) (hp : widthS x.Pos y.Pos ≤ 160) (hn : widthS x.Neg y.Neg ≤ 160) : Good (sumH x y) := by
  have ht := sumH_tot gx gy h
  refine ⟨gx.s1, gx.s2, merge_right gx.p gy.p ?_ hp, merge_right gx.n gy.n ?_ hn, by rw [ht]; exact h⟩
  · unfold tot at h; omega
  · unfold tot at h; omega
/-! ### what some histograms come to, at a scale -/
def sumN (f : api_Hist → Nat) (l : List api_Hist) : Nat := (l.map f).sum
theorem sumN_app (f : api_Hist → Nat) (l m : List api_Hist) : sumN f (l ++ m) = sumN f l + sumN f m := by simp [sumN]
theorem sumN_congr {f g : api_Hist → Nat} {l : List api_Hist} (h : ∀ x ∈ l, f x = g x) : sumN f l = sumN g l := by
  unfold sumN; rw [List.map_congr_left h]
theorem sumN_add (f g : api_Hist → Nat) (l : List api_Hist) : sumN (fun x => f x + g x) l = sumN f l + sumN g l := by
  induction l with
  | nil => rfl
  | cons x l ih => simp only [sumN, List.map_cons, List.sum_cons] at *; omega
theorem sumN_mono {f g : api_Hist → Nat} {l : List api_Hist} (h : ∀ x ∈ l, f x ≤ g x) : sumN f l ≤ sumN g l := by
  induction l with
  | nil => exact Nat.le_refl _
  | cons x l ih =>
    have h1 := h x (by simp)
    have h2 := ih fun y hy => h y (by simp [hy])
    simp only [sumN, List.map_cons, List.sum_cons] at *; omega
theorem cum_mono {s : api_Side} {i j : Int} (h : i ≤ j) : cum s i ≤ cum s j := su_take_mono _ (by omega)
def fac (x z : api_Hist) (i : Int) : Int := 2 ^ (x.Scale - z.Scale).toNat * i
theorem fac_mono {x z : api_Hist} (i : Int) : fac x z i ≤ fac x z (i + 1) := by
  unfold fac
  have h := p2 (x.Scale - z.Scale).toNat
  rw [Int.mul_add]; omega
structure Sums (l : List api_Hist) (z : api_Hist) : Prop where
  good : Good z
  all : ∀ x ∈ l, Good x ∧ z.Scale ≤ x.Scale
  zero : z.Zero.toNat = sumN (fun x => x.Zero.toNat) l
  pos : ∀ i, cum z.Pos i = sumN (fun x => cum x.Pos (fac x z i)) l
  neg : ∀ i, cum z.Neg i = sumN (fun x => cum x.Neg (fac x z i)) l
theorem fac_eq {x z z' : api_Hist} (h : z.Scale = z'.Scale) (i : Int) : fac x z i = fac x z' i := by unfold fac; rw [h]
theorem Sums.inj {l : List api_Hist} {z z' : api_Hist} (a : Sums l z) (b : Sums l z') (h : z.Scale = z'.Scale) : z = z' := by
  have hz : z.Zero = z'.Zero := UInt64.toNat_inj.1 (by rw [a.zero, b.zero])
  have hp : z.Pos = z'.Pos := cum_ext a.good.p.tr b.good.p.tr fun i => by
    rw [a.pos, b.pos]; exact sumN_congr fun x _ => by rw [fac_eq h]
  have hn : z.Neg = z'.Neg := cum_ext a.good.n.tr b.good.n.tr fun i => by
    rw [a.neg, b.neg]; exact sumN_congr fun x _ => by rw [fac_eq h]
  cases z; cases z'
  simp only at h hz hp hn
  subst h hz hp hn; rfl
theorem Sums.one {x : api_Hist} (g : Good x) : Sums [x] x := by
  refine ⟨g, fun y hy => ?_, by simp [sumN], fun i => ?_, fun i => ?_⟩
  · rw [List.mem_singleton.1 hy]; exact ⟨g, Int.le_refl _⟩
  · simp [sumN, fac]
  · simp [sumN, fac]
def Hs (S : Int) : api_Hist := ⟨S, 0, ⟨0, []⟩, ⟨0, []⟩⟩
theorem Hs_good {S : Int} (h : -10 ≤ S) (h' : S ≤ 20) : Good (Hs S) :=
  ⟨h, h', H0_good.p, H0_good.n, H0_good.t⟩
theorem Sums.nil {S : Int} (h : -10 ≤ S) (h' : S ≤ 20) : Sums [] (Hs S) :=
  ⟨Hs_good h h', fun _ hy => absurd hy List.not_mem_nil, rfl, fun i => cum_nil i, fun i => cum_nil i⟩
theorem Sums.down {l : List api_Hist} {z z' : api_Hist} {k : Nat} (h : Sums l z) (d : DnH k z z') (hk : (k : Int) ≤ z.Scale + 10) : Sums l z' := by
  have hs := d.s
  have e : ∀ x ∈ l, ∀ i, fac x z (2 ^ k * i) = fac x z' i := by
    intro x hx i
    have := (h.all x hx).2
    unfold fac
    rw [show (x.Scale - z'.Scale).toNat = (x.Scale - z.Scale).toNat + k by omega, Int.pow_add, Int.mul_assoc]
  refine ⟨d.good h.good hk, fun x hx => ⟨(h.all x hx).1, by have := (h.all x hx).2; omega⟩, by rw [d.z, h.zero], fun i => ?_, fun i => ?_⟩
  · rw [d.p.cum, h.pos]; exact sumN_congr fun x hx => by rw [e x hx]
  · rw [d.n.cum, h.neg]; exact sumN_congr fun x hx => by rw [e x hx]
theorem Sums.merge {l m : List api_Hist} {a b : api_Hist} (h : Sums l a) (h' : Sums m b) (hs : a.Scale = b.Scale) (ht : tot a + tot b < 18446744073709551616) (hp : widthS a.Pos b.Pos ≤ 160) (hn : widthS a.Neg b.Neg ≤ 160) : Sums (l ++ m) (sumH a b) := by
  have hS : (sumH a b).Scale = a.Scale := rfl
  have ga := h.good; have gb := h'.good
  refine ⟨sumH_good ga gb ht hp hn, fun x hx => ?_, ?_, fun i => ?_, fun i => ?_⟩
  · rcases List.mem_append.1 hx with hx | hx
    · exact h.all x hx
    · have := h'.all x hx; exact ⟨this.1, by rw [hS, hs]; exact this.2⟩
  · show (a.Zero + b.Zero).toNat = _
    unfold tot at ht
    rw [UInt64.toNat_add, Nat.mod_eq_of_lt (by omega), h.zero, h'.zero, sumN_app]
  · show cum (mergeS a.Pos b.Pos) i = _
    rw [cum_merge ga.p gb.p (by unfold tot at ht; omega), h.pos, h'.pos, sumN_app]
    congr 1
    exact sumN_congr fun x _ => by rw [fac_eq (x := x) (z := b) (z' := sumH a b) (by rw [hS, hs])]
  · show cum (mergeS a.Neg b.Neg) i = _
    rw [cum_merge ga.n gb.n (by unfold tot at ht; omega), h.neg, h'.neg, sumN_app]
    congr 1
    exact sumN_congr fun x _ => by rw [fac_eq (x := x) (z := b) (z' := sumH a b) (by rw [hS, hs])]
theorem fac_far {x z : api_Hist} : (2147483648 : Int) ≤ fac x z 2147483648 := by
  unfold fac
  have h := p2 (x.Scale - z.Scale).toNat
  have := Int.mul_le_mul_of_nonneg_right (show (1 : Int) ≤ 2 ^ (x.Scale - z.Scale).toNat by omega) (show (0 : Int) ≤ 2147483648 by omega)
  omega
theorem cum_far {s : api_Side} (h : RightS s) {i : Int} (hi : 2147483648 ≤ i) : cum s i = su s.Counts := by
  have := h.off; have := h.z; have := h.hi
  exact cum_high (by omega)
theorem Sums.tot {l : List api_Hist} {z : api_Hist} (h : Sums l z) : Lg.tot z = sumN Lg.tot l := by
  have hp : su z.Pos.Counts = sumN (fun x => su x.Pos.Counts) l := by
    rw [← cum_far h.good.p (i := 2147483648) (by omega), h.pos]
    exact sumN_congr fun x hx => cum_far (h.all x hx).1.p fac_far
  have hn : su z.Neg.Counts = sumN (fun x => su x.Neg.Counts) l := by
    rw [← cum_far h.good.n (i := 2147483648) (by omega), h.neg]
    exact sumN_congr fun x hx => cum_far (h.all x hx).1.n fac_far
  have e : sumN Lg.tot l = sumN (fun x => x.Zero.toNat) l + sumN (fun x => su x.Pos.Counts) l + sumN (fun x => su x.Neg.Counts) l := by
    rw [← sumN_add, ← sumN_add]; rfl
  unfold Lg.tot at *
  rw [e, h.zero, hp, hn]
/-- one more, of those that z is the sum of -/
theorem Sums.step {a b : List api_Hist} {x z h : api_Hist} (hz : Sums (a ++ x :: b) z) (ha : Sums a h) (hs : h.Scale = z.Scale) :
    ∃ x' h', hist_Down x (w64 (x.Scale - z.Scale)) = some (x', 0) ∧ fold_Merge h x' = some (h', 0) ∧ Sums (a ++ [x]) h' ∧ h'.Scale = z.Scale := by
  have hx := hz.all x (by simp)
  have g := hx.1
  have z1 := hz.good.s1
  have g2 := g.s2
  obtain ⟨x', d1, d2⟩ := Down_ok g (k := (x.Scale - z.Scale).toNat) (by omega)
  have e1 : w64 (x.Scale - z.Scale) = ((x.Scale - z.Scale).toNat : Int) := by rw [w64_id] <;> omega
  have s' := (Sums.one g).down d2 (by omega)
  have hs' : x'.Scale = z.Scale := by have := d2.s; omega
  have ht : Lg.tot h + Lg.tot x' < 18446744073709551616 := by
    have t1 := hz.good.t
    rw [hz.tot, show a ++ x :: b = (a ++ [x]) ++ b by simp, sumN_app, sumN_app, ← ha.tot, ← s'.tot] at t1
    omega
  have cp : ∀ i, cum z.Pos i = cum h.Pos i + cum x'.Pos i + sumN (fun y => cum y.Pos (fac y z i)) b := by
    intro i
    rw [hz.pos, show a ++ x :: b = (a ++ [x]) ++ b by simp, sumN_app, sumN_app, ha.pos, s'.pos]
    congr 2
    · exact sumN_congr fun y _ => by rw [fac_eq (x := y) (z := h) (z' := z) hs]
    · exact sumN_congr fun y _ => by rw [fac_eq (x := y) (z := x') (z' := z) hs']
  have cn : ∀ i, cum z.Neg i = cum h.Neg i + cum x'.Neg i + sumN (fun y => cum y.Neg (fac y z i)) b := by
    intro i
    rw [hz.neg, show a ++ x :: b = (a ++ [x]) ++ b by simp, sumN_app, sumN_app, ha.neg, s'.neg]
    congr 2
    · exact sumN_congr fun y _ => by rw [fac_eq (x := y) (z := h) (z' := z) hs]
    · exact sumN_congr fun y _ => by rw [fac_eq (x := y) (z := x') (z' := z) hs']
  have wp : widthS h.Pos x'.Pos ≤ 160 := by
    refine Nat.le_trans (width_le (z := z.Pos) ha.good.p s'.good.p fun i => ?_) hz.good.p.len
    have h1 := cp i; have h2 := cp (i + 1)
    have h3 : sumN (fun y => cum y.Pos (fac y z i)) b ≤ sumN (fun y => cum y.Pos (fac y z (i + 1))) b := sumN_mono fun y _ => cum_mono (fac_mono i)
    omega
  have wn : widthS h.Neg x'.Neg ≤ 160 := by
    refine Nat.le_trans (width_le (z := z.Neg) ha.good.n s'.good.n fun i => ?_) hz.good.n.len
    have h1 := cn i; have h2 := cn (i + 1)
    have h3 : sumN (fun y => cum y.Neg (fac y z i)) b ≤ sumN (fun y => cum y.Neg (fac y z (i + 1))) b := sumN_mono fun y _ => cum_mono (fac_mono i)
    omega
  refine ⟨x', sumH h x', by rw [e1, d1], ?_, ha.merge s' (by omega) ht wp wn, hs⟩
  rw [Merge_lev (lev_same ha.good s'.good (by omega)).1 ha.good s'.good]
  unfold mergeE
  rw [if_neg (by omega), if_neg (by omega)]
/-! ### what is taken away -/
theorem enough_at {x y : api_Side} (he : enough x y = true) (i : Int) : (atS y i).toNat ≤ (atS x i).toNat := by
  by_cases h : y.Offset ≤ i ∧ i < y.Offset + y.Counts.length
  · obtain ⟨k, rfl⟩ : ∃ k : Nat, i = y.Offset + k := ⟨(i - y.Offset).toNat, by omega⟩
    have hk : k < y.Counts.length := by omega
    have := (enough_iff x y).1 he k hk hk
    rw [atS_in hk]
    exact UInt64.le_iff_toNat_le.1 this
  · rw [atS_out (by omega)]; exact Nat.zero_le _
theorem left_at {x y : api_Side} (he : enough x y = true) (i : Int) : (atS x i).toNat = (atS (leftT x y) i).toNat + (atS y i).toNat := by
  have e : atS (leftT x y) i = subS x y i := by
    unfold leftT
    rw [trim_at]
    refine onL_at (fun j hj => ?_) i
    have h0 : atS x j = 0 := atS_out hj
    have h1 := enough_at he j
    have z : (0 : UInt64).toNat = 0 := rfl
    rw [h0, z] at h1
    have h3 : atS y j = 0 := UInt64.toNat_inj.1 (by omega)
    unfold subS
    rw [h0, h3]; rfl
  rw [e]
  unfold subS
  have h1 := enough_at he i
  rw [UInt64.toNat_sub_of_le _ _ (UInt64.le_iff_toNat_le.2 h1)]
  omega
theorem left_cum {x y : api_Side} (he : enough x y = true) (i : Int) : cum x i = cum (leftT x y) i + cum y i := cum_add (left_at he) i
theorem left_right {x y : api_Side} (hx : RightS x) (he : enough x y = true) : RightS (leftT x y) := by
  have tr : Tr (leftT x y) := trim_tr _
  have hl : (leftT x y).Counts.length ≤ x.Counts.length := by
    have := trimS_len ⟨x.Offset, onL (subS x y) x.Offset x.Counts.length⟩
    dsimp only at this; rw [onL_len] at this; exact this
  have hin : ∀ i, atS (leftT x y) i ≠ 0 → x.Offset ≤ i ∧ i < x.Offset + x.Counts.length := by
    intro i hi
    have h1 := left_at (x := x) he i
    have h2 := u_ne hi
    have hz : atS x i ≠ 0 := ne_u (by omega)
    constructor
    · exact Int.not_lt.1 fun hh => hz (atS_out (.inl hh))
    · exact Int.not_le.1 fun hh => hz (atS_out (.inr hh))
  have hb : 0 < (leftT x y).Counts.length → -1073741824 ≤ (leftT x y).Offset ∧ (leftT x y).Offset + (leftT x y).Counts.length - 1 ≤ 1073741824 := by
    intro hp
    have a := hin _ (tr.f hp)
    have b := hin _ (tr.e hp)
    have := hx.lo (by omega); have := hx.hi (by omega)
    omega
  refine ⟨by have := hx.len; omega, tr.z, fun hp => ?_, fun hp => ?_, fun hp => (hb hp).1, fun hp => (hb hp).2⟩
  · have := tr.f hp
    have e := atS_in (s := leftT x y) (k := 0) hp
    rw [show (leftT x y).Offset + ((0 : Nat) : Int) = (leftT x y).Offset by omega] at e
    rw [← e]; exact this
  · have := tr.e hp
    have e := atS_in (s := leftT x y) (k := (leftT x y).Counts.length - 1) (by omega)
    rw [show (leftT x y).Offset + (((leftT x y).Counts.length - 1 : Nat) : Int) = (leftT x y).Offset + (leftT x y).Counts.length - 1 by omega] at e
    rw [← e]; exact this
theorem left_su {x y : api_Side} (hx : RightS x) (hy : RightS y) (he : enough x y = true) : su x.Counts = su (leftT x y).Counts + su y.Counts := by
  have := left_cum he 2147483648
  rwa [cum_far hx (by omega), cum_far hy (by omega), cum_far (left_right hx he) (by omega)] at this
/-- what is taken away from the sum of some is one more of them -/
theorem Sums.sub {l : List api_Hist} {x y : api_Hist} (h : Sums l y) (gx : Good x) (hs : x.Scale = y.Scale) (he : (subE x y).2 = 0) :
    Good (subE x y).1 ∧ (subE x y).1.Scale = x.Scale ∧ (subE x y).1.Pos.Counts.length ≤ x.Pos.Counts.length ∧ (subE x y).1.Neg.Counts.length ≤ x.Neg.Counts.length ∧ Sums (l ++ [(subE x y).1]) x := by
  unfold subE at he ⊢
  split at he
  case isFalse => exact absurd he (by decide)
  rename_i hc
  obtain ⟨hz, hp, hn⟩ := hc
  rw [if_pos ⟨hz, hp, hn⟩]
  have gy := h.good
  have hz' := UInt64.le_iff_toNat_le.1 hz
  have ez : (x.Zero - y.Zero).toNat = x.Zero.toNat - y.Zero.toNat := UInt64.toNat_sub_of_le _ _ hz
  have sp := left_su gx.p gy.p hp
  have sn := left_su gx.n gy.n hn
  have g : Good ⟨x.Scale, x.Zero - y.Zero, leftT x.Pos y.Pos, leftT x.Neg y.Neg⟩ := by
    refine ⟨gx.s1, gx.s2, left_right gx.p hp, left_right gx.n hn, ?_⟩
    have := gx.t
    unfold Lg.tot at *
    show (x.Zero - y.Zero).toNat + su (leftT x.Pos y.Pos).Counts + su (leftT x.Neg y.Neg).Counts < _
    omega
  have len : ∀ u v : api_Side, (leftT u v).Counts.length ≤ u.Counts.length := by
    intro u v
    have := trimS_len ⟨u.Offset, onL (subS u v) u.Offset u.Counts.length⟩
    dsimp only at this; rw [onL_len] at this; exact this
  refine ⟨g, rfl, len _ _, len _ _, gx, fun w hw => ?_, ?_, fun i => ?_, fun i => ?_⟩
  · rcases List.mem_append.1 hw with hw | hw
    · have := h.all w hw; exact ⟨this.1, by omega⟩
    · rw [List.mem_singleton.1 hw]; exact ⟨g, Int.le_refl _⟩
  · rw [sumN_app, ← h.zero]
    simp only [sumN, List.map_cons, List.map_nil, List.sum_cons, List.sum_nil]
    omega
  · rw [sumN_app, left_cum hp, h.pos i]
    have e : sumN (fun w => cum w.Pos (fac w y i)) l = sumN (fun w => cum w.Pos (fac w x i)) l := sumN_congr fun w _ => by rw [fac_eq (x := w) hs.symm]
    rw [e]
    simp [sumN, fac]; omega
  · rw [sumN_app, left_cum hn, h.neg i]
    have e : sumN (fun w => cum w.Neg (fac w y i)) l = sumN (fun w => cum w.Neg (fac w x i)) l := sumN_congr fun w _ => by rw [fac_eq (x := w) hs.symm]
    rw [e]
    simp [sumN, fac]; omega
end Go.Lg
namespace Go.Lg
noncomputable def num_Odd (a0 : UInt64) : Option Bool :=
 lett (decide (9218868437227405312 < (a0 &&& ~~~(9223372036854775808 : UInt64)))) fun t11 =>
 some t11
noncomputable def num_Canon (a0 : UInt64) : Option UInt64 :=
 (num_Odd a0).bind fun r11 =>
 bif r11 then
 some 9221120237041090561
 else
 some a0
noncomputable def num_Less (a0 : UInt64) (a1 : UInt64) : Option Bool :=
  some (fLess a0 a1)
noncomputable def num_Finite (a0 : UInt64) : Option Bool :=
 lett ((!decide ((a0 &&& 9218868437227405312) = 9218868437227405312))) fun t11 =>
 some t11
end Go.Lg
namespace Go.Lg
noncomputable def num_AddPhasor (a0 : UInt64) (a1 : UInt64) (a2 : UInt64) (a3 : UInt64) : Option (UInt64 × UInt64) :=
  some (fAdd a0 a2, fAdd a1 a3)
end Go.Lg
namespace Go.Lg
open Ieee
/-! ### to the nearest, between two to the even one -/
/-- as m, in units of 2^c, so N: at multiples of u -/
def RepU (u m N c : Nat) : Prop := ∀ t : Nat, (u * t < m ↔ u * t * 2 ^ c < N) ∧ (u * t = m ↔ u * t * 2 ^ c = N)
theorem RepU.exact {u m N c : Nat} (h : m * 2 ^ c = N) : RepU u m N c := by
  intro t
  have hp : 0 < 2 ^ c := Nat.two_pow_pos c
  rw [← h]
  exact ⟨(Nat.mul_lt_mul_right hp).symm, (Nat.mul_left_inj (by omega)).symm⟩
theorem RepU.scale {u m N c : Nat} (h : RepU u m N c) (a : Nat) : RepU u m (N * 2 ^ a) (c + a) := fun t => by
  have hp : 0 < 2 ^ a := Nat.two_pow_pos a
  have := h t
  rw [Nat.pow_add, ← Nat.mul_assoc, Nat.mul_lt_mul_right hp, Nat.mul_left_inj (by omega)]
  exact this
theorem RepU.le {u m N c : Nat} (h : RepU u m N c) (t : Nat) : (u * t ≤ m ↔ u * t * 2 ^ c ≤ N) := by
  obtain ⟨a, b⟩ := h t
  constructor
  · intro q
    rcases Nat.lt_or_eq_of_le q with q | q
    · exact Nat.le_of_lt (a.1 q)
    · exact Nat.le_of_eq (b.1 q)
  · intro q
    rcases Nat.lt_or_eq_of_le q with q | q
    · exact Nat.le_of_lt (a.2 q)
    · exact Nat.le_of_eq (b.2 q)
end Go.Lg
namespace Go.Lg
open Ieee
attribute [local irreducible] w64 toU64 toU8 shlU shrU shlB shrB
/-! ### moved right, the last digit set if something went out -/
theorem or_one (x : Nat) : x ||| 1 = x + (1 - x % 2) := by
  rcases Nat.mod_two_eq_zero_or_one x with h | h
  · have := or_add (a := x / 2) (b := 1) (i := 1) (by decide)
    rw [Nat.pow_one, show x / 2 * 2 = x by omega] at this
    rw [this, h]
  · have := or_add (a := x / 2) (b := 1) (i := 1) (by decide)
    rw [Nat.pow_one, show x / 2 * 2 + 1 = x by omega] at this
    rw [h, Nat.sub_self, Nat.add_zero]
    conv => lhs; rw [← this]
    rw [Nat.or_assoc, Nat.or_self, this]
theorem st1_eq (m : Nat) : m / 2 ||| m % 2 = m / 2 + (if m % 2 = 1 ∧ m / 2 % 2 = 0 then 1 else 0) := by
  rcases Nat.mod_two_eq_zero_or_one m with h | h
  · rw [h, Nat.or_zero, if_neg (by omega)]; rfl
  · rw [h, or_one]
    by_cases q : m / 2 % 2 = 0
    · rw [if_pos ⟨rfl, q⟩, q]
    · rw [if_neg (fun e => q e.2)]; omega
theorem RepU.half {m N c : Nat} (h : RepU 2 m N c) : RepU 2 (m / 2 ||| m % 2) N (c + 1) := fun t => by
  obtain ⟨a, b⟩ := h (2 * t)
  have e : 2 * t * 2 ^ (c + 1) = 2 * (2 * t) * 2 ^ c := by rw [Nat.pow_succ]; grind
  rw [e, ← a, ← b, st1_eq]
  split <;> constructor <;> constructor <;> omega
theorem RepU.double {m N c : Nat} (h : RepU 2 m N (c + 1)) : RepU 4 (2 * m) N c := fun t => by
  obtain ⟨a, b⟩ := h t
  have e : 4 * t * 2 ^ c = 2 * t * 2 ^ (c + 1) := by rw [Nat.pow_succ]; grind
  rw [e, ← a, ← b]
  constructor <;> constructor <;> omega
theorem RepU.small {m N i n : Nat} (h : RepU 2 m N i) (hm : m < 2) (hn : i ≤ n) : RepU 2 m N n := fun t => by
  obtain ⟨a0, b0⟩ := h 0
  have hle := (h.le t)
  obtain ⟨k, rfl⟩ : ∃ k, n = i + k := ⟨n - i, by omega⟩
  have hp : 1 ≤ 2 ^ k := Nat.one_le_two_pow
  have hmul : 2 * t * 2 ^ i ≤ 2 * t * 2 ^ (i + k) := by
    rw [Nat.pow_add, ← Nat.mul_assoc]
    exact Nat.le_mul_of_pos_right _ hp
  simp only [Nat.mul_zero, Nat.zero_mul] at a0 b0
  by_cases ht : t = 0
  · subst ht
    simp only [Nat.mul_zero, Nat.zero_mul]
    exact ⟨a0, b0⟩
  · have h1 : ¬ 2 * t ≤ m := by omega
    have h2 : ¬ 2 * t * 2 ^ i ≤ N := fun e => h1 (hle.2 e)
    constructor <;> constructor <;> intro q <;> omega
end Go.Lg
namespace Go.Lg
open Ieee
attribute [local irreducible] w64 toU64 toU8 shlU shrU shlB shrB
end Go.Lg
namespace Go.Lg
open Ieee
attribute [local irreducible] w64 toU64 toU8 shlU shrU shlB shrB
/-! ### what bits stand for -/
def fW (n : Nat) : Nat := if fE n = 0 then fM n else fM n + 4503599627370496
def fX (n : Nat) : Nat := if fE n = 0 then 1 else fE n
theorem read_eq {n : Nat} (h : n < 18446744073709551616) : double.read n =
    if fE n = 2047 then (if fM n = 0 then .infinity (fS n) else .nan (fS n) (fM n)) else .number (fS n) (fW n) ((fX n : Int) - 1075) := by
  have hsw : double.signWeight = 9223372036854775808 := by decide
  have hb : double.binade = 4503599627370496 := by decide
  have hinf : double.infRung = 9218868437227405312 := by decide
  have hl : double.leastPlace = -1074 := by decide
  have hs : (n / 9223372036854775808 % 2 == 1) = fS n := by
    unfold fS
    by_cases q : 9223372036854775808 ≤ n
    · rw [decide_eq_true q]; simp; omega
    · rw [decide_eq_false q]; simp; omega
  unfold Format.read
  simp only [hsw, hb, hinf, hl, hs]
  unfold fW fX fE fM
  by_cases h0 : n / 4503599627370496 % 2048 = 0
  · rw [if_pos (by omega), if_neg (by omega), if_pos h0, if_pos h0, show n % 9223372036854775808 = n % 4503599627370496 by omega]; rfl
  · rw [if_neg (by omega)]
    by_cases h1 : n / 4503599627370496 % 2048 = 2047
    · rw [if_neg (by omega), if_pos h1]
      by_cases h2 : n % 4503599627370496 = 0
      · rw [if_pos (by omega), if_pos h2]
      · rw [if_neg (by omega), if_neg h2, show n % 9223372036854775808 - 9218868437227405312 = n % 4503599627370496 by omega]
    · rw [if_pos (by omega), if_neg h1, if_neg h0, if_neg h0]
      congr 1
      · omega
      · omega
/-- two sizes at unit d, at least one of them whole -/
structure Two (m n X Y d : Nat) : Prop where
  h : (m * 2 ^ d = X ∧ m % 2 = 0 ∧ RepU 2 n Y d) ∨ (n * 2 ^ d = Y ∧ n % 2 = 0 ∧ RepU 2 m X d)
theorem Two.lt {m n X Y d : Nat} (t : Two m n X Y d) : (n < m ↔ Y < X) ∧ (n = m ↔ Y = X) := by
  rcases t.h with ⟨h1, h2, h3⟩ | ⟨h1, h2, h3⟩
  · obtain ⟨a, b⟩ := h3 (m / 2)
    have l := h3.le (m / 2)
    rw [show 2 * (m / 2) = m by omega, h1] at a b l
    exact ⟨by constructor <;> intro q <;> omega, by rw [eq_comm, b, eq_comm]⟩
  · obtain ⟨a, b⟩ := h3 (n / 2)
    rw [show 2 * (n / 2) = n by omega, h1] at a b
    exact ⟨a, b⟩
theorem rep_add {B r n d : Nat} (h : RepU 2 r n d) (hB : B % 2 = 0) : RepU 2 (B + r) (B * 2 ^ d + n) d := fun t => by
  have hp := Nat.two_pow_pos d
  by_cases q : 2 * t < B
  · have : 2 * t * 2 ^ d < B * 2 ^ d := (Nat.mul_lt_mul_right hp).2 q
    constructor <;> constructor <;> intro _ <;> omega
  · obtain ⟨a, b⟩ := h (t - B / 2)
    have e : 2 * t = B + 2 * (t - B / 2) := by omega
    rw [e, Nat.add_mul]
    constructor <;> constructor <;> intro z
    · have := a.1 (by omega); omega
    · have := a.2 (by omega); omega
    · have := b.1 (by omega); omega
    · have := b.2 (by omega); omega
theorem Two.add {m n X Y d : Nat} (t : Two m n X Y d) : RepU 2 (m + n) (X + Y) d := by
  rcases t.h with ⟨h1, h2, h3⟩ | ⟨h1, h2, h3⟩
  · rw [← h1]; exact rep_add h3 h2
  · rw [← h1, Nat.add_comm m, Nat.add_comm X]; exact rep_add h3 h2
theorem Two.sub {m n X Y d : Nat} (t : Two m n X Y d) (h : n ≤ m) : RepU 2 (m - n) (X - Y) d := by
  have hp := Nat.two_pow_pos d
  have hl := t.lt
  have hXY : Y ≤ X := by
    rcases Nat.lt_or_eq_of_le h with q | q
    · exact Nat.le_of_lt (hl.1.1 q)
    · exact Nat.le_of_eq (hl.2.1 q)
  rcases t.h with ⟨h1, h2, h3⟩ | ⟨h1, h2, h3⟩
  · intro t
    by_cases q : 2 * t ≤ m
    · obtain ⟨a, b⟩ := h3 (m / 2 - t)
      have l := h3.le (m / 2 - t)
      have e : 2 * (m / 2 - t) = m - 2 * t := by omega
      have hq : 2 * t * 2 ^ d ≤ X := by rw [← h1]; exact Nat.mul_le_mul_right _ q
      rw [e, Nat.sub_mul, h1] at a b l
      constructor <;> constructor <;> intro z <;> omega
    · have : X < 2 * t * 2 ^ d := by rw [← h1]; exact (Nat.mul_lt_mul_right hp).2 (by omega)
      constructor <;> constructor <;> intro z <;> omega
  · intro t
    obtain ⟨a, b⟩ := h3 (t + n / 2)
    have e : 2 * (t + n / 2) = 2 * t + n := by omega
    rw [e, Nat.add_mul, h1] at a b
    constructor <;> constructor <;> intro z <;> omega
end Go.Lg
namespace Go.Lg
open Ieee
attribute [local irreducible] w64 toU64 toU8 shlU shrU shlB shrB
theorem fE_lt (n : Nat) : fE n < 2048 := by unfold fE; omega
theorem fM_lt (n : Nat) : fM n < 4503599627370496 := by unfold fM; omega
end Go.Lg
namespace Go.Lg
open Ieee
attribute [local irreducible] w64 toU64 toU8 shlU shrU shlB shrB
theorem signed_eq (s : Bool) (m k : Nat) : signed s m k = if s then -((m * 2 ^ k : Nat) : Int) else ((m * 2 ^ k : Nat) : Int) := by
  unfold signed
  rw [Nat.shiftLeft_eq]
/-- the word of a sum of two numbers -/
theorem sum_write {s t : Bool} {W V e f : Nat} : (Datum.number s W ((e : Int) - 1075)).sum (Datum.number t V ((f : Int) - 1075)) =
    some (.number (if s = t then (if W * 2 ^ (e - min e f) + V * 2 ^ (f - min e f) = 0 then s else s) else if W * 2 ^ (e - min e f) = V * 2 ^ (f - min e f) then false else if V * 2 ^ (f - min e f) < W * 2 ^ (e - min e f) then s else t)
      (if s = t then W * 2 ^ (e - min e f) + V * 2 ^ (f - min e f) else if V * 2 ^ (f - min e f) ≤ W * 2 ^ (e - min e f) then W * 2 ^ (e - min e f) - V * 2 ^ (f - min e f) else V * 2 ^ (f - min e f) - W * 2 ^ (e - min e f)) ((min e f : Nat) - 1075)) := by
  have hb : min ((e : Int) - 1075) ((f : Int) - 1075) = ((min e f : Nat) : Int) - 1075 := by omega
  unfold Datum.sum
  simp only [hb]
  rw [show ((e : Int) - 1075 - (((min e f : Nat) : Int) - 1075)).toNat = e - min e f by omega, show ((f : Int) - 1075 - (((min e f : Nat) : Int) - 1075)).toNat = f - min e f by omega, signed_eq, signed_eq]
  generalize W * 2 ^ (e - min e f) = X
  generalize V * 2 ^ (f - min e f) = Y
  refine congrArg some ?_
  cases s <;> cases t <;> simp only [if_true, if_false, Bool.false_eq_true, reduceCtorEq, ite_self] <;> congr 1
  · by_cases h : (X : Int) + Y = 0
    · rw [if_pos h]; rfl
    · rw [if_neg h]; exact decide_eq_false (by omega)
  · by_cases h : (X : Int) + -Y = 0
    · rw [if_pos h, if_pos (by omega)]; rfl
    · rw [if_neg h, if_neg (by omega)]
      by_cases q : Y < X
      · rw [if_pos q]; exact decide_eq_false (by omega)
      · rw [if_neg q]; exact decide_eq_true (by omega)
  · split <;> omega
  · by_cases h : -(X : Int) + Y = 0
    · rw [if_pos h, if_pos (by omega)]; rfl
    · rw [if_neg h, if_neg (by omega)]
      by_cases q : Y < X
      · rw [if_pos q]; exact decide_eq_true (by omega)
      · rw [if_neg q]; exact decide_eq_false (by omega)
  · split <;> omega
  · by_cases h : -(X : Int) + -Y = 0
    · rw [if_pos h]; rfl
    · rw [if_neg h]; exact decide_eq_true (by omega)
  · omega
theorem fW_facts (n : Nat) : fW n < 9007199254740992 ∧ (1 < fX n → 4503599627370496 ≤ fW n) ∧ 1 ≤ fX n ∧ (fW n = 0 → fE n = 0 ∧ fM n = 0) := by
  have h2 := fM_lt n
  unfold fW fX
  split <;> omega
theorem nearest_zero (s : Bool) (p : Int) : double.nearest s 0 p = if s then 9223372036854775808 else 0 := by
  have hsw : double.signWeight = 9223372036854775808 := by decide
  unfold Format.nearest Format.word
  rw [if_pos rfl, hsw]
end Go.Lg
namespace Go.Lg
open Ieee
attribute [local irreducible] w64 toU64 toU8 shlU shrU shlB shrB
end Go.Lg
