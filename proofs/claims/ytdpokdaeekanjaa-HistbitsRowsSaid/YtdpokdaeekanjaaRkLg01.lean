/- Lemmas about the given model and about plain data, which the rows stand on: no statement of the program by itself. -/
import Derived.Test.YtdpokdaeekanjaaRkLgBitsP
import Derived.Test.YtdpokdaeekanjaaRkLgLoop
set_option linter.unusedVariables false
namespace Go.Lg
attribute [local irreducible] w64 toU64 toU8 shlU shrU shlB shrB
theorem shrU_nat (a : UInt64) {n : Nat} (h : n ≤ 64) : (shrU a n).toNat = a.toNat / 2 ^ n := by
  unfold shrU
  rw [Nat.min_eq_left h, UInt64.toNat_ofNat', Nat.mod_eq_of_lt]
  exact Nat.lt_of_le_of_lt (Nat.div_le_self _ _) (UInt64.toNat_lt a)
theorem shlU_nat (a : UInt64) {n : Nat} (h : n ≤ 64) (h' : a.toNat * 2 ^ n < 2 ^ 64) : (shlU a n).toNat = a.toNat * 2 ^ n := by
  unfold shlU
  rw [Nat.min_eq_left h, UInt64.toNat_ofNat', Nat.mod_eq_of_lt h']
theorem mask_nat (p : UInt64) {k : Nat} (h : k < 64) : (p &&& (shlU (1 : UInt64) k - 1)).toNat = p.toNat % 2 ^ k := by
  have h1 : (2 : Nat) ^ k < 2 ^ 64 := Nat.pow_lt_pow_right (by omega) h
  have h2 : 1 ≤ (2 : Nat) ^ k := Nat.one_le_two_pow
  have h3 : (shlU (1 : UInt64) k).toNat = 2 ^ k := by
    rw [shlU_nat _ (by omega)] <;> simp
    exact h1
  rw [UInt64.toNat_and, UInt64.toNat_sub_of_le]
  · rw [h3]; exact Nat.and_two_pow_sub_one_eq_mod _ _
  · rw [UInt64.le_iff_toNat_le, h3]; exact h2
theorem shrB_nat (a : UInt8) {n : Nat} (h : n ≤ 8) : (shrB a n).toNat = a.toNat / 2 ^ n := by
  unfold shrB
  rw [Nat.min_eq_left h, UInt8.toNat_ofNat', Nat.mod_eq_of_lt]
  exact Nat.lt_of_le_of_lt (Nat.div_le_self _ _) (UInt8.toNat_lt a)
theorem shlB_nat (a : UInt8) {n : Nat} (h : n ≤ 8) : (shlB a n).toNat = a.toNat * 2 ^ n % 256 := by
  unfold shlB
  rw [Nat.min_eq_left h, UInt8.toNat_ofNat']
/-- the mask of k low bits of a byte: at k = 8 all of them -/
theorem maskB_nat (p : UInt8) {k : Nat} (h : k ≤ 8) : (p &&& (shlB (1 : UInt8) k - 1)).toNat = p.toNat % 2 ^ k := by
  have key : ∀ k : Fin 9, (shlB (1 : UInt8) k.1 - 1).toNat = 2 ^ k.1 - 1 := by decide +kernel
  rw [UInt8.toNat_and, key ⟨k, by omega⟩]
  exact Nat.and_two_pow_sub_one_eq_mod _ _
/-- the writer holds N bits, V as a number -/
structure WA (b : List UInt8) (N V : Nat) : Prop where
  le : N ≤ 8 * b.length
  lt : 8 * b.length < N + 8
  val : bv b = V * 2 ^ (8 * b.length - N)
theorem room_eq {b : List UInt8} {n : Nat} (h : n ≤ 8 * b.length) (hb : b.length ≤ 1000000000000) : bitio_Writer_room ⟨b, (n : Int)⟩ = some ((8 * b.length - n : Nat) : Int) := by
  unfold bitio_Writer_room
  rw [lett_eq, w64_id (x := 8 * (b.length : Int)) (by omega) (by omega), w64_id (by simp only; omega) (by simp only; omega)]
  simp only; congr 1; omega
/-- a byte's low bits that are nought are set -/
theorem snoc_or {c : List UInt8} {e : UInt8} {V free k p : Nat} (hf : free ≤ 8) (hk : k ≤ free) (hp : p < 2 ^ k) (hv : bv (c ++ [e]) = V * 2 ^ free) (t : UInt8) (ht : t.toNat = p * 2 ^ (free - k)) :
    bv (c ++ [e ||| t]) = (V * 2 ^ k + p) * 2 ^ (free - k) := by
  have hlt : p * 2 ^ (free - k) < 2 ^ free := by
    have : 2 ^ k * 2 ^ (free - k) = 2 ^ free := by rw [← Nat.pow_add]; congr 1; omega
    rw [← this]; exact Nat.mul_lt_mul_of_pos_right hp (Nat.pow_pos (by omega))
  have h2 : (256 : Nat) = 2 ^ (8 - free) * 2 ^ free := by rw [← Nat.pow_add, show 8 - free + free = 8 by omega]
  have he : e.toNat = V % 2 ^ (8 - free) * 2 ^ free := by
    have h1 : e.toNat = bv (c ++ [e]) % 256 := by rw [bv_snoc]; have := u8_lt' e; omega
    rw [h1, hv, h2, Nat.mul_mod_mul_right]
  rw [bv_snoc, UInt8.toNat_or, ht, he, or_add hlt, ← he]
  rw [bv_snoc] at hv
  have : 2 ^ free = 2 ^ k * 2 ^ (free - k) := by rw [← Nat.pow_add]; congr 1; omega
  grind
theorem put_round (a1 : UInt64) (c : List UInt8) (N r : Nat) (i : List UInt8) (e : UInt8) (free k : Nat) (t : UInt8)
    (hstep : (((bitio_Writer_room (bitio_Writer.mk c (N : Int))).bind fun r62 => bif decide (r62 = 0) then (app c [0]).bind fun xs78 => some xs78 else some c) = some (i ++ [e])))
    (hN : N + free = 8 * (i.length + 1)) (hf1 : 1 ≤ free) (hf8 : free ≤ 8) (hk1 : 1 ≤ k) (hkr : k ≤ r) (hkf : k ≤ free) (hr : r ≤ 64) (hc : N + r ≤ 100000000000) (hk : k = min r free)
    (ht : t = (shlU (shrU a1 (r - k) &&& (shlU (1 : UInt64) k - 1)) (free - k)).toUInt8) :
    bitio_Writer_Put_lp1 a1 (c, (N : Int), (r : Int)) = some (.next (i ++ [e ||| t], ((N + k : Nat) : Int), ((r - k : Nat) : Int))) := by
  have B0 : (i ++ [e]).length = i.length + 1 := by simp
  have B1 : 8 * (i ++ [e]).length - N = free := by omega
  have B2 : i.length < 100000000000 := by omega
  have B3 : min r free = k := hk.symm
  have E0 : decide ((0 : Int) < (r : Int)) = true := by rw [decide_eq_true_eq]; omega
  have E7 : decide ((k : Int) < 64) = true := by rw [decide_eq_true_eq]; omega
  have T1 : (toU64 ((r - k : Nat) : Int)).toNat = r - k := toU64_nat (by omega)
  have T2 : (toU64 (k : Int)).toNat = k := toU64_nat (by omega)
  have T3 : (toU64 ((free - k : Nat) : Int)).toNat = free - k := toU64_nat (by omega)
  have E6 : bitio_Writer_room ⟨i ++ [e], (N : Int)⟩ = some ((free : Nat) : Int) := by
    rw [room_eq (by omega) (by omega), B1]
  have E1 : (min (r : Int) (free : Int)) = (k : Int) := by rw [← B3]; omega
  have E2 : (w64 ((r : Int) - (k : Int))) = ((r - k : Nat) : Int) := w64_subN hkr (by omega)
  have E3 : (w64 ((free : Int) - (k : Int))) = ((free - k : Nat) : Int) := w64_subN hkf (by omega)
  have E4 : (w64 (((i ++ [e]).length : Int) - 1)) = (i.length : Int) := by rw [B0]; exact w64_subN (b := 1) (by omega) (by omega)
  have E5 : (w64 ((N : Int) + (k : Int))) = ((N + k : Nat) : Int) := w64_addN (by omega)
  unfold bitio_Writer_Put_lp1
  dsimp only
  rw [E0, cond_true, hstep, bind_some, E6, bind_some, lett_eq, lett_eq, E1, E2, E7, cond_true, lett_eq, bind_some, E4, idx_last, bind_some, bind_some, lett_eq, T1, T2, E3, T3, ← ht, setI_last, bind_some, lett_eq, E5, lett_eq]
  rfl
theorem put_loop (a1 : UInt64) : ∀ (r : Nat) (c : List UInt8) (N V : Nat), r ≤ 64 → WA c N V → N + r ≤ 100000000000 →
    ∃ c', loop (bitio_Writer_Put_lp1 a1) (c, (N : Int), (r : Int)) = some (.go (c', ((N + r : Nat) : Int))) ∧ WA c' (N + r) (V * 2 ^ r + a1.toNat % 2 ^ r) := by
  intro r
  induction r using Nat.strongRecOn with
  | _ r ih =>
    intro c N V hr hw hc
    by_cases h0 : r = 0
    · subst h0
      refine ⟨c, loop_brk ?_, by simpa [Nat.mod_one] using hw⟩
      simp [bitio_Writer_Put_lp1]
    obtain ⟨hle, hlt, hval⟩ := hw
    -- the byte that has room
    obtain ⟨i, e, free, hstep, hN, hf1, hf8, hv⟩ : ∃ (i : List UInt8) (e : UInt8) (free : Nat), (((bitio_Writer_room (bitio_Writer.mk c (N : Int))).bind fun r62 => bif decide (r62 = 0) then (app c [0]).bind fun xs78 => some xs78 else some c) = some (i ++ [e])) ∧
        N + free = 8 * (i.length + 1) ∧ 1 ≤ free ∧ free ≤ 8 ∧ bv (i ++ [e]) = V * 2 ^ free := by
      by_cases hz : 8 * c.length - N = 0
      · refine ⟨c, 0, 8, ?_, by omega, by omega, by omega, ?_⟩
        · rw [room_eq hle (by omega), hz, bind_some, bifT (by simp), app_ok (by simp; omega)]; rfl
        · rw [bv_snoc, hval, hz]; simp
      · have hne : c ≠ [] := fun e => by subst e; simp at hz
        refine ⟨c.dropLast, c.getLast hne, 8 * c.length - N, ?_, ?_, by omega, by omega, ?_⟩
        · rw [room_eq hle (by omega), bind_some, bifF (by simpa using by omega), List.dropLast_concat_getLast]
        · have := List.length_pos_iff.2 hne
          rw [List.length_dropLast]; omega
        · rw [List.dropLast_concat_getLast, hval]
    -- how many bits
    obtain ⟨k, hk⟩ : ∃ k, k = min r free := ⟨_, rfl⟩
    have hk1 : 1 ≤ k := by omega
    have hkr : k ≤ r := by omega
    have hkf : k ≤ free := by omega
    obtain ⟨p, hp⟩ : ∃ p, p = a1.toNat / 2 ^ (r - k) % 2 ^ k := ⟨_, rfl⟩
    have hpl : p < 2 ^ k := by rw [hp]; exact Nat.mod_lt _ (Nat.pow_pos (by omega))
    have hpf : p * 2 ^ (free - k) < 256 := by
      have h1 : p * 2 ^ (free - k) < 2 ^ k * 2 ^ (free - k) := Nat.mul_lt_mul_of_pos_right hpl (Nat.pow_pos (by omega))
      rw [← Nat.pow_add] at h1
      have : 2 ^ (k + (free - k)) ≤ 2 ^ 8 := Nat.pow_le_pow_right (by omega) (by omega)
      omega
    obtain ⟨t, ht⟩ : ∃ t : UInt8, t = (shlU (shrU a1 (r - k) &&& (shlU (1 : UInt64) k - 1)) (free - k)).toUInt8 := ⟨_, rfl⟩
    have htn : t.toNat = p * 2 ^ (free - k) := by
      have h1 : (shrU a1 (r - k) &&& (shlU (1 : UInt64) k - 1)).toNat = p := by rw [mask_nat _ (by omega), shrU_nat _ (by omega), hp]
      rw [ht, UInt64.toNat_toUInt8, shlU_nat _ (by omega) (by rw [h1]; omega), h1]
      omega
    have hnew := snoc_or hf8 hkf hpl hv t htn
    have hround := put_round a1 c N r i e free k t hstep hN hf1 hf8 hk1 hkr hkf hr hc (by omega) ht
    obtain ⟨c', h1, h2⟩ := ih (r - k) (by omega) (i ++ [e ||| t]) (N + k) (V * 2 ^ k + p) (by omega)
      ⟨by rw [List.length_append, List.length_singleton]; omega, by rw [List.length_append, List.length_singleton]; omega, by rw [hnew]; congr 2; rw [List.length_append, List.length_singleton]; omega⟩ (by omega)
    have hNr : N + k + (r - k) = N + r := by omega
    refine ⟨c', by rw [loop_next hround, h1, hNr], ?_⟩
    have hj := div_mod_join a1.toNat 0 k (r - k)
    simp only [Nat.zero_add, Nat.pow_zero, Nat.div_one] at hj
    rw [← hp, show k + (r - k) = r by omega] at hj
    rw [hNr, Nat.add_mul, Nat.mul_assoc, ← Nat.pow_add, show k + (r - k) = r by omega, Nat.add_assoc, hj] at h2
    exact h2
theorem two_pow_pos' (n : Nat) : 0 < 2 ^ n := Nat.pow_pos (by omega)
theorem put_ok {b : List UInt8} {N V : Nat} {v : UInt64} {n : Nat} (hw : WA b N V) (hN : N + n ≤ 100000000000) (hn : n ≤ 64) (hv : v.toNat < 2 ^ n) :
    ∃ b', bitio_Writer_Put ⟨b, (N : Int)⟩ v (n : Int) = some (true, ⟨b', ((N + n : Nat) : Int)⟩) ∧ WA b' (N + n) (V * 2 ^ n + v.toNat) := by
  obtain ⟨b', h1, h2⟩ := put_loop v n b N V hn hw hN
  rw [Nat.mod_eq_of_lt hv] at h2
  refine ⟨b', ?_, h2⟩
  unfold bitio_Writer_Put
  have e1 : (toU64 (n : Int)).toNat = n := toU64_nat (by omega)
  have h5 : shrU v n = 0 := by
    apply UInt64.toNat_inj.1
    rw [shrU_nat v hn, Nat.div_eq_of_lt hv]; rfl
  rw [e1, h5, bifF (by simp; omega), h1]
  rfl
theorem WA.new : WA [] 0 0 := ⟨by simp, by simp, by simp [bv]⟩
theorem WA.inj {b b' : List UInt8} {N V : Nat} (h : WA b N V) (k : WA b' N V) : b = b' := by
  have hl : b.length = b'.length := by have := h.le; have := h.lt; have := k.le; have := k.lt; omega
  exact bv_inj hl (by rw [h.val, k.val, hl])
theorem clone_eq {b : List UInt8} (h : b.length ≤ 17179869184) : bytes_Clone b = some b := by
  unfold bytes_Clone; rw [app_ok (by simpa using h)]; rfl
/-! ### the document's rows -/
theorem row_loop (n : Nat) : ∀ (k i : Nat) (v : UInt64) (out : List Int), i + k = n → n ≤ 64 → out.length = i → Bit out →
    ∃ v' out', loop (ref01_Row_lp1 (n : Int)) (v, out, (i : Int)) = some (.go (v', out')) ∧ v'.toNat = v.toNat / 2 ^ k ∧ out'.length = n ∧ Bit out' ∧ dv out' = v.toNat % 2 ^ k * 2 ^ i + dv out := by
  intro k
  induction k with
  | zero =>
    intro i v out hi hn hl hb
    refine ⟨v, out, loop_brk ?_, by simp, by omega, hb, by simp [Nat.mod_one]⟩
    unfold ref01_Row_lp1
    dsimp only
    rw [bifF (by rw [decide_eq_false_iff_not]; omega)]
  | succ k ih =>
    intro i v out hi hn hl hb
    have e1 : w64 ((v % 2).toNat : Int) = ((v.toNat % 2 : Nat) : Int) := by
      rw [UInt64.toNat_mod]; exact w64_nat (by simp; omega)
    have e2 : (v / 2).toNat = v.toNat / 2 := by rw [UInt64.toNat_div]; rfl
    have hr : ref01_Row_lp1 (n : Int) (v, out, (i : Int)) = some (.next (v / 2, ((v.toNat % 2 : Nat) : Int) :: out, ((i + 1 : Nat) : Int))) := by
      unfold ref01_Row_lp1
      dsimp only
      rw [bifT (by rw [decide_eq_true_eq]; omega), app_ok (by simp; omega), bind_some, lett_eq, lett_eq, e1, w64_succ (by omega)]
      rfl
    obtain ⟨v', out', h1, h2, h3, h4, h5⟩ := ih (i + 1) (v / 2) (((v.toNat % 2 : Nat) : Int) :: out) (by omega) hn (by simp [hl]) (by
      intro x hx
      rcases List.mem_cons.1 hx with e | e
      · subst e; omega
      · exact hb x e)
    refine ⟨v', out', by rw [loop_next hr, h1], ?_, h3, h4, ?_⟩
    · rw [h2, e2, Nat.pow_succ, Nat.div_div_eq_div_mul, Nat.mul_comm]
    · rw [h5, e2, dv_cons, hl]
      have : v.toNat % 2 ^ (k + 1) = v.toNat % 2 + 2 * (v.toNat / 2 % 2 ^ k) := by rw [Nat.pow_succ, Nat.mul_comm, Nat.mod_mul]
      rw [this, Int.toNat_natCast]
      grind
theorem row_ok {v : UInt64} {n : Nat} (hn : n ≤ 64) : ∃ out, ref01_Row v (n : Int) = some (out, decide (v.toNat < 2 ^ n)) ∧ out.length = n ∧ Bit out ∧ dv out = v.toNat % 2 ^ n := by
  obtain ⟨v', out, h1, h2, h3, h4, h5⟩ := row_loop n n 0 v [] (by omega) hn rfl Bit.nil
  refine ⟨out, ?_, h3, h4, by simpa [dv_nil] using h5⟩
  unfold ref01_Row
  rw [bifF (by simp; omega)]
  rw [show ((0 : Int)) = ((0 : Nat) : Int) from rfl, h1, flow_go]
  dsimp only
  rw [lett_eq]
  congr 2
  have h6 := two_pow_pos' n
  have h7 : v' = 0 ↔ v.toNat < 2 ^ n := by
    rw [← UInt64.toNat_inj, h2]
    simp [Nat.div_eq_zero_iff]
  rw [decide_eq_decide]; exact h7
/-- a byte's bits -/
def byteBits (x : UInt8) : List Int := [128, 64, 32, 16, 8, 4, 2, 1].map fun k : Nat => ((x.toNat / k % 2 : Nat) : Int)
def bitsOf (b : List UInt8) : List Int := b.flatMap byteBits
theorem byteBits_len (x : UInt8) : (byteBits x).length = 8 := rfl
theorem byteBits_bit (x : UInt8) : Bit (byteBits x) := by
  intro y hy
  simp only [byteBits, List.mem_map] at hy
  obtain ⟨k, _, rfl⟩ := hy
  omega
theorem byteBits_dv (x : UInt8) : dv (byteBits x) = x.toNat := by
  have key : ∀ n : Fin 256, dv ([128, 64, 32, 16, 8, 4, 2, 1].map fun k : Nat => ((n.1 / k % 2 : Nat) : Int)) = n.1 := by decide +kernel
  exact key ⟨x.toNat, u8_lt' x⟩
theorem bitsOf_len (b : List UInt8) : (bitsOf b).length = 8 * b.length := by
  induction b with
  | nil => rfl
  | cons x b ih => simp only [bitsOf, List.flatMap_cons, List.length_append, List.length_cons] at *; rw [ih, byteBits_len]; omega
theorem bitsOf_bit (b : List UInt8) : Bit (bitsOf b) := by
  intro y hy
  obtain ⟨x, _, hx⟩ := List.mem_flatMap.1 hy
  exact byteBits_bit x y hx
theorem bitsOf_snoc (b : List UInt8) (x : UInt8) : bitsOf (b ++ [x]) = bitsOf b ++ byteBits x := by simp [bitsOf]
theorem bitsOf_dv (b : List UInt8) : dv (bitsOf b) = bv b := by
  have : ∀ (b c : List UInt8), dv (bitsOf c) = bv c → dv (bitsOf (c ++ b)) = bv (c ++ b) := by
    intro b
    induction b with
    | nil => intro c h; simpa using h
    | cons x b ih =>
      intro c h
      rw [show c ++ x :: b = (c ++ [x]) ++ b by simp]
      refine ih _ ?_
      rw [bitsOf_snoc, dv_append, byteBits_dv, byteBits_len, bv_snoc, h]
  simpa using this b [] rfl
/-! ### a row of bits as bytes -/
def pv (L : List Int) : Nat → Nat
  | 0 => 0
  | i + 1 => 2 * pv L i + (L[i]?.getD 0).toNat
theorem pv_eq (L : List Int) : ∀ i, pv L i = dv (L.take i) * 2 ^ (i - L.length)
  | 0 => by simp [pv, dv]
  | i + 1 => by
    rw [pv, pv_eq L i]
    by_cases h : i < L.length
    · rw [List.take_succ_eq_append_getElem h, dv_snoc, List.getElem?_eq_getElem h, show i + 1 - L.length = 0 by omega, show i - L.length = 0 by omega]; simp
    · rw [List.getElem?_eq_none (by omega), List.take_of_length_le (by omega), List.take_of_length_le (by omega), show i + 1 - L.length = (i - L.length) + 1 by omega, Nat.pow_succ]
      simp; grind
theorem bytes_inner {L : List Int} (hb : Bit L) (hL : L.length ≤ 1000000000) (i : Nat) (hi : i ≤ L.length) : ∃ x : Nat, loop (ref01_Bytes_lp2 L (i : Int)) (0, 0) = some (.go (x : Int)) ∧ pv L (i + 8) = pv L i * 2 ^ 8 + x ∧ x < 2 ^ 8 := by
  have key : ∀ (m k x : Nat), k + m = 8 → pv L (i + k) = pv L i * 2 ^ k + x → x < 2 ^ k → ∃ x' : Nat, loop (ref01_Bytes_lp2 L (i : Int)) ((x : Int), (k : Int)) = some (.go (x' : Int)) ∧ pv L (i + 8) = pv L i * 2 ^ 8 + x' ∧ x' < 2 ^ 8 := by
    intro m
    induction m with
    | zero =>
      intro k x hk hp hx
      obtain rfl : k = 8 := by omega
      refine ⟨x, loop_brk ?_, hp, hx⟩
      unfold ref01_Bytes_lp2
      dsimp only
      rw [bifF (by rw [decide_eq_false_iff_not]; omega)]
    | succ m ih =>
      intro k x hk hp hx
      have h8 : 2 ^ k ≤ 2 ^ 7 := Nat.pow_le_pow_right (by omega) (by omega)
      have hbit : (L[i + k]?.getD 0).toNat ≤ 1 := by
        by_cases h : i + k < L.length
        · rw [List.getElem?_eq_getElem h]
          rcases hb _ (List.getElem_mem h) with e | e <;> rw [e] <;> decide
        · rw [List.getElem?_eq_none (by omega)]; decide
      have hr : ref01_Bytes_lp2 L (i : Int) ((x : Int), (k : Int)) = some (.next (((2 * x + (L[i + k]?.getD 0).toNat : Nat) : Int), ((k + 1 : Nat) : Int))) := by
        have e1 : w64 (2 * (x : Int)) = ((2 * x : Nat) : Int) := by rw [w64_id] <;> omega
        unfold ref01_Bytes_lp2
        dsimp only
        rw [bifT (by rw [decide_eq_true_eq]; omega), lett_eq, e1, w64_addN (a := i) (b := k) (by omega)]
        by_cases h : i + k < L.length
        · have h3 : (L[i + k]?.getD 0).toNat = L[i + k].toNat := by rw [List.getElem?_eq_getElem h]; rfl
          have h4 : L[i + k] = ((L[i + k].toNat : Nat) : Int) := by
            rcases hb _ (List.getElem_mem h) with e | e <;> rw [e] <;> rfl
          rw [bifT (by rw [decide_eq_true_eq]; omega), idx_nat h, bind_some, lett_eq, bind_some, lett_eq, w64_succ (by omega), h3]
          rw [h3] at hbit
          obtain ⟨z, hz⟩ : ∃ z : Nat, L[i + k] = (z : Int) := ⟨_, h4⟩
          rw [hz] at hbit ⊢
          rw [Int.toNat_natCast] at hbit ⊢
          rw [w64_addN (by omega)]
        · rw [bifF (by rw [decide_eq_false_iff_not]; omega), bind_some, lett_eq, w64_succ (by omega), List.getElem?_eq_none (by omega)]
          rfl
      obtain ⟨x', h1, h2, h3⟩ := ih (k + 1) (2 * x + (L[i + k]?.getD 0).toNat) (by omega) (by
        rw [← Nat.add_assoc, pv, hp, Nat.pow_succ]
        have : 2 * (pv L i * 2 ^ k + x) = pv L i * (2 ^ k * 2) + 2 * x := by grind
        omega) (by rw [Nat.pow_succ]; omega)
      exact ⟨x', by rw [loop_next hr]; exact h1, h2, h3⟩
  exact key 8 0 0 (by omega) (by simp) (by simp)
theorem bytes_eq {L : List Int} (hb : Bit L) (hL : L.length ≤ 1000000000) : ∃ b, ref01_Bytes L = some b ∧ WA b L.length (dv L) := by
  have key : ∀ (m i : Nat) (out : List UInt8), 8 * out.length = i → L.length - i ≤ m → i < L.length + 8 → bv out = pv L i → ∃ b, loop (ref01_Bytes_lp1 L) (out, (i : Int)) = some (.go b) ∧ WA b L.length (dv L) := by
    intro m
    induction m using Nat.strongRecOn with
    | _ m ih =>
      intro i out hl hm hlt hv
      by_cases h : i < L.length
      · obtain ⟨x, h1, h2, h3⟩ := bytes_inner hb hL i (by omega)
        have hr : ref01_Bytes_lp1 L (out, (i : Int)) = some (.next (out ++ [toU8 (x : Int)], ((i + 8 : Nat) : Int))) := by
          have e1 : w64 ((i : Int) + 8) = ((i + 8 : Nat) : Int) := by rw [w64_id] <;> omega
          unfold ref01_Bytes_lp1
          dsimp only
          rw [bifT (by rw [decide_eq_true_eq]; omega), h1, flow_go, bind_some, app_ok (by simp; omega), bind_some, lett_eq, e1]
        rw [loop_next hr]
        refine ih (L.length - (i + 8)) (by omega) (i + 8) _ (by simp; omega) (by omega) (by omega) ?_
        rw [bv_snoc, hv, toU8_nat (by simpa using h3), h2]
      · refine ⟨out, loop_brk ?_, ⟨by omega, by omega, ?_⟩⟩
        · unfold ref01_Bytes_lp1
          dsimp only
          rw [bifF (by rw [decide_eq_false_iff_not]; omega)]
        · rw [hv, pv_eq, List.take_of_length_le (by omega), ← hl]
  obtain ⟨b, h1, h2⟩ := key L.length 0 [] rfl (by omega) (by omega) rfl
  refine ⟨b, ?_, h2⟩
  unfold ref01_Bytes
  rw [show (0 : Int) = ((0 : Nat) : Int) from rfl, h1]
  rfl
/-! ### which bytes are a row -/
def openE (b : List UInt8) (n : Int) : Int :=
  if n < 0 then 1 else if 8 * (b.length : Int) < n then 2 else if 7 < 8 * (b.length : Int) - n then 3 else if bv b % 2 ^ (8 * b.length - n.toNat) = 0 then 0 else 3
theorem tdiv8 (m : Nat) (h : m ≤ 9223372036854775807) : w64 ((m : Int).tdiv 8) = ((m / 8 : Nat) : Int) := by rw [show (8 : Int) = ((8 : Nat) : Int) from rfl, tdivN, w64_nat (by omega)]
theorem tmod8 (m : Nat) : (m : Int).tmod 8 = ((m % 8 : Nat) : Int) := by rw [show (8 : Int) = ((8 : Nat) : Int) from rfl, tmodN]
theorem add7 (m : Nat) (h : m ≤ 9223372036854775800) : w64 ((m : Int) + 7) = ((m + 7 : Nat) : Int) := by rw [w64_id] <;> omega
theorem newReader_eq {b : List UInt8} {n : Int} (hn : I64 n) (hb : b.length ≤ 1000000) : bitio_NewReader b n = some (if openE b n = 0 then some ⟨b, n, 0⟩ else none, openE b n) := by
  unfold I64 at hn
  unfold bitio_NewReader
  by_cases h1 : n < 0
  · have hE : openE b n = 1 := if_pos h1
    rw [lett_eq, bifT (by simpa using h1), hE]; rfl
  rw [lett_eq, bifF (by simpa using h1), lett_eq]
  obtain ⟨m, rfl⟩ : ∃ m : Nat, n = (m : Int) := ⟨n.toNat, by omega⟩
  rw [tdiv8 _ (by omega), tmod8]
  by_cases h2 : 8 * b.length < m
  · have hE : openE b m = 2 := by unfold openE; rw [if_neg h1, if_pos (by omega)]
    rw [bifT (by simp; omega), hE]; rfl
  rw [bifF (by simp; omega), lett_eq, add7 _ (by omega), tdiv8 _ (by omega)]
  by_cases h3 : 7 < 8 * b.length - m
  · have hE : openE b m = 3 := by unfold openE; rw [if_neg h1, if_neg (by omega), if_pos (by omega)]
    rw [bifT (by simp; omega), hE]; rfl
  rw [bifF (by simp; omega), clone_eq (by omega)]
  have key : ((bif decide (0 < ((m % 8 : Nat) : Int)) then (idx b ((m / 8 : Nat) : Int)).bind fun e27 => some (!decide (shlB e27 ((toU64 ((m % 8 : Nat) : Int)).toNat) = 0)) else some false) : Option Bool) = some (!decide (bv b % 2 ^ (8 * b.length - m) = 0)) := by
    by_cases h5 : m % 8 = 0
    · rw [bifF (by simp; omega), show 8 * b.length - m = 0 by omega]; simp [Nat.mod_one]
    · have hlt : m / 8 < b.length := by omega
      rw [bifT (by simp; omega), idx_nat hlt, bind_some, toU64_nat (by omega)]
      congr 2
      rw [decide_eq_decide, ← UInt8.toNat_inj, shlB_nat _ (by omega), bv_at hlt, show b.length - 1 - m / 8 = 0 by omega, Nat.pow_zero, Nat.div_one]
      have h256 : 256 = 2 ^ (8 * b.length - m) * 2 ^ (m % 8) := by rw [← Nat.pow_add, show 8 * b.length - m + m % 8 = 8 by omega]
      have hd : bv b % 256 % 2 ^ (8 * b.length - m) = bv b % 2 ^ (8 * b.length - m) := Nat.mod_mod_of_dvd _ ⟨_, h256⟩
      rw [← hd]
      generalize bv b % 256 = y
      conv => lhs; rw [h256, Nat.mul_mod_mul_right]
      have := two_pow_pos' (m % 8)
      rw [show (0 : UInt8).toNat = 0 from rfl, Nat.mul_eq_zero]
      omega
  rw [key, bind_some]
  by_cases h4 : bv b % 2 ^ (8 * b.length - m) = 0
  · have hE : openE b m = 0 := by unfold openE; rw [if_neg h1, if_neg (by omega), if_neg (by omega), Int.toNat_natCast, if_pos h4]
    rw [bifF (by simpa using h4), hE]; rfl
  · have hE : openE b m = 3 := by unfold openE; rw [if_neg h1, if_neg (by omega), if_neg (by omega), Int.toNat_natCast, if_neg h4]
    rw [bifT (by simpa using h4), hE]; rfl
/-! ### the reader -/
theorem look_loop {b : List UInt8} {n : Int} {a : Int} (hb : b.length ≤ 1000000) : ∀ (r m at' : Nat) (v : UInt64), m + r ≤ 64 → at' + r ≤ 8 * b.length → v.toNat = bv b / 2 ^ (8 * b.length - at') % 2 ^ m →
    ∃ v', loop (bitio_Reader_Look_lp1 ⟨b, n, a⟩) ((r : Int), v, (at' : Int)) = some (.go v') ∧ v'.toNat = bv b / 2 ^ (8 * b.length - at' - r) % 2 ^ (m + r) := by
  intro r
  induction r using Nat.strongRecOn with
  | _ r ih =>
    intro m at' v hm hat hv
    by_cases h0 : r = 0
    · subst h0
      refine ⟨v, loop_brk ?_, by simpa using hv⟩
      unfold bitio_Reader_Look_lp1
      dsimp only
      rw [bifF (by simp)]
    obtain ⟨j, free, hj, hf1, hf8⟩ : ∃ j free, at' + free = 8 * (j + 1) ∧ 1 ≤ free ∧ free ≤ 8 := ⟨at' / 8, 8 - at' % 8, by omega, by omega, by omega⟩
    have hjl : j < b.length := by omega
    obtain ⟨k, hk⟩ : ∃ k, k = min r free := ⟨_, rfl⟩
    have hk1 : 1 ≤ k := by omega
    have hkr : k ≤ r := by omega
    have hkf : k ≤ free := by omega
    have hk8 : k ≤ 8 := by omega
    have B1 : at' / 8 = j := by omega
    have B2 : 8 - at' % 8 = free := by omega
    have B3 : 8 * (b.length - 1 - j) + (free - k) = 8 * b.length - at' - k := by omega
    have B4 : 8 * b.length - at' = (8 * b.length - at' - k) + k := by omega
    have B5 : at' % 8 ≤ 8 := by omega
    have B6 : m + k ≤ 64 := by omega
    have B7 : at' + k < 9223372036854775808 := by omega
    have B8 : free < 9223372036854775808 := by omega
    have B9 : r < 9223372036854775808 := by omega
    have B10 : at' ≤ 9223372036854775807 := by omega
    have T1 : (toU64 ((free - k : Nat) : Int)).toNat = free - k := toU64_nat (by omega)
    have T2 : (toU64 (k : Int)).toNat = k := toU64_nat (by omega)
    obtain ⟨pc, hpc⟩ : ∃ pc, pc = shrB b[j] (free - k) &&& (shlB (1 : UInt8) k - 1) := ⟨_, rfl⟩
    have hpn : pc.toNat = bv b / 2 ^ (8 * b.length - at' - k) % 2 ^ k := by
      rw [hpc, maskB_nat _ hk8, shrB_nat _ (by omega), bv_at hjl, p256, show (256 : Nat) = 2 ^ 8 from rfl, mod_div_mod _ _ _ _ (by omega), Nat.div_div_eq_div_mul, ← Nat.pow_add, B3]
    have hpl : pc.toNat < 2 ^ k := by rw [hpn]; exact Nat.mod_lt _ (two_pow_pos' k)
    have hvl : v.toNat < 2 ^ m := by rw [hv]; exact Nat.mod_lt _ (two_pow_pos' m)
    have hmk : v.toNat * 2 ^ k < 2 ^ 64 := by
      have h1 : v.toNat * 2 ^ k < 2 ^ m * 2 ^ k := Nat.mul_lt_mul_of_pos_right hvl (two_pow_pos' k)
      rw [← Nat.pow_add] at h1
      exact Nat.lt_of_lt_of_le h1 (Nat.pow_le_pow_right (by omega) B6)
    have hr : bitio_Reader_Look_lp1 ⟨b, n, a⟩ ((r : Int), v, (at' : Int)) = some (.next (((r - k : Nat) : Int), shlU v k ||| pc.toUInt64, ((at' + k : Nat) : Int))) := by
      have E0 : decide ((0 : Int) < (r : Int)) = true := by rw [decide_eq_true_eq]; omega
      have E1 : (min (r : Int) (free : Int)) = (k : Int) := by rw [hk]; omega
      have E2 : w64 (8 - ((at' : Int).tmod 8)) = (free : Int) := by
        rw [tmod8, show (8 : Int) = ((8 : Nat) : Int) from rfl, w64_subN B5 (by decide), B2]
      have E3 : w64 ((at' : Int).tdiv 8) = (j : Int) := by rw [tdiv8 _ B10, B1]
      have E4 : w64 ((free : Int) - (k : Int)) = ((free - k : Nat) : Int) := w64_subN hkf B8
      have E5 : w64 ((at' : Int) + (k : Int)) = ((at' + k : Nat) : Int) := w64_addN B7
      have E6 : w64 ((r : Int) - (k : Int)) = ((r - k : Nat) : Int) := w64_subN hkr B9
      unfold bitio_Reader_Look_lp1
      dsimp only
      rw [E0, cond_true, lett_eq, E2, lett_eq, E1, E3, idx_nat hjl, bind_some, lett_eq, E4, T1, T2, ← hpc, lett_eq, lett_eq, lett_eq, E5, E6]
    have hv2 : (shlU v k ||| pc.toUInt64).toNat = bv b / 2 ^ (8 * b.length - (at' + k)) % 2 ^ (m + k) := by
      rw [UInt64.toNat_or, shlU_nat _ (by omega) hmk, UInt8.toNat_toUInt64, or_add hpl, hpn, hv]
      rw [show 8 * b.length - (at' + k) = 8 * b.length - at' - k by omega]
      have := div_mod_join (bv b) (8 * b.length - at' - k) m k
      rw [← B4] at this
      exact this
    obtain ⟨v', h1, h2⟩ := ih (r - k) (by omega) (m + k) (at' + k) _ (by omega) (by omega) hv2
    refine ⟨v', by rw [loop_next hr, h1], ?_⟩
    rw [h2, show 8 * b.length - (at' + k) - (r - k) = 8 * b.length - at' - r by omega, show m + k + (r - k) = m + r by omega]
/-- the bits that are asked for are there -/
def lookOk (n at' : Nat) (k : Int) : Bool := decide (0 ≤ k ∧ k ≤ 64 ∧ k ≤ (n : Int) - (at' : Int))
def lookV (b : List UInt8) (at' k : Nat) : Nat := bv b / 2 ^ (8 * b.length - at' - k) % 2 ^ k
theorem look_eq {b : List UInt8} {n at' : Nat} {k : Int} (hb : b.length ≤ 1000000) (hn : n ≤ 8 * b.length) (hat : at' ≤ n) :
    ∃ v : UInt64, bitio_Reader_Look ⟨b, (n : Int), (at' : Int)⟩ k = some (v, lookOk n at' k) ∧ v.toNat = if lookOk n at' k then lookV b at' k.toNat else 0 := by
  have hleft : bitio_Reader_Left ⟨b, (n : Int), (at' : Int)⟩ = some (((n - at' : Nat) : Int)) := by
    unfold bitio_Reader_Left
    dsimp only
    rw [lett_eq, w64_subN hat (by omega)]
  unfold bitio_Reader_Look
  cases h : lookOk n at' k with
  | true =>
    unfold lookOk at h
    rw [decide_eq_true_eq] at h
    obtain ⟨r, rfl⟩ : ∃ r : Nat, k = (r : Int) := ⟨k.toNat, by omega⟩
    obtain ⟨v, h1, h2⟩ := look_loop (b := b) (n := (n : Int)) (a := (at' : Int)) hb r 0 at' 0 (by omega) (by omega) (by simp [Nat.mod_one])
    refine ⟨v, ?_, ?_⟩
    · rw [bifF (by simp; omega), hleft, bind_some, bind_some, bifF (by simp; omega)]
      dsimp only
      rw [h1, flow_go]
    · rw [h2]; simp [lookV]
  | false =>
    unfold lookOk at h
    rw [decide_eq_false_iff_not] at h
    refine ⟨0, ?_, rfl⟩
    by_cases h1 : k < 0 ∨ 64 < k
    · rw [bifT (by simpa using h1), bind_some]; rfl
    · rw [bifF (by simpa using h1), hleft, bind_some, bind_some, bifT (by simp; omega)]
theorem skip_eq {b : List UInt8} {n at' : Nat} {k : Int} (hb : n ≤ 1000000000) (hat : at' ≤ n) :
    bitio_Reader_Skip ⟨b, (n : Int), (at' : Int)⟩ k = some (decide (0 ≤ k ∧ k ≤ (n : Int) - (at' : Int)), ⟨b, (n : Int), ((if 0 ≤ k ∧ k ≤ (n : Int) - (at' : Int) then at' + k.toNat else at' : Nat) : Int)⟩) := by
  have hleft : bitio_Reader_Left ⟨b, (n : Int), (at' : Int)⟩ = some (((n - at' : Nat) : Int)) := by
    unfold bitio_Reader_Left
    dsimp only
    rw [lett_eq, w64_subN hat (by omega)]
  unfold bitio_Reader_Skip
  by_cases h : 0 ≤ k ∧ k ≤ (n : Int) - (at' : Int)
  · obtain ⟨r, rfl⟩ : ∃ r : Nat, k = (r : Int) := ⟨k.toNat, by omega⟩
    rw [bifF (by simp), hleft, bind_some, bind_some, bifF (by simp; omega), lett_eq, if_pos h, decide_eq_true h]
    dsimp only
    rw [w64_addN (by omega), Int.toNat_natCast]
  · rw [if_neg h, decide_eq_false h]
    by_cases h1 : k < 0
    · rw [bifT (by simpa using h1), bind_some]; rfl
    · rw [bifF (by simpa using h1), hleft, bind_some, bind_some, bifT (by simp; omega)]
/-! ### the document's waking call -/
/-! ### LAW 01, BitsTake -/
theorem bv_take {b : List UInt8} {i : Nat} (h : i ≤ b.length) : bv (b.take i) = bv b / 2 ^ (8 * b.length - 8 * i) := by
  have e : b = b.take i ++ b.drop i := by simp
  have h3 := bv_lt (b.drop i)
  have hl : (b.drop i).length = b.length - i := by rw [List.length_drop]
  rw [hl, p256] at h3
  have h1 : bv b = bv (b.take i) * 2 ^ (8 * b.length - 8 * i) + bv (b.drop i) := by
    conv => lhs; rw [e, bv_append, hl, p256]
    rw [show 8 * (b.length - i) = 8 * b.length - 8 * i by omega]
  rw [show 8 * (b.length - i) = 8 * b.length - 8 * i by omega] at h3
  rw [h1, Nat.add_comm, Nat.add_mul_div_right _ _ (two_pow_pos' _), Nat.div_eq_of_lt h3, Nat.zero_add]
/-! ### LAW 01, BitsPut -/
theorem maskHi : ∀ (e : UInt8) (s : Nat), s ≤ 7 → (e &&& shlB (255 : UInt8) s).toNat = e.toNat / 2 ^ s * 2 ^ s := by
  have key : ∀ (e : Fin 256) (s : Fin 8), ((UInt8.ofNat e.1) &&& shlB (255 : UInt8) s.1).toNat = e.1 / 2 ^ s.1 * 2 ^ s.1 := by decide +kernel
  intro e s hs
  have := key ⟨e.toNat, u8_lt' e⟩ ⟨s, by omega⟩
  simpa using this
theorem cut_ok {b : List UInt8} {N V m : Nat} (hw : WA b N V) (hm : m ≤ N) (hN : N ≤ 90000000000) :
    ∃ b', bitio_Writer_Cut ⟨b, (N : Int)⟩ (m : Int) = some (true, ⟨b', (m : Int)⟩) ∧ WA b' m (V / 2 ^ (N - m)) := by
  obtain ⟨hle, hlt, hval⟩ := hw
  obtain ⟨q, hq⟩ : ∃ q, q = (m + 7) / 8 := ⟨_, rfl⟩
  have hql : q ≤ b.length := by omega
  have hmq : m ≤ 8 * q := by omega
  have hmq2 : 8 * q < m + 8 := by omega
  have e1 : bv b / 2 ^ (8 * b.length - m) = V / 2 ^ (N - m) := by
    rw [hval, show 8 * b.length - m = (8 * b.length - N) + (N - m) by omega, Nat.pow_add, ← Nat.div_div_eq_div_mul, Nat.mul_div_cancel _ (two_pow_pos' _)]
  have e2 : bv (b.take q) / 2 ^ (8 * q - m) = V / 2 ^ (N - m) := by
    rw [bv_take hql, Nat.div_div_eq_div_mul, ← Nat.pow_add, show 8 * b.length - 8 * q + (8 * q - m) = 8 * b.length - m by omega, e1]
  have hsl : slc b 0 (w64 ((w64 ((m : Int) + 7)).tdiv 8)) = some (b.take q) := by
    rw [add7 _ (by omega), tdiv8 _ (by omega), ← hq, show (0 : Int) = ((0 : Nat) : Int) from rfl, slc_nat (by omega) hql, List.drop_zero]
  unfold bitio_Writer_Cut
  dsimp only
  rw [bifF (by simp; omega), hsl, bind_some, lett_eq, tmod8]
  by_cases hr : m % 8 = 0
  · refine ⟨b.take q, ?_, ?_⟩
    · rw [bifF (by simp; omega), bind_some]
    · have : 8 * q - m = 0 := by omega
      rw [this] at e2
      refine ⟨by rw [List.length_take]; omega, by rw [List.length_take]; omega, ?_⟩
      rw [← e2]; simp [List.length_take, Nat.min_eq_left hql, this]
  · have hne : b.take q ≠ [] := fun e => by
      have := congrArg List.length e
      rw [List.length_take, List.length_nil] at this; omega
    obtain ⟨i, e, hie⟩ : ∃ i e, b.take q = i ++ [e] := ⟨_, _, (List.dropLast_concat_getLast hne).symm⟩
    have hil : i.length + 1 = q := by
      have := congrArg List.length hie
      rw [List.length_take, List.length_append, List.length_singleton] at this; omega
    have hs : 8 - m % 8 = 8 * q - m := by omega
    have hs7 : 8 * q - m ≤ 7 := by omega
    have B1 : m % 8 ≤ 8 := by omega
    have T1 : (toU64 ((8 * q - m : Nat) : Int)).toNat = 8 * q - m := toU64_nat (by omega)
    have B2 : 1 ≤ (i ++ [e]).length := by simp
    have B3 : (i ++ [e]).length < 9223372036854775808 := by rw [List.length_append, List.length_singleton]; omega
    have B4 : (i ++ [e]).length - 1 = i.length := by simp
    refine ⟨i ++ [e &&& shlB (255 : UInt8) (8 * q - m)], ?_, ?_⟩
    · have hb1 : (0 : Int) < ((m % 8 : Nat) : Int) := by omega
      rw [bifT (decide_eq_true hb1), hie, show w64 (((i ++ [e]).length : Int) - 1) = (i.length : Int) from by rw [show (1 : Int) = ((1 : Nat) : Int) from rfl, w64_subN B2 B3, B4], idx_last, bind_some, bind_some, lett_eq,
        show (8 : Int) = ((8 : Nat) : Int) from rfl, w64_subN B1 (by decide), hs, T1, setI_last, bind_some, bind_some]
    · refine ⟨by rw [List.length_append, List.length_singleton]; omega, by rw [List.length_append, List.length_singleton]; omega, ?_⟩
      rw [List.length_append, List.length_singleton, hil, bv_snoc, maskHi _ _ hs7, ← e2, hie, bv_snoc]
      generalize 8 * q - m = s at *
      have h256 : 256 = 2 ^ (8 - s) * 2 ^ s := by rw [← Nat.pow_add, show 8 - s + s = 8 by omega]
      have e5 : (bv i * 2 ^ (8 - s) * 2 ^ s + e.toNat) / 2 ^ s = bv i * 2 ^ (8 - s) + e.toNat / 2 ^ s := by rw [Nat.add_comm, Nat.add_mul_div_right _ _ (two_pow_pos' _), Nat.add_comm]
      rw [h256, ← Nat.mul_assoc, e5, Nat.add_mul]
theorem bytes_same {c : List UInt8} {L : List Int} (hw : WA c L.length (dv L)) (hb : Bit L) (hL : L.length ≤ 1000000000) : ref01_Bytes L = some c := by
  obtain ⟨b, h1, h2⟩ := bytes_eq hb hL
  rw [h1, WA.inj h2 hw]
theorem WA.len {c : List UInt8} {N V : Nat} (h : WA c N V) (hN : N ≤ 1000000000) : c.length ≤ 17179869184 := by have := h.lt; omega
/-! ### LAW 01, BitsBack -/
theorem getD_lt {α : Type} {l : List α} {i : Nat} (h : i < l.length) (d : α) : l.getD i d = l[i] := by simp [List.getD, h]
end Go.Lg
