/- Lemmas about the given model and about plain data, which the rows stand on: no statement of the program by itself. -/
import Derived.Test.YtdpokdaeekanjaaLgBitsP
import Derived.Test.YtdpokdaeekanjaaLgLoop
set_option linter.unusedVariables false
namespace Go.Lg
attribute [local irreducible] w64 toU64 toU8 shlU shrU shlB shrB

theorem shrU_nat (a : UInt64) {n : Nat} (h : n ≤ 64) : (shrU a n).toNat = a.toNat / 2 ^ n := by
  unfold shrU
  rw [Nat.min_eq_left h, UInt64.toNat_ofNat', Nat.mod_eq_of_lt]
  exact Nat.lt_of_le_of_lt (Nat.div_le_self _ _) (UInt64.toNat_lt a)
theorem shlU_nat (a : UInt64) {n : Nat} (h : n ≤ 64) (h' : a.toNat * 2 ^ n < 2 ^ 64) : (shlU a n).toNat = a.toNat * 2 ^ n := by
  unfold shlU
  rw [Nat.min_eq_left h, UInt64.toNat_ofNat', Nat.mod_eq_of_lt h']
theorem mask_nat (p : UInt64) {k : Nat} (h : k < 64) : (p &&& (shlU (1 : UInt64) k - 1)).toNat = p.toNat % 2 ^ k := by
  have h1 : (2 : Nat) ^ k < 2 ^ 64 := Nat.pow_lt_pow_right (by omega) h
  have h2 : 1 ≤ (2 : Nat) ^ k := Nat.one_le_two_pow
  have h3 : (shlU (1 : UInt64) k).toNat = 2 ^ k := by
    rw [shlU_nat _ (by omega)] <;> simp
    exact h1
  rw [UInt64.toNat_and, UInt64.toNat_sub_of_le]
  · rw [h3]; exact Nat.and_two_pow_sub_one_eq_mod _ _
  · rw [UInt64.le_iff_toNat_le, h3]; exact h2
theorem shrB_nat (a : UInt8) {n : Nat} (h : n ≤ 8) : (shrB a n).toNat = a.toNat / 2 ^ n := by
  unfold shrB
  rw [Nat.min_eq_left h, UInt8.toNat_ofNat', Nat.mod_eq_of_lt]
  exact Nat.lt_of_le_of_lt (Nat.div_le_self _ _) (UInt8.toNat_lt a)
theorem shlB_nat (a : UInt8) {n : Nat} (h : n ≤ 8) : (shlB a n).toNat = a.toNat * 2 ^ n % 256 := by
  unfold shlB
  rw [Nat.min_eq_left h, UInt8.toNat_ofNat']
/-- the mask of k low bits of a byte: at k = 8 all of them -/
theorem maskB_nat (p : UInt8) {k : Nat} (h : k ≤ 8) : (p &&& (shlB (1 : UInt8) k - 1)).toNat = p.toNat % 2 ^ k := by
  have key : ∀ k : Fin 9, (shlB (1 : UInt8) k.1 - 1).toNat = 2 ^ k.1 - 1 := by decide +kernel
  rw [UInt8.toNat_and, key ⟨k, by omega⟩]
  exact Nat.and_two_pow_sub_one_eq_mod _ _

/-- the writer holds N bits, V as a number -/
structure WA (b : List UInt8) (N V : Nat) : Prop where
  le : N ≤ 8 * b.length
  lt : 8 * b.length < N + 8
  val : bv b = V * 2 ^ (8 * b.length - N)

theorem room_eq {b : List UInt8} {n : Nat} (h : n ≤ 8 * b.length) (hb : b.length ≤ 1000000000000) : bitio_Writer_room ⟨b, (n : Int)⟩ = some ((8 * b.length - n : Nat) : Int) := by
  unfold bitio_Writer_room
  rw [lett_eq, w64_id (x := 8 * (b.length : Int)) (by omega) (by omega), w64_id (by simp only; omega) (by simp only; omega)]
  simp only; congr 1; omega

/-- a byte's low bits that are nought are set -/
theorem snoc_or {c : List UInt8} {e : UInt8} {V free k p : Nat} (hf : free ≤ 8) (hk : k ≤ free) (hp : p < 2 ^ k) (hv : bv (c ++ [e]) = V * 2 ^ free) (t : UInt8) (ht : t.toNat = p * 2 ^ (free - k)) :
    bv (c ++ [e ||| t]) = (V * 2 ^ k + p) * 2 ^ (free - k) := by
  have hlt : p * 2 ^ (free - k) < 2 ^ free := by
    have : 2 ^ k * 2 ^ (free - k) = 2 ^ free := by rw [← Nat.pow_add]; congr 1; omega
    rw [← this]; exact Nat.mul_lt_mul_of_pos_right hp (Nat.pow_pos (by omega))
  have h2 : (256 : Nat) = 2 ^ (8 - free) * 2 ^ free := by rw [← Nat.pow_add, show 8 - free + free = 8 by omega]
  have he : e.toNat = V % 2 ^ (8 - free) * 2 ^ free := by
    have h1 : e.toNat = bv (c ++ [e]) % 256 := by rw [bv_snoc]; have := u8_lt' e; omega
    rw [h1, hv, h2, Nat.mul_mod_mul_right]
  rw [bv_snoc, UInt8.toNat_or, ht, he, or_add hlt, ← he]
  rw [bv_snoc] at hv
  have : 2 ^ free = 2 ^ k * 2 ^ (free - k) := by rw [← Nat.pow_add]; congr 1; omega
  grind

theorem put_round (a1 : UInt64) (c : List UInt8) (N r : Nat) (i : List UInt8) (e : UInt8) (free k : Nat) (t : UInt8)
    (hstep : (((bitio_Writer_room (bitio_Writer.mk c (N : Int))).bind fun r62 => bif decide (r62 = 0) then (app c [0]).bind fun xs78 => some xs78 else some c) = some (i ++ [e])))
    (hN : N + free = 8 * (i.length + 1)) (hf1 : 1 ≤ free) (hf8 : free ≤ 8) (hk1 : 1 ≤ k) (hkr : k ≤ r) (hkf : k ≤ free) (hr : r ≤ 64) (hc : N + r ≤ 100000000000) (hk : k = min r free)
    (ht : t = (shlU (shrU a1 (r - k) &&& (shlU (1 : UInt64) k - 1)) (free - k)).toUInt8) :
    bitio_Writer_Put_lp1 a1 (c, (N : Int), (r : Int)) = some (.next (i ++ [e ||| t], ((N + k : Nat) : Int), ((r - k : Nat) : Int))) := by
  have B0 : (i ++ [e]).length = i.length + 1 := by simp
  have B1 : 8 * (i ++ [e]).length - N = free := by omega
  have B2 : i.length < 100000000000 := by omega
  have B3 : min r free = k := hk.symm
  have E0 : decide ((0 : Int) < (r : Int)) = true := by rw [decide_eq_true_eq]; omega
  have E7 : decide ((k : Int) < 64) = true := by rw [decide_eq_true_eq]; omega
  have T1 : (toU64 ((r - k : Nat) : Int)).toNat = r - k := toU64_nat (by omega)
  have T2 : (toU64 (k : Int)).toNat = k := toU64_nat (by omega)
  have T3 : (toU64 ((free - k : Nat) : Int)).toNat = free - k := toU64_nat (by omega)
  have E6 : bitio_Writer_room ⟨i ++ [e], (N : Int)⟩ = some ((free : Nat) : Int) := by
    rw [room_eq (by omega) (by omega), B1]
  have E1 : (min (r : Int) (free : Int)) = (k : Int) := by rw [← B3]; omega
  have E2 : (w64 ((r : Int) - (k : Int))) = ((r - k : Nat) : Int) := w64_subN hkr (by omega)
  have E3 : (w64 ((free : Int) - (k : Int))) = ((free - k : Nat) : Int) := w64_subN hkf (by omega)
  have E4 : (w64 (((i ++ [e]).length : Int) - 1)) = (i.length : Int) := by rw [B0]; exact w64_subN (b := 1) (by omega) (by omega)
  have E5 : (w64 ((N : Int) + (k : Int))) = ((N + k : Nat) : Int) := w64_addN (by omega)
  unfold bitio_Writer_Put_lp1
  dsimp only
  rw [E0, cond_true, hstep, bind_some, E6, bind_some, lett_eq, lett_eq, E1, E2, E7, cond_true, lett_eq, bind_some, E4, idx_last, bind_some, bind_some, lett_eq, T1, T2, E3, T3, ← ht, setI_last, bind_some, lett_eq, E5, lett_eq]
  rfl

theorem put_loop (a1 : UInt64) : ∀ (r : Nat) (c : List UInt8) (N V : Nat), r ≤ 64 → WA c N V → N + r ≤ 100000000000 →
    ∃ c', loop (bitio_Writer_Put_lp1 a1) (c, (N : Int), (r : Int)) = some (.go (c', ((N + r : Nat) : Int))) ∧ WA c' (N + r) (V * 2 ^ r + a1.toNat % 2 ^ r) := by
  intro r
  induction r using Nat.strongRecOn with
  | _ r ih =>
    intro c N V hr hw hc
    by_cases h0 : r = 0
    · subst h0
      refine ⟨c, loop_brk ?_, by simpa [Nat.mod_one] using hw⟩
      simp [bitio_Writer_Put_lp1]
    obtain ⟨hle, hlt, hval⟩ := hw
    -- the byte that has room
    obtain ⟨i, e, free, hstep, hN, hf1, hf8, hv⟩ : ∃ (i : List UInt8) (e : UInt8) (free : Nat), (((bitio_Writer_room (bitio_Writer.mk c (N : Int))).bind fun r62 => bif decide (r62 = 0) then (app c [0]).bind fun xs78 => some xs78 else some c) = some (i ++ [e])) ∧
        N + free = 8 * (i.length + 1) ∧ 1 ≤ free ∧ free ≤ 8 ∧ bv (i ++ [e]) = V * 2 ^ free := by
      by_cases hz : 8 * c.length - N = 0
      · refine ⟨c, 0, 8, ?_, by omega, by omega, by omega, ?_⟩
        · rw [room_eq hle (by omega), hz, bind_some, bifT (by simp), app_ok (by simp; omega)]; rfl
        · rw [bv_snoc, hval, hz]; simp
      · have hne : c ≠ [] := fun e => by subst e; simp at hz
        refine ⟨c.dropLast, c.getLast hne, 8 * c.length - N, ?_, ?_, by omega, by omega, ?_⟩
        · rw [room_eq hle (by omega), bind_some, bifF (by simpa using by omega), List.dropLast_concat_getLast]
        · have := List.length_pos_iff.2 hne
          rw [List.length_dropLast]; omega
        · rw [List.dropLast_concat_getLast, hval]
    -- how many bits
    obtain ⟨k, hk⟩ : ∃ k, k = min r free := ⟨_, rfl⟩
    have hk1 : 1 ≤ k := by omega
    have hkr : k ≤ r := by omega
    have hkf : k ≤ free := by omega
    obtain ⟨p, hp⟩ : ∃ p, p = a1.toNat / 2 ^ (r - k) % 2 ^ k := ⟨_, rfl⟩
    have hpl : p < 2 ^ k := by rw [hp]; exact Nat.mod_lt _ (Nat.pow_pos (by omega))
    have hpf : p * 2 ^ (free - k) < 256 := by
      have h1 : p * 2 ^ (free - k) < 2 ^ k * 2 ^ (free - k) := Nat.mul_lt_mul_of_pos_right hpl (Nat.pow_pos (by omega))
      rw [← Nat.pow_add] at h1
      have : 2 ^ (k + (free - k)) ≤ 2 ^ 8 := Nat.pow_le_pow_right (by omega) (by omega)
      omega
    obtain ⟨t, ht⟩ : ∃ t : UInt8, t = (shlU (shrU a1 (r - k) &&& (shlU (1 : UInt64) k - 1)) (free - k)).toUInt8 := ⟨_, rfl⟩
    have htn : t.toNat = p * 2 ^ (free - k) := by
      have h1 : (shrU a1 (r - k) &&& (shlU (1 : UInt64) k - 1)).toNat = p := by rw [mask_nat _ (by omega), shrU_nat _ (by omega), hp]
      rw [ht, UInt64.toNat_toUInt8, shlU_nat _ (by omega) (by rw [h1]; omega), h1]
      omega
    have hnew := snoc_or hf8 hkf hpl hv t htn
    have hround := put_round a1 c N r i e free k t hstep hN hf1 hf8 hk1 hkr hkf hr hc (by omega) ht
    obtain ⟨c', h1, h2⟩ := ih (r - k) (by omega) (i ++ [e ||| t]) (N + k) (V * 2 ^ k + p) (by omega)
      ⟨by rw [List.length_append, List.length_singleton]; omega, by rw [List.length_append, List.length_singleton]; omega, by rw [hnew]; congr 2; rw [List.length_append, List.length_singleton]; omega⟩ (by omega)
    have hNr : N + k + (r - k) = N + r := by omega
    refine ⟨c', by rw [loop_next hround, h1, hNr], ?_⟩
    have hj := div_mod_join a1.toNat 0 k (r - k)
    simp only [Nat.zero_add, Nat.pow_zero, Nat.div_one] at hj
    rw [← hp, show k + (r - k) = r by omega] at hj
    rw [hNr, Nat.add_mul, Nat.mul_assoc, ← Nat.pow_add, show k + (r - k) = r by omega, Nat.add_assoc, hj] at h2
    exact h2

theorem two_pow_pos' (n : Nat) : 0 < 2 ^ n := Nat.pow_pos (by omega)

theorem put_no {w : bitio_Writer} {v : UInt64} {n : Int} (h : ¬ (0 ≤ n ∧ n ≤ 64 ∧ v.toNat < 2 ^ n.toNat)) : bitio_Writer_Put w v n = some (false, w) := by
  unfold bitio_Writer_Put
  rw [bifT]
  by_cases h1 : n < 0
  · simp [h1]
  by_cases h2 : 64 < n
  · simp [h2]
  have h3 : ¬ v.toNat < 2 ^ n.toNat := fun h' => h ⟨by omega, by omega, h'⟩
  have h4 : n < 64 := by
    refine Int.lt_iff_le_and_ne.2 ⟨by omega, fun e => ?_⟩
    subst e
    exact h3 (UInt64.toNat_lt v)
  have e1 : (toU64 n).toNat = n.toNat := toU64_val (by omega) (by omega)
  have h5 : shrU v n.toNat ≠ 0 := fun e => by
    have h6 := shrU_nat v (n := n.toNat) (by omega)
    rw [e] at h6
    have h7 := Nat.div_eq_zero_iff.1 h6.symm
    have := two_pow_pos' n.toNat
    omega
  rw [e1]
  simp [h4, h5]
theorem put_ok {b : List UInt8} {N V : Nat} {v : UInt64} {n : Nat} (hw : WA b N V) (hN : N + n ≤ 100000000000) (hn : n ≤ 64) (hv : v.toNat < 2 ^ n) :
    ∃ b', bitio_Writer_Put ⟨b, (N : Int)⟩ v (n : Int) = some (true, ⟨b', ((N + n : Nat) : Int)⟩) ∧ WA b' (N + n) (V * 2 ^ n + v.toNat) := by
  obtain ⟨b', h1, h2⟩ := put_loop v n b N V hn hw hN
  rw [Nat.mod_eq_of_lt hv] at h2
  refine ⟨b', ?_, h2⟩
  unfold bitio_Writer_Put
  have e1 : (toU64 (n : Int)).toNat = n := toU64_nat (by omega)
  have h5 : shrU v n = 0 := by
    apply UInt64.toNat_inj.1
    rw [shrU_nat v hn, Nat.div_eq_of_lt hv]; rfl
  rw [e1, h5, bifF (by simp; omega), h1]
  rfl

theorem WA.new : WA [] 0 0 := ⟨by simp, by simp, by simp [bv]⟩
theorem WA.inj {b b' : List UInt8} {N V : Nat} (h : WA b N V) (k : WA b' N V) : b = b' := by
  have hl : b.length = b'.length := by have := h.le; have := h.lt; have := k.le; have := k.lt; omega
  exact bv_inj hl (by rw [h.val, k.val, hl])
theorem WA.vlt {b : List UInt8} {N V : Nat} (h : WA b N V) : V < 2 ^ N := by
  have h1 := bv_lt b
  have h2 := h.le
  rw [h.val, p256, show 8 * b.length = N + (8 * b.length - N) by omega, Nat.pow_add] at h1
  have e : N + (8 * b.length - N) - N = 8 * b.length - N := by omega
  rw [e] at h1
  exact Nat.lt_of_mul_lt_mul_right h1
theorem clone_eq {b : List UInt8} (h : b.length ≤ 17179869184) : bytes_Clone b = some b := by
  unfold bytes_Clone; rw [app_ok (by simpa using h)]; rfl

/-! ### the document's rows -/
theorem row_loop (n : Nat) : ∀ (k i : Nat) (v : UInt64) (out : List Int), i + k = n → n ≤ 64 → out.length = i → Bit out →
    ∃ v' out', loop (ref01_Row_lp1 (n : Int)) (v, out, (i : Int)) = some (.go (v', out')) ∧ v'.toNat = v.toNat / 2 ^ k ∧ out'.length = n ∧ Bit out' ∧ dv out' = v.toNat % 2 ^ k * 2 ^ i + dv out := by
  intro k
  induction k with
  | zero =>
    intro i v out hi hn hl hb
    refine ⟨v, out, loop_brk ?_, by simp, by omega, hb, by simp [Nat.mod_one]⟩
    unfold ref01_Row_lp1
    dsimp only
    rw [bifF (by rw [decide_eq_false_iff_not]; omega)]
  | succ k ih =>
    intro i v out hi hn hl hb
    have e1 : w64 ((v % 2).toNat : Int) = ((v.toNat % 2 : Nat) : Int) := by
      rw [UInt64.toNat_mod]; exact w64_nat (by simp; omega)
    have e2 : (v / 2).toNat = v.toNat / 2 := by rw [UInt64.toNat_div]; rfl
    have hr : ref01_Row_lp1 (n : Int) (v, out, (i : Int)) = some (.next (v / 2, ((v.toNat % 2 : Nat) : Int) :: out, ((i + 1 : Nat) : Int))) := by
      unfold ref01_Row_lp1
      dsimp only
      rw [bifT (by rw [decide_eq_true_eq]; omega), app_ok (by simp; omega), bind_some, lett_eq, lett_eq, e1, w64_succ (by omega)]
      rfl
    obtain ⟨v', out', h1, h2, h3, h4, h5⟩ := ih (i + 1) (v / 2) (((v.toNat % 2 : Nat) : Int) :: out) (by omega) hn (by simp [hl]) (by
      intro x hx
      rcases List.mem_cons.1 hx with e | e
      · subst e; omega
      · exact hb x e)
    refine ⟨v', out', by rw [loop_next hr, h1], ?_, h3, h4, ?_⟩
    · rw [h2, e2, Nat.pow_succ, Nat.div_div_eq_div_mul, Nat.mul_comm]
    · rw [h5, e2, dv_cons, hl]
      have : v.toNat % 2 ^ (k + 1) = v.toNat % 2 + 2 * (v.toNat / 2 % 2 ^ k) := by rw [Nat.pow_succ, Nat.mul_comm, Nat.mod_mul]
      rw [this, Int.toNat_natCast]
      grind
theorem row_ok {v : UInt64} {n : Nat} (hn : n ≤ 64) : ∃ out, ref01_Row v (n : Int) = some (out, decide (v.toNat < 2 ^ n)) ∧ out.length = n ∧ Bit out ∧ dv out = v.toNat % 2 ^ n := by
  obtain ⟨v', out, h1, h2, h3, h4, h5⟩ := row_loop n n 0 v [] (by omega) hn rfl Bit.nil
  refine ⟨out, ?_, h3, h4, by simpa [dv_nil] using h5⟩
  unfold ref01_Row
  rw [bifF (by simp; omega)]
  rw [show ((0 : Int)) = ((0 : Nat) : Int) from rfl, h1, flow_go]
  dsimp only
  rw [lett_eq]
  congr 2
  have h6 := two_pow_pos' n
  have h7 : v' = 0 ↔ v.toNat < 2 ^ n := by
    rw [← UInt64.toNat_inj, h2]
    simp [Nat.div_eq_zero_iff]
  rw [decide_eq_decide]; exact h7
theorem row_no {v : UInt64} {n : Int} (h : n < 0 ∨ 64 < n) : ref01_Row v n = some ([], false) := by
  unfold ref01_Row
  rw [bifT (by simpa using h)]

/-- a byte's bits -/
def byteBits (x : UInt8) : List Int := [128, 64, 32, 16, 8, 4, 2, 1].map fun k : Nat => ((x.toNat / k % 2 : Nat) : Int)
def bitsOf (b : List UInt8) : List Int := b.flatMap byteBits
theorem byteBits_len (x : UInt8) : (byteBits x).length = 8 := rfl
theorem byteBits_bit (x : UInt8) : Bit (byteBits x) := by
  intro y hy
  simp only [byteBits, List.mem_map] at hy
  obtain ⟨k, _, rfl⟩ := hy
  omega
theorem byteBits_dv (x : UInt8) : dv (byteBits x) = x.toNat := by
  have key : ∀ n : Fin 256, dv ([128, 64, 32, 16, 8, 4, 2, 1].map fun k : Nat => ((n.1 / k % 2 : Nat) : Int)) = n.1 := by decide +kernel
  exact key ⟨x.toNat, u8_lt' x⟩
theorem bitsOf_len (b : List UInt8) : (bitsOf b).length = 8 * b.length := by
  induction b with
  | nil => rfl
  | cons x b ih => simp only [bitsOf, List.flatMap_cons, List.length_append, List.length_cons] at *; rw [ih, byteBits_len]; omega
theorem bitsOf_bit (b : List UInt8) : Bit (bitsOf b) := by
  intro y hy
  obtain ⟨x, _, hx⟩ := List.mem_flatMap.1 hy
  exact byteBits_bit x y hx
theorem bitsOf_snoc (b : List UInt8) (x : UInt8) : bitsOf (b ++ [x]) = bitsOf b ++ byteBits x := by simp [bitsOf]
theorem bitsOf_dv (b : List UInt8) : dv (bitsOf b) = bv b := by
  have : ∀ (b c : List UInt8), dv (bitsOf c) = bv c → dv (bitsOf (c ++ b)) = bv (c ++ b) := by
    intro b
    induction b with
    | nil => intro c h; simpa using h
    | cons x b ih =>
      intro c h
      rw [show c ++ x :: b = (c ++ [x]) ++ b by simp]
      refine ih _ ?_
      rw [bitsOf_snoc, dv_append, byteBits_dv, byteBits_len, bv_snoc, h]
  simpa using this b [] rfl
theorem bits_round (x k : Nat) (out : List Int) (hx : x < 256) (hk : 0 < k ∧ k ≤ 128) (ho : out.length ≤ 1000000100) :
    ref01_Bits_lp2 (x : Int) (out, (k : Int)) = some (.next (out ++ [((x / k % 2 : Nat) : Int)], ((k / 2 : Nat) : Int))) := by
  have h1 : x / k < 256 := Nat.lt_of_le_of_lt (Nat.div_le_self _ _) hx
  unfold ref01_Bits_lp2
  dsimp only
  rw [bifT (by rw [decide_eq_true_eq]; omega), show (!decide ((k : Int) = 0)) = true by simp; omega, chk_true, tdivN, w64_nat (by omega), show (2 : Int) = ((2 : Nat) : Int) from rfl, tmodN, app_ok (by simp; omega), bind_some, lett_eq, tdivN, w64_nat (by omega)]
theorem bits_inner (x : Nat) (out : List Int) (hx : x < 256) (ho : out.length ≤ 1000000000) :
    loop (ref01_Bits_lp2 (x : Int)) (out, 128) = some (.go (out ++ [128, 64, 32, 16, 8, 4, 2, 1].map fun k : Nat => ((x / k % 2 : Nat) : Int))) := by
  rw [show (128 : Int) = ((128 : Nat) : Int) from rfl]
  rw [loop_next (bits_round x 128 out hx (by omega) (by omega)), loop_next (bits_round x (128 / 2) _ hx (by omega) (by simp; omega)), loop_next (bits_round x (128 / 2 / 2) _ hx (by omega) (by simp; omega)),
    loop_next (bits_round x (128 / 2 / 2 / 2) _ hx (by omega) (by simp; omega)), loop_next (bits_round x (128 / 2 / 2 / 2 / 2) _ hx (by omega) (by simp; omega)), loop_next (bits_round x (128 / 2 / 2 / 2 / 2 / 2) _ hx (by omega) (by simp; omega)),
    loop_next (bits_round x (128 / 2 / 2 / 2 / 2 / 2 / 2) _ hx (by omega) (by simp; omega)), loop_next (bits_round x (128 / 2 / 2 / 2 / 2 / 2 / 2 / 2) _ hx (by omega) (by simp; omega))]
  rw [loop_brk (b := out ++ [128, 64, 32, 16, 8, 4, 2, 1].map fun k : Nat => ((x / k % 2 : Nat) : Int))]
  unfold ref01_Bits_lp2
  simp
theorem bits_eq {b : List UInt8} (h : b.length ≤ 100000000) : ref01_Bits b = some (bitsOf b) := by
  have hl : loop (ref01_Bits_lp1 b) (bitsOf (b.take 0), ((0 : Nat) : Int)) = some (.go (bitsOf (b.take b.length))) := by
    refine loop_for (fun i => (bitsOf (b.take i), (i : Int))) b.length (fun i hi => ?_) ?_
    · unfold ref01_Bits_lp1
      dsimp only
      rw [bifT (by rw [decide_eq_true_eq]; omega), idx_nat hi, bind_some, lett_eq, bits_inner _ _ (u8_lt' _) (by rw [bitsOf_len, List.length_take]; omega), flow_go, bind_some, lett_eq, w64_succ (by omega),
        List.take_succ_eq_append_getElem hi, bitsOf_snoc]
      rfl
    · unfold ref01_Bits_lp1
      dsimp only
      rw [bifF (by rw [decide_eq_false_iff_not]; omega)]
  unfold ref01_Bits
  rw [List.take_zero, List.take_length] at hl
  rw [show ([] : List Int) = bitsOf [] from rfl, show (0 : Int) = ((0 : Nat) : Int) from rfl, hl]
  rfl

/-! ### a row of bits as bytes -/
def pv (L : List Int) : Nat → Nat
  | 0 => 0
  | i + 1 => 2 * pv L i + (L[i]?.getD 0).toNat
theorem pv_eq (L : List Int) : ∀ i, pv L i = dv (L.take i) * 2 ^ (i - L.length)
  | 0 => by simp [pv, dv]
  | i + 1 => by
    rw [pv, pv_eq L i]
    by_cases h : i < L.length
    · rw [List.take_succ_eq_append_getElem h, dv_snoc, List.getElem?_eq_getElem h, show i + 1 - L.length = 0 by omega, show i - L.length = 0 by omega]; simp
    · rw [List.getElem?_eq_none (by omega), List.take_of_length_le (by omega), List.take_of_length_le (by omega), show i + 1 - L.length = (i - L.length) + 1 by omega, Nat.pow_succ]
      simp; grind
theorem bytes_inner {L : List Int} (hb : Bit L) (hL : L.length ≤ 1000000000) (i : Nat) (hi : i ≤ L.length) : ∃ x : Nat, loop (ref01_Bytes_lp2 L (i : Int)) (0, 0) = some (.go (x : Int)) ∧ pv L (i + 8) = pv L i * 2 ^ 8 + x ∧ x < 2 ^ 8 := by
  have key : ∀ (m k x : Nat), k + m = 8 → pv L (i + k) = pv L i * 2 ^ k + x → x < 2 ^ k → ∃ x' : Nat, loop (ref01_Bytes_lp2 L (i : Int)) ((x : Int), (k : Int)) = some (.go (x' : Int)) ∧ pv L (i + 8) = pv L i * 2 ^ 8 + x' ∧ x' < 2 ^ 8 := by
    intro m
    induction m with
    | zero =>
      intro k x hk hp hx
      obtain rfl : k = 8 := by omega
      refine ⟨x, loop_brk ?_, hp, hx⟩
      unfold ref01_Bytes_lp2
      dsimp only
      rw [bifF (by rw [decide_eq_false_iff_not]; omega)]
    | succ m ih =>
      intro k x hk hp hx
      have h8 : 2 ^ k ≤ 2 ^ 7 := Nat.pow_le_pow_right (by omega) (by omega)
      have hbit : (L[i + k]?.getD 0).toNat ≤ 1 := by
        by_cases h : i + k < L.length
        · rw [List.getElem?_eq_getElem h]
          rcases hb _ (List.getElem_mem h) with e | e <;> rw [e] <;> decide
        · rw [List.getElem?_eq_none (by omega)]; decide
      have hr : ref01_Bytes_lp2 L (i : Int) ((x : Int), (k : Int)) = some (.next (((2 * x + (L[i + k]?.getD 0).toNat : Nat) : Int), ((k + 1 : Nat) : Int))) := by
        have e1 : w64 (2 * (x : Int)) = ((2 * x : Nat) : Int) := by rw [w64_id] <;> omega
        unfold ref01_Bytes_lp2
        dsimp only
        rw [bifT (by rw [decide_eq_true_eq]; omega), lett_eq, e1, w64_addN (a := i) (b := k) (by omega)]
        by_cases h : i + k < L.length
        · have h3 : (L[i + k]?.getD 0).toNat = L[i + k].toNat := by rw [List.getElem?_eq_getElem h]; rfl
          have h4 : L[i + k] = ((L[i + k].toNat : Nat) : Int) := by
            rcases hb _ (List.getElem_mem h) with e | e <;> rw [e] <;> rfl
          rw [bifT (by rw [decide_eq_true_eq]; omega), idx_nat h, bind_some, lett_eq, bind_some, lett_eq, w64_succ (by omega), h3]
          rw [h3] at hbit
          obtain ⟨z, hz⟩ : ∃ z : Nat, L[i + k] = (z : Int) := ⟨_, h4⟩
          rw [hz] at hbit ⊢
          rw [Int.toNat_natCast] at hbit ⊢
          rw [w64_addN (by omega)]
        · rw [bifF (by rw [decide_eq_false_iff_not]; omega), bind_some, lett_eq, w64_succ (by omega), List.getElem?_eq_none (by omega)]
          rfl
      obtain ⟨x', h1, h2, h3⟩ := ih (k + 1) (2 * x + (L[i + k]?.getD 0).toNat) (by omega) (by
        rw [← Nat.add_assoc, pv, hp, Nat.pow_succ]
        have : 2 * (pv L i * 2 ^ k + x) = pv L i * (2 ^ k * 2) + 2 * x := by grind
        omega) (by rw [Nat.pow_succ]; omega)
      exact ⟨x', by rw [loop_next hr]; exact h1, h2, h3⟩
  exact key 8 0 0 (by omega) (by simp) (by simp)
theorem bytes_eq {L : List Int} (hb : Bit L) (hL : L.length ≤ 1000000000) : ∃ b, ref01_Bytes L = some b ∧ WA b L.length (dv L) := by
  have key : ∀ (m i : Nat) (out : List UInt8), 8 * out.length = i → L.length - i ≤ m → i < L.length + 8 → bv out = pv L i → ∃ b, loop (ref01_Bytes_lp1 L) (out, (i : Int)) = some (.go b) ∧ WA b L.length (dv L) := by
    intro m
    induction m using Nat.strongRecOn with
    | _ m ih =>
      intro i out hl hm hlt hv
      by_cases h : i < L.length
      · obtain ⟨x, h1, h2, h3⟩ := bytes_inner hb hL i (by omega)
        have hr : ref01_Bytes_lp1 L (out, (i : Int)) = some (.next (out ++ [toU8 (x : Int)], ((i + 8 : Nat) : Int))) := by
          have e1 : w64 ((i : Int) + 8) = ((i + 8 : Nat) : Int) := by rw [w64_id] <;> omega
          unfold ref01_Bytes_lp1
          dsimp only
          rw [bifT (by rw [decide_eq_true_eq]; omega), h1, flow_go, bind_some, app_ok (by simp; omega), bind_some, lett_eq, e1]
        rw [loop_next hr]
        refine ih (L.length - (i + 8)) (by omega) (i + 8) _ (by simp; omega) (by omega) (by omega) ?_
        rw [bv_snoc, hv, toU8_nat (by simpa using h3), h2]
      · refine ⟨out, loop_brk ?_, ⟨by omega, by omega, ?_⟩⟩
        · unfold ref01_Bytes_lp1
          dsimp only
          rw [bifF (by rw [decide_eq_false_iff_not]; omega)]
        · rw [hv, pv_eq, List.take_of_length_le (by omega), ← hl]
  obtain ⟨b, h1, h2⟩ := key L.length 0 [] rfl (by omega) (by omega) rfl
  refine ⟨b, ?_, h2⟩
  unfold ref01_Bytes
  rw [show (0 : Int) = ((0 : Nat) : Int) from rfl, h1]
  rfl
theorem number_eq {l : List Int} (hb : Bit l) (hL : l.length ≤ 1000000000) : ref01_Number l = some (UInt64.ofNat (dv l)) := by
  have hl : loop (ref01_Number_lp1 l) (UInt64.ofNat (dv (l.take 0)), ((0 : Nat) : Int)) = some (.go (UInt64.ofNat (dv (l.take l.length)))) := by
    refine loop_for (fun i => (UInt64.ofNat (dv (l.take i)), (i : Int))) l.length (fun i hi => ?_) ?_
    · unfold ref01_Number_lp1
      dsimp only
      rw [bifT (by rw [decide_eq_true_eq]; omega), idx_nat hi, bind_some, lett_eq, lett_eq, w64_succ (by omega), List.take_succ_eq_append_getElem hi, dv_snoc]
      congr 3
      apply UInt64.toNat_inj.1
      rw [UInt64.toNat_add, UInt64.toNat_mul, UInt64.toNat_ofNat', UInt64.toNat_ofNat']
      have h1 : (toU64 l[i]).toNat = l[i].toNat := by
        rcases hb _ (List.getElem_mem hi) with e | e <;> rw [e] <;> exact toU64_val (by omega) (by omega)
      rw [h1]
      simp
    · unfold ref01_Number_lp1
      dsimp only
      rw [bifF (by rw [decide_eq_false_iff_not]; omega), List.take_length]
  unfold ref01_Number
  rw [List.take_zero, List.take_length] at hl
  rw [show (0 : Int) = ((0 : Nat) : Int) from rfl, show (0 : UInt64) = UInt64.ofNat (dv []) from rfl, hl]
  rfl

/-! ### which bytes are a row -/
def openE (b : List UInt8) (n : Int) : Int :=
  if n < 0 then 1 else if 8 * (b.length : Int) < n then 2 else if 7 < 8 * (b.length : Int) - n then 3 else if bv b % 2 ^ (8 * b.length - n.toNat) = 0 then 0 else 3
theorem dv_zero {l : List Int} (hb : Bit l) : dv l = 0 ↔ ∀ x ∈ l, x = 0 := by
  induction l with
  | nil => simp [dv]
  | cons x l ih =>
    rw [dv_cons, Nat.add_eq_zero_iff, ih fun y hy => hb y (by simp [hy])]
    have := two_pow_pos' l.length
    rcases hb x (by simp) with e | e <;> subst e <;> simp
theorem dv_drop {l : List Int} (hb : Bit l) {n : Nat} (hn : n ≤ l.length) : dv (l.drop n) = dv l % 2 ^ (l.length - n) := by
  have := dv_part hb (a := n) (n := l.length - n) (by omega)
  rw [show n + (l.length - n) = l.length by omega, List.take_length, show l.length - n - (l.length - n) = 0 by omega] at this
  simpa using this
theorem open_loop (L : List Int) (hL : L.length ≤ 1000000000) : ∀ (m n : Nat), n + m = L.length → loop (ref01_Open_lp1 L) (n : Int) = some (if ∀ x ∈ L.drop n, x = 0 then .go () else .out 3) := by
  intro m
  induction m with
  | zero =>
    intro n hn
    rw [loop_brk (b := ())]
    · rw [List.drop_eq_nil_of_le (by omega)]; simp
    · unfold ref01_Open_lp1
      rw [bifF (by rw [decide_eq_false_iff_not]; omega)]
  | succ m ih =>
    intro n hn
    have hlt : n < L.length := by omega
    rw [List.drop_eq_getElem_cons hlt]
    by_cases h0 : L[n] = 0
    · rw [loop_next (s' := ((n + 1 : Nat) : Int)), ih (n + 1) (by omega)]
      · simp [h0]
      · unfold ref01_Open_lp1
        rw [bifT (by rw [decide_eq_true_eq]; omega), idx_nat hlt, bind_some, bifF (by simp [h0]), lett_eq, w64_succ (by omega)]
    · rw [loop_out (r := 3)]
      · rw [if_neg fun h => h0 (h _ List.mem_cons_self)]
      · unfold ref01_Open_lp1
        rw [bifT (by rw [decide_eq_true_eq]; omega), idx_nat hlt, bind_some, bifT (by simp [h0])]
        rfl
theorem w64_8 {b : List UInt8} (hb : b.length ≤ 1000000) : w64 (8 * (b.length : Int)) = 8 * (b.length : Int) := w64_id (by omega) (by omega)
theorem open_eq {b : List UInt8} {n : Int} (hn : I64 n) (hb : b.length ≤ 1000000) : ref01_Open b n = some (openE b n) := by
  unfold I64 at hn
  unfold ref01_Open openE
  by_cases h1 : n < 0
  · rw [bifT (by simpa using h1), if_pos h1]
  rw [bifF (by simpa using h1), if_neg h1, w64_8 hb]
  by_cases h2 : 8 * (b.length : Int) < n
  · rw [bifT (by simpa using h2), if_pos h2]
  rw [bifF (by simpa using h2), if_neg h2, w64_id (x := 8 * (b.length : Int) - n) (by omega) (by omega)]
  by_cases h3 : 7 < 8 * (b.length : Int) - n
  · rw [bifT (by simpa using h3), if_pos h3]
  rw [bifF (by simpa using h3), if_neg h3, bits_eq (by omega), bind_some]
  obtain ⟨m, rfl⟩ : ∃ m : Nat, n = (m : Int) := ⟨n.toNat, by omega⟩
  rw [Int.toNat_natCast, open_loop (bitsOf b) (by rw [bitsOf_len]; omega) (8 * b.length - m) m (by rw [bitsOf_len]; omega)]
  have e : (bv b % 2 ^ (8 * b.length - m) = 0) ↔ ∀ x ∈ (bitsOf b).drop m, x = 0 := by
    rw [← dv_zero ((bitsOf_bit b).drop m), dv_drop (bitsOf_bit b) (by rw [bitsOf_len]; omega), bitsOf_len, bitsOf_dv]
  by_cases h4 : bv b % 2 ^ (8 * b.length - m) = 0
  · rw [if_pos h4, if_pos (e.1 h4)]; rfl
  · rw [if_neg h4, if_neg fun h => h4 (e.2 h)]; rfl
theorem tdiv8 (m : Nat) (h : m ≤ 9223372036854775807) : w64 ((m : Int).tdiv 8) = ((m / 8 : Nat) : Int) := by rw [show (8 : Int) = ((8 : Nat) : Int) from rfl, tdivN, w64_nat (by omega)]
theorem tmod8 (m : Nat) : (m : Int).tmod 8 = ((m % 8 : Nat) : Int) := by rw [show (8 : Int) = ((8 : Nat) : Int) from rfl, tmodN]
theorem add7 (m : Nat) (h : m ≤ 9223372036854775800) : w64 ((m : Int) + 7) = ((m + 7 : Nat) : Int) := by rw [w64_id] <;> omega
theorem newReader_eq {b : List UInt8} {n : Int} (hn : I64 n) (hb : b.length ≤ 1000000) : bitio_NewReader b n = some (if openE b n = 0 then some ⟨b, n, 0⟩ else none, openE b n) := by
  unfold I64 at hn
  unfold bitio_NewReader
  by_cases h1 : n < 0
  · have hE : openE b n = 1 := if_pos h1
    rw [lett_eq, bifT (by simpa using h1), hE]; rfl
  rw [lett_eq, bifF (by simpa using h1), lett_eq]
  obtain ⟨m, rfl⟩ : ∃ m : Nat, n = (m : Int) := ⟨n.toNat, by omega⟩
  rw [tdiv8 _ (by omega), tmod8]
  by_cases h2 : 8 * b.length < m
  · have hE : openE b m = 2 := by unfold openE; rw [if_neg h1, if_pos (by omega)]
    rw [bifT (by simp; omega), hE]; rfl
  rw [bifF (by simp; omega), lett_eq, add7 _ (by omega), tdiv8 _ (by omega)]
  by_cases h3 : 7 < 8 * b.length - m
  · have hE : openE b m = 3 := by unfold openE; rw [if_neg h1, if_neg (by omega), if_pos (by omega)]
    rw [bifT (by simp; omega), hE]; rfl
  rw [bifF (by simp; omega), clone_eq (by omega)]
  have key : ((bif decide (0 < ((m % 8 : Nat) : Int)) then (idx b ((m / 8 : Nat) : Int)).bind fun e27 => some (!decide (shlB e27 ((toU64 ((m % 8 : Nat) : Int)).toNat) = 0)) else some false) : Option Bool) = some (!decide (bv b % 2 ^ (8 * b.length - m) = 0)) := by
    by_cases h5 : m % 8 = 0
    · rw [bifF (by simp; omega), show 8 * b.length - m = 0 by omega]; simp [Nat.mod_one]
    · have hlt : m / 8 < b.length := by omega
      rw [bifT (by simp; omega), idx_nat hlt, bind_some, toU64_nat (by omega)]
      congr 2
      rw [decide_eq_decide, ← UInt8.toNat_inj, shlB_nat _ (by omega), bv_at hlt, show b.length - 1 - m / 8 = 0 by omega, Nat.pow_zero, Nat.div_one]
      have h256 : 256 = 2 ^ (8 * b.length - m) * 2 ^ (m % 8) := by rw [← Nat.pow_add, show 8 * b.length - m + m % 8 = 8 by omega]
      have hd : bv b % 256 % 2 ^ (8 * b.length - m) = bv b % 2 ^ (8 * b.length - m) := Nat.mod_mod_of_dvd _ ⟨_, h256⟩
      rw [← hd]
      generalize bv b % 256 = y
      conv => lhs; rw [h256, Nat.mul_mod_mul_right]
      have := two_pow_pos' (m % 8)
      rw [show (0 : UInt8).toNat = 0 from rfl, Nat.mul_eq_zero]
      omega
  rw [key, bind_some]
  by_cases h4 : bv b % 2 ^ (8 * b.length - m) = 0
  · have hE : openE b m = 0 := by unfold openE; rw [if_neg h1, if_neg (by omega), if_neg (by omega), Int.toNat_natCast, if_pos h4]
    rw [bifF (by simpa using h4), hE]; rfl
  · have hE : openE b m = 3 := by unfold openE; rw [if_neg h1, if_neg (by omega), if_neg (by omega), Int.toNat_natCast, if_neg h4]
    rw [bifT (by simpa using h4), hE]; rfl

/-! ### the reader -/
theorem look_loop {b : List UInt8} {n : Int} {a : Int} (hb : b.length ≤ 1000000) : ∀ (r m at' : Nat) (v : UInt64), m + r ≤ 64 → at' + r ≤ 8 * b.length → v.toNat = bv b / 2 ^ (8 * b.length - at') % 2 ^ m →
    ∃ v', loop (bitio_Reader_Look_lp1 ⟨b, n, a⟩) ((r : Int), v, (at' : Int)) = some (.go v') ∧ v'.toNat = bv b / 2 ^ (8 * b.length - at' - r) % 2 ^ (m + r) := by
  intro r
  induction r using Nat.strongRecOn with
  | _ r ih =>
    intro m at' v hm hat hv
    by_cases h0 : r = 0
    · subst h0
      refine ⟨v, loop_brk ?_, by simpa using hv⟩
      unfold bitio_Reader_Look_lp1
      dsimp only
      rw [bifF (by simp)]
    obtain ⟨j, free, hj, hf1, hf8⟩ : ∃ j free, at' + free = 8 * (j + 1) ∧ 1 ≤ free ∧ free ≤ 8 := ⟨at' / 8, 8 - at' % 8, by omega, by omega, by omega⟩
    have hjl : j < b.length := by omega
    obtain ⟨k, hk⟩ : ∃ k, k = min r free := ⟨_, rfl⟩
    have hk1 : 1 ≤ k := by omega
    have hkr : k ≤ r := by omega
    have hkf : k ≤ free := by omega
    have hk8 : k ≤ 8 := by omega
    have B1 : at' / 8 = j := by omega
    have B2 : 8 - at' % 8 = free := by omega
    have B3 : 8 * (b.length - 1 - j) + (free - k) = 8 * b.length - at' - k := by omega
    have B4 : 8 * b.length - at' = (8 * b.length - at' - k) + k := by omega
    have B5 : at' % 8 ≤ 8 := by omega
    have B6 : m + k ≤ 64 := by omega
    have B7 : at' + k < 9223372036854775808 := by omega
    have B8 : free < 9223372036854775808 := by omega
    have B9 : r < 9223372036854775808 := by omega
    have B10 : at' ≤ 9223372036854775807 := by omega
    have T1 : (toU64 ((free - k : Nat) : Int)).toNat = free - k := toU64_nat (by omega)
    have T2 : (toU64 (k : Int)).toNat = k := toU64_nat (by omega)
    obtain ⟨pc, hpc⟩ : ∃ pc, pc = shrB b[j] (free - k) &&& (shlB (1 : UInt8) k - 1) := ⟨_, rfl⟩
    have hpn : pc.toNat = bv b / 2 ^ (8 * b.length - at' - k) % 2 ^ k := by
      rw [hpc, maskB_nat _ hk8, shrB_nat _ (by omega), bv_at hjl, p256, show (256 : Nat) = 2 ^ 8 from rfl, mod_div_mod _ _ _ _ (by omega), Nat.div_div_eq_div_mul, ← Nat.pow_add, B3]
    have hpl : pc.toNat < 2 ^ k := by rw [hpn]; exact Nat.mod_lt _ (two_pow_pos' k)
    have hvl : v.toNat < 2 ^ m := by rw [hv]; exact Nat.mod_lt _ (two_pow_pos' m)
    have hmk : v.toNat * 2 ^ k < 2 ^ 64 := by
      have h1 : v.toNat * 2 ^ k < 2 ^ m * 2 ^ k := Nat.mul_lt_mul_of_pos_right hvl (two_pow_pos' k)
      rw [← Nat.pow_add] at h1
      exact Nat.lt_of_lt_of_le h1 (Nat.pow_le_pow_right (by omega) B6)
    have hr : bitio_Reader_Look_lp1 ⟨b, n, a⟩ ((r : Int), v, (at' : Int)) = some (.next (((r - k : Nat) : Int), shlU v k ||| pc.toUInt64, ((at' + k : Nat) : Int))) := by
      have E0 : decide ((0 : Int) < (r : Int)) = true := by rw [decide_eq_true_eq]; omega
      have E1 : (min (r : Int) (free : Int)) = (k : Int) := by rw [hk]; omega
      have E2 : w64 (8 - ((at' : Int).tmod 8)) = (free : Int) := by
        rw [tmod8, show (8 : Int) = ((8 : Nat) : Int) from rfl, w64_subN B5 (by decide), B2]
      have E3 : w64 ((at' : Int).tdiv 8) = (j : Int) := by rw [tdiv8 _ B10, B1]
      have E4 : w64 ((free : Int) - (k : Int)) = ((free - k : Nat) : Int) := w64_subN hkf B8
      have E5 : w64 ((at' : Int) + (k : Int)) = ((at' + k : Nat) : Int) := w64_addN B7
      have E6 : w64 ((r : Int) - (k : Int)) = ((r - k : Nat) : Int) := w64_subN hkr B9
      unfold bitio_Reader_Look_lp1
      dsimp only
      rw [E0, cond_true, lett_eq, E2, lett_eq, E1, E3, idx_nat hjl, bind_some, lett_eq, E4, T1, T2, ← hpc, lett_eq, lett_eq, lett_eq, E5, E6]
    have hv2 : (shlU v k ||| pc.toUInt64).toNat = bv b / 2 ^ (8 * b.length - (at' + k)) % 2 ^ (m + k) := by
      rw [UInt64.toNat_or, shlU_nat _ (by omega) hmk, UInt8.toNat_toUInt64, or_add hpl, hpn, hv]
      rw [show 8 * b.length - (at' + k) = 8 * b.length - at' - k by omega]
      have := div_mod_join (bv b) (8 * b.length - at' - k) m k
      rw [← B4] at this
      exact this
    obtain ⟨v', h1, h2⟩ := ih (r - k) (by omega) (m + k) (at' + k) _ (by omega) (by omega) hv2
    refine ⟨v', by rw [loop_next hr, h1], ?_⟩
    rw [h2, show 8 * b.length - (at' + k) - (r - k) = 8 * b.length - at' - r by omega, show m + k + (r - k) = m + r by omega]

/-- the bits that are asked for are there -/
def lookOk (n at' : Nat) (k : Int) : Bool := decide (0 ≤ k ∧ k ≤ 64 ∧ k ≤ (n : Int) - (at' : Int))
def lookV (b : List UInt8) (at' k : Nat) : Nat := bv b / 2 ^ (8 * b.length - at' - k) % 2 ^ k
theorem look_eq {b : List UInt8} {n at' : Nat} {k : Int} (hb : b.length ≤ 1000000) (hn : n ≤ 8 * b.length) (hat : at' ≤ n) :
    ∃ v : UInt64, bitio_Reader_Look ⟨b, (n : Int), (at' : Int)⟩ k = some (v, lookOk n at' k) ∧ v.toNat = if lookOk n at' k then lookV b at' k.toNat else 0 := by
  have hleft : bitio_Reader_Left ⟨b, (n : Int), (at' : Int)⟩ = some (((n - at' : Nat) : Int)) := by
    unfold bitio_Reader_Left
    dsimp only
    rw [lett_eq, w64_subN hat (by omega)]
  unfold bitio_Reader_Look
  cases h : lookOk n at' k with
  | true =>
    unfold lookOk at h
    rw [decide_eq_true_eq] at h
    obtain ⟨r, rfl⟩ : ∃ r : Nat, k = (r : Int) := ⟨k.toNat, by omega⟩
    obtain ⟨v, h1, h2⟩ := look_loop (b := b) (n := (n : Int)) (a := (at' : Int)) hb r 0 at' 0 (by omega) (by omega) (by simp [Nat.mod_one])
    refine ⟨v, ?_, ?_⟩
    · rw [bifF (by simp; omega), hleft, bind_some, bind_some, bifF (by simp; omega)]
      dsimp only
      rw [h1, flow_go]
    · rw [h2]; simp [lookV]
  | false =>
    unfold lookOk at h
    rw [decide_eq_false_iff_not] at h
    refine ⟨0, ?_, rfl⟩
    by_cases h1 : k < 0 ∨ 64 < k
    · rw [bifT (by simpa using h1), bind_some]; rfl
    · rw [bifF (by simpa using h1), hleft, bind_some, bind_some, bifT (by simp; omega)]
theorem take_eq {b : List UInt8} {n at' : Nat} {k : Int} (hb : b.length ≤ 1000000) (hn : n ≤ 8 * b.length) (hat : at' ≤ n) :
    ∃ v : UInt64, bitio_Reader_Take ⟨b, (n : Int), (at' : Int)⟩ k = some (v, lookOk n at' k, ⟨b, (n : Int), ((if lookOk n at' k then at' + k.toNat else at' : Nat) : Int)⟩) ∧ v.toNat = if lookOk n at' k then lookV b at' k.toNat else 0 := by
  obtain ⟨v, h1, h2⟩ := look_eq (k := k) hb hn hat
  refine ⟨v, ?_, h2⟩
  unfold bitio_Reader_Take
  rw [h1, bind_some]
  dsimp only
  cases h : lookOk n at' k with
  | true =>
    unfold lookOk at h
    rw [decide_eq_true_eq] at h
    obtain ⟨r, rfl⟩ : ∃ r : Nat, k = (r : Int) := ⟨k.toNat, by omega⟩
    rw [cond_true, lett_eq, w64_addN (by omega)]; simp
  | false => rfl
theorem skip_eq {b : List UInt8} {n at' : Nat} {k : Int} (hb : n ≤ 1000000000) (hat : at' ≤ n) :
    bitio_Reader_Skip ⟨b, (n : Int), (at' : Int)⟩ k = some (decide (0 ≤ k ∧ k ≤ (n : Int) - (at' : Int)), ⟨b, (n : Int), ((if 0 ≤ k ∧ k ≤ (n : Int) - (at' : Int) then at' + k.toNat else at' : Nat) : Int)⟩) := by
  have hleft : bitio_Reader_Left ⟨b, (n : Int), (at' : Int)⟩ = some (((n - at' : Nat) : Int)) := by
    unfold bitio_Reader_Left
    dsimp only
    rw [lett_eq, w64_subN hat (by omega)]
  unfold bitio_Reader_Skip
  by_cases h : 0 ≤ k ∧ k ≤ (n : Int) - (at' : Int)
  · obtain ⟨r, rfl⟩ : ∃ r : Nat, k = (r : Int) := ⟨k.toNat, by omega⟩
    rw [bifF (by simp), hleft, bind_some, bind_some, bifF (by simp; omega), lett_eq, if_pos h, decide_eq_true h]
    dsimp only
    rw [w64_addN (by omega), Int.toNat_natCast]
  · rw [if_neg h, decide_eq_false h]
    by_cases h1 : k < 0
    · rw [bifT (by simpa using h1), bind_some]; rfl
    · rw [bifF (by simpa using h1), hleft, bind_some, bind_some, bifT (by simp; omega)]

/-! ### the document's waking call -/
theorem awake01 : law01_awake = some true := by
  obtain ⟨b1, h1, w1⟩ := put_ok (b := []) (N := 0) (V := 0) (v := 5) (n := 3) WA.new (by omega) (by omega) (by decide)
  obtain ⟨b2, h2, w2⟩ := put_ok (v := 1) (n := 2) w1 (by omega) (by omega) (by decide)
  have e2 : b2 = [168] := WA.inj w2 ⟨by decide, by decide, by decide⟩
  subst e2
  have hr : bitio_NewReader [168] 5 = some (some ⟨[168], 5, 0⟩, 0) := by
    rw [newReader_eq (by unfold I64; omega) (by simp)]
    have : openE [168] 5 = 0 := by decide +kernel
    rw [this]; rfl
  obtain ⟨v1, t1, u1⟩ := take_eq (b := [168]) (n := 5) (at' := 0) (k := 3) (by simp) (by simp) (by omega)
  have l1 : lookOk 5 0 3 = true := by decide
  rw [l1] at t1 u1
  have hv1 : v1 = 5 := by apply UInt64.toNat_inj.1; rw [u1]; decide
  obtain ⟨v2, t2, u2⟩ := take_eq (b := [168]) (n := 5) (at' := 3) (k := 3) (by simp) (by simp) (by omega)
  have l2 : lookOk 5 3 3 = false := by decide
  rw [l2] at t2 u2
  subst hv1
  unfold law01_awake
  have n1 : bitio_NewWriter = some ⟨[], 0⟩ := rfl
  have h1' : bitio_Writer_Put ⟨[], 0⟩ 5 3 = some (true, ⟨b1, 3⟩) := h1
  have h2' : bitio_Writer_Put ⟨b1, 3⟩ 1 2 = some (true, ⟨[168], 5⟩) := h2
  have t1' : bitio_Reader_Take ⟨[168], 5, 0⟩ 3 = some (5, true, ⟨[168], 5, 3⟩) := t1
  have t2' : bitio_Reader_Take ⟨[168], 5, 3⟩ 3 = some (v2, false, ⟨[168], 5, 3⟩) := t2
  have b1' : bitio_Writer_Bytes ⟨[168], 5⟩ = some [168] := by unfold bitio_Writer_Bytes; rw [clone_eq (by simp)]; rfl
  have c1 : bitio_Writer_Len ⟨[168], 5⟩ = some 5 := rfl
  have c2 : bitio_Reader_Left ⟨[168], 5, 3⟩ = some 2 := by unfold bitio_Reader_Left; rw [lett_eq, w64_id] <;> simp
  simp [n1, h1', h2', hr, t1', t2', b1', c1, c2]

/-- LAW 01, BitsOpen -/
theorem bitsOpen (a0 : List UInt8) (a1 : Int) (h1 : I64 a1) : law01_BitsOpen a0 a1 = some true := by
  unfold law01_BitsOpen
  rw [awake01, bind_some, bifF (by rfl)]
  by_cases h : 200 < (a0.length : Int)
  · rw [bifT (by simpa using h)]
  rw [bifF (by simpa using h), newReader_eq h1 (by omega), open_eq h1 (by omega), bind_some]
  dsimp only
  rw [bind_some]
  by_cases h0 : openE a0 a1 = 0
  · rw [if_pos h0, h0]
    unfold I64 at h1
    have c : bitio_Reader_Left ⟨a0, a1, 0⟩ = some a1 := by unfold bitio_Reader_Left; rw [lett_eq]; dsimp only; rw [Int.sub_zero, w64_id (by omega) (by omega)]
    have c2 : bitio_Reader_At ⟨a0, a1, 0⟩ = some 0 := rfl
    simp [c, c2]
  · rw [if_neg h0]
    simp [h0]

/-! ### LAW 01, BitsTake -/
theorem xor_loop (l : List UInt8) (h : l.length ≤ 1000000000) : loop law01_BitsTake_lp1 (l, 0) = some (.go ()) := by
  have key : ∀ (m i : Nat) (l : List UInt8), i + m = l.length → l.length ≤ 1000000000 → loop law01_BitsTake_lp1 (l, (i : Int)) = some (.go ()) := by
    intro m
    induction m with
    | zero =>
      intro i l hi _
      refine loop_brk ?_
      unfold law01_BitsTake_lp1
      dsimp only
      rw [bifF (by rw [decide_eq_false_iff_not]; omega)]
    | succ m ih =>
      intro i l hi hl
      have hlt : i < l.length := by omega
      have hr : law01_BitsTake_lp1 (l, (i : Int)) = some (.next (l.set i (l[i] ^^^ 255), ((i + 1 : Nat) : Int))) := by
        unfold law01_BitsTake_lp1
        dsimp only
        rw [bifT (by rw [decide_eq_true_eq]; omega), idx_nat hlt, bind_some, bind_some, lett_eq, setI_nat hlt, bind_some, lett_eq, w64_succ (by omega)]
      rw [loop_next hr]
      exact ih (i + 1) _ (by simp; omega) (by simpa using hl)
  exact key l.length 0 l (by omega) h

theorem number_part {b : List UInt8} (hb : b.length ≤ 1000000) {at' k : Nat} (h : at' + k ≤ 8 * b.length) (hk : k ≤ 64) :
    ((slc (bitsOf b) (at' : Int) ((at' + k : Nat) : Int)).bind fun t => (ref01_Number t).bind fun r => some r) = some (UInt64.ofNat (lookV b at' k)) := by
  have hl := bitsOf_len b
  rw [slc_nat (by omega) (by omega), bind_some, number_eq (((bitsOf_bit b).take _).drop _) (by rw [List.length_drop, List.length_take]; omega), bind_some, dv_part (bitsOf_bit b) (by omega), bitsOf_dv, hl]
  rfl

theorem bitsTake_round (b : List UInt8) (a1 : List Int) (i at' : Nat) (hb : b.length ≤ 1000) (hl : a1.length ≤ 1000) (hlt : i < a1.length) (hat : at' ≤ 8 * b.length) (hI : I64 a1[i]) :
    ∃ at2 : Nat, at2 ≤ 8 * b.length ∧ law01_BitsTake_lp2 a1 (b, ((8 * b.length : Nat) : Int), (at' : Int), bitsOf b, (at' : Int), (i : Int)) = some (.next (b, ((8 * b.length : Nat) : Int), (at2 : Int), bitsOf b, (at2 : Int), ((i + 1 : Nat) : Int))) := by
  have hlen := bitsOf_len b
  obtain ⟨N, hN⟩ : ∃ N, N = 8 * b.length := ⟨_, rfl⟩
  rw [← hN] at hlen hat ⊢
  have hN8 : N ≤ 8000 := by omega
  have hi1 : i + 1 < 9223372036854775808 := by omega
  have hNb : N < 9223372036854775808 := by omega
  have at_eq : ∀ at2 : Nat, bitio_Reader_At ⟨b, (N : Int), (at2 : Int)⟩ = some (at2 : Int) := fun _ => rfl
  have left_eq : ∀ at2 : Nat, bitio_Reader_Left ⟨b, (N : Int), (at2 : Int)⟩ = some (w64 ((N : Int) - (at2 : Int))) := fun _ => rfl
  unfold I64 at hI
  unfold law01_BitsTake_lp2
  dsimp only
  rw [bifT (by rw [decide_eq_true_eq]; omega), idx_nat hlt, bind_some]
  generalize a1[i] = e at hI
  by_cases hA : e < -100
  · rw [bifT (by simpa using hA), lett_eq, w64_id (x := -100 - e) (by omega) (by omega), lett_eq, hlen, w64_subN hat hNb, skip_eq (by omega) hat, bind_some]
    dsimp only
    have his : (decide (0 ≤ -100 - e) && decide (-100 - e ≤ ((N - at' : Nat) : Int))) = decide (0 ≤ -100 - e ∧ -100 - e ≤ (N : Int) - (at' : Int)) := by
      rw [← Bool.decide_and, decide_eq_decide]; omega
    rw [his]
    by_cases hB : 0 ≤ -100 - e ∧ -100 - e ≤ (N : Int) - (at' : Int)
    · obtain ⟨r, hr⟩ : ∃ r : Nat, -100 - e = (r : Int) := ⟨(-100 - e).toNat, by omega⟩
      refine ⟨at' + r, by omega, ?_⟩
      rw [decide_eq_true hB, if_pos hB, hr, Int.toNat_natCast, w64_addN (by omega)]
      generalize at' + r = at2
      simp [at_eq, left_eq, flow_go, lett_eq, w64_succ hi1]
    · refine ⟨at', hat, ?_⟩
      rw [decide_eq_false hB, if_neg hB]
      simp [at_eq, left_eq, flow_go, lett_eq, w64_succ hi1]
  · rw [bifF (by simpa using hA), lett_eq]
    obtain ⟨nv, lk, hlk, hnv, hnvI⟩ : ∃ (nv : Int) (lk : Bool), lk = decide (100 < e) ∧ (bif lk then lett (w64 (e - 100)) fun nv234 => some nv234 else some e) = some nv ∧ -100 ≤ nv := by
      by_cases h : 100 < e
      · exact ⟨e - 100, true, by simpa using h, by rw [cond_true, lett_eq, w64_id (by omega) (by omega)], by omega⟩
      · exact ⟨e, false, by simpa using h, rfl, by omega⟩
    rw [← hlk, hnv, bind_some, lett_eq, hlen, w64_subN hat hNb]
    clear hnv
    have his : ((decide (0 ≤ nv) && decide (nv ≤ 64)) && decide (nv ≤ ((N - at' : Nat) : Int))) = lookOk N at' nv := by
      unfold lookOk
      rw [← Bool.decide_and, ← Bool.decide_and, decide_eq_decide]; omega
    rw [his]
    obtain ⟨v, t1, u1⟩ := look_eq (b := b) (n := N) (at' := at') (k := nv) (by omega) (by omega) hat
    obtain ⟨v2, t2, u2⟩ := take_eq (b := b) (n := N) (at' := at') (k := nv) (by omega) (by omega) hat
    have hvv : v2 = v := by apply UInt64.toNat_inj.1; rw [u1, u2]
    subst hvv
    cases hok : lookOk N at' nv with
    | false =>
      rw [hok] at t1 u1 t2
      have hz : v2 = 0 := by apply UInt64.toNat_inj.1; rw [u1]; rfl
      subst hz
      refine ⟨at', hat, ?_⟩
      cases lk <;> simp [t1, t2, at_eq, left_eq, flow_go, lett_eq, w64_succ hi1]
    | true =>
      rw [hok] at t1 u1 t2
      have hok' := hok
      unfold lookOk at hok'
      rw [decide_eq_true_eq] at hok'
      obtain ⟨r, rfl⟩ : ∃ r : Nat, nv = (r : Int) := ⟨nv.toNat, by omega⟩
      have hnum := number_part (b := b) (by omega) (at' := at') (k := r) (by omega) (by omega)
      have hv : UInt64.ofNat (lookV b at' r) = v2 := by
        apply UInt64.toNat_inj.1
        rw [u1, UInt64.toNat_ofNat', if_pos rfl, Int.toNat_natCast, Nat.mod_eq_of_lt]
        exact Nat.lt_of_lt_of_le (Nat.mod_lt _ (two_pow_pos' r)) (Nat.pow_le_pow_right (by omega) (by omega))
      rw [hv] at hnum
      have hle : at' + r ≤ N := by omega
      have hadd : at' + r < 9223372036854775808 := by omega
      rw [if_pos rfl, Int.toNat_natCast] at t2
      have hsl : ∃ t, slc (bitsOf b) (at' : Int) ((at' + r : Nat) : Int) = some t ∧ ref01_Number t = some v2 := by
        obtain ⟨t, h1, h2⟩ := bnd hnum
        obtain ⟨x, h3, h4⟩ := bnd h2
        cases h4
        exact ⟨t, h1, h3⟩
      obtain ⟨t, hs1, hs2⟩ := hsl
      rw [w64_addN hadd]
      generalize at' + r = at2 at *
      cases lk with
      | true => exact ⟨at', hat, by simp [t1, hs1, hs2, at_eq, left_eq, flow_go, lett_eq, w64_succ hi1]⟩
      | false => exact ⟨at2, hle, by simp [t2, hs1, hs2, at_eq, left_eq, flow_go, lett_eq, w64_succ hi1]⟩
theorem bitsTake_loop (b : List UInt8) (a1 : List Int) (ha : ∀ x ∈ a1, I64 x) (hb : b.length ≤ 1000) (hl : a1.length ≤ 1000) : ∀ (m i at' : Nat), i + m = a1.length → at' ≤ 8 * b.length →
    loop (law01_BitsTake_lp2 a1) (b, ((8 * b.length : Nat) : Int), (at' : Int), bitsOf b, (at' : Int), (i : Int)) = some (.go ()) := by
  intro m
  induction m with
  | zero =>
    intro i at' hi hat
    refine loop_brk ?_
    unfold law01_BitsTake_lp2
    dsimp only
    rw [bifF (by rw [decide_eq_false_iff_not]; omega)]
  | succ m ih =>
    intro i at' hi hat
    have hlt : i < a1.length := by omega
    have hI := ha _ (List.getElem_mem hlt)
    obtain ⟨at2, h2, h3⟩ := bitsTake_round b a1 i at' hb hl hlt hat hI
    rw [loop_next h3]
    exact ih (i + 1) at2 (by omega) h2
theorem bitsTake (a0 : List UInt8) (a1 : List Int) (h1 : ∀ x ∈ a1, I64 x) : law01_BitsTake a0 a1 = some true := by
  unfold law01_BitsTake
  rw [awake01, bind_some, bifF (by rfl)]
  by_cases h : 200 < (a0.length : Int) ∨ 100 < (a1.length : Int)
  · rw [bifT (by simpa using h)]
  rw [bifF (by simpa using h), app_ok (by simp; omega), bind_some, List.nil_append]
  have e8 : w64 (8 * (a0.length : Int)) = ((8 * a0.length : Nat) : Int) := by rw [w64_8 (by omega)]; simp
  have hE : openE a0 ((8 * a0.length : Nat) : Int) = 0 := by
    unfold openE
    rw [if_neg (by omega), if_neg (by omega), if_neg (by omega), Int.toNat_natCast, Nat.sub_self, Nat.pow_zero, Nat.mod_one, if_pos rfl]
  have hn : bitio_NewReader a0 ((8 * a0.length : Nat) : Int) = some (some ⟨a0, ((8 * a0.length : Nat) : Int), 0⟩, 0) := by
    rw [newReader_eq (by unfold I64; omega) (by omega), hE]; rfl
  rw [e8, hn, bind_some]
  dsimp only
  rw [bifF (by simp), xor_loop _ (by omega), flow_go, bind_some, bits_eq (by omega), bind_some, bind_some]
  have := bitsTake_loop a0 a1 h1 (by omega) (by omega) a1.length 0 0 (by omega) (by omega)
  dsimp only
  rw [show (0 : Int) = ((0 : Nat) : Int) from rfl, this]
  rfl

theorem bv_take {b : List UInt8} {i : Nat} (h : i ≤ b.length) : bv (b.take i) = bv b / 2 ^ (8 * b.length - 8 * i) := by
  have e : b = b.take i ++ b.drop i := by simp
  have h3 := bv_lt (b.drop i)
  have hl : (b.drop i).length = b.length - i := by rw [List.length_drop]
  rw [hl, p256] at h3
  have h1 : bv b = bv (b.take i) * 2 ^ (8 * b.length - 8 * i) + bv (b.drop i) := by
    conv => lhs; rw [e, bv_append, hl, p256]
    rw [show 8 * (b.length - i) = 8 * b.length - 8 * i by omega]
  rw [show 8 * (b.length - i) = 8 * b.length - 8 * i by omega] at h3
  rw [h1, Nat.add_comm, Nat.add_mul_div_right _ _ (two_pow_pos' _), Nat.div_eq_of_lt h3, Nat.zero_add]

/-! ### LAW 01, BitsPut -/
theorem putBits_loop {B : List UInt8} {n : Nat} (hn : n ≤ 8 * B.length) (hB : B.length ≤ 1000000) : ∀ (m i : Nat) (c : List UInt8) (N V : Nat), n - 8 * i ≤ m → 8 * i ≤ n → WA c (N + 8 * i) (V * 2 ^ (8 * i) + bv (B.take i)) → N + n ≤ 90000000000 →
    ∃ c', loop (bitio_Writer_PutBits_lp1 B) (c, ((N + 8 * i : Nat) : Int), ((n - 8 * i : Nat) : Int), (i : Int)) = some (.go (c', ((N + n : Nat) : Int))) ∧ WA c' (N + n) (V * 2 ^ n + bv B / 2 ^ (8 * B.length - n)) := by
  intro m
  induction m using Nat.strongRecOn with
  | _ m ih =>
    intro i c N V hm hi hw hN
    by_cases h0 : n - 8 * i = 0
    · have e : n = 8 * i := by omega
      refine ⟨c, loop_brk ?_, ?_⟩
      · unfold bitio_Writer_PutBits_lp1
        dsimp only
        rw [bifF (by rw [decide_eq_false_iff_not]; omega), e]
      · rw [e, ← bv_take (by omega)]; exact hw
    have hlt : i < B.length := by omega
    obtain ⟨k, hk⟩ : ∃ k, k = min (n - 8 * i) 8 := ⟨_, rfl⟩
    have hk1 : 1 ≤ k := by omega
    have hk8 : k ≤ 8 := by omega
    have hkn : k ≤ n - 8 * i := by omega
    have B1 : i + 1 < 9223372036854775808 := by omega
    have B2 : n - 8 * i < 9223372036854775808 := by omega
    have B3 : n - 8 * i - k = n - (8 * i + k) := by omega
    have B4 : N + 8 * i + k ≤ 100000000000 := by omega
    have T1 : (toU64 ((8 - k : Nat) : Int)).toNat = 8 - k := toU64_nat (by omega)
    obtain ⟨x, hx⟩ : ∃ x, x = (shrB B[i] (8 - k)).toUInt64 := ⟨_, rfl⟩
    have hxn : x.toNat = B[i].toNat / 2 ^ (8 - k) := by rw [hx, UInt8.toNat_toUInt64, shrB_nat _ (by omega)]
    have hxl : x.toNat < 2 ^ k := by
      rw [hxn, Nat.div_lt_iff_lt_mul (two_pow_pos' _), ← Nat.pow_add, show k + (8 - k) = 8 by omega]
      exact u8_lt' _
    obtain ⟨c', hp, hw'⟩ := put_ok hw B4 (by omega) hxl
    have hr : bitio_Writer_PutBits_lp1 B (c, ((N + 8 * i : Nat) : Int), ((n - 8 * i : Nat) : Int), (i : Int)) = some (.next (c', ((N + 8 * i + k : Nat) : Int), ((n - (8 * i + k) : Nat) : Int), ((i + 1 : Nat) : Int))) := by
      have E1 : (min ((n - 8 * i : Nat) : Int) 8) = (k : Int) := by omega
      unfold bitio_Writer_PutBits_lp1
      dsimp only
      rw [bifT (by rw [decide_eq_true_eq]; omega), lett_eq, E1, idx_nat hlt, bind_some, show (8 : Int) - (k : Int) = ((8 : Nat) : Int) - (k : Int) from rfl, w64_subN hk8 (by decide), T1, ← hx, hp, bind_some]
      dsimp only
      rw [lett_eq, w64_subN hkn B2, lett_eq, w64_succ B1, B3]
    by_cases h8 : k = 8
    · subst h8
      have hwn : WA c' (N + 8 * (i + 1)) (V * 2 ^ (8 * (i + 1)) + bv (B.take (i + 1))) := by
        rw [List.take_succ_eq_append_getElem hlt, bv_snoc, show N + 8 * (i + 1) = N + 8 * i + 8 by omega, show 8 * (i + 1) = 8 * i + 8 by omega]
        rw [hxn, Nat.sub_self, Nat.pow_zero, Nat.div_one] at hw'
        have : V * 2 ^ (8 * i + 8) + (bv (B.take i) * 256 + B[i].toNat) = (V * 2 ^ (8 * i) + bv (B.take i)) * 2 ^ 8 + B[i].toNat := by rw [Nat.pow_add]; grind
        rw [this]; exact hw'
      obtain ⟨c2, g1, g2⟩ := ih (n - 8 * (i + 1)) (by omega) (i + 1) c' N V (by omega) (by omega) hwn hN
      refine ⟨c2, ?_, g2⟩
      rw [loop_next hr]
      exact g1
    · have hnk : n = 8 * i + k := by omega
      have hz : loop (bitio_Writer_PutBits_lp1 B) (c', ((N + n : Nat) : Int), ((0 : Nat) : Int), ((i + 1 : Nat) : Int)) = some (.go (c', ((N + n : Nat) : Int))) := by
        refine loop_brk ?_
        unfold bitio_Writer_PutBits_lp1
        dsimp only
        rw [bifF (by simp)]
      refine ⟨c', ?_, ?_⟩
      · rw [loop_next hr, show n - (8 * i + k) = 0 by omega, show N + 8 * i + k = N + n by omega, hz]
      · have hd : bv B / 2 ^ (8 * B.length - n) = bv (B.take i) * 2 ^ k + B[i].toNat / 2 ^ (8 - k) := by
          have h1 := bv_take (b := B) (i := i + 1) (by omega)
          rw [List.take_succ_eq_append_getElem hlt, bv_snoc] at h1
          rw [show 8 * B.length - n = (8 * B.length - 8 * (i + 1)) + (8 - k) by omega, Nat.pow_add, ← Nat.div_div_eq_div_mul, ← h1, show 256 = 2 ^ k * 2 ^ (8 - k) by rw [← Nat.pow_add, show k + (8 - k) = 8 by omega],
            ← Nat.mul_assoc, Nat.add_comm, Nat.add_mul_div_right _ _ (two_pow_pos' _), Nat.add_comm]
        rw [hd, ← hxn]
        have : V * 2 ^ n + (bv (B.take i) * 2 ^ k + x.toNat) = (V * 2 ^ (8 * i) + bv (B.take i)) * 2 ^ k + x.toNat := by rw [hnk, Nat.pow_add]; grind
        rw [this, show N + n = N + 8 * i + k by omega]
        exact hw'
theorem putBits_ok {b B : List UInt8} {N V n : Nat} (hw : WA b N V) (hn : n ≤ 8 * B.length) (hB : B.length ≤ 1000000) (hN : N + n ≤ 90000000000) :
    ∃ b', bitio_Writer_PutBits ⟨b, (N : Int)⟩ B (n : Int) = some (true, ⟨b', ((N + n : Nat) : Int)⟩) ∧ WA b' (N + n) (V * 2 ^ n + bv B / 2 ^ (8 * B.length - n)) := by
  obtain ⟨b', h1, h2⟩ := putBits_loop hn hB n 0 b N V (by omega) (by omega) (by simpa [bv_nil] using hw) hN
  refine ⟨b', ?_, h2⟩
  unfold bitio_Writer_PutBits
  rw [w64_8 hB, bifF (by simp; omega)]
  dsimp only
  have h1' : loop (bitio_Writer_PutBits_lp1 B) (b, (N : Int), (n : Int), 0) = some (.go (b', ((N + n : Nat) : Int))) := h1
  rw [h1', flow_go]
theorem putBits_no {w : bitio_Writer} {B : List UInt8} {n : Int} (hB : B.length ≤ 1000000) (h : ¬ (0 ≤ n ∧ n ≤ 8 * (B.length : Int))) : bitio_Writer_PutBits w B n = some (false, w) := by
  unfold bitio_Writer_PutBits
  rw [w64_8 hB, bifT (by simp; omega)]
theorem maskHi : ∀ (e : UInt8) (s : Nat), s ≤ 7 → (e &&& shlB (255 : UInt8) s).toNat = e.toNat / 2 ^ s * 2 ^ s := by
  have key : ∀ (e : Fin 256) (s : Fin 8), ((UInt8.ofNat e.1) &&& shlB (255 : UInt8) s.1).toNat = e.1 / 2 ^ s.1 * 2 ^ s.1 := by decide +kernel
  intro e s hs
  have := key ⟨e.toNat, u8_lt' e⟩ ⟨s, by omega⟩
  simpa using this
theorem cut_ok {b : List UInt8} {N V m : Nat} (hw : WA b N V) (hm : m ≤ N) (hN : N ≤ 90000000000) :
    ∃ b', bitio_Writer_Cut ⟨b, (N : Int)⟩ (m : Int) = some (true, ⟨b', (m : Int)⟩) ∧ WA b' m (V / 2 ^ (N - m)) := by
  obtain ⟨hle, hlt, hval⟩ := hw
  obtain ⟨q, hq⟩ : ∃ q, q = (m + 7) / 8 := ⟨_, rfl⟩
  have hql : q ≤ b.length := by omega
  have hmq : m ≤ 8 * q := by omega
  have hmq2 : 8 * q < m + 8 := by omega
  have e1 : bv b / 2 ^ (8 * b.length - m) = V / 2 ^ (N - m) := by
    rw [hval, show 8 * b.length - m = (8 * b.length - N) + (N - m) by omega, Nat.pow_add, ← Nat.div_div_eq_div_mul, Nat.mul_div_cancel _ (two_pow_pos' _)]
  have e2 : bv (b.take q) / 2 ^ (8 * q - m) = V / 2 ^ (N - m) := by
    rw [bv_take hql, Nat.div_div_eq_div_mul, ← Nat.pow_add, show 8 * b.length - 8 * q + (8 * q - m) = 8 * b.length - m by omega, e1]
  have hsl : slc b 0 (w64 ((w64 ((m : Int) + 7)).tdiv 8)) = some (b.take q) := by
    rw [add7 _ (by omega), tdiv8 _ (by omega), ← hq, show (0 : Int) = ((0 : Nat) : Int) from rfl, slc_nat (by omega) hql, List.drop_zero]
  unfold bitio_Writer_Cut
  dsimp only
  rw [bifF (by simp; omega), hsl, bind_some, lett_eq, tmod8]
  by_cases hr : m % 8 = 0
  · refine ⟨b.take q, ?_, ?_⟩
    · rw [bifF (by simp; omega), bind_some]
    · have : 8 * q - m = 0 := by omega
      rw [this] at e2
      refine ⟨by rw [List.length_take]; omega, by rw [List.length_take]; omega, ?_⟩
      rw [← e2]; simp [List.length_take, Nat.min_eq_left hql, this]
  · have hne : b.take q ≠ [] := fun e => by
      have := congrArg List.length e
      rw [List.length_take, List.length_nil] at this; omega
    obtain ⟨i, e, hie⟩ : ∃ i e, b.take q = i ++ [e] := ⟨_, _, (List.dropLast_concat_getLast hne).symm⟩
    have hil : i.length + 1 = q := by
      have := congrArg List.length hie
      rw [List.length_take, List.length_append, List.length_singleton] at this; omega
    have hs : 8 - m % 8 = 8 * q - m := by omega
    have hs7 : 8 * q - m ≤ 7 := by omega
    have B1 : m % 8 ≤ 8 := by omega
    have T1 : (toU64 ((8 * q - m : Nat) : Int)).toNat = 8 * q - m := toU64_nat (by omega)
    have B2 : 1 ≤ (i ++ [e]).length := by simp
    have B3 : (i ++ [e]).length < 9223372036854775808 := by rw [List.length_append, List.length_singleton]; omega
    have B4 : (i ++ [e]).length - 1 = i.length := by simp
    refine ⟨i ++ [e &&& shlB (255 : UInt8) (8 * q - m)], ?_, ?_⟩
    · have hb1 : (0 : Int) < ((m % 8 : Nat) : Int) := by omega
      rw [bifT (decide_eq_true hb1), hie, show w64 (((i ++ [e]).length : Int) - 1) = (i.length : Int) from by rw [show (1 : Int) = ((1 : Nat) : Int) from rfl, w64_subN B2 B3, B4], idx_last, bind_some, bind_some, lett_eq,
        show (8 : Int) = ((8 : Nat) : Int) from rfl, w64_subN B1 (by decide), hs, T1, setI_last, bind_some, bind_some]
    · refine ⟨by rw [List.length_append, List.length_singleton]; omega, by rw [List.length_append, List.length_singleton]; omega, ?_⟩
      rw [List.length_append, List.length_singleton, hil, bv_snoc, maskHi _ _ hs7, ← e2, hie, bv_snoc]
      generalize 8 * q - m = s at *
      have h256 : 256 = 2 ^ (8 - s) * 2 ^ s := by rw [← Nat.pow_add, show 8 - s + s = 8 by omega]
      have e5 : (bv i * 2 ^ (8 - s) * 2 ^ s + e.toNat) / 2 ^ s = bv i * 2 ^ (8 - s) + e.toNat / 2 ^ s := by rw [Nat.add_comm, Nat.add_mul_div_right _ _ (two_pow_pos' _), Nat.add_comm]
      rw [h256, ← Nat.mul_assoc, e5, Nat.add_mul]
theorem cut_no {b : List UInt8} {N : Nat} {m : Int} (h : ¬ (0 ≤ m ∧ m ≤ (N : Int))) : bitio_Writer_Cut ⟨b, (N : Int)⟩ m = some (false, ⟨b, (N : Int)⟩) := by
  unfold bitio_Writer_Cut
  rw [bifT (by simp; omega)]

theorem some_loop (l : List law01_Put) (hl : l.length ≤ 1000000) : ∀ (m i : Nat), i + m = l.length → ∃ p, loop (law01_some_lp1 l) (i : Int) = some p ∧ (p = .go () → ∀ j (h : j < l.length), i ≤ j → l[j].B.length ≤ 40) ∧ (p = .go () ∨ p = .out false) := by
  intro m
  induction m with
  | zero =>
    intro i hi
    refine ⟨.go (), loop_brk ?_, fun _ j h h' => by omega, .inl rfl⟩
    unfold law01_some_lp1
    rw [bifF (by rw [decide_eq_false_iff_not]; omega)]
  | succ m ih =>
    intro i hi
    have hlt : i < l.length := by omega
    by_cases hB : 40 < (l[i].B.length : Int)
    · refine ⟨.out false, loop_out ?_, (fun h => by cases h), .inr rfl⟩
      unfold law01_some_lp1
      rw [bifT (by rw [decide_eq_true_eq]; omega), idx_nat hlt, bind_some, bifT (by simpa using hB)]
      rfl
    · obtain ⟨p, h1, h2, h3⟩ := ih (i + 1) (by omega)
      refine ⟨p, ?_, fun hp j hj hij => ?_, h3⟩
      · rw [loop_next (s' := ((i + 1 : Nat) : Int)), h1]
        unfold law01_some_lp1
        rw [bifT (by rw [decide_eq_true_eq]; omega), idx_nat hlt, bind_some, bifF (by simpa using hB), lett_eq, w64_succ (by omega)]
      · by_cases e : i = j
        · subst e; omega
        · exact h2 hp j hj (by omega)
theorem some_eq (l : List law01_Put) : ∃ t, law01_some l = some t ∧ (t = true → l.length ≤ 100 ∧ ∀ j (h : j < l.length), l[j].B.length ≤ 40) := by
  unfold law01_some
  by_cases h : 100 < (l.length : Int)
  · exact ⟨false, by rw [bifT (by simpa using h)], fun h => by cases h⟩
  · obtain ⟨p, h1, h2, h3⟩ := some_loop l (by omega) l.length 0 (by omega)
    have h1' : loop (law01_some_lp1 l) 0 = some p := h1
    rcases h3 with rfl | rfl
    · exact ⟨true, by rw [bifF (by simpa using h), h1']; rfl, fun _ => ⟨by omega, fun j hj => h2 rfl j hj (by omega)⟩⟩
    · exact ⟨false, by rw [bifF (by simpa using h), h1']; rfl, fun h => by cases h⟩

theorem bytes_same {c : List UInt8} {L : List Int} (hw : WA c L.length (dv L)) (hb : Bit L) (hL : L.length ≤ 1000000000) : ref01_Bytes L = some c := by
  obtain ⟨b, h1, h2⟩ := bytes_eq hb hL
  rw [h1, WA.inj h2 hw]
theorem WA.len {c : List UInt8} {N V : Nat} (h : WA c N V) (hN : N ≤ 1000000000) : c.length ≤ 17179869184 := by have := h.lt; omega

theorem bitsPut_round (a0 : List law01_Put) (i : Nat) (hi : i < a0.length) (hl : a0.length ≤ 1000) (hB : a0[i].B.length ≤ 40) (c : List UInt8) (L : List Int) (hb : Bit L) (hL : L.length ≤ 1000000) (hw : WA c L.length (dv L)) :
    ∃ c' L', Bit L' ∧ L'.length ≤ L.length + 320 ∧ WA c' L'.length (dv L') ∧ law01_BitsPut_lp1 a0 (c, (L.length : Int), L, (i : Int)) = some (.next (c', (L'.length : Int), L', ((i + 1 : Nat) : Int))) := by
  have hi1 : i + 1 < 9223372036854775808 := by omega
  have tail : ∀ (c' : List UInt8) (L' : List Int), Bit L' → L'.length ≤ L.length + 320 → WA c' L'.length (dv L') → bitio_Writer_Bytes ⟨c', (L'.length : Int)⟩ = some c' ∧ ref01_Bytes L' = some c' ∧ bitio_Writer_Len ⟨c', (L'.length : Int)⟩ = some (L'.length : Int) := by
    intro c' L' hb' hl' hw'
    refine ⟨?_, bytes_same hw' hb' (by omega), rfl⟩
    unfold bitio_Writer_Bytes
    rw [clone_eq (hw'.len (by omega))]; rfl
  unfold law01_BitsPut_lp1
  dsimp only
  rw [bifT (by rw [decide_eq_true_eq]; omega), idx_nat hi, bind_some, lett_eq]
  generalize a0[i] = e at hB
  obtain ⟨K, v, n, B⟩ := e
  dsimp only at hB ⊢
  by_cases k0 : K = 0
  · rw [bifT (by simpa using k0)]
    by_cases hok : 0 ≤ n ∧ n ≤ 64 ∧ v.toNat < 2 ^ n.toNat
    · obtain ⟨m, rfl⟩ : ∃ m : Nat, n = (m : Int) := ⟨n.toNat, by omega⟩
      rw [Int.toNat_natCast] at hok
      obtain ⟨row, r1, r2, r3, r4⟩ := row_ok (v := v) (n := m) (by omega)
      obtain ⟨c', p1, p2⟩ := put_ok hw (n := m) (by omega) (by omega) hok.2.2
      rw [decide_eq_true hok.2.2] at r1
      rw [Nat.mod_eq_of_lt hok.2.2] at r4
      have hw' : WA c' (L ++ row).length (dv (L ++ row)) := by rw [dv_append, List.length_append, r2, r4]; exact p2
      obtain ⟨t1, t2, t3⟩ := tail c' (L ++ row) (hb.app r3) (by rw [List.length_append]; omega) hw'
      refine ⟨c', L ++ row, hb.app r3, by rw [List.length_append]; omega, hw', ?_⟩
      have hlen : ((L.length + m : Nat) : Int) = ((L ++ row).length : Int) := by rw [List.length_append, r2]
      rw [hlen] at p1
      rw [r1, bind_some, p1, bind_some]
      dsimp only
      rw [bifF (by simp), cond_true, app_ok (by omega), bind_some, flow_go]
      dsimp only
      rw [t3, bind_some, bifF (by simp), t1, bind_some, t2, bind_some, bind_some, bifF (by simp), lett_eq, w64_succ hi1]
    · obtain ⟨t1, t2, t3⟩ := tail c L hb (by omega) hw
      refine ⟨c, L, hb, by omega, hw, ?_⟩
      have hrow : ∃ row, ref01_Row v n = some (row, false) := by
        by_cases hr : n < 0 ∨ 64 < n
        · exact ⟨_, row_no hr⟩
        · obtain ⟨m, rfl⟩ : ∃ m : Nat, n = (m : Int) := ⟨n.toNat, by omega⟩
          obtain ⟨row, r1, _⟩ := row_ok (v := v) (n := m) (by omega)
          rw [Int.toNat_natCast] at hok
          rw [decide_eq_false (by omega)] at r1
          exact ⟨row, r1⟩
      obtain ⟨row, hrow⟩ := hrow
      rw [hrow, bind_some, put_no hok, bind_some]
      dsimp only
      rw [bifF (by simp), cond_false, flow_go]
      dsimp only
      rw [t3, bind_some, bifF (by simp), t1, bind_some, t2, bind_some, bind_some, bifF (by simp), lett_eq, w64_succ hi1]
  rw [bifF (by simpa using k0), lett_eq]
  by_cases k1 : K = 1
  · rw [bifT (by simpa using k1), lett_eq, w64_8 (by omega)]
    by_cases hok : 0 ≤ n ∧ n ≤ 8 * (B.length : Int)
    · obtain ⟨m, rfl⟩ : ∃ m : Nat, n = (m : Int) := ⟨n.toNat, by omega⟩
      have hm : m ≤ 8 * B.length := by omega
      obtain ⟨c', p1, p2⟩ := putBits_ok hw hm (by omega) (by omega)
      have hbl := bitsOf_len B
      have r2 : ((bitsOf B).take m).length = m := by rw [List.length_take]; omega
      have r3 := (bitsOf_bit B).take m
      have r4 : dv ((bitsOf B).take m) = bv B / 2 ^ (8 * B.length - m) := by
        have h := dv_part (bitsOf_bit B) (a := 0) (n := m) (by omega)
        rw [Nat.zero_add, List.drop_zero, bitsOf_dv, hbl, Nat.sub_zero] at h
        rw [h, Nat.mod_eq_of_lt]
        rw [Nat.div_lt_iff_lt_mul (two_pow_pos' _), ← Nat.pow_add, show m + (8 * B.length - m) = 8 * B.length by omega, ← p256]
        exact bv_lt B
      have hw' : WA c' (L ++ (bitsOf B).take m).length (dv (L ++ (bitsOf B).take m)) := by rw [dv_append, List.length_append, r2, r4]; exact p2
      obtain ⟨t1, t2, t3⟩ := tail c' _ (hb.app r3) (by rw [List.length_append]; omega) hw'
      refine ⟨c', L ++ (bitsOf B).take m, hb.app r3, by rw [List.length_append]; omega, hw', ?_⟩
      have hlen : ((L.length + m : Nat) : Int) = ((L ++ (bitsOf B).take m).length : Int) := by rw [List.length_append, r2]
      rw [hlen] at p1
      have his : (decide (0 ≤ (m : Int)) && decide ((m : Int) ≤ 8 * (B.length : Int))) = true := by simp; omega
      rw [his, p1, bind_some]
      dsimp only
      rw [bifF (by simp), cond_true, bits_eq (by omega), bind_some, show (0 : Int) = ((0 : Nat) : Int) from rfl, slc_nat (by omega) (by omega), bind_some, List.drop_zero, app_ok (by omega), bind_some, flow_go]
      dsimp only
      rw [t3, bind_some, bifF (by simp), t1, bind_some, t2, bind_some, bind_some, bifF (by simp), lett_eq, w64_succ hi1]
    · obtain ⟨t1, t2, t3⟩ := tail c L hb (by omega) hw
      refine ⟨c, L, hb, by omega, hw, ?_⟩
      have his : (decide (0 ≤ n) && decide (n ≤ 8 * (B.length : Int))) = false := by rw [← Bool.decide_and]; exact decide_eq_false hok
      rw [his, putBits_no (by omega) hok, bind_some]
      dsimp only
      rw [bifF (by simp), cond_false, flow_go]
      dsimp only
      rw [t3, bind_some, bifF (by simp), t1, bind_some, t2, bind_some, bind_some, bifF (by simp), lett_eq, w64_succ hi1]
  rw [bifF (by simpa using k1), lett_eq]
  by_cases k2 : K = 2
  · rw [bifT (by simpa using k2), lett_eq]
    by_cases hok : 0 ≤ n ∧ n ≤ (L.length : Int)
    · obtain ⟨m, rfl⟩ : ∃ m : Nat, n = (m : Int) := ⟨n.toNat, by omega⟩
      have hm : m ≤ L.length := by omega
      obtain ⟨c', p1, p2⟩ := cut_ok hw hm (by omega)
      have r2 : (L.take m).length = m := by rw [List.length_take]; omega
      have r3 := hb.take m
      have r4 : dv (L.take m) = dv L / 2 ^ (L.length - m) := by
        have h := dv_part hb (a := 0) (n := m) (by omega)
        rw [Nat.zero_add, List.drop_zero, Nat.sub_zero] at h
        rw [h, Nat.mod_eq_of_lt]
        rw [Nat.div_lt_iff_lt_mul (two_pow_pos' _), ← Nat.pow_add, show m + (L.length - m) = L.length by omega]
        exact dv_lt hb
      have hw' : WA c' (L.take m).length (dv (L.take m)) := by rw [r2, r4]; exact p2
      obtain ⟨t1, t2, t3⟩ := tail c' _ r3 (by omega) hw'
      refine ⟨c', L.take m, r3, by omega, hw', ?_⟩
      have his : (decide (0 ≤ (m : Int)) && decide ((m : Int) ≤ (L.length : Int))) = true := by simp; omega
      have p1' : bitio_Writer_Cut ⟨c, (L.length : Int)⟩ (m : Int) = some (true, ⟨c', ((L.take m).length : Int)⟩) := by rw [p1, r2]
      rw [his, p1', bind_some]
      dsimp only
      rw [bifF (by simp), cond_true, show (0 : Int) = ((0 : Nat) : Int) from rfl, slc_nat (by omega) (by omega), bind_some, List.drop_zero, app_ok (by simp; omega), bind_some, List.nil_append, flow_go]
      dsimp only
      rw [t3, bind_some, bifF (by simp), t1, bind_some, t2, bind_some, bind_some, bifF (by simp), lett_eq, w64_succ hi1]
    · obtain ⟨t1, t2, t3⟩ := tail c L hb (by omega) hw
      refine ⟨c, L, hb, by omega, hw, ?_⟩
      have his : (decide (0 ≤ n) && decide (n ≤ (L.length : Int))) = false := by rw [← Bool.decide_and]; exact decide_eq_false hok
      rw [his, cut_no hok, bind_some]
      dsimp only
      rw [bifF (by simp), cond_false, flow_go]
      dsimp only
      rw [t3, bind_some, bifF (by simp), t1, bind_some, t2, bind_some, bind_some, bifF (by simp), lett_eq, w64_succ hi1]
  · obtain ⟨t1, t2, t3⟩ := tail c L hb (by omega) hw
    refine ⟨c, L, hb, by omega, hw, ?_⟩
    rw [bifF (by simpa using k2), flow_go]
    dsimp only
    rw [t3, bind_some, bifF (by simp), t1, bind_some, t2, bind_some, bind_some, bifF (by simp), lett_eq, w64_succ hi1]
theorem bitsPut (a0 : List law01_Put) : law01_BitsPut a0 = some true := by
  unfold law01_BitsPut
  rw [awake01, bind_some, bifF (by rfl)]
  obtain ⟨t, h1, h2⟩ := some_eq a0
  rw [h1, bind_some]
  cases t with
  | false => rfl
  | true =>
    obtain ⟨hl, hB⟩ := h2 rfl
    have key : ∀ (m i : Nat) (c : List UInt8) (L : List Int), i + m = a0.length → Bit L → L.length ≤ 320 * i → WA c L.length (dv L) → loop (law01_BitsPut_lp1 a0) (c, (L.length : Int), L, (i : Int)) = some (.go ()) := by
      intro m
      induction m with
      | zero =>
        intro i c L hi _ _ _
        refine loop_brk ?_
        unfold law01_BitsPut_lp1
        dsimp only
        rw [bifF (by rw [decide_eq_false_iff_not]; omega)]
      | succ m ih =>
        intro i c L hi hb hL hw
        have hlt : i < a0.length := by omega
        obtain ⟨c', L', b1, b2, b3, b4⟩ := bitsPut_round a0 i hlt (by omega) (hB i hlt) c L hb (by omega) hw
        rw [loop_next b4]
        exact ih (i + 1) c' L' (by omega) b1 (by omega) b3
    have h0 := key a0.length 0 [] [] (by omega) Bit.nil (by simp) (by simpa [dv_nil] using WA.new)
    have h0' : loop (law01_BitsPut_lp1 a0) ([], 0, [], 0) = some (.go ()) := h0
    rw [bifF (by rfl)]
    show flow (loop (law01_BitsPut_lp1 a0) ([], 0, [], 0)) _ = _
    rw [h0']
    rfl

/-! ### LAW 01, BitsBack -/
def bOk (v : UInt64) (n : Int) : Bool := decide (0 ≤ n ∧ n ≤ 64 ∧ v.toNat < 2 ^ n.toNat)
/-- how many bits stand behind the first i puts, and what they tell -/
def bN (l : List UInt64) (s : List Int) : Nat → Nat
  | 0 => 0
  | i + 1 => if bOk (l.getD i 0) (s.getD i 0) then bN l s i + (s.getD i 0).toNat else bN l s i
def bV (l : List UInt64) (s : List Int) : Nat → Nat
  | 0 => 0
  | i + 1 => if bOk (l.getD i 0) (s.getD i 0) then bV l s i * 2 ^ (s.getD i 0).toNat + (l.getD i 0).toNat else bV l s i
theorem bN_le (l : List UInt64) (s : List Int) : ∀ i, bN l s i ≤ 64 * i
  | 0 => by simp [bN]
  | i + 1 => by
    have := bN_le l s i
    rw [bN]; split
    · rename_i h; unfold bOk at h; rw [decide_eq_true_eq] at h; omega
    · omega
theorem bN_mono (l : List UInt64) (s : List Int) (i : Nat) : ∀ k, bN l s i ≤ bN l s (i + k) ∧ bV l s (i + k) / 2 ^ (bN l s (i + k) - bN l s i) = bV l s i
  | 0 => by simp
  | k + 1 => by
    obtain ⟨h1, h2⟩ := bN_mono l s i k
    rw [← Nat.add_assoc, bN, bV]
    split
    · rename_i h
      unfold bOk at h; rw [decide_eq_true_eq] at h
      obtain ⟨_, _, h3⟩ := h
      generalize (s.getD (i + k) 0).toNat = n at *
      refine ⟨by omega, ?_⟩
      rw [show bN l s (i + k) + n - bN l s i = n + (bN l s (i + k) - bN l s i) by omega, Nat.pow_add, ← Nat.div_div_eq_div_mul, Nat.add_comm, Nat.add_mul_div_right _ _ (two_pow_pos' _), Nat.div_eq_of_lt h3, Nat.zero_add, h2]
    · exact ⟨h1, h2⟩
theorem getD_lt {α : Type} {l : List α} {i : Nat} (h : i < l.length) (d : α) : l.getD i d = l[i] := by simp [List.getD, h]
theorem back_put (l : List UInt64) (s : List Int) (hl : l.length ≤ 1000) (hs : l.length ≤ s.length) : ∀ (m i : Nat) (c : List UInt8) (is : List Bool), i + m = l.length → WA c (bN l s i) (bV l s i) → is = (List.range i).map (fun j => bOk (l.getD j 0) (s.getD j 0)) →
    ∃ c', loop (law01_BitsBack_lp1 l s) (c, (bN l s i : Int), is, (i : Int)) = some (.go (c', (bN l s l.length : Int), (List.range l.length).map (fun j => bOk (l.getD j 0) (s.getD j 0)))) ∧ WA c' (bN l s l.length) (bV l s l.length) := by
  intro m
  induction m with
  | zero =>
    intro i c is hi hw his
    obtain rfl : i = l.length := by omega
    refine ⟨c, loop_brk ?_, hw⟩
    unfold law01_BitsBack_lp1
    dsimp only
    rw [bifF (by rw [decide_eq_false_iff_not]; omega), his]
  | succ m ih =>
    intro i c is hi hw his
    have hlt : i < l.length := by omega
    have hlt2 : i < s.length := by omega
    have hN := bN_le l s i
    have hi1 : i + 1 < 9223372036854775808 := by omega
    have hsl : is.length = i := by rw [his]; simp
    have step : ∃ c', bitio_Writer_Put ⟨c, (bN l s i : Int)⟩ l[i] s[i] = some (bOk (l.getD i 0) (s.getD i 0), ⟨c', (bN l s (i + 1) : Int)⟩) ∧ WA c' (bN l s (i + 1)) (bV l s (i + 1)) := by
      rw [bN, bV, getD_lt hlt, getD_lt hlt2]
      by_cases h : 0 ≤ s[i] ∧ s[i] ≤ 64 ∧ (l[i]).toNat < 2 ^ (s[i]).toNat
      · have hb : bOk l[i] s[i] = true := decide_eq_true h
        rw [if_pos hb, if_pos hb, hb]
        generalize s[i] = n at *
        obtain ⟨k, rfl⟩ : ∃ k : Nat, n = (k : Int) := ⟨n.toNat, by omega⟩
        rw [Int.toNat_natCast] at h ⊢
        exact put_ok hw (by omega) (by omega) h.2.2
      · have hb : bOk l[i] s[i] = false := decide_eq_false h
        rw [hb]
        exact ⟨c, put_no h, hw⟩
    obtain ⟨c', p1, p2⟩ := step
    have hr : law01_BitsBack_lp1 l s (c, (bN l s i : Int), is, (i : Int)) = some (.next (c', (bN l s (i + 1) : Int), is ++ [bOk (l.getD i 0) (s.getD i 0)], ((i + 1 : Nat) : Int))) := by
      unfold law01_BitsBack_lp1
      dsimp only
      rw [bifT (by rw [decide_eq_true_eq]; omega), idx_nat hlt, bind_some, idx_nat hlt2, bind_some, p1, bind_some]
      dsimp only
      rw [app_ok (by simp; omega), bind_some, lett_eq, w64_succ hi1]
    rw [loop_next hr]
    exact ih (i + 1) c' _ (by omega) p2 (by rw [his, List.range_succ, List.map_append]; rfl)
theorem back_take (l : List UInt64) (s : List Int) (hl : l.length ≤ 1000) (hs : l.length ≤ s.length) (c : List UInt8) (hw : WA c (bN l s l.length) (bV l s l.length)) (hc : c.length ≤ 100000) :
    ∀ (m i : Nat), i + m = l.length → loop (law01_BitsBack_lp2 l s ((List.range l.length).map (fun j => bOk (l.getD j 0) (s.getD j 0)))) (c, (bN l s l.length : Int), (bN l s i : Int), (i : Int)) = some (.go (c, (bN l s l.length : Int), (bN l s l.length : Int))) := by
  intro m
  induction m with
  | zero =>
    intro i hi
    obtain rfl : i = l.length := by omega
    refine loop_brk ?_
    unfold law01_BitsBack_lp2
    dsimp only
    rw [bifF (by rw [decide_eq_false_iff_not]; omega)]
  | succ m ih =>
    intro i hi
    have hlt : i < l.length := by omega
    have hlt2 : i < s.length := by omega
    have hi1 : i + 1 < 9223372036854775808 := by omega
    have hm1 := bN_mono l s i (l.length - i)
    have hm2 := bN_mono l s (i + 1) (l.length - (i + 1))
    rw [show i + (l.length - i) = l.length by omega] at hm1
    rw [show i + 1 + (l.length - (i + 1)) = l.length by omega] at hm2
    have hid : idx ((List.range l.length).map (fun j => bOk (l.getD j 0) (s.getD j 0))) (i : Int) = some (bOk (l.getD i 0) (s.getD i 0)) := by
      rw [idx_nat (by simpa using hlt)]; simp
    have hr : law01_BitsBack_lp2 l s ((List.range l.length).map (fun j => bOk (l.getD j 0) (s.getD j 0))) (c, (bN l s l.length : Int), (bN l s i : Int), (i : Int)) = some (.next (c, (bN l s l.length : Int), (bN l s (i + 1) : Int), ((i + 1 : Nat) : Int))) := by
      unfold law01_BitsBack_lp2
      dsimp only
      rw [bifT (by rw [decide_eq_true_eq]; omega), hid, bind_some]
      rw [bN, bV, getD_lt hlt, getD_lt hlt2] at hm2
      rw [bN, getD_lt hlt, getD_lt hlt2]
      by_cases h : 0 ≤ s[i] ∧ s[i] ≤ 64 ∧ (l[i]).toNat < 2 ^ (s[i]).toNat
      · have hb : bOk l[i] s[i] = true := decide_eq_true h
        rw [if_pos hb, if_pos hb] at hm2
        rw [if_pos hb, hb, bifF (by rfl), idx_nat hlt2, bind_some]
        generalize hsn : s[i] = n at *
        obtain ⟨k, rfl⟩ : ∃ k : Nat, n = (k : Int) := ⟨n.toNat, by omega⟩
        rw [Int.toNat_natCast] at h hm2 ⊢
        obtain ⟨v, t1, t2⟩ := take_eq (b := c) (n := bN l s l.length) (at' := bN l s i) (k := (k : Int)) (by omega) hw.le hm1.1
        have hok : lookOk (bN l s l.length) (bN l s i) (k : Int) = true := by unfold lookOk; rw [decide_eq_true_eq]; omega
        rw [hok, if_pos rfl, Int.toNat_natCast] at t1 t2
        have hv : v = l[i] := by
          apply UInt64.toNat_inj.1
          rw [t2]
          unfold lookV
          have hle := hw.le
          rw [hw.val, show 8 * c.length - bN l s i - k = (8 * c.length - bN l s l.length) + (bN l s l.length - (bN l s i + k)) by omega, Nat.pow_add, ← Nat.div_div_eq_div_mul, Nat.mul_div_cancel _ (two_pow_pos' _), hm2.2,
            Nat.add_comm, Nat.add_mul_mod_self_right, Nat.mod_eq_of_lt h.2.2]
        rw [t1, bind_some]
        dsimp only
        rw [bifF (by rfl), idx_nat hlt, bind_some, bind_some, bifF (by simp [hv]), flow_go]
        dsimp only
        rw [lett_eq, w64_succ hi1]
      · have hb : bOk l[i] s[i] = false := decide_eq_false h
        rw [hb, bifT (by rfl), flow_go]
        dsimp only
        rw [lett_eq, w64_succ hi1]
        rfl
    rw [loop_next hr]
    exact ih (i + 1) (by omega)
theorem back_zero : ∀ (m i : Nat) (b : List UInt8), i + m = b.length → b.length ≤ 1000000 → ∃ b', loop law01_BitsBack_lp3 (b, (i : Int)) = some (.go b') ∧ b'.length = b.length := by
  intro m
  induction m with
  | zero =>
    intro i b hi _
    refine ⟨b, loop_brk ?_, rfl⟩
    unfold law01_BitsBack_lp3
    dsimp only
    rw [bifF (by rw [decide_eq_false_iff_not]; omega)]
  | succ m ih =>
    intro i b hi hb
    have hlt : i < b.length := by omega
    obtain ⟨b', h1, h2⟩ := ih (i + 1) (b.set i 0) (by simp; omega) (by simpa using hb)
    refine ⟨b', ?_, by simpa using h2⟩
    rw [loop_next (s' := (b.set i 0, ((i + 1 : Nat) : Int))), h1]
    unfold law01_BitsBack_lp3
    dsimp only
    rw [bifT (by rw [decide_eq_true_eq]; omega), idx_nat hlt, bind_some, setI_nat hlt, bind_some, lett_eq, w64_succ (by omega)]
theorem bitsBack (a0 : List UInt64) (a1 : List Int) : law01_BitsBack a0 a1 = some true := by
  unfold law01_BitsBack
  rw [awake01, bind_some, bifF (by rfl)]
  by_cases h : 100 < (a0.length : Int) ∨ (a1.length : Int) < (a0.length : Int)
  · rw [bifT (by simpa using h)]
  obtain ⟨c, h1, h2⟩ := back_put a0 a1 (by omega) (by omega) a0.length 0 [] [] (by omega) (by simpa [bN, bV] using WA.new) rfl
  have h1' : loop (law01_BitsBack_lp1 a0 a1) ([], 0, [], 0) = _ := h1
  have hN := bN_le a0 a1 a0.length
  have hlt := h2.lt
  have hle := h2.le
  have hE : openE c (bN a0 a1 a0.length : Int) = 0 := by
    unfold openE
    rw [if_neg (by omega), if_neg (by omega), if_neg (by omega), Int.toNat_natCast, h2.val, Nat.mul_mod_left, if_pos rfl]
  have hrd : bitio_NewReader c (bN a0 a1 a0.length : Int) = some (some ⟨c, (bN a0 a1 a0.length : Int), 0⟩, 0) := by
    rw [newReader_eq (by unfold I64; omega) (by omega), hE]; rfl
  have hby : bitio_Writer_Bytes ⟨c, (bN a0 a1 a0.length : Int)⟩ = some c := by
    unfold bitio_Writer_Bytes
    rw [clone_eq (by dsimp only; omega)]; rfl
  have htk := back_take a0 a1 (by omega) (by omega) c h2 (by omega) a0.length 0 (by omega)
  have htk' : loop (law01_BitsBack_lp2 a0 a1 ((List.range a0.length).map (fun j => bOk (a0.getD j 0) (a1.getD j 0)))) (c, (bN a0 a1 a0.length : Int), 0, 0) = _ := htk
  obtain ⟨b', z1, z2⟩ := back_zero c.length 0 c (by omega) (by omega)
  have z1' : loop law01_BitsBack_lp3 (c, 0) = some (.go b') := z1
  have hlen : bitio_Writer_Len ⟨c, (bN a0 a1 a0.length : Int)⟩ = some (bN a0 a1 a0.length : Int) := rfl
  have hlf : bitio_Reader_Left ⟨c, (bN a0 a1 a0.length : Int), (bN a0 a1 a0.length : Int)⟩ = some 0 := by
    unfold bitio_Reader_Left
    dsimp only
    rw [lett_eq, Int.sub_self, w64_id (by omega) (by omega)]
  have hw8 : w64 ((w64 (8 * (b'.length : Int))) - 8) = 8 * (c.length : Int) - 8 := by rw [w64_8 (by omega), w64_id (by omega) (by omega), z2]
  rw [bifF (by simpa using h), show bitio_NewWriter = some ⟨[], 0⟩ from rfl, bind_some]
  dsimp only
  rw [h1', flow_go]
  dsimp only
  rw [bind_some]
  dsimp only
  rw [hby, bind_some, hlen, bind_some, hrd, bind_some]
  dsimp only
  rw [bifF (by rfl), bind_some]
  dsimp only
  rw [htk', flow_go]
  dsimp only
  rw [flow_go]
  dsimp only
  rw [z1', flow_go, bind_some, hlf, bind_some, bifT (by rfl)]
  by_cases hz : (b'.length : Int) = 0
  · rw [bifT (by simpa using hz)]; rfl
  · rw [bifF (by simpa using hz), hw8, bind_some, bind_some, bind_some]
    simp; omega
end Go.Lg
