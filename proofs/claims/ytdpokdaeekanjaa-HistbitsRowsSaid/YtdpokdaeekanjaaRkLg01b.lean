/- Lemmas about the given model and about plain data, which the rows stand on: no statement of the program by itself. -/
import Derived.Test.YtdpokdaeekanjaaRkLg01
set_option linter.unusedVariables false
namespace Go.Lg
attribute [local irreducible] w64 toU64 toU8 shlU shrU shlB shrB
theorem dv_inj {l m : List Int} (hl : Bit l) (hm : Bit m) (h : l.length = m.length) (hv : dv l = dv m) : l = m := by
  induction l generalizing m with
  | nil => exact (List.eq_nil_of_length_eq_zero h.symm).symm
  | cons x l ih =>
    match m, h with
    | y :: m, h =>
      have hl' : Bit l := fun z hz => hl z (by simp [hz])
      have hm' : Bit m := fun z hz => hm z (by simp [hz])
      have h' : l.length = m.length := by simpa using h
      rw [dv_cons, dv_cons, h'] at hv
      have b1 := dv_lt hl'
      have b2 := dv_lt hm'
      rw [h'] at b1
      have hx := hl x (by simp)
      have hy := hm y (by simp)
      have hxy : x = y := by
        rcases hx with e | e <;> rcases hy with f | f <;> subst e <;> subst f <;> simp at hv <;> first | rfl | omega
      subst hxy
      rw [ih hl' hm' h' (by omega)]
/-- n bits of a number, the highest first -/
def rowN (v : Nat) : Nat → List Int
  | 0 => []
  | n + 1 => ((v / 2 ^ n % 2 : Nat) : Int) :: rowN v n
theorem rowN_len (v : Nat) : ∀ n, (rowN v n).length = n
  | 0 => rfl
  | n + 1 => by rw [rowN, List.length_cons, rowN_len v n]
theorem rowN_bit (v : Nat) : ∀ n, Bit (rowN v n)
  | 0 => Bit.nil
  | n + 1 => fun x hx => by
    rcases List.mem_cons.1 hx with e | e
    · subst e; omega
    · exact rowN_bit v n x e
theorem rowN_dv (v : Nat) : ∀ n, dv (rowN v n) = v % 2 ^ n
  | 0 => by simp [rowN, dv, Nat.mod_one]
  | n + 1 => by
    rw [rowN, dv_cons, rowN_len, rowN_dv v n, Int.toNat_natCast]
    have := div_mod_join v 0 1 n
    simp only [Nat.zero_add, Nat.pow_zero, Nat.div_one, Nat.pow_one] at this
    rw [this, Nat.add_comm]
theorem rowN_of {l : List Int} (h : Bit l) {v : Nat} (hv : dv l = v % 2 ^ l.length) : l = rowN v l.length :=
  dv_inj h (rowN_bit _ _) (rowN_len _ _).symm (by rw [rowN_dv, hv])
theorem row_eq {v : UInt64} {n : Nat} (hn : n ≤ 64) : ref01_Row v (n : Int) = some (rowN v.toNat n, decide (v.toNat < 2 ^ n)) := by
  obtain ⟨out, h1, h2, h3, h4⟩ := row_ok (v := v) hn
  have := rowN_of h3 (v := v.toNat) (by rw [h4, h2])
  rw [h1, this, h2]
/-! ### a writer that holds a row of bits; a reader of one -/
structure WR (w : bitio_Writer) (L : List Int) : Prop where
  n : w.n = (L.length : Int)
  a : WA w.b L.length (dv L)
  bit : Bit L
  small : L.length ≤ 1000000
theorem WR.new : WR ⟨[], 0⟩ [] := ⟨rfl, by simpa [dv_nil] using WA.new, Bit.nil, by simp⟩
theorem WR.eq {w : bitio_Writer} {L : List Int} (h : WR w L) : w = ⟨w.b, (L.length : Int)⟩ := by rw [← h.n]
theorem WR.len {w : bitio_Writer} {L : List Int} (h : WR w L) : bitio_Writer_Len w = some (L.length : Int) := by unfold bitio_Writer_Len; rw [h.n]
theorem WR.bytes {w : bitio_Writer} {L : List Int} (h : WR w L) : bitio_Writer_Bytes w = some w.b := by
  unfold bitio_Writer_Bytes
  rw [clone_eq (h.a.len (by have := h.small; omega))]; rfl
theorem WR.ref {w : bitio_Writer} {L : List Int} (h : WR w L) : ref01_Bytes L = some w.b := bytes_same h.a h.bit (by have := h.small; omega)
theorem WR.put {w : bitio_Writer} {L : List Int} (h : WR w L) {v : UInt64} {n : Nat} (hn : n ≤ 64) (hv : v.toNat < 2 ^ n) (hs : L.length + n ≤ 1000000) :
    ∃ w', bitio_Writer_Put w v (n : Int) = some (true, w') ∧ WR w' (L ++ rowN v.toNat n) := by
  obtain ⟨b', h1, h2⟩ := put_ok h.a (n := n) (by omega) hn hv
  refine ⟨_, by rw [h.eq]; exact h1, ?_, ?_, h.bit.app (rowN_bit _ _), by rw [List.length_append, rowN_len]; exact hs⟩
  · dsimp only; rw [List.length_append, rowN_len]
  · dsimp only; rw [List.length_append, dv_append, rowN_len, rowN_dv, Nat.mod_eq_of_lt hv]; exact h2
theorem WR.cut {w : bitio_Writer} {L : List Int} (h : WR w L) {m : Nat} (hm : m ≤ L.length) : ∃ w', bitio_Writer_Cut w (m : Int) = some (true, w') ∧ WR w' (L.take m) := by
  obtain ⟨b', h1, h2⟩ := cut_ok h.a hm (by have := h.small; omega)
  have hl : (L.take m).length = m := by rw [List.length_take]; omega
  refine ⟨_, by rw [h.eq]; exact h1, by rw [hl], ?_, h.bit.take m, by have := h.small; omega⟩
  dsimp only
  rw [hl]
  have hp := dv_part h.bit (a := 0) (n := m) (by omega)
  rw [Nat.zero_add, List.drop_zero, Nat.sub_zero] at hp
  rw [hp, Nat.mod_eq_of_lt]
  · exact h2
  · rw [Nat.div_lt_iff_lt_mul (two_pow_pos' _), ← Nat.pow_add, show m + (L.length - m) = L.length by omega]
    exact dv_lt h.bit
structure RA (r : bitio_Reader) (A : List Int) (p : Nat) : Prop where
  n : r.n = (A.length : Int)
  at_ : r.at_ = (p : Int)
  le : p ≤ A.length
  len : A.length ≤ 8 * r.b.length
  small : r.b.length ≤ 1000000
  bits : (bitsOf r.b).take A.length = A
theorem RA.eq {r : bitio_Reader} {A : List Int} {p : Nat} (h : RA r A p) : r = ⟨r.b, (A.length : Int), (p : Int)⟩ := by rw [← h.n, ← h.at_]
theorem RA.bit {r : bitio_Reader} {A : List Int} {p : Nat} (h : RA r A p) : Bit A := by rw [← h.bits]; exact (bitsOf_bit _).take _
theorem RA.at' {r : bitio_Reader} {A : List Int} {p : Nat} (h : RA r A p) : bitio_Reader_At r = some (p : Int) := by unfold bitio_Reader_At; rw [h.at_]
theorem RA.left {r : bitio_Reader} {A : List Int} {p : Nat} (h : RA r A p) : bitio_Reader_Left r = some ((A.length - p : Nat) : Int) := by
  have := h.le; have := h.len; have := h.small
  unfold bitio_Reader_Left
  rw [h.n, h.at_, lett_eq, w64_subN h.le (by omega)]
theorem RA.moved {r : bitio_Reader} {A : List Int} {p q : Nat} (h : RA r A p) (hq : q ≤ A.length) : RA ⟨r.b, (A.length : Int), (q : Int)⟩ A q := ⟨rfl, rfl, hq, h.len, h.small, h.bits⟩
theorem RA.lookV {r : bitio_Reader} {A : List Int} {p : Nat} (h : RA r A p) {k : Nat} (hk : p + k ≤ A.length) : lookV r.b p k = dv ((A.drop p).take k) := by
  have hl := bitsOf_len r.b
  have := h.len
  have h1 := dv_part (bitsOf_bit r.b) (a := p) (n := k) (by omega)
  rw [bitsOf_dv, hl] at h1
  unfold Lg.lookV
  rw [← h1]
  congr 1
  have e : (A.drop p).take k = (A.take (p + k)).drop p := by rw [List.drop_take]; congr 1; omega
  have e2 : A.take (p + k) = (bitsOf r.b).take (p + k) := by
    conv => lhs; rw [← h.bits]
    rw [List.take_take, Nat.min_eq_left hk]
  rw [e, e2]
/-- looked at: what is there, or not -/
theorem RA.look {r : bitio_Reader} {A : List Int} {p : Nat} (h : RA r A p) {k : Nat} (hk : k ≤ 64) (hp : p + k ≤ A.length) : bitio_Reader_Look r (k : Int) = some (UInt64.ofNat (dv ((A.drop p).take k)), true) := by
  obtain ⟨v, h1, h2⟩ := look_eq (b := r.b) (n := A.length) (at' := p) (k := (k : Int)) h.small h.len h.le
  have hok : lookOk A.length p (k : Int) = true := by unfold lookOk; rw [decide_eq_true_eq]; omega
  rw [hok, if_pos rfl, Int.toNat_natCast, h.lookV hp] at h2
  rw [hok] at h1
  rw [h.eq, h1, ← h2]
  simp
theorem RA.lookNo {r : bitio_Reader} {A : List Int} {p : Nat} (h : RA r A p) {k : Nat} (hp : A.length < p + k) : bitio_Reader_Look r (k : Int) = some (0, false) := by
  obtain ⟨v, h1, h2⟩ := look_eq (b := r.b) (n := A.length) (at' := p) (k := (k : Int)) h.small h.len h.le
  have hok : lookOk A.length p (k : Int) = false := by unfold lookOk; rw [decide_eq_false_iff_not]; omega
  rw [hok] at h1 h2
  have : v = 0 := by apply UInt64.toNat_inj.1; rw [h2]; rfl
  rw [h.eq, h1, this]
theorem RA.take {r : bitio_Reader} {A : List Int} {p : Nat} (h : RA r A p) {k : Nat} (hk : k ≤ 64) (hp : p + k ≤ A.length) :
    ∃ r', bitio_Reader_Take r (k : Int) = some (UInt64.ofNat (dv ((A.drop p).take k)), true, r') ∧ RA r' A (p + k) ∧ r'.b = r.b := by
  refine ⟨⟨r.b, (A.length : Int), ((p + k : Nat) : Int)⟩, ?_, h.moved hp, rfl⟩
  have := h.small; have := h.len
  unfold bitio_Reader_Take
  rw [h.look hk hp, bind_some]
  dsimp only
  rw [cond_true, lett_eq, h.at_, w64_addN (by omega), h.n]
theorem RA.takeNo {r : bitio_Reader} {A : List Int} {p : Nat} (h : RA r A p) {k : Nat} (hp : A.length < p + k) : bitio_Reader_Take r (k : Int) = some (0, false, r) := by
  unfold bitio_Reader_Take
  rw [h.lookNo hp, bind_some]; rfl
theorem RA.skip {r : bitio_Reader} {A : List Int} {p : Nat} (h : RA r A p) {k : Nat} (hp : p + k ≤ A.length) :
    ∃ r', bitio_Reader_Skip r (k : Int) = some (true, r') ∧ RA r' A (p + k) ∧ r'.b = r.b := by
  refine ⟨⟨r.b, (A.length : Int), ((p + k : Nat) : Int)⟩, ?_, h.moved hp, rfl⟩
  have hs := skip_eq (b := r.b) (n := A.length) (at' := p) (k := (k : Int)) (by have := h.len; have := h.small; omega) h.le
  have hc : 0 ≤ (k : Int) ∧ (k : Int) ≤ (A.length : Int) - (p : Int) := by omega
  rw [if_pos hc, decide_eq_true hc, Int.toNat_natCast] at hs
  rw [h.eq]; exact hs
/-- a reader of the bits that a writer holds -/
theorem RA.of {w : bitio_Writer} {L : List Int} (h : WR w L) : bitio_NewReader w.b (L.length : Int) = some (some ⟨w.b, (L.length : Int), 0⟩, 0) ∧ RA ⟨w.b, (L.length : Int), 0⟩ L 0 := by
  have h1 := h.a.le; have h2 := h.a.lt; have h3 := h.small
  have hE : openE w.b (L.length : Int) = 0 := by
    unfold openE
    rw [if_neg (by omega), if_neg (by omega), if_neg (by omega), Int.toNat_natCast, h.a.val, Nat.mul_mod_left, if_pos rfl]
  refine ⟨by rw [newReader_eq (by unfold I64; omega) (by omega), hE]; rfl, rfl, rfl, Nat.zero_le _, h1, by dsimp only; omega, ?_⟩
  dsimp only
  have hl := bitsOf_len w.b
  have hlen : ((bitsOf w.b).take L.length).length = L.length := by rw [List.length_take]; omega
  refine dv_inj ((bitsOf_bit _).take _) h.bit hlen ?_
  have hp := dv_part (bitsOf_bit w.b) (a := 0) (n := L.length) (by omega)
  rw [Nat.zero_add, List.drop_zero, Nat.sub_zero, hl, bitsOf_dv, h.a.val, Nat.mul_div_cancel _ (two_pow_pos' _), Nat.mod_eq_of_lt (dv_lt h.bit)] at hp
  exact hp
/-- .. of whole bytes -/
theorem RA.whole {b : List UInt8} (hb : b.length ≤ 1000000) : bitio_NewReader b ((8 * b.length : Nat) : Int) = some (some ⟨b, ((8 * b.length : Nat) : Int), 0⟩, 0) ∧ RA ⟨b, ((8 * b.length : Nat) : Int), 0⟩ (bitsOf b) 0 := by
  have hl := bitsOf_len b
  have hE : openE b ((8 * b.length : Nat) : Int) = 0 := by
    unfold openE
    rw [if_neg (by omega), if_neg (by omega), if_neg (by omega), Int.toNat_natCast, Nat.sub_self, Nat.pow_zero, Nat.mod_one, if_pos rfl]
  refine ⟨by rw [newReader_eq (by unfold I64; omega) (by omega), hE]; rfl, by rw [hl], rfl, Nat.zero_le _, by dsimp only; omega, hb, by rw [List.take_length]⟩
/-! ### signed and unsigned -/
def sg (u : UInt64) : Int := w64 (u.toNat : Int)
theorem sg_val (u : UInt64) : sg u = if u.toNat < 9223372036854775808 then (u.toNat : Int) else (u.toNat : Int) - 18446744073709551616 := by
  have := UInt64.toNat_lt u
  unfold sg w64
  split <;> omega
theorem sg_I64 (u : UInt64) : I64 (sg u) := by
  have := UInt64.toNat_lt u
  rw [sg_val]; unfold I64
  split <;> omega
theorem toU64_sg (u : UInt64) : toU64 (sg u) = u := by
  apply UInt64.toNat_inj.1
  have h := UInt64.toNat_lt u
  have h2 := toU64_toNat (sg u)
  have h3 := sg_val u
  generalize sg u = x at *
  split at h3 <;> omega
theorem u64_ofNat {n : Nat} (h : n < 18446744073709551616) : (UInt64.ofNat n).toNat = n := by rw [UInt64.toNat_ofNat']; omega
end Go.Lg
