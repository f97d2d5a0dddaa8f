/- Lemmas about the given model and about plain data, which the rows stand on: no statement of the program by itself. -/
import Derived.Test.YtgdfaomjidhajaaLg30c
set_option linter.unusedVariables false
namespace Go.Lg
attribute [local irreducible] w64 toU64 toU8 shlU shrU shlB shrB

theorem p256' (i : Nat) : 256 ^ i = 2 ^ (8 * i) := by rw [Nat.pow_mul]
theorem eight_get {v i : Nat} (h : i < 8) : (eightL v)[i]'(by simp [eightL]; exact h) = UInt8.ofNat (v / 256 ^ i) := by simp [eightL]
theorem eight_len (v : Nat) : (eightL v).length = 8 := by simp [eightL]
theorem Weight_eq (v : UInt64) : wire_eight v = some (eightL v.toNat) := by
  have key : ∀ (m i : Nat) (z : List UInt8), i + m = 8 → z.length = 8 → z.take i = (eightL v.toNat).take i → loop (wire_eight_lp1 v (List.replicate 8 0)) (z, (i : Int)) = some (.go (eightL v.toNat)) := by
    intro m
    induction m with
    | zero =>
      intro i z hi hz ht
      refine loop_brk ?_
      unfold wire_eight_lp1
      dsimp only
      rw [bifFd (by simp; omega)]
      have e8 := eight_len v.toNat
      rw [List.take_of_length_le (by omega), List.take_of_length_le (by omega)] at ht
      rw [ht]
    | succ m ih =>
      intro i z hi hz ht
      have hlt : i < z.length := by omega
      have e1 : (toU64 (w64 (8 * (i : Int)))).toNat = 8 * i := by
        rw [show (8 : Int) * (i : Int) = ((8 * i : Nat) : Int) by omega, w64_nat (by omega), toU64_nat (by omega)]
      have e2 : (shrU v (8 * i)).toUInt8 = UInt8.ofNat (v.toNat / 256 ^ i) := by
        apply UInt8.toNat_inj.1
        rw [UInt64.toNat_toUInt8, shrU_nat _ (by omega), UInt8.toNat_ofNat', p256']
      rw [← ih (i + 1) (z.set i (UInt8.ofNat (v.toNat / 256 ^ i))) (by omega) (by simpa using hz) (by
        rw [take_snoc8 (by simpa using hlt), take_snoc8 (by rw [eight_len]; omega), List.take_set_of_le (Nat.le_refl i), ht, List.getElem_set_self, eight_get (by omega)])]
      refine loop_next ?_
      unfold wire_eight_lp1
      dsimp only
      rw [bifTd (by simp; omega), idx_nat hlt, bind_some, lett_eq, e1, e2, setI_nat hlt, bind_some, w64_succ (by omega)]
  have hm : mk 8 (0 : UInt8) = some (List.replicate 8 0) := by
    unfold mk LIM
    rw [if_pos (by omega)]; rfl
  unfold wire_eight
  rw [hm, bind_some]
  have k0 : loop (wire_eight_lp1 v (List.replicate 8 0)) (List.replicate 8 0, 0) = _ := key 8 0 (List.replicate 8 0) (by omega) (by simp) (by simp)
  rw [k0, flow_go]
theorem field_step {t : List UInt8} {i : Nat} (h : i < t.length) (hi : i ≤ 7) :
    UInt64.ofNat (le8 (t.take i)) ||| shlU (t[i].toUInt64) ((toU64 (w64 (8 * (i : Int)))).toNat) = UInt64.ofNat (le8 (t.take (i + 1))) := by
  have e1 : (toU64 (w64 (8 * (i : Int)))).toNat = 8 * i := by
    rw [show (8 : Int) * (i : Int) = ((8 * i : Nat) : Int) by omega, w64_nat (by omega), toU64_nat (by omega)]
  have hb := le8_lt (t.take i)
  rw [List.length_take, Nat.min_eq_left (by omega), p256'] at hb
  have hp : 2 ^ (8 * i) ≤ 72057594037927936 := by
    have : 2 ^ (8 * i) ≤ 2 ^ 56 := Nat.pow_le_pow_right (by omega) (by omega)
    simpa using this
  have hx := u8_lt' t[i]
  have hs2 : (t[i]).toNat * 2 ^ (8 * i) + le8 (t.take i) < 2 ^ 64 := by
    have h2 : (t[i].toNat).succ * 2 ^ (8 * i) ≤ 256 * 72057594037927936 := Nat.mul_le_mul (by omega) hp
    rw [Nat.succ_mul] at h2
    omega
  have hs := shlU_nat (t[i].toUInt64) (n := 8 * i) (by omega) (by rw [UInt8.toNat_toUInt64]; omega)
  have hsn : le8 (t.take (i + 1)) = le8 (t.take i) + 2 ^ (8 * i) * (t[i]).toNat := by
    rw [take_snoc8 h, le8_snoc, List.length_take, Nat.min_eq_left (by omega), p256']
  rw [UInt8.toNat_toUInt64] at hs
  apply UInt64.toNat_inj.1
  rw [UInt64.toNat_or, e1, hs, UInt64.toNat_ofNat', Nat.mod_eq_of_lt (by omega : le8 (t.take i) < 2 ^ 64), Nat.or_comm, or_add hb, UInt64.toNat_ofNat', hsn, Nat.mul_comm (2 ^ (8 * i)) (t[i].toNat)]
  rw [Nat.add_comm (le8 (t.take i)), Nat.mod_eq_of_lt hs2]
theorem Wfield_lp {t : List UInt8} (h : t.length = 8) : loop (wire_field_lp1 t) (0, 0) = some (.go (UInt64.ofNat (le8 t))) := by
  have key : ∀ (m i : Nat), i + m = 8 → loop (wire_field_lp1 t) (UInt64.ofNat (le8 (t.take i)), (i : Int)) = some (.go (UInt64.ofNat (le8 t))) := by
    intro m
    induction m with
    | zero =>
      intro i hi
      refine loop_brk ?_
      unfold wire_field_lp1
      dsimp only
      rw [bifFd (by omega), List.take_of_length_le (by omega)]
    | succ m ih =>
      intro i hi
      have hlt : i < t.length := by omega
      rw [← ih (i + 1) (by omega)]
      refine loop_next ?_
      unfold wire_field_lp1
      dsimp only
      rw [bifTd (by omega), idx_nat hlt, bind_some, lett_eq, field_step hlt (by omega), w64_succ (by omega)]
  exact key 8 0 (by omega)
theorem Rfield_lp (b : List UInt8) (k : Nat) (hl : b.length ≤ 1000000) (h : k + 8 ≤ b.length) : loop (ref30_Decode_lp2 b (k : Int)) (0, 7) = some (.go (UInt64.ofNat (le8 ((b.drop k).take 8)))) := by
  have hdl : ((b.drop k).take 8).length = 8 := by rw [List.length_take, List.length_drop]; omega
  have key : ∀ j : Nat, j ≤ 8 → loop (ref30_Decode_lp2 b (k : Int)) (UInt64.ofNat (le8 (((b.drop k).take 8).drop j)), (j : Int) - 1) = some (.go (UInt64.ofNat (le8 ((b.drop k).take 8)))) := by
    intro j
    induction j with
    | zero =>
      intro _
      refine loop_brk ?_
      unfold ref30_Decode_lp2
      dsimp only
      rw [bifFd (by omega), List.drop_zero]
    | succ j ih =>
      intro hj
      rw [← ih (by omega)]
      refine loop_next ?_
      have hd : ((b.drop k).take 8).drop j = b[k + j]'(by omega) :: ((b.drop k).take 8).drop (j + 1) := by
        rw [List.drop_eq_getElem_cons (by omega), List.getElem_take, List.getElem_drop]
      have e1 : ((j + 1 : Nat) : Int) - 1 = (j : Int) := by omega
      have e2 : w64 ((j : Int) - 1) = (j : Int) - 1 := w64_id (by omega) (by omega)
      have e3 : UInt64.ofNat (le8 (((b.drop k).take 8).drop j)) = (256 : UInt64) * UInt64.ofNat (le8 (((b.drop k).take 8).drop (j + 1))) + (b[k + j]'(by omega)).toUInt64 := by
        rw [hd, le8]
        apply UInt64.toNat_inj.1
        rw [UInt64.toNat_add, UInt64.toNat_mul, UInt64.toNat_ofNat', UInt64.toNat_ofNat', UInt8.toNat_toUInt64, show (256 : UInt64).toNat = 256 from rfl]; omega
      unfold ref30_Decode_lp2
      dsimp only
      rw [e1, bifTd (by omega), w64_addN (by omega), idx_nat (by omega), bind_some, lett_eq, lett_eq, e2, e3]
  have k0 := key 8 (Nat.le_refl _)
  rw [List.drop_of_length_le (by omega)] at k0
  exact k0

/-! ### a field -/
def F0 : api_Fld := ⟨0, 0, 0, []⟩
def fieldS (l : List UInt8) : Int × api_Fld × Nat :=
  if (gv l).2.2 ≠ 0 then ((gv l).2.2, F0, 0)
  else if 2 < (gv l).1.toNat % 8 then (14, F0, 0)
  else if (gv l).1.toNat / 8 < 1 ∨ 536870911 < (gv l).1.toNat / 8 then (1, F0, 0)
  else if (gv l).1.toNat % 8 = 1 then
    if l.length - (gv l).2.1.toNat < 8 then (2, F0, 0)
    else (0, ⟨((gv l).1.toNat / 8 : Nat), 1, UInt64.ofNat (le8 ((l.drop (gv l).2.1.toNat).take 8)), []⟩, (gv l).2.1.toNat + 8)
  else if (gv (l.drop (gv l).2.1.toNat)).2.2 ≠ 0 then ((gv (l.drop (gv l).2.1.toNat)).2.2, F0, 0)
  else if (gv l).1.toNat % 8 = 0 then (0, ⟨((gv l).1.toNat / 8 : Nat), 0, (gv (l.drop (gv l).2.1.toNat)).1, []⟩, (gv l).2.1.toNat + (gv (l.drop (gv l).2.1.toNat)).2.1.toNat)
  else if l.length - ((gv l).2.1.toNat + (gv (l.drop (gv l).2.1.toNat)).2.1.toNat) < (gv (l.drop (gv l).2.1.toNat)).1.toNat then (2, F0, 0)
  else (0, ⟨((gv l).1.toNat / 8 : Nat), 2, 0, (l.drop ((gv l).2.1.toNat + (gv (l.drop (gv l).2.1.toNat)).2.1.toNat)).take (gv (l.drop (gv l).2.1.toNat)).1.toNat⟩, (gv l).2.1.toNat + (gv (l.drop (gv l).2.1.toNat)).2.1.toNat + (gv (l.drop (gv l).2.1.toNat)).1.toNat)
theorem and7 (v : UInt64) : (v &&& 7).toNat = v.toNat % 8 := by
  rw [UInt64.toNat_and, show (7 : UInt64).toNat = 2 ^ 3 - 1 from rfl, Nat.and_two_pow_sub_one_eq_mod]
theorem shr3 (v : UInt64) : (shrU v ((3 : UInt64).toNat)).toNat = v.toNat / 8 := shrU_nat v (n := 3) (by omega)
theorem n1 : (1 : UInt64).toNat = 1 := rfl
theorem n2 : (2 : UInt64).toNat = 2 := rfl
theorem n8 : (8 : UInt64).toNat = 8 := rfl
theorem nM : (536870911 : UInt64).toNat = 536870911 := rfl
theorem bclone_eq {l : List UInt8} (h : l.length ≤ 1000000) : bytes_Clone l = some l := by
  unfold bytes_Clone
  rw [app_ok (by simp only [List.length_nil]; omega)]; rfl
theorem Wfield_eq {b : List UInt8} {at_ : Nat} (hl : b.length ≤ 1000000) (h : at_ ≤ b.length) :
    ∃ f nx, wire_field b (at_ : Int) = some (f, nx, (fieldS (b.drop at_)).1) ∧ ((fieldS (b.drop at_)).1 = 0 → f = (fieldS (b.drop at_)).2.1 ∧ nx = ((at_ + (fieldS (b.drop at_)).2.2 : Nat) : Int)) := by
  have hdl : (b.drop at_).length = b.length - at_ := List.length_drop
  unfold wire_field
  rw [WGet_eq hl h, bind_some]
  by_cases h1 : (gv (b.drop at_)).2.2 = 0
  case neg =>
    have e : fieldS (b.drop at_) = ((gv (b.drop at_)).2.2, F0, 0) := by unfold fieldS; rw [if_pos h1]
    refine ⟨F0, 0, ?_, fun h0 => ?_⟩
    · dsimp only
      rw [bifT (by simp [h1]), e]; rfl
    · rw [e] at h0; exact absurd h0 h1
  obtain ⟨n, g1, g2, g3, g4⟩ := gv_ok h1
  generalize hg : gv (b.drop at_) = g at *
  obtain ⟨v, n', e'⟩ := g
  simp only at h1 g1 g4
  subst h1; subst g1
  dsimp only
  rw [bifF (by rfl), w64_addN (by omega), lett_eq]
  have hn : ((n : Int)).toNat = n := by omega
  by_cases h2 : 2 < v.toNat % 8
  · have e : fieldS (b.drop at_) = (14, F0, 0) := by unfold fieldS; rw [hg, if_neg (by simp), if_pos h2]
    refine ⟨F0, 0, ?_, fun h0 => ?_⟩
    · rw [bifTd (by rw [UInt64.lt_iff_toNat_lt, and7, n2]; exact h2), e]; rfl
    · rw [e] at h0; exact absurd h0 (by decide)
  rw [bifFd (by rw [UInt64.lt_iff_toNat_lt, and7, n2]; exact h2)]
  by_cases h3 : v.toNat / 8 < 1 ∨ 536870911 < v.toNat / 8
  · have e : fieldS (b.drop at_) = (1, F0, 0) := by unfold fieldS; rw [hg, if_neg (by simp), if_neg h2, if_pos h3]
    refine ⟨F0, 0, ?_, fun h0 => ?_⟩
    · rw [bifT (by rw [Bool.or_eq_true, decide_eq_true_eq, decide_eq_true_eq, UInt64.lt_iff_toNat_lt, UInt64.lt_iff_toNat_lt, shr3, n1, nM]; exact h3), e]; rfl
    · rw [e] at h0; exact absurd h0 (by decide)
  rw [bifF (by rw [Bool.or_eq_false_iff, decide_eq_false_iff_not, decide_eq_false_iff_not, UInt64.lt_iff_toNat_lt, UInt64.lt_iff_toNat_lt, shr3, n1, nM]; omega), shr3, and7, w64_nat (by omega), w64_nat (by omega), lett_eq, lett_eq]
  by_cases h4 : v.toNat % 8 = 1
  · rw [bifTd (by omega), w64_id (x := (b.length : Int) - ((at_ + n : Nat) : Int)) (by omega) (by omega)]
    by_cases h5 : b.length - (at_ + n) < 8
    · have e : fieldS (b.drop at_) = (2, F0, 0) := by unfold fieldS; rw [hg, if_neg (by simp), if_neg h2, if_neg h3, if_pos h4, if_pos (by dsimp only; omega)]
      refine ⟨⟨((v.toNat / 8 : Nat) : Int), ((v.toNat % 8 : Nat) : Int), 0, []⟩, 0, ?_, fun h0 => ?_⟩
      · rw [bifTd (by omega), e]
      · rw [e] at h0; exact absurd h0 (by decide)
    · have e : fieldS (b.drop at_) = (0, ⟨((v.toNat / 8 : Nat) : Int), 1, UInt64.ofNat (le8 (((b.drop at_).drop n).take 8)), []⟩, n + 8) := by unfold fieldS; rw [hg, if_neg (by simp), if_neg h2, if_neg h3, if_pos h4, if_neg (by dsimp only; omega)]; rfl
      have ed : (b.take (at_ + n + 8)).drop (at_ + n) = ((b.drop at_).drop n).take 8 := by
        rw [List.drop_drop, List.drop_take]; congr 1; omega
      refine ⟨⟨((v.toNat / 8 : Nat) : Int), 1, UInt64.ofNat (le8 (((b.drop at_).drop n).take 8)), []⟩, ((at_ + n + 8 : Nat) : Int), ?_, fun _ => ?_⟩
      · rw [bifFd (by omega), show ((at_ + n : Nat) : Int) + 8 = ((at_ + n + 8 : Nat) : Int) by omega, w64_nat (by omega), slc_nat (by omega) (by omega), bind_some, ed, Wfield_lp (by rw [List.length_take, List.length_drop, List.length_drop]; omega), flow_go, bind_some, lett_eq, e, h4]; rfl
      · rw [e]
        exact ⟨rfl, by dsimp only; omega⟩
  have edd : b.drop (at_ + n) = (b.drop at_).drop n := by rw [List.drop_drop]
  rw [bifFd (by omega), WGet_eq hl (by omega), bind_some, edd]
  by_cases h6 : (gv ((b.drop at_).drop n)).2.2 = 0
  case neg =>
    have e : fieldS (b.drop at_) = ((gv ((b.drop at_).drop n)).2.2, F0, 0) := by unfold fieldS; rw [hg, if_neg (by simp), if_neg h2, if_neg h3, if_neg h4]; dsimp only; rw [hn, if_pos h6]
    refine ⟨⟨((v.toNat / 8 : Nat) : Int), ((v.toNat % 8 : Nat) : Int), 0, []⟩, 0, ?_, fun h0 => ?_⟩
    · rw [bifT (by rw [Bool.not_eq_true', decide_eq_false_iff_not]; exact h6), e]
    · rw [e] at h0; exact absurd h0 h6
  obtain ⟨m, k1, k2, k3, k4⟩ := gv_ok h6
  have hdl2 : ((b.drop at_).drop n).length = b.length - (at_ + n) := by rw [List.length_drop]; omega
  generalize hg2 : gv ((b.drop at_).drop n) = g2' at *
  obtain ⟨v2, n2', e2'⟩ := g2'
  simp only at h6 k1 k4
  subst h6; subst k1
  dsimp only
  have hm : ((m : Int)).toNat = m := by omega
  rw [bifF (by rfl), w64_addN (by omega), lett_eq]
  by_cases h7 : v.toNat % 8 = 0
  · have e : fieldS (b.drop at_) = (0, ⟨((v.toNat / 8 : Nat) : Int), 0, v2, []⟩, n + m) := by unfold fieldS; rw [hg, if_neg (by simp), if_neg h2, if_neg h3, if_neg h4]; dsimp only; rw [hn, hg2, if_neg (by simp), if_pos h7]; rfl
    refine ⟨⟨((v.toNat / 8 : Nat) : Int), 0, v2, []⟩, ((at_ + n + m : Nat) : Int), ?_, fun _ => ?_⟩
    · rw [bifTd (by omega), e, h7]; rfl
    · rw [e]; exact ⟨rfl, by dsimp only; omega⟩
  rw [bifFd (by omega)]
  have e8 : (toU64 (w64 ((b.length : Int) - ((at_ + n + m : Nat) : Int)))).toNat = b.length - (at_ + n + m) := by
    rw [w64_subN (by omega) (by omega), toU64_nat (by omega)]
  by_cases h9 : b.length - (at_ + n + m) < v2.toNat
  · have e : fieldS (b.drop at_) = (2, F0, 0) := by unfold fieldS; rw [hg, if_neg (by simp), if_neg h2, if_neg h3, if_neg h4]; dsimp only; rw [hn, hg2, if_neg (by simp), if_neg h7, if_pos (by dsimp only; omega)]
    refine ⟨⟨((v.toNat / 8 : Nat) : Int), ((v.toNat % 8 : Nat) : Int), 0, []⟩, 0, ?_, fun h0 => ?_⟩
    · rw [bifTd (by rw [UInt64.lt_iff_toNat_lt, e8]; exact h9), e]
    · rw [e] at h0; exact absurd h0 (by decide)
  · have e : fieldS (b.drop at_) = (0, ⟨((v.toNat / 8 : Nat) : Int), 2, 0, ((b.drop at_).drop (n + m)).take v2.toNat⟩, n + m + v2.toNat) := by unfold fieldS; rw [hg, if_neg (by simp), if_neg h2, if_neg h3, if_neg h4]; dsimp only; rw [hn, hg2, if_neg (by simp), if_neg h7, if_neg (by dsimp only; omega)]; rfl
    have ed : (b.take (at_ + n + m + v2.toNat)).drop (at_ + n + m) = ((b.drop at_).drop (n + m)).take v2.toNat := by
      rw [List.drop_drop, List.drop_take, Nat.add_assoc at_ n m]; congr 1; omega
    have hc : (((b.drop at_).drop (n + m)).take v2.toNat).length ≤ 1000000 := by rw [List.length_take, List.length_drop, List.length_drop]; omega
    refine ⟨⟨((v.toNat / 8 : Nat) : Int), 2, 0, ((b.drop at_).drop (n + m)).take v2.toNat⟩, ((at_ + n + m + v2.toNat : Nat) : Int), ?_, fun _ => ?_⟩
    · rw [bifFd (by rw [UInt64.lt_iff_toNat_lt, e8]; exact h9), w64_nat (a := v2.toNat) (by omega), w64_addN (by omega), slc_nat (by omega) (by omega), bind_some, ed, bclone_eq hc, bind_some, lett_eq, e, show v.toNat % 8 = 2 by omega]; rfl
    · rw [e]; exact ⟨rfl, by dsimp only; omega⟩
end Go.Lg
