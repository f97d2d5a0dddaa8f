/- Lemmas about the given model and about plain data, which the rows stand on: no statement of the program by itself. -/
import Derived.Test.YtgdfaomjidhajaaLg30
set_option linter.unusedVariables false
namespace Go.Lg
attribute [local irreducible] w64 toU64 toU8 shlU shrU shlB shrB

theorem take_snoc8 {l : List UInt8} {i : Nat} (h : i < l.length) : l.take (i + 1) = l.take i ++ [l[i]] := by
  rw [List.take_add_one, List.getElem?_eq_getElem h]; rfl
theorem p7 (i : Nat) : 128 ^ i = 2 ^ (7 * i) := by rw [Nat.pow_mul]
theorem p7_le {i : Nat} (h : i ≤ 8) : 2 ^ (7 * i) ≤ 72057594037927936 := by
  have : 2 ^ (7 * i) ≤ 2 ^ 56 := Nat.pow_le_pow_right (by omega) (by omega)
  simpa using this
theorem and127 (x : UInt8) : ((x &&& 127).toUInt64).toNat = x.toNat % 128 := by
  have h : ∀ n, n < 256 → n &&& 127 = n % 128 := by decide +kernel
  rw [UInt8.toNat_toUInt64, UInt8.toNat_and, show (127 : UInt8).toNat = 127 from rfl, h _ (u8_lt' x)]
theorem gv_step {t : List UInt8} {i : Nat} (h : i < t.length) (hi : i ≤ 9) (h9 : i = 9 → (t[i]).toNat ≤ 1) :
    UInt64.ofNat (leV (t.take i)) ||| shlU ((t[i] &&& 127).toUInt64) ((toU64 (w64 (7 * (i : Int)))).toNat) = UInt64.ofNat (leV (t.take (i + 1))) := by
  have e1 : (toU64 (w64 (7 * (i : Int)))).toNat = 7 * i := by
    rw [show (7 : Int) * (i : Int) = ((7 * i : Nat) : Int) by omega, w64_nat (by omega), toU64_nat (by omega)]
  have hb := leV_lt (t.take i)
  rw [List.length_take, Nat.min_eq_left (by omega), p7] at hb
  have hm : t[i].toNat % 128 < 128 := Nat.mod_lt _ (by omega)
  have hlt : ((t[i] &&& 127).toUInt64).toNat * 2 ^ (7 * i) < 2 ^ 64 := by
    rw [and127]
    by_cases e : i = 9
    · have h1 := h9 e
      subst e
      have : (2 : Nat) ^ (7 * 9) = 9223372036854775808 := by decide
      rw [this]
      have : t[9].toNat % 128 ≤ 1 := by omega
      omega
    · have := p7_le (i := i) (by omega)
      have h2 : t[i].toNat % 128 * 2 ^ (7 * i) ≤ 127 * 72057594037927936 := Nat.mul_le_mul (by omega) this
      omega
  have hs := shlU_nat ((t[i] &&& 127).toUInt64) (n := 7 * i) (by omega) hlt
  have hsn : leV (t.take (i + 1)) = leV (t.take i) + 2 ^ (7 * i) * (t[i].toNat % 128) := by
    rw [take_snoc8 h, leV_snoc, List.length_take, Nat.min_eq_left (by omega), p7]
  rw [and127] at hs hlt
  have hlo : leV (t.take i) < 18446744073709551616 := by
    have : 2 ^ (7 * i) ≤ 2 ^ 63 := Nat.pow_le_pow_right (by omega) (by omega)
    have e : (2 : Nat) ^ 63 = 9223372036854775808 := by decide
    omega
  apply UInt64.toNat_inj.1
  rw [UInt64.toNat_or, e1, hs, UInt64.toNat_ofNat', Nat.mod_eq_of_lt hlo, Nat.or_comm, or_add hb, UInt64.toNat_ofNat', hsn, Nat.mul_comm (2 ^ (7 * i)) (t[i].toNat % 128)]
  have hs2 : t[i].toNat % 128 * 2 ^ (7 * i) + leV (t.take i) < 2 ^ 64 := by
    have : t[i].toNat % 128 * 2 ^ (7 * i) + 2 ^ (7 * i) ≤ 2 ^ 64 := by
      rw [← Nat.succ_mul]
      by_cases e : i = 9
      · have h1 := h9 e
        subst e
        have : (2 : Nat) ^ (7 * 9) = 9223372036854775808 := by decide
        rw [this]
        have : t[9].toNat % 128 ≤ 1 := by omega
        omega
      · have := p7_le (i := i) (by omega)
        have h2 : (t[i].toNat % 128).succ * 2 ^ (7 * i) ≤ 128 * 72057594037927936 := Nat.mul_le_mul (by omega) this
        omega
    omega
  rw [Nat.add_comm (leV (t.take i)), Nat.mod_eq_of_lt hs2]
theorem getD8 {l : List UInt8} {i : Nat} (h : i < l.length) : l.getD i 0 = l[i] := by
  rw [List.getD_eq_getElem?_getD, List.getElem?_eq_getElem h]; rfl
theorem WGet_lp (t : List UInt8) (hl : t.length ≤ 1000000) : loop (wire_GetVar_lp1 t) (0, 0) = some (if cnt t < 10 ∧ cnt t = t.length then .go () else .out (gv t)) := by
  have key : ∀ (m i : Nat), i + m = 9 → i ≤ cnt t → loop (wire_GetVar_lp1 t) (UInt64.ofNat (leV (t.take i)), (i : Int)) = some (if cnt t < 10 ∧ cnt t = t.length then .go () else .out (gv t)) := by
    intro m
    induction m with
    | zero =>
      intro i hi hc
      obtain rfl : i = 9 := by omega
      have hcl := cnt_le t
      by_cases h : 9 < t.length
      · rw [if_neg (by omega)]
        refine loop_out ?_
        unfold wire_GetVar_lp1
        dsimp only
        rw [bifTd (by omega), idx_nat h, bind_some]
        by_cases h1 : 1 < t[9].toNat
        · rw [bifT (by rw [Bool.and_eq_true]; exact ⟨decide_eq_true (by omega), decide_eq_true (by rw [UInt8.lt_iff_toNat_lt]; exact h1)⟩)]
          unfold gv
          by_cases hc10 : 10 ≤ cnt t
          · rw [if_pos hc10]; rfl
          · have e9 : cnt t = 9 := by omega
            rw [if_neg hc10, if_neg (by omega), if_pos (.inl ⟨e9, by rw [e9, getD8 h]; exact h1⟩)]; rfl
        · have e9 : cnt t = 9 := by
            have := cnt_lt t 9 h
            omega
          rw [bifF (by rw [Bool.and_eq_false_iff]; exact .inr (decide_eq_false (by rw [UInt8.lt_iff_toNat_lt]; exact h1))), gv_step h (by omega) (fun _ => by omega), lett_eq, bifTd (by rw [UInt8.lt_iff_toNat_lt]; exact (by omega : t[9].toNat < 128))]
          unfold gv
          rw [if_neg (by omega), if_neg (by omega)]
          by_cases h0 : t[9] = 0
          · rw [bifT (by rw [Bool.and_eq_true]; exact ⟨decide_eq_true h0, decide_eq_true (by omega)⟩), if_pos (.inr ⟨by omega, by rw [e9, getD8 h]; exact h0⟩)]; rfl
          · rw [bifF (by rw [Bool.and_eq_false_iff]; exact .inl (decide_eq_false h0)), if_neg (by rw [e9, getD8 h]; exact fun e => e.elim (fun e => h1 e.2) (fun e => h0 e.2)), lett_eq, w64_succ (by omega), e9]; rfl
      · rw [if_pos (by omega)]
        refine loop_brk ?_
        unfold wire_GetVar_lp1
        dsimp only
        rw [bifFd (by omega)]
    | succ m ih =>
      intro i hi hc
      have hcl := cnt_le t
      by_cases h : i < t.length
      · by_cases hlt : i < cnt t
        · have hb := cnt_lt t i h hlt
          rw [← ih (i + 1) (by omega) (by omega)]
          refine loop_next ?_
          unfold wire_GetVar_lp1
          dsimp only
          rw [bifTd (by omega), idx_nat h, bind_some, bifF (by rw [Bool.and_eq_false_iff]; exact .inl (decide_eq_false (by omega))), gv_step h (by omega) (fun _ => by omega), lett_eq, bifFd (by rw [UInt8.lt_iff_toNat_lt]; exact (by omega : ¬ t[i].toNat < 128)), w64_succ (by omega)]
        · have ec : cnt t = i := by omega
          have hb := cnt_at t (by omega)
          simp only [ec] at hb
          rw [if_neg (by omega)]
          refine loop_out ?_
          unfold wire_GetVar_lp1
          dsimp only
          rw [bifTd (by omega), idx_nat h, bind_some, bifF (by rw [Bool.and_eq_false_iff]; exact .inl (decide_eq_false (by omega))), gv_step h (by omega) (fun _ => by omega), lett_eq, bifTd (by rw [UInt8.lt_iff_toNat_lt]; exact hb)]
          unfold gv
          rw [if_neg (by omega), if_neg (by omega)]
          by_cases h0 : t[i] = 0 ∧ 0 < i
          · rw [bifT (by rw [Bool.and_eq_true]; exact ⟨decide_eq_true h0.1, decide_eq_true (by omega)⟩), if_pos (.inr ⟨by omega, by rw [ec, getD8 h]; exact h0.1⟩)]; rfl
          · rw [bifF (by rw [Bool.and_eq_false_iff]; exact (Decidable.em (t[i] = 0)).elim (fun q => .inr (decide_eq_false (fun e => h0 ⟨q, by omega⟩))) (fun q => .inl (decide_eq_false q))), if_neg (by rw [ec, getD8 h]; exact fun e => e.elim (fun e => absurd e.1 (by omega)) (fun e => h0 ⟨e.2, e.1⟩)), lett_eq, w64_succ (by omega), ec]; rfl
      · rw [if_pos (by omega)]
        refine loop_brk ?_
        unfold wire_GetVar_lp1
        dsimp only
        rw [bifFd (by omega)]
  have k0 := key 9 0 (by omega) (by omega)
  exact k0
theorem WGet_eq {b : List UInt8} {at_ : Nat} (hl : b.length ≤ 1000000) (h : at_ ≤ b.length) : wire_GetVar b (at_ : Int) = some (gv (b.drop at_)) := by
  unfold wire_GetVar
  rw [bifF (by rw [Bool.or_eq_false_iff]; exact ⟨decide_eq_false (by omega), decide_eq_false (by omega)⟩), slc_nat h (Nat.le_refl _), bind_some, List.take_length, WGet_lp _ (by simp; omega)]
  by_cases hs : cnt (b.drop at_) < 10 ∧ cnt (b.drop at_) = (b.drop at_).length
  · rw [if_pos hs]
    unfold gv
    rw [if_neg (by omega), if_pos hs.2]; rfl
  · rw [if_neg hs]; rfl
theorem RGet_lp1 (b : List UInt8) (at_ : Nat) (hl : b.length ≤ 1000000) (h : at_ ≤ b.length) : loop (ref30_GetVar_lp1 b (at_ : Int)) 0 = some (if 10 ≤ cnt (b.drop at_) then .out (.out ⟨0, 0, 3⟩) else .go ((cnt (b.drop at_) : Nat) : Int)) := by
  have hcl := cnt_le (b.drop at_)
  have hdl : (b.drop at_).length = b.length - at_ := List.length_drop
  have hlt := cnt_lt (b.drop at_)
  have hat := cnt_at (b.drop at_)
  generalize hc : cnt (b.drop at_) = c at *
  have key : ∀ (m i : Nat), i + m = 9 → i ≤ c → loop (ref30_GetVar_lp1 b (at_ : Int)) (i : Int) = some (if 10 ≤ c then .out (.out ⟨0, 0, 3⟩) else .go ((c : Nat) : Int)) := by
    have cont : ∀ i, i ≤ 9 → i < c → ref30_GetVar_lp1 b (at_ : Int) (i : Int) = (bif decide ((i : Int) = 9) then some (.out (.out ⟨0, 0, 3⟩)) else some (.next ((i + 1 : Nat) : Int))) := by
      intro i hi h9
      have := hlt i (by omega) h9
      rw [List.getElem_drop] at this
      unfold ref30_GetVar_lp1
      rw [w64_addN (by omega), bifTd (by omega), idx_nat (by omega), bind_some, bind_some, bifTd (by rw [UInt8.le_iff_toNat_le]; exact this), lett_eq, w64_succ (by omega)]; rfl
    have stop : ∀ i, i ≤ 9 → i = c → ref30_GetVar_lp1 b (at_ : Int) (i : Int) = some (.brk ((c : Nat) : Int)) := by
      intro i hi h9
      unfold ref30_GetVar_lp1
      rw [w64_addN (by omega)]
      by_cases hL : at_ + i < b.length
      · have := hat (by omega)
        rw [List.getElem_drop] at this
        simp only [← h9] at this
        rw [bifTd (by omega), idx_nat hL, bind_some, bind_some, bifFd (by rw [UInt8.le_iff_toNat_le]; exact (by omega : ¬ 128 ≤ b[at_ + i].toNat)), h9]
      · rw [bifFd (by omega), bind_some, h9]; rfl
    intro m
    induction m with
    | zero =>
      intro i hi hc'
      obtain rfl : i = 9 := by omega
      by_cases h9 : 9 < c
      · rw [if_pos (by omega)]
        refine loop_out ?_
        rw [cont 9 (by omega) h9, bifTd (by omega)]
      · rw [if_neg (by omega)]
        exact loop_brk (stop 9 (by omega) (by omega))
    | succ m ih =>
      intro i hi hc'
      by_cases h9 : i < c
      · rw [← ih (i + 1) (by omega) (by omega)]
        refine loop_next ?_
        rw [cont i (by omega) h9, bifFd (by omega)]
      · rw [if_neg (by omega)]
        exact loop_brk (stop i (by omega) (by omega))
  exact key 9 0 (by omega) (by omega)
theorem RGet_lp2 (b : List UInt8) (at_ n : Nat) (hl : b.length ≤ 1000000) (h : at_ + n < b.length) : loop (ref30_GetVar_lp2 b (at_ : Int)) (0, (n : Int)) = some (.go (UInt64.ofNat (leV ((b.drop at_).take (n + 1))))) := by
  have hdl : ((b.drop at_).take (n + 1)).length = n + 1 := by rw [List.length_take, List.length_drop]; omega
  have key : ∀ j : Nat, j ≤ n + 1 → loop (ref30_GetVar_lp2 b (at_ : Int)) (UInt64.ofNat (leV (((b.drop at_).take (n + 1)).drop j)), (j : Int) - 1) = some (.go (UInt64.ofNat (leV ((b.drop at_).take (n + 1))))) := by
    intro j
    induction j with
    | zero =>
      intro _
      refine loop_brk ?_
      unfold ref30_GetVar_lp2
      dsimp only
      rw [bifFd (by omega), List.drop_zero]
    | succ j ih =>
      intro hj
      rw [← ih (by omega)]
      refine loop_next ?_
      have hd : ((b.drop at_).take (n + 1)).drop j = b[at_ + j]'(by omega) :: ((b.drop at_).take (n + 1)).drop (j + 1) := by
        rw [List.drop_eq_getElem_cons (by omega), List.getElem_take, List.getElem_drop]
      have e1 : ((j + 1 : Nat) : Int) - 1 = (j : Int) := by omega
      have e2 : w64 ((j : Int) - 1) = (j : Int) - 1 := w64_id (by omega) (by omega)
      have e3 : UInt64.ofNat (leV (((b.drop at_).take (n + 1)).drop j)) = (128 : UInt64) * UInt64.ofNat (leV (((b.drop at_).take (n + 1)).drop (j + 1))) + ((b[at_ + j]'(by omega)) % 128).toUInt64 := by
        rw [hd, leV]
        apply UInt64.toNat_inj.1
        rw [UInt64.toNat_add, UInt64.toNat_mul, UInt64.toNat_ofNat', UInt64.toNat_ofNat', UInt8.toNat_toUInt64, UInt8.toNat_mod, show (128 : UInt64).toNat = 128 from rfl, show (128 : UInt8).toNat = 128 from rfl]; omega
      unfold ref30_GetVar_lp2
      dsimp only
      rw [e1, bifTd (by omega), w64_addN (by omega), idx_nat (by omega), bind_some, lett_eq, lett_eq, e2, e3]
  have k0 := key (n + 1) (Nat.le_refl _)
  rw [List.drop_of_length_le (by omega), show ((n + 1 : Nat) : Int) - 1 = (n : Int) by omega] at k0
  exact k0
theorem RGet_eq {b : List UInt8} {at_ : Nat} (hl : b.length ≤ 1000000) (h : at_ ≤ b.length) : ref30_GetVar b (at_ : Int) = some ⟨(gv (b.drop at_)).1, (gv (b.drop at_)).2.1, (gv (b.drop at_)).2.2⟩ := by
  have hcl := cnt_le (b.drop at_)
  have hdl : (b.drop at_).length = b.length - at_ := List.length_drop
  unfold ref30_GetVar
  rw [bifF (by rw [Bool.or_eq_false_iff]; exact ⟨decide_eq_false (by omega), decide_eq_false (by omega)⟩), RGet_lp1 b at_ hl h]
  by_cases h10 : 10 ≤ cnt (b.drop at_)
  · have e : gv (b.drop at_) = (0, 0, 3) := by unfold gv; rw [if_pos h10]
    rw [if_pos h10, e]; rfl
  rw [if_neg h10, flow_go, flow_go, w64_addN (by omega)]
  by_cases hs : cnt (b.drop at_) = (b.drop at_).length
  · have e : gv (b.drop at_) = (0, 0, 2) := by unfold gv; rw [if_neg h10, if_pos hs]
    rw [bifTd (by omega), e]
  have hlt : at_ + cnt (b.drop at_) < b.length := by omega
  have hgd : (b.drop at_).getD (cnt (b.drop at_)) 0 = b[at_ + cnt (b.drop at_)] := by rw [getD8 (by omega), List.getElem_drop]
  have h2 := RGet_lp2 b at_ (cnt (b.drop at_)) hl hlt
  have eg : gv (b.drop at_) = if (cnt (b.drop at_) = 9 ∧ 1 < (b[at_ + cnt (b.drop at_)]).toNat) ∨ (0 < cnt (b.drop at_) ∧ b[at_ + cnt (b.drop at_)] = 0) then (0, 0, 3) else (UInt64.ofNat (leV ((b.drop at_).take (cnt (b.drop at_) + 1))), ((cnt (b.drop at_) + 1 : Nat) : Int), 0) := by
    unfold gv; rw [if_neg h10, if_neg hs, hgd]
  rw [bifFd (by omega), eg, idx_nat hlt]
  generalize b[at_ + cnt (b.drop at_)] = x at *
  generalize cnt (b.drop at_) = c at *
  have c1 : (bif decide ((c : Int) = 9) then (some x).bind fun e69 => some (decide (1 < e69)) else some false) = some (decide (c = 9 ∧ 1 < x.toNat)) := by
    by_cases e : c = 9
    · rw [bifTd (by omega), bind_some]
      congr 1
      rw [decide_eq_decide, UInt8.lt_iff_toNat_lt, show (1 : UInt8).toNat = 1 from rfl]; omega
    · rw [bifFd (by omega), decide_eq_false (by omega)]
  have c2 : (bif decide (0 < (c : Int)) then (some x).bind fun e89 => some (decide (e89 = 0)) else some false) = some (decide (0 < c ∧ x = 0)) := by
    by_cases e : 0 < c
    · rw [bifTd (by omega), bind_some]
      congr 1
      rw [decide_eq_decide]
      exact ⟨fun h => ⟨e, h⟩, fun h => h.2⟩
    · rw [bifFd (by omega), decide_eq_false (by omega)]
  rw [c1, bind_some, c2, bind_some]
  by_cases q1 : c = 9 ∧ 1 < x.toNat
  · rw [bifTd q1, bind_some, bifT (by rfl), if_pos (.inl q1)]
  · rw [bifFd q1, bind_some]
    by_cases q2 : 0 < c ∧ x = 0
    · rw [bifTd q2, if_pos (.inr q2)]
    · rw [bifFd q2, if_neg (fun e => e.elim q1 q2), h2, flow_go, bind_some, w64_succ (by omega)]
end Go.Lg
