/- Law 07: what is put down of a float, by the document and by the program. -/
import Derived.Test.YtddfmahlbbbljaaDoorLg07b
set_option linter.unusedVariables false
namespace Go.Lg
attribute [local irreducible] w64 toU64 toU8 shlU shrU shlB shrB

def lastU (l : List UInt64) : UInt64 := l.getD (l.length - 1) 0
theorem lastU_nil : lastU [] = 0 := rfl
theorem lastU_snoc (l : List UInt64) (v : UInt64) : lastU (l ++ [v]) = v := by
  unfold lastU; simp [List.getD]
theorem ref07_last_eq (l : List UInt64) (W : ref07_Window) (hl : l.length ≤ 1000000) : ref07_last ⟨l, W⟩ = some (lastU l) := by
  unfold ref07_last
  by_cases h : l.length = 0
  · rw [bifTd (by simpa using h)]
    have : l = [] := List.eq_nil_of_length_eq_zero h
    subst this; rfl
  · rw [bifFd (by simpa using h), show w64 (((⟨l, W⟩ : ref07_State).L.length : Int) - 1) = ((l.length - 1 : Nat) : Int) by rw [w64_id] <;> (dsimp only; omega), idx_nat (by dsimp only; omega), bind_some]
    unfold lastU
    rw [List.getD_eq_getElem?_getD, List.getElem?_eq_getElem (by omega)]; rfl
theorem ref07_with_eq (l : List UInt64) (W W' : ref07_Window) (v : UInt64) (hl : l.length ≤ 1000000) : ref07_with ⟨l, W⟩ v W' = some ⟨l ++ [v], W'⟩ := by
  unfold ref07_with
  rw [app_ok (by simp; omega), bind_some, app_ok (by simp; omega), bind_some, List.nil_append]
theorem ref07_row_eq (v : UInt64) : ref07_row v = some (rowN v.toNat 64) := by
  unfold ref07_row
  rw [show (64 : Int) = ((64 : Nat) : Int) from rfl, row_eq (by omega), bind_some]

/-- the window that stands behind a float -/
def putF (l : List UInt64) (f s : Nat) (v : UInt64) : Nat := if l.length = 0 ∨ (v ^^^ lastU l) = 0 ∨ hol f s (v ^^^ lastU l).toNat = true then f else arF (v ^^^ lastU l).toNat
def putS (l : List UInt64) (f s : Nat) (v : UInt64) : Nat := if l.length = 0 ∨ (v ^^^ lastU l) = 0 ∨ hol f s (v ^^^ lastU l).toNat = true then s else arS (v ^^^ lastU l).toNat
/-- a float's bits -/
def putB (l : List UInt64) (f s : Nat) (v : UInt64) : List Int :=
  if l.length = 0 then rowN v.toNat 64
  else if (v ^^^ lastU l) = 0 then [0]
  else if hol f s (v ^^^ lastU l).toNat = true then [1, 0] ++ rowN ((v ^^^ lastU l).toNat / 2 ^ (64 - f - s)) s
  else [1, 1] ++ rowN (arF (v ^^^ lastU l).toNat) 5 ++ rowN (arS (v ^^^ lastU l).toNat - 1) 6 ++ rowN ((v ^^^ lastU l).toNat / 2 ^ tz (v ^^^ lastU l).toNat) (arS (v ^^^ lastU l).toNat)
theorem xor_zero {a b : UInt64} : a ^^^ b = 0 ↔ a = b := by
  constructor
  · intro h
    have : (a ^^^ b) ^^^ b = 0 ^^^ b := by rw [h]
    rw [UInt64.xor_assoc, UInt64.xor_self, UInt64.xor_zero, UInt64.zero_xor] at this; exact this
  · intro h; subst h; simp
theorem nz {a : UInt64} (h : a ≠ 0) : a.toNat ≠ 0 := fun e => h (UInt64.toNat_inj.1 e)
/-- what a window may be -/
def WinOk (f s : Nat) : Prop := (s = 0 ∧ f = 0) ∨ (1 ≤ s ∧ f + s ≤ 64 ∧ f ≤ 31)
theorem WinOk.le {f s : Nat} (h : WinOk f s) : f + s ≤ 64 := by unfold WinOk at h; omega
theorem WinOk.z {f s : Nat} (h : WinOk f s) : s = 0 → f = 0 := by unfold WinOk at h; omega
theorem WinOk.put {f s : Nat} (h : WinOk f s) (l : List UInt64) (v : UInt64) : WinOk (putF l f s v) (putS l f s v) := by
  unfold putF putS
  by_cases hc : l.length = 0 ∨ (v ^^^ lastU l) = 0 ∨ hol f s (v ^^^ lastU l).toNat = true
  · rw [if_pos hc, if_pos hc]; exact h
  · rw [if_neg hc, if_neg hc]
    have := ar_le (UInt64.toNat_lt (v ^^^ lastU l)) (nz (fun e => hc (.inr (.inl e))))
    exact .inr ⟨this.2.1, this.2.2.1, this.1⟩
theorem toU64_small {x : Nat} (h : x < 18446744073709551616) : (toU64 (x : Int)).toNat = x := toU64_nat h
theorem refPut_eq {l : List UInt64} {f s : Nat} (hw : WinOk f s) (hl : l.length ≤ 100000) (v : UInt64) :
    ref07_Put ⟨l, ⟨(f : Int), (s : Int)⟩⟩ v = some (putB l f s v, ⟨l ++ [v], ⟨((putF l f s v : Nat) : Int), ((putS l f s v : Nat) : Int)⟩⟩) := by
  have hd := UInt64.toNat_lt (v ^^^ lastU l)
  unfold ref07_Put
  by_cases h0 : l.length = 0
  · rw [bifTd (by simpa using h0), ref07_row_eq, bind_some, ref07_with_eq _ _ _ _ (by omega), bind_some]
    unfold putB putF putS; rw [if_pos h0, if_pos (.inl h0), if_pos (.inl h0)]
  · rw [bifFd (by simpa using h0), ref07_last_eq _ _ (by omega), bind_some, ref07_row_eq, bind_some, bind_some]
    by_cases h1 : v = lastU l
    · rw [bifTd h1, ref07_with_eq _ _ _ _ (by omega), bind_some]
      have h1' := xor_zero.2 h1
      unfold putB putF putS; rw [if_neg h0, if_pos h1', if_pos (.inr (.inl h1')), if_pos (.inr (.inl h1'))]
    · have h1' : ¬ (v ^^^ lastU l) = 0 := fun e => h1 (xor_zero.1 e)
      rw [bifFd h1, in_eq hd hw.le, bind_some]
      by_cases h2 : hol f s (v ^^^ lastU l).toNat = true
      · rw [bifT h2, w64_addN (by have := hw.le; omega), rowN_slc _ hw.le, bind_some, app_ok (by have := hw.le; simp only [List.length_append, rowN_len, List.length_cons, List.length_nil]; omega), bind_some, ref07_with_eq _ _ _ _ (by omega), bind_some]
        unfold putB putF putS; rw [if_neg h0, if_neg h1', if_pos h2, if_pos (.inr (.inr h2)), if_pos (.inr (.inr h2))]
      · have hc : ¬ (l.length = 0 ∨ (v ^^^ lastU l) = 0 ∨ hol f s (v ^^^ lastU l).toNat = true) := by
          rintro (h | h | h)
          · exact h0 h
          · exact h1' h
          · exact h2 h
        obtain ⟨a1, a2, a3, a4⟩ := ar_le hd (nz h1')
        rw [bifF (by simpa using h2), refAround_eq hd (nz h1'), bind_some]
        dsimp only
        rw [show (5 : Int) = ((5 : Nat) : Int) from rfl, row_eq (by omega), bind_some]
        dsimp only
        rw [show w64 (((arS (v ^^^ lastU l).toNat : Nat) : Int) - 1) = ((arS (v ^^^ lastU l).toNat - 1 : Nat) : Int) by rw [w64_id] <;> omega, show (6 : Int) = ((6 : Nat) : Int) from rfl, row_eq (by omega), bind_some]
        dsimp only
        rw [app_ok (by simp only [List.length_append, rowN_len, List.length_cons, List.length_nil]; omega), bind_some, app_ok (by simp only [List.length_append, rowN_len, List.length_cons, List.length_nil]; omega), bind_some, w64_addN (by omega), rowN_slc _ a3, bind_some,
          app_ok (by simp only [List.length_append, rowN_len, List.length_cons, List.length_nil]; omega), bind_some, ref07_with_eq _ _ _ _ (by omega), bind_some, a4, toU64_small (by omega), toU64_small (by omega)]
        unfold putB putF putS; rw [if_neg h0, if_neg h1', if_neg h2, if_neg hc, if_neg hc]
theorem putB_bit (l : List UInt64) (f s : Nat) (v : UInt64) : Bit (putB l f s v) := by
  unfold putB
  have h10 : Bit [1, 0] := fun x hx => by simp at hx; omega
  have h11 : Bit [1, 1] := fun x hx => by simp at hx; omega
  have h0 : Bit [0] := fun x hx => by simp at hx; omega
  split
  · exact rowN_bit _ _
  · split
    · exact h0
    · split
      · exact h10.app (rowN_bit _ _)
      · exact ((h11.app (rowN_bit _ _)).app (rowN_bit _ _)).app (rowN_bit _ _)
theorem putB_len {f s : Nat} (hw : WinOk f s) (l : List UInt64) (v : UInt64) : 1 ≤ (putB l f s v).length ∧ (putB l f s v).length ≤ 77 := by
  have := hw.le
  unfold putB
  split
  · rw [rowN_len]; omega
  · split
    · simp
    · rename_i h1
      split
      · simp only [List.length_append, rowN_len, List.length_cons, List.length_nil]; omega
      · obtain ⟨a1, a2, a3, a4⟩ := ar_le (UInt64.toNat_lt (v ^^^ lastU l)) (nz h1)
        simp only [List.length_append, rowN_len, List.length_cons, List.length_nil]; omega

/-- a row of the program's, and the document's -/
structure XS (x : xor_Row) (l : List UInt64) (f s : Nat) : Prop where
  n : x.n = (l.length : Int)
  last : x.last = lastU l
  win : x.win = ⟨(f : Int), (s : Int)⟩
  ok : WinOk f s
theorem XS.new : XS ⟨0, 0, ⟨0, 0⟩⟩ [] 0 0 := ⟨rfl, rfl, rfl, .inl ⟨rfl, rfl⟩⟩
theorem shr_lt {d b s : Nat} (h : d < 2 ^ (b + s)) : d / 2 ^ b < 2 ^ s := by
  rw [Nat.div_lt_iff_lt_mul (Nat.pow_pos (by omega)), ← Nat.pow_add, Nat.add_comm s b]; exact h
theorem wr_eta {w : bitio_Writer} : bitio_Writer.mk w.b w.n = w := rfl
theorem XS.put {x : xor_Row} {l : List UInt64} {f s : Nat} (h : XS x l f s) (hl : l.length ≤ 100000) {w : bitio_Writer} {L : List Int} (hw : WR w L) (v : UInt64) (hs : L.length + 77 ≤ 1000000) :
    ∃ x' w', xor_Row_Put x w v = some (x', w') ∧ XS x' (l ++ [v]) (putF l f s v) (putS l f s v) ∧ WR w' (L ++ putB l f s v) := by
  obtain ⟨xn, xl, xw⟩ := x
  obtain ⟨hn, hla, hwi, hok⟩ := h
  dsimp only at hn hla hwi
  subst hla; subst hwi; subst hn
  have hok' := hok.put l v
  have hd := UInt64.toNat_lt (v ^^^ lastU l)
  have hle := hok.le
  have fin : ∀ (F S : Nat) (w' : bitio_Writer), F = putF l f s v → S = putS l f s v → WR w' (L ++ putB l f s v) → ∃ x' w'', (lett (w64 ((l.length : Int) + 1)) fun t322 => some ((xor_Row.mk t322 v (xor_window.mk (F : Int) (S : Int))), (bitio_Writer.mk w'.b w'.n))) = some (x', w'') ∧ XS x' (l ++ [v]) (putF l f s v) (putS l f s v) ∧ WR w'' (L ++ putB l f s v) := by
    intro F S w' hF hS hW
    refine ⟨_, _, by rw [lett_eq], ⟨?_, ?_, ?_, hok'⟩, hW⟩
    · dsimp only; rw [w64_succ (by omega), List.length_append]; rfl
    · dsimp only; rw [lastU_snoc]
    · dsimp only; rw [hF, hS]
  unfold xor_Row_Put
  rw [lett_eq, lett_eq]
  dsimp only
  by_cases h0 : l.length = 0
  · rw [decide_eq_true (show (l.length : Int) = 0 by omega), cond_true]
    obtain ⟨w1, e1, hw1⟩ := hw.put (v := v) (n := 64) (by omega) (by have := UInt64.toNat_lt v; omega) (by omega)
    rw [show (64 : Int) = ((64 : Nat) : Int) from rfl, e1, bind_some, bind_some]
    refine fin f s w1 ?_ ?_ ?_
    · unfold putF; rw [if_pos (.inl h0)]
    · unfold putS; rw [if_pos (.inl h0)]
    · unfold putB; rw [if_pos h0]; exact hw1
  · rw [decide_eq_false (show ¬ (l.length : Int) = 0 by omega), cond_false, lett_eq]
    by_cases h1 : (v ^^^ lastU l) = 0
    · rw [decide_eq_true h1, cond_true]
      obtain ⟨w1, e1, hw1⟩ := hw.put (v := 0) (n := 1) (by omega) (by decide) (by omega)
      rw [show (1 : Int) = ((1 : Nat) : Int) from rfl, e1, bind_some, bind_some]
      refine fin f s w1 ?_ ?_ ?_
      · unfold putF; rw [if_pos (.inr (.inl h1))]
      · unfold putS; rw [if_pos (.inr (.inl h1))]
      · unfold putB; rw [if_neg h0, if_pos h1]; exact hw1
    · rw [decide_eq_false h1, cond_false, holds_eq hle hok.z, bind_some]
      by_cases h2 : hol f s (v ^^^ lastU l).toNat = true
      · rw [h2, cond_true]
        have h2' : 0 < s ∧ (v ^^^ lastU l).toNat < 2 ^ (64 - f) ∧ 2 ^ (64 - f - s) ∣ (v ^^^ lastU l).toNat := by unfold hol at h2; exact of_decide_eq_true h2
        obtain ⟨w1, e1, hw1⟩ := hw.put (v := 2) (n := 2) (by omega) (by decide) (by omega)
        rw [show (2 : Int) = ((2 : Nat) : Int) from rfl, e1, bind_some]
        dsimp only
        rw [behind_eq hle, bind_some, toU64_small (by omega)]
        have e3 : (shrU (v ^^^ lastU l) (64 - f - s)).toNat = (v ^^^ lastU l).toNat / 2 ^ (64 - f - s) := shrU_nat _ (by omega)
        obtain ⟨w2, e2, hw2⟩ := hw1.put (v := shrU (v ^^^ lastU l) (64 - f - s)) (n := s) (by omega) (by rw [e3]; exact shr_lt (by rw [show 64 - f - s + s = 64 - f by omega]; exact h2'.2.1)) (by rw [List.length_append, rowN_len]; omega)
        rw [e2, bind_some, bind_some]
        refine fin f s w2 ?_ ?_ ?_
        · unfold putF; rw [if_pos (.inr (.inr h2))]
        · unfold putS; rw [if_pos (.inr (.inr h2))]
        · unfold putB; rw [if_neg h0, if_neg h1, if_pos h2, ← List.append_assoc]; rw [e3] at hw2; exact hw2
      · have h2' : hol f s (v ^^^ lastU l).toNat = false := by simpa using h2
        obtain ⟨a1, a2, a3, a4⟩ := ar_le hd (nz h1)
        have hc : ¬ (l.length = 0 ∨ (v ^^^ lastU l) = 0 ∨ hol f s (v ^^^ lastU l).toNat = true) := by
          rintro (h | h | h)
          · exact h0 h
          · exact h1 h
          · exact h2 h
        have hh := ar_hol hd (nz h1)
        have hh' : (v ^^^ lastU l).toNat < 2 ^ (64 - arF (v ^^^ lastU l).toNat) := by unfold hol at hh; exact (of_decide_eq_true hh).2.1
        rw [h2', cond_false, around_eq (nz h1), bind_some]
        generalize hF : arF (v ^^^ lastU l).toNat = F at *
        generalize hS : arS (v ^^^ lastU l).toNat = S at *
        generalize hT : tz (v ^^^ lastU l).toNat = T at *
        obtain ⟨w1, e1, hw1⟩ := hw.put (v := 3) (n := 2) (by omega) (by decide) (by omega)
        rw [show (2 : Int) = ((2 : Nat) : Int) from rfl, e1, bind_some]
        dsimp only
        have eF : (toU64 (F : Int)).toNat = F := toU64_small (by omega)
        obtain ⟨w2, e2, hw2⟩ := hw1.put (v := toU64 (F : Int)) (n := 5) (by omega) (by rw [eF]; omega) (by rw [List.length_append, rowN_len]; omega)
        rw [show (5 : Int) = ((5 : Nat) : Int) from rfl, e2, bind_some]
        dsimp only
        have eS : (toU64 ((S - 1 : Nat) : Int)).toNat = S - 1 := toU64_small (by omega)
        obtain ⟨w3, e3, hw3⟩ := hw2.put (v := toU64 ((S - 1 : Nat) : Int)) (n := 6) (by omega) (by rw [eS]; omega) (by simp only [List.length_append, rowN_len]; omega)
        rw [show w64 ((S : Int) - 1) = ((S - 1 : Nat) : Int) by rw [w64_id] <;> omega, show (6 : Int) = ((6 : Nat) : Int) from rfl, e3, bind_some]
        dsimp only
        rw [behind_eq a3, bind_some, toU64_small (by omega), a4]
        have e5 : (shrU (v ^^^ lastU l) T).toNat = (v ^^^ lastU l).toNat / 2 ^ T := shrU_nat _ (by omega)
        obtain ⟨w4, e4, hw4⟩ := hw3.put (v := shrU (v ^^^ lastU l) T) (n := S) (by omega) (by rw [e5]; exact shr_lt (by rw [show T + S = 64 - F by omega]; exact hh')) (by simp only [List.length_append, rowN_len]; omega)
        rw [e4, bind_some, bind_some]
        refine fin F S w4 ?_ ?_ ?_
        · unfold putF; rw [if_neg hc, hF]
        · unfold putS; rw [if_neg hc, hS]
        · unfold putB; rw [if_neg h0, if_neg h1, if_neg h2, hF, hS, hT]
          rw [eF, eS, e5] at *
          have : L ++ ([1, 1] ++ rowN F 5 ++ rowN (S - 1) 6 ++ rowN ((v ^^^ lastU l).toNat / 2 ^ T) S) = L ++ rowN (3 : UInt64).toNat 2 ++ rowN F 5 ++ rowN (S - 1) 6 ++ rowN ((v ^^^ lastU l).toNat / 2 ^ T) S := by
            rw [show rowN (3 : UInt64).toNat 2 = [1, 1] from rfl]; simp only [List.append_assoc]
          rw [this]; exact hw4
end Go.Lg
