/- Law 07: what is read of a float, by the document. -/
import Derived.Test.YtddfmahlbbbljaaDoorLg07c
import Derived.Test.YtddfmahlbbbljaaDoorLg06c
set_option linter.unusedVariables false
namespace Go.Lg
attribute [local irreducible] w64 toU64 toU8 shlU shrU shlB shrB

structure GotX where
  v : UInt64
  n : Nat
  e : Int
def bitOne (A : List Int) : Bool := decide (A.getD 1 0 = 1)
def gF (f : Nat) (A : List Int) : Nat := if bitOne A = true then dv ((A.drop 2).take 5) else f
def gS (s : Nat) (A : List Int) : Nat := if bitOne A = true then dv ((A.drop 7).take 6) + 1 else s
def gA (A : List Int) : Nat := if bitOne A = true then 13 else 2
def gD (f s : Nat) (A : List Int) : Nat := dv ((A.drop (gA A)).take (gS s A)) * 2 ^ (64 - gF f A - gS s A)
/-- a float that is read behind some others -/
def getX (l : List UInt64) (f s : Nat) (A : List Int) : GotX :=
  if l.length = 0 then (if A.length < 64 then ⟨0, 0, 2⟩ else ⟨UInt64.ofNat (dv (A.take 64)), 64, 0⟩)
  else if A.length < 1 then ⟨0, 0, 2⟩
  else if A.getD 0 0 = 0 then ⟨lastU l, 1, 0⟩
  else if A.length < 2 then ⟨0, 0, 2⟩
  else if bitOne A = true ∧ A.length < 13 then ⟨0, 0, 2⟩
  else if gS s A = 0 ∨ 64 < gF f A + gS s A then ⟨0, 0, 3⟩
  else if A.length - gA A < gS s A then ⟨0, 0, 2⟩
  else if putB l f s (lastU l ^^^ UInt64.ofNat (gD f s A)) = A.take (gA A + gS s A) then ⟨lastU l ^^^ UInt64.ofNat (gD f s A), gA A + gS s A, 0⟩
  else ⟨0, 0, 3⟩
theorem getD_0 {A : List Int} (h : 0 < A.length) : A.getD 0 0 = A[0] := getD_lt h 0
theorem getD_1 {A : List Int} (h : 1 < A.length) : A.getD 1 0 = A[1] := getD_lt h 0

theorem placed_loop {l : List Int} {f s : Nat} (hl : l.length = s) (hf : f + s ≤ 64) : ∀ (m i : Nat), i + m = 64 →
    loop (ref07_placed_lp1 l ⟨(f : Int), (s : Int)⟩) (((List.replicate f 0 ++ l ++ List.replicate (64 - f - s) 0).take i), (i : Int)) = some (.go (List.replicate f 0 ++ l ++ List.replicate (64 - f - s) 0))
  | 0, i, h => by
    have hi : i = 64 := by omega
    subst hi
    rw [loop_brk (b := List.replicate f 0 ++ l ++ List.replicate (64 - f - s) 0)]
    unfold ref07_placed_lp1
    dsimp only
    rw [bifFd (by omega), List.take_of_length_le (by simp only [List.length_append, List.length_replicate]; omega)]
  | m + 1, i, h => by
    have ih := placed_loop hl hf m (i + 1) (by omega)
    have hw : w64 ((f : Int) + (s : Int)) = ((f + s : Nat) : Int) := w64_addN (by omega)
    have hlen : (List.replicate f (0 : Int) ++ l ++ List.replicate (64 - f - s) 0).length = 64 := by simp only [List.length_append, List.length_replicate]; omega
    rw [loop_next (s' := ((List.replicate f 0 ++ l ++ List.replicate (64 - f - s) 0).take (i + 1), ((i + 1 : Nat) : Int))), ih]
    unfold ref07_placed_lp1
    dsimp only
    rw [bifTd (by omega), hw]
    have hb : (bif ((decide ((f : Int) ≤ (i : Int))) && (decide ((i : Int) < ((f + s : Nat) : Int)))) then (idx l (w64 ((i : Int) - (f : Int)))).bind fun e51 => some e51 else some 0 : Option Int) = some ((List.replicate f 0 ++ l ++ List.replicate (64 - f - s) 0)[i]'(by rw [hlen]; omega)) := by
      by_cases h1 : f ≤ i ∧ i < f + s
      · rw [bifT (by rw [decide_eq_true (by omega), decide_eq_true (by omega)]; rfl), w64_subN h1.1 (by omega), idx_nat (by omega), bind_some]
        congr 1
        rw [List.getElem_append_left (by simp only [List.length_append, List.length_replicate]; omega), List.getElem_append_right (by simp only [List.length_replicate]; omega)]
        simp only [List.length_replicate]
      · rw [bifF (by
          rw [Bool.and_eq_false_iff, decide_eq_false_iff_not, decide_eq_false_iff_not]; omega)]
        congr 1
        rcases Nat.lt_or_ge i f with h2 | h2
        · rw [List.getElem_append_left (by simp only [List.length_append, List.length_replicate]; omega), List.getElem_append_left (by simp only [List.length_replicate]; omega), List.getElem_replicate]
        · rw [List.getElem_append_right (by simp only [List.length_append, List.length_replicate]; omega), List.getElem_replicate]
    rw [hb, bind_some, app_ok (by simp only [List.length_take, List.length_cons, List.length_nil]; omega), bind_some, bind_some, lett_eq, w64_succ (by omega), List.take_append_getElem]
theorem placed_eq {l : List Int} {f s : Nat} (hb : Bit l) (hl : l.length = s) (hf : f + s ≤ 64) : ref07_placed l ⟨(f : Int), (s : Int)⟩ = some (UInt64.ofNat (dv l * 2 ^ (64 - f - s))) := by
  have h := placed_loop hl hf 64 0 rfl
  rw [List.take_zero] at h
  have hz : ∀ n, dv (List.replicate n 0) = 0 := fun n => by
    induction n with
    | zero => rfl
    | succ n ih => rw [List.replicate_succ, dv_cons, ih]; simp
  have hbz : ∀ n, Bit (List.replicate n (0 : Int)) := fun n x hx => .inl (List.eq_of_mem_replicate hx)
  unfold ref07_placed
  rw [show (0 : Int) = ((0 : Nat) : Int) from rfl, h, flow_go, number_eq (((hbz _).app hb).app (hbz _)) (by simp only [List.length_append, List.length_replicate]; omega), bind_some]
  congr 2
  rw [dv_append, dv_append, hz, hz, List.length_replicate]
  simp

open Classical in
theorem cmp_loop {A R : List Int} {n : Nat} (hr : R.length = n) (hA : n ≤ A.length) (hn : n ≤ 1000) : ∀ (m i : Nat), i + m = n →
    loop (ref07_Get_lp1 A (n : Int) R) (i : Int) = some (if R.drop i = (A.take n).drop i then .go () else .out (.out ⟨0, 0, ⟨[], ⟨0, 0⟩⟩, 3⟩))
  | 0, i, h => by
    have hi : i = n := by omega
    rw [loop_brk (b := ()), if_pos]
    · rw [List.drop_eq_nil_of_le (by omega), List.drop_eq_nil_of_le (by rw [List.length_take]; omega)]
    · unfold ref07_Get_lp1
      rw [bifFd (by omega)]
  | m + 1, i, h => by
    have ih := cmp_loop hr hA hn m (i + 1) (by omega)
    have e1 : R.drop i = R[i] :: R.drop (i + 1) := List.drop_eq_getElem_cons (by omega)
    have e2 : (A.take n).drop i = A[i] :: (A.take n).drop (i + 1) := by
      rw [List.drop_eq_getElem_cons (by rw [List.length_take]; omega), List.getElem_take]
    by_cases hx : R[i] = A[i]
    · rw [loop_next (s' := ((i + 1 : Nat) : Int)), ih]
      · congr 1
        apply ite_congr _ (fun _ => rfl) (fun _ => rfl)
        rw [e1, e2, hx]; simp
      · unfold ref07_Get_lp1
        rw [bifTd (by omega), idx_nat (by omega), bind_some, idx_nat (by omega), bind_some, bifF (by rw [decide_eq_true hx]; rfl), lett_eq, w64_succ (by omega)]
    · rw [loop_out (r := .out ⟨0, 0, ⟨[], ⟨0, 0⟩⟩, 3⟩), if_neg]
      · rw [e1, e2]; intro hh; exact hx (List.cons.inj hh).1
      · unfold ref07_Get_lp1
        rw [bifTd (by omega), idx_nat (by omega), bind_some, idx_nat (by omega), bind_some, bifT (by rw [decide_eq_false hx]; rfl), outs_some, outr_some]
def gotS (l : List UInt64) (f s : Nat) (g : GotX) : ref07_State := if g.e = 0 then ⟨l ++ [g.v], ⟨((putF l f s g.v : Nat) : Int), ((putS l f s g.v : Nat) : Int)⟩⟩ else ⟨[], ⟨0, 0⟩⟩
theorem xor_self_ (a b : UInt64) : (a ^^^ b) ^^^ a = b := by
  rw [UInt64.xor_comm a b, UInt64.xor_assoc, UInt64.xor_self, UInt64.xor_zero]
theorem refGet_eq {l : List UInt64} {f s : Nat} (hw : WinOk f s) (hl : l.length ≤ 100000) {A : List Int} (hb : Bit A) (hA : A.length ≤ 1000000) :
    ref07_Get ⟨l, ⟨(f : Int), (s : Int)⟩⟩ A = some ⟨(getX l f s A).v, ((getX l f s A).n : Int), gotS l f s (getX l f s A), (getX l f s A).e⟩ := by
  unfold ref07_Get
  dsimp only
  by_cases h0 : l.length = 0
  · rw [bifTd (by omega)]
    by_cases h1 : A.length < 64
    · rw [bifTd (by omega)]
      have : getX l f s A = ⟨0, 0, 2⟩ := by unfold getX; rw [if_pos h0, if_pos h1]
      rw [this]; rfl
    · rw [bifFd (by omega)]
      have : getX l f s A = ⟨UInt64.ofNat (dv (A.take 64)), 64, 0⟩ := by unfold getX; rw [if_pos h0, if_neg h1]
      rw [this, show slc A 0 64 = some ((A.take 64).drop 0) from slc_nat (i := 0) (j := 64) (by omega) (by omega), bind_some, List.drop_zero, number_eq (hb.take _) (by rw [List.length_take]; omega), bind_some, ref07_with_eq _ _ _ _ (by omega), bind_some]
      unfold gotS putF putS
      rw [if_pos rfl, if_pos (.inl h0), if_pos (.inl h0)]; rfl
  · rw [bifFd (by omega)]
    by_cases h1 : A.length < 1
    · rw [bifTd (by omega)]
      have : getX l f s A = ⟨0, 0, 2⟩ := by unfold getX; rw [if_neg h0, if_pos h1]
      rw [this]; rfl
    · rw [bifFd (by omega), idx_0 (by omega), bind_some]
      by_cases h2 : A[0] = 0
      · rw [bifTd h2, ref07_last_eq _ _ (by omega), bind_some, bind_some, ref07_with_eq _ _ _ _ (by omega), bind_some]
        have : getX l f s A = ⟨lastU l, 1, 0⟩ := by unfold getX; rw [if_neg h0, if_neg h1, getD_0 (by omega), if_pos h2]
        rw [this]
        unfold gotS putF putS
        have hz : lastU l ^^^ lastU l = 0 := UInt64.xor_self
        rw [if_pos rfl, if_pos (.inr (.inl hz)), if_pos (.inr (.inl hz))]; rfl
      · rw [bifFd h2]
        by_cases h3 : A.length < 2
        · rw [bifTd (by omega)]
          have : getX l f s A = ⟨0, 0, 2⟩ := by unfold getX; rw [if_neg h0, if_neg h1, getD_0 (by omega), if_neg h2, if_pos h3]
          rw [this]; rfl
        · rw [bifFd (by omega), idx_1 (by omega), bind_some]
          have hone : (A[1] = 1) ↔ bitOne A = true := by unfold bitOne; rw [decide_eq_true_eq, getD_1 (by omega)]
          by_cases h4 : bitOne A = true ∧ A.length < 13
          · rw [bifTd (hone.2 h4.1), bifTd (by omega), outs_some, flow_out]
            have : getX l f s A = ⟨0, 0, 2⟩ := by unfold getX; rw [if_neg h0, if_neg h1, getD_0 (by omega), if_neg h2, if_neg h3, if_pos h4]
            rw [this]; rfl
          · have hS64 : gS s A ≤ 64 := by
              unfold gS; split
              · have := dv_lt ((hb.drop 7).take 6)
                have : ((A.drop 7).take 6).length ≤ 6 := by rw [List.length_take]; omega
                have : 2 ^ ((A.drop 7).take 6).length ≤ 2 ^ 6 := Nat.pow_le_pow_right (by omega) this
                omega
              · have := hw.le; omega
            have hF64 : gF f A ≤ 64 := by
              unfold gF; split
              · have := dv_lt ((hb.drop 2).take 5)
                have : ((A.drop 2).take 5).length ≤ 5 := by rw [List.length_take]; omega
                have : 2 ^ ((A.drop 2).take 5).length ≤ 2 ^ 5 := Nat.pow_le_pow_right (by omega) this
                omega
              · have := hw.le; omega
            have hA13 : gA A = 13 ∨ gA A = 2 := by unfold gA; split <;> simp
            have hle : gA A ≤ A.length := by
              unfold gA; split
              · rename_i h5; exact Nat.le_of_not_lt fun h => h4 ⟨h5, h⟩
              · omega
            have hhead : (bif decide (A[1] = 1) then
                bif decide ((A.length : Int) < 13) then outs (some (ref07_Got.mk 0 0 (ref07_State.mk [] (ref07_Window.mk 0 0)) 2))
                else (slc A 2 7).bind fun t219 => (slc A 7 13).bind fun t230 => (ref01_Number t219).bind fun r237 => (ref01_Number t230).bind fun r250 => some (.go (w64 (r237.toNat : Int), w64 ((w64 (r250.toNat : Int)) + 1), 13))
                else some (.go ((f : Int), (s : Int), 2)) : Option (Flow (Int × Int × Int) ref07_Got)) = some (.go (((gF f A : Nat) : Int), ((gS s A : Nat) : Int), ((gA A : Nat) : Int))) := by
              by_cases h5 : bitOne A = true
              · have h13 : ¬ A.length < 13 := fun h => h4 ⟨h5, h⟩
                have e5 : (A.take 7).drop 2 = (A.drop 2).take 5 := by rw [List.drop_take]
                have e6 : (A.take 13).drop 7 = (A.drop 7).take 6 := by rw [List.drop_take]
                have hF : gF f A = dv ((A.drop 2).take 5) := by unfold gF; rw [if_pos h5]
                have hS : gS s A = dv ((A.drop 7).take 6) + 1 := by unfold gS; rw [if_pos h5]
                have hAt : gA A = 13 := by unfold gA; rw [if_pos h5]
                rw [bifTd (hone.2 h5), bifFd (by omega), show slc A 2 7 = some ((A.take 7).drop 2) from slc_nat (i := 2) (j := 7) (by omega) (by omega), bind_some, show slc A 7 13 = some ((A.take 13).drop 7) from slc_nat (i := 7) (j := 13) (by omega) (by omega), bind_some,
                  e5, e6, number_eq ((hb.drop 2).take 5) (by rw [List.length_take]; omega), bind_some, number_eq ((hb.drop 7).take 6) (by rw [List.length_take]; omega), bind_some, u64_ofNat (by omega), u64_ofNat (by omega), w64_nat (by omega), w64_nat (by omega), w64_succ (by omega), hF, hS, hAt]
                rfl
              · rw [bifFd (fun h => h5 (hone.1 h))]
                unfold gF gS gA; rw [if_neg h5, if_neg h5, if_neg h5]; rfl
            rw [hhead, flow_go]
            dsimp only
            rw [w64_addN (by omega), w64_subN (by omega) (by omega), w64_addN (by omega)]
            generalize hF : gF f A = F at *
            generalize hS : gS s A = S at *
            generalize hAt : gA A = a at *
            by_cases h6 : S = 0 ∨ 64 < F + S
            · rw [bifT (by rw [Bool.or_eq_true, decide_eq_true_eq, decide_eq_true_eq]; omega)]
              have : getX l f s A = ⟨0, 0, 3⟩ := by unfold getX; rw [if_neg h0, if_neg h1, getD_0 (by omega), if_neg h2, if_neg h3, if_neg h4, hS, hF, if_pos h6]
              rw [this]; rfl
            · rw [bifF (by rw [Bool.or_eq_false_iff, decide_eq_false_iff_not, decide_eq_false_iff_not]; omega)]
              by_cases h7 : A.length - a < S
              · rw [bifTd (by omega)]
                have : getX l f s A = ⟨0, 0, 2⟩ := by unfold getX; rw [if_neg h0, if_neg h1, getD_0 (by omega), if_neg h2, if_neg h3, if_neg h4, hS, hF, if_neg h6, hAt, if_pos h7]
                rw [this]; rfl
              · have e7 : (A.take (a + S)).drop a = (A.drop a).take S := by rw [List.drop_take]; congr 1; omega
                rw [bifFd (by omega), lett_eq, slc_nat (by omega) (by omega), bind_some, ref07_last_eq _ _ (by omega), bind_some, e7, placed_eq ((hb.drop a).take S) (by rw [List.length_take, List.length_drop]; omega) (by omega), bind_some, lett_eq,
                  refPut_eq hw hl, bind_some]
                have hD : gD f s A = dv ((A.drop a).take S) * 2 ^ (64 - F - S) := by unfold gD; rw [hF, hS, hAt]
                dsimp only
                rw [← hD]
                by_cases h8 : putB l f s (lastU l ^^^ UInt64.ofNat (gD f s A)) = A.take (a + S)
                · have hlen : (putB l f s (lastU l ^^^ UInt64.ofNat (gD f s A))).length = a + S := by rw [h8, List.length_take]; omega
                  rw [bifF (by rw [hlen]; simp), show (0 : Int) = ((0 : Nat) : Int) from rfl, cmp_loop hlen (by omega) (by omega) (a + S) 0 (by omega), if_pos (by rw [List.drop_zero, List.drop_zero]; exact h8), flow_go, flow_go]
                  have : getX l f s A = ⟨lastU l ^^^ UInt64.ofNat (gD f s A), a + S, 0⟩ := by unfold getX; rw [if_neg h0, if_neg h1, getD_0 (by omega), if_neg h2, if_neg h3, if_neg h4, hS, hF, if_neg h6, hAt, if_neg h7, if_pos h8]
                  rw [this]
                  unfold gotS; rw [if_pos rfl]; rfl
                · have : getX l f s A = ⟨0, 0, 3⟩ := by unfold getX; rw [if_neg h0, if_neg h1, getD_0 (by omega), if_neg h2, if_neg h3, if_neg h4, hS, hF, if_neg h6, hAt, if_neg h7, if_neg h8]
                  rw [this]
                  by_cases h9 : (putB l f s (lastU l ^^^ UInt64.ofNat (gD f s A))).length = a + S
                  · rw [bifF (by rw [h9]; simp), show (0 : Int) = ((0 : Nat) : Int) from rfl, cmp_loop h9 (by omega) (by omega) (a + S) 0 (by omega), if_neg (by rw [List.drop_zero, List.drop_zero]; exact h8), flow_out, flow_out]; rfl
                  · rw [bifT (by rw [Bool.not_eq_true', decide_eq_false_iff_not]; omega)]; rfl
end Go.Lg
