/- Law 07: rows of floats; the three laws, plainly. -/
import Derived.Test.YtddfmahlbbbljaaDoorLg07f
import Derived.Test.YtddfmahlbbbljaaDoorLg06d
set_option linter.unusedVariables false
namespace Go.Lg
attribute [local irreducible] w64 toU64 toU8 shlU shrU shlB shrB

theorem XS.get {x : xor_Row} {l : List UInt64} {f s : Nat} (h : XS x l f s) (hl : l.length ≤ 100000) {r : bitio_Reader} {A : List Int} {p : Nat} (hr : RA r A p) :
    ∃ x' r', xor_Row_Get x r = some ((getX l f s (A.drop p)).v, (getX l f s (A.drop p)).e, x', r') ∧
      ((getX l f s (A.drop p)).e = 0 → XS x' (l ++ [(getX l f s (A.drop p)).v]) (putF l f s (getX l f s (A.drop p)).v) (putS l f s (getX l f s (A.drop p)).v) ∧ RA r' A (p + (getX l f s (A.drop p)).n)) ∧
      ((getX l f s (A.drop p)).e ≠ 0 → x' = x ∧ r' = r) := by
  obtain ⟨F, S, e, d, q, r1, e1, hr1, he, hok⟩ := turn_ok h hr
  have hv0 : ∀ B, (getX l f s B).e ≠ 0 → (getX l f s B).v = 0 := by
    intro B
    unfold getX
    split
    · split
      · intro _; rfl
      · intro h; exact absurd rfl h
    · repeat' split
      all_goals first | (intro _; rfl) | (intro h; exact absurd rfl h)
  have hok2 := h.ok.put l (getX l f s (A.drop p)).v
  rw [get_turn, e1, bind_some]
  dsimp only
  generalize hg : getX l f s (A.drop p) = g at *
  by_cases h0 : e = 0
  · subst h0
    obtain ⟨h1, h2, h3, h4⟩ := hok rfl
    rw [decide_eq_true (rfl : (0 : Int) = 0), Bool.not_true, cond_false, lett_eq, lett_eq]
    have a1 : bitio_Reader_At ⟨r1.b, r1.n, r1.at_⟩ = some (q : Int) := hr1.at'
    rw [a1, bind_some, hr.at', bind_some]
    have hq := hr1.le
    have := hr.len
    have := hr.small
    rw [w64_subN (by omega) (by omega)]
    obtain ⟨r2, e2, hr2, _⟩ := hr.skip (k := q - p) (by omega)
    rw [e2, bind_some]
    dsimp only
    refine ⟨_, _, by rw [← he, h.last, h3], fun _ => ⟨⟨?_, ?_, ?_, hok2⟩, ?_⟩, fun hh => absurd he.symm hh⟩
    · dsimp only; rw [h.n, w64_succ (by omega), List.length_append]; rfl
    · dsimp only; rw [lastU_snoc]
    · dsimp only; rw [h1, h2]
    · rw [← h4]; rw [show p + (q - p) = q by omega] at hr2; exact hr2
  · rw [decide_eq_false h0, Bool.not_false, cond_true]
    refine ⟨x, r, ?_, fun hh => absurd (he.trans hh) h0, fun _ => ⟨rfl, rfl⟩⟩
    have := hv0 (A.drop p) (by rw [hg, ← he]; exact h0)
    rw [hg] at this
    rw [this, he]

theorem bitOne_app (x y : Int) (L : List Int) : bitOne (x :: y :: L) = decide (y = 1) := rfl
/-- what was put is taken -/
theorem getX_put {l : List UInt64} {f s : Nat} (hw : WinOk f s) (v : UInt64) (rest : List Int) (hr : Bit rest) : getX l f s (putB l f s v ++ rest) = ⟨v, (putB l f s v).length, 0⟩ := by
  have hv := UInt64.toNat_lt v
  have hbB := (putB_bit l f s v).app hr
  have hx : lastU l ^^^ (v ^^^ lastU l) = v := by rw [UInt64.xor_comm v, ← UInt64.xor_assoc, UInt64.xor_self, UInt64.zero_xor]
  by_cases h0 : l.length = 0
  · have e : putB l f s v = rowN v.toNat 64 := by unfold putB; rw [if_pos h0]
    rw [e]
    unfold getX
    rw [if_pos h0, if_neg (by simp only [List.length_append, rowN_len]; omega), take_app (rowN_len _ _), rowN_dv, Nat.mod_eq_of_lt (by omega), UInt64.ofNat_toNat, rowN_len]
  · by_cases h1 : (v ^^^ lastU l) = 0
    · have e : putB l f s v = [0] := by unfold putB; rw [if_neg h0, if_pos h1]
      rw [e]
      unfold getX
      rw [if_neg h0, if_neg (by simp), if_pos (show ([0] ++ rest : List Int).getD 0 0 = 0 from rfl), xor_zero.1 h1]; rfl
    · have hd := UInt64.toNat_lt (v ^^^ lastU l)
      by_cases h2 : hol f s (v ^^^ lastU l).toNat = true
      · have e : putB l f s v = [1, 0] ++ rowN ((v ^^^ lastU l).toNat / 2 ^ (64 - f - s)) s := by unfold putB; rw [if_neg h0, if_neg h1, if_pos h2]
        have h2' : 0 < s ∧ (v ^^^ lastU l).toNat < 2 ^ (64 - f) ∧ 2 ^ (64 - f - s) ∣ (v ^^^ lastU l).toNat := by unfold hol at h2; exact of_decide_eq_true h2
        have hle := hw.le
        have hb1 : ¬ bitOne (putB l f s v ++ rest) = true := by rw [e]; intro hh; cases hh
        have hlen : (putB l f s v ++ rest).length = 2 + s + rest.length := by rw [e]; simp only [List.length_append, rowN_len, List.length_cons, List.length_nil]
        have eF : gF f (putB l f s v ++ rest) = f := by unfold gF; rw [if_neg hb1]
        have eS : gS s (putB l f s v ++ rest) = s := by unfold gS; rw [if_neg hb1]
        have eA : gA (putB l f s v ++ rest) = 2 := by unfold gA; rw [if_neg hb1]
        have hD : gD f s (putB l f s v ++ rest) = (v ^^^ lastU l).toNat := by
          unfold gD; rw [eF, eS, eA, e]
          have : (([1, 0] ++ rowN ((v ^^^ lastU l).toNat / 2 ^ (64 - f - s)) s ++ rest).drop 2).take s = rowN ((v ^^^ lastU l).toNat / 2 ^ (64 - f - s)) s := by
            rw [List.append_assoc, drop_app (by rfl), take_app (rowN_len _ _)]
          rw [this, rowN_dv, Nat.mod_eq_of_lt (shr_lt (by rw [show 64 - f - s + s = 64 - f by omega]; exact h2'.2.1)), Nat.div_mul_cancel h2'.2.2]
        have hlB : (putB l f s v).length = 2 + s := by rw [e]; simp only [List.length_append, rowN_len, List.length_cons, List.length_nil]
        unfold getX
        rw [if_neg h0, if_neg (by omega), if_neg (by rw [e]; simp), if_neg (by omega), if_neg (fun hh => hb1 hh.1), eS, eF, if_neg (by omega), eA, if_neg (by omega), hD, UInt64.ofNat_toNat, hx, if_pos (by rw [take_app hlB]), hlB]
      · obtain ⟨a1, a2, a3, a4⟩ := ar_le hd (nz h1)
        have e : putB l f s v = [1, 1] ++ rowN (arF (v ^^^ lastU l).toNat) 5 ++ rowN (arS (v ^^^ lastU l).toNat - 1) 6 ++ rowN ((v ^^^ lastU l).toNat / 2 ^ tz (v ^^^ lastU l).toNat) (arS (v ^^^ lastU l).toNat) := by
          unfold putB; rw [if_neg h0, if_neg h1, if_neg h2]
        have hh := ar_hol hd (nz h1)
        have hh' : (v ^^^ lastU l).toNat < 2 ^ (64 - arF (v ^^^ lastU l).toNat) ∧ 2 ^ (64 - arF (v ^^^ lastU l).toNat - arS (v ^^^ lastU l).toNat) ∣ (v ^^^ lastU l).toNat := by unfold hol at hh; exact (of_decide_eq_true hh).2
        rw [a4] at hh'
        have hb1 : bitOne (putB l f s v ++ rest) = true := by rw [e]; rfl
        have hlB : (putB l f s v).length = 13 + arS (v ^^^ lastU l).toNat := by rw [e]; simp only [List.length_append, rowN_len, List.length_cons, List.length_nil]
        have hlen : (putB l f s v ++ rest).length = 13 + arS (v ^^^ lastU l).toNat + rest.length := by rw [List.length_append, hlB]
        have hsplit : putB l f s v ++ rest = [1, 1] ++ (rowN (arF (v ^^^ lastU l).toNat) 5 ++ (rowN (arS (v ^^^ lastU l).toNat - 1) 6 ++ (rowN ((v ^^^ lastU l).toNat / 2 ^ tz (v ^^^ lastU l).toNat) (arS (v ^^^ lastU l).toNat) ++ rest))) := by rw [e]; simp only [List.append_assoc]
        have d2 : (putB l f s v ++ rest).drop 2 = rowN (arF (v ^^^ lastU l).toNat) 5 ++ (rowN (arS (v ^^^ lastU l).toNat - 1) 6 ++ (rowN ((v ^^^ lastU l).toNat / 2 ^ tz (v ^^^ lastU l).toNat) (arS (v ^^^ lastU l).toNat) ++ rest)) := by rw [hsplit, drop_app (by rfl)]
        have d7 : (putB l f s v ++ rest).drop 7 = rowN (arS (v ^^^ lastU l).toNat - 1) 6 ++ (rowN ((v ^^^ lastU l).toNat / 2 ^ tz (v ^^^ lastU l).toNat) (arS (v ^^^ lastU l).toNat) ++ rest) := by
          rw [show 7 = 2 + 5 from rfl, ← List.drop_drop, d2, drop_app (rowN_len _ _)]
        have d13 : (putB l f s v ++ rest).drop 13 = rowN ((v ^^^ lastU l).toNat / 2 ^ tz (v ^^^ lastU l).toNat) (arS (v ^^^ lastU l).toNat) ++ rest := by
          rw [show 13 = 7 + 6 from rfl, ← List.drop_drop, d7, drop_app (rowN_len _ _)]
        have eF : gF f (putB l f s v ++ rest) = arF (v ^^^ lastU l).toNat := by unfold gF; rw [if_pos hb1, d2, take_app (rowN_len _ _), rowN_dv, Nat.mod_eq_of_lt (by omega)]
        have eS : gS s (putB l f s v ++ rest) = arS (v ^^^ lastU l).toNat := by unfold gS; rw [if_pos hb1, d7, take_app (rowN_len _ _), rowN_dv, Nat.mod_eq_of_lt (by omega)]; omega
        have eA : gA (putB l f s v ++ rest) = 13 := by unfold gA; rw [if_pos hb1]
        have hD : gD f s (putB l f s v ++ rest) = (v ^^^ lastU l).toNat := by
          unfold gD; rw [eF, eS, eA, d13, take_app (rowN_len _ _), rowN_dv, a4, Nat.mod_eq_of_lt (shr_lt (by rw [show tz (v ^^^ lastU l).toNat + arS (v ^^^ lastU l).toNat = 64 - arF (v ^^^ lastU l).toNat by omega]; exact hh'.1)), Nat.div_mul_cancel hh'.2]
        unfold getX
        rw [if_neg h0, if_neg (by omega), if_neg (by rw [e]; simp), if_neg (by omega), if_neg (fun hh => by omega), eS, eF, if_neg (by omega), eA, if_neg (by omega), hD, UInt64.ofNat_toNat, hx, if_pos (by rw [take_app hlB]), hlB]
/-- what is taken stands there as it would be put -/
theorem getX_got {l : List UInt64} {f s : Nat} {B : List Int} (hb : Bit B) (h : (getX l f s B).e = 0) : (getX l f s B).n ≤ B.length ∧ B.take (getX l f s B).n = putB l f s (getX l f s B).v := by
  by_cases h0 : l.length = 0
  · by_cases h1 : B.length < 64
    · have g : getX l f s B = ⟨0, 0, 2⟩ := by unfold getX; rw [if_pos h0, if_pos h1]
      rw [g] at h; cases h
    · have g : getX l f s B = ⟨UInt64.ofNat (dv (B.take 64)), 64, 0⟩ := by unfold getX; rw [if_pos h0, if_neg h1]
      rw [g]
      dsimp only
      have hl : (B.take 64).length = 64 := by rw [List.length_take]; omega
      have hlt := dv_lt (hb.take 64)
      rw [hl] at hlt
      refine ⟨by omega, ?_⟩
      unfold putB; rw [if_pos h0, ofNat_toNat hlt]
      have := rowN_self (hb.take 64)
      rw [hl] at this; exact this.symm
  · by_cases h1 : B.length < 1
    · have g : getX l f s B = ⟨0, 0, 2⟩ := by unfold getX; rw [if_neg h0, if_pos h1]
      rw [g] at h; cases h
    · by_cases h2 : B.getD 0 0 = 0
      · have g : getX l f s B = ⟨lastU l, 1, 0⟩ := by unfold getX; rw [if_neg h0, if_neg h1, if_pos h2]
        rw [g]
        dsimp only
        have hz : lastU l ^^^ lastU l = 0 := UInt64.xor_self
        refine ⟨by omega, ?_⟩
        unfold putB; rw [if_neg h0, if_pos hz]
        cases B with
        | nil => simp at h1
        | cons b B => simp at h2; subst h2; rfl
      · by_cases h3 : B.length < 2
        · have g : getX l f s B = ⟨0, 0, 2⟩ := by unfold getX; rw [if_neg h0, if_neg h1, if_neg h2, if_pos h3]
          rw [g] at h; cases h
        · by_cases h4 : bitOne B = true ∧ B.length < 13
          · have g : getX l f s B = ⟨0, 0, 2⟩ := by unfold getX; rw [if_neg h0, if_neg h1, if_neg h2, if_neg h3, if_pos h4]
            rw [g] at h; cases h
          · by_cases h5 : gS s B = 0 ∨ 64 < gF f B + gS s B
            · have g : getX l f s B = ⟨0, 0, 3⟩ := by unfold getX; rw [if_neg h0, if_neg h1, if_neg h2, if_neg h3, if_neg h4, if_pos h5]
              rw [g] at h; cases h
            · by_cases h6 : B.length - gA B < gS s B
              · have g : getX l f s B = ⟨0, 0, 2⟩ := by unfold getX; rw [if_neg h0, if_neg h1, if_neg h2, if_neg h3, if_neg h4, if_neg h5, if_pos h6]
                rw [g] at h; cases h
              · by_cases h7 : putB l f s (lastU l ^^^ UInt64.ofNat (gD f s B)) = B.take (gA B + gS s B)
                · have g : getX l f s B = ⟨lastU l ^^^ UInt64.ofNat (gD f s B), gA B + gS s B, 0⟩ := by unfold getX; rw [if_neg h0, if_neg h1, if_neg h2, if_neg h3, if_neg h4, if_neg h5, if_neg h6, if_pos h7]
                  rw [g]
                  exact ⟨by dsimp only; omega, h7.symm⟩
                · have g : getX l f s B = ⟨0, 0, 3⟩ := by unfold getX; rw [if_neg h0, if_neg h1, if_neg h2, if_neg h3, if_neg h4, if_neg h5, if_neg h6, if_neg h7]
                  rw [g] at h; cases h

/-- the window behind so many floats -/
def stW (l : List UInt64) : Nat → Nat × Nat
  | 0 => (0, 0)
  | i + 1 => (putF (l.take i) (stW l i).1 (stW l i).2 (l.getD i 0), putS (l.take i) (stW l i).1 (stW l i).2 (l.getD i 0))
def nxB (l : List UInt64) (i : Nat) : List Int := putB (l.take i) (stW l i).1 (stW l i).2 (l.getD i 0)
def allB (l : List UInt64) : Nat → List Int
  | 0 => []
  | i + 1 => allB l i ++ nxB l i
theorem stW_ok (l : List UInt64) : ∀ i, WinOk (stW l i).1 (stW l i).2
  | 0 => .inl ⟨rfl, rfl⟩
  | i + 1 => (stW_ok l i).put _ _
theorem allB_bit (l : List UInt64) : ∀ i, Bit (allB l i)
  | 0 => Bit.nil
  | i + 1 => (allB_bit l i).app (putB_bit _ _ _ _)
theorem nxB_len (l : List UInt64) (i : Nat) : 1 ≤ (nxB l i).length ∧ (nxB l i).length ≤ 77 := putB_len (stW_ok l i) _ _
theorem allB_le (l : List UInt64) : ∀ i, (allB l i).length ≤ 77 * i
  | 0 => by simp [allB]
  | i + 1 => by rw [allB, List.length_append]; have := allB_le l i; have := (nxB_len l i).2; omega
theorem allB_ge (l : List UInt64) : ∀ i, 64 + i ≤ (allB l (i + 1)).length
  | 0 => by
    rw [allB, List.length_append]
    unfold nxB putB
    rw [List.take_zero, if_pos (show ([] : List UInt64).length = 0 from rfl), rowN_len]; omega
  | i + 1 => by
    have := allB_ge l i
    rw [allB, List.length_append]; have := (nxB_len l (i + 1)).1; omega
theorem take_snoc {l : List UInt64} {i : Nat} (h : i < l.length) : l.take (i + 1) = l.take i ++ [l.getD i 0] := by
  rw [List.take_succ_eq_append_getElem h, getD_lt h]
theorem cost_loop (l : List UInt64) (hl : l.length ≤ 1000) : ∀ (m i : Nat) (w : bitio_Writer) (x : xor_Row), i + m = l.length → WR w (allB l i) → XS x (l.take i) (stW l i).1 (stW l i).2 →
    ∃ w', loop (xor_Cost_lp1 l) (w.b, w.n, x.n, x.last, x.win.ahead, x.win.size, (i : Int)) = some (.go (w'.b, w'.n)) ∧ WR w' (allB l l.length)
  | 0, i, w, x, hi, hw, hx => by
    have : i = l.length := by omega
    subst this
    refine ⟨w, ?_, hw⟩
    rw [loop_brk (b := (w.b, w.n))]
    unfold xor_Cost_lp1
    dsimp only
    rw [bifFd (by omega)]
  | m + 1, i, w, x, hi, hw, hx => by
    have hlt : i < l.length := by omega
    have := allB_le l i
    obtain ⟨x', w', e, hx', hw'⟩ := hx.put (by rw [List.length_take]; omega) hw (l.getD i 0) (by omega)
    rw [← take_snoc hlt] at hx'
    obtain ⟨w2, h1, h2⟩ := cost_loop l hl m (i + 1) w' x' (by omega) hw' hx'
    refine ⟨w2, ?_, h2⟩
    rw [loop_next (s' := (w'.b, w'.n, x'.n, x'.last, x'.win.ahead, x'.win.size, ((i + 1 : Nat) : Int)))]
    · exact h1
    · unfold xor_Cost_lp1
      dsimp only
      rw [bifTd (by omega), idx_nat hlt, bind_some, ← getD_lt hlt 0]
      have e' : xor_Row_Put ⟨x.n, x.last, ⟨x.win.ahead, x.win.size⟩⟩ ⟨w.b, w.n⟩ (l.getD i 0) = _ := e
      rw [e', bind_some]
      dsimp only
      rw [w64_succ (by omega)]
theorem cost_eq {l : List UInt64} (hl : l.length ≤ 1000) : xor_Cost l = some (((allB l l.length).length : Nat) : Int) := by
  obtain ⟨w, h1, h2⟩ := cost_loop l hl l.length 0 ⟨[], 0⟩ ⟨0, 0, ⟨0, 0⟩⟩ (by omega) WR.new XS.new
  unfold xor_Cost bitio_NewWriter xor_NewRow
  have h1' : loop (xor_Cost_lp1 l) ([], 0, 0, 0, 0, 0, 0) = some (.go (w.b, w.n)) := h1
  rw [bind_some, bind_some]
  dsimp only
  rw [h1', flow_go]
  dsimp only
  have : bitio_Writer_Len ⟨w.b, w.n⟩ = _ := h2.len
  rw [this, bind_some]
end Go.Lg
