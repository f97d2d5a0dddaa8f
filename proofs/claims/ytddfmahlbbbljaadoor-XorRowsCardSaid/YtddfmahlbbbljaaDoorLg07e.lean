/- Law 07: what is read of a float, by the program. -/
import Derived.Test.YtddfmahlbbbljaaDoorLg07d
set_option linter.unusedVariables false
namespace Go.Lg
attribute [local irreducible] w64 toU64 toU8 shlU shrU shlB shrB

theorem app_inj5 {a a' b b' c c' : List Int} (h1 : a.length = a'.length) (h2 : b.length = b'.length) (h : a ++ b ++ c = a' ++ b' ++ c') : a = a' ∧ b = b' ∧ c = c' := by
  rw [List.append_assoc, List.append_assoc] at h
  obtain ⟨e1, e2⟩ := List.append_inj h h1
  obtain ⟨e3, e4⟩ := List.append_inj e2 h2
  exact ⟨e1, e3, e4⟩
theorem rowN_inj {a b n : Nat} (ha : a < 2 ^ n) (hb : b < 2 ^ n) (h : rowN a n = rowN b n) : a = b := by
  have := congrArg dv h
  rw [rowN_dv, rowN_dv, Nat.mod_eq_of_lt ha, Nat.mod_eq_of_lt hb] at this; exact this
/-- what is laid apart -/
theorem cut13 {B : List Int} (hb : Bit B) {S : Nat} (h : 13 + S ≤ B.length) (h0 : B.getD 0 0 ≠ 0) (h1 : bitOne B = true) :
    B.take (13 + S) = [1, 1] ++ rowN (dv ((B.drop 2).take 5)) 5 ++ rowN (dv ((B.drop 7).take 6)) 6 ++ (B.drop 13).take S := by
  have e0 : B[0] = 1 := by
    rw [getD_0 (by omega)] at h0
    rcases hb B[0] (List.getElem_mem _) with e | e
    · exact absurd e h0
    · exact e
  have e1 : B[1] = 1 := by unfold bitOne at h1; rw [getD_1 (by omega)] at h1; exact of_decide_eq_true h1
  have r5 : rowN (dv ((B.drop 2).take 5)) 5 = (B.drop 2).take 5 := by
    have := rowN_self ((hb.drop 2).take 5)
    rwa [show ((B.drop 2).take 5).length = 5 by rw [List.length_take, List.length_drop]; omega] at this
  have r6 : rowN (dv ((B.drop 7).take 6)) 6 = (B.drop 7).take 6 := by
    have := rowN_self ((hb.drop 7).take 6)
    rwa [show ((B.drop 7).take 6).length = 6 by rw [List.length_take, List.length_drop]; omega] at this
  rw [r5, r6]
  have e2 : B.take 2 = [1, 1] := by
    apply List.ext_getElem
    · rw [List.length_take]; simp; omega
    · intro i h1 h2
      rw [List.getElem_take]
      have : i = 0 ∨ i = 1 := by simp at h2; omega
      rcases this with e | e <;> subst e <;> simp [e0, e1]
  rw [← e2]
  have a1 : B.take 7 = B.take 2 ++ (B.drop 2).take 5 := by rw [show 7 = 2 + 5 from rfl, List.take_add]
  have a2 : B.take 13 = B.take 7 ++ (B.drop 7).take 6 := by rw [show 13 = 7 + 6 from rfl, List.take_add]
  rw [List.take_add, a2, a1]
theorem cut2 {B : List Int} (hb : Bit B) {S : Nat} (h : 2 + S ≤ B.length) (h0 : B.getD 0 0 ≠ 0) (h1 : ¬ bitOne B = true) :
    B.take (2 + S) = [1, 0] ++ (B.drop 2).take S := by
  have e0 : B[0] = 1 := by
    rw [getD_0 (by omega)] at h0
    rcases hb B[0] (List.getElem_mem _) with e | e
    · exact absurd e h0
    · exact e
  have e1 : B[1] = 0 := by
    rcases hb B[1] (List.getElem_mem _) with e | e
    · exact e
    · exfalso; apply h1; unfold bitOne; rw [getD_1 (by omega), decide_eq_true_eq]; exact e
  have e2 : B.take 2 = [1, 0] := by
    apply List.ext_getElem
    · rw [List.length_take]; simp; omega
    · intro i h1 h2
      rw [List.getElem_take]
      have : i = 0 ∨ i = 1 := by simp at h2; omega
      rcases this with e | e <;> subst e <;> simp [e0, e1]
  rw [List.take_add, e2]
theorem gD_lt {f s : Nat} {B : List Int} (hb : Bit B) (h : gF f B + gS s B ≤ 64) : dv ((B.drop (gA B)).take (gS s B)) < 2 ^ gS s B ∧ gD f s B < 2 ^ (64 - gF f B) := by
  have h1 := dv_lt ((hb.drop (gA B)).take (gS s B))
  have h2 : ((B.drop (gA B)).take (gS s B)).length ≤ gS s B := by rw [List.length_take]; omega
  have h3 : dv ((B.drop (gA B)).take (gS s B)) < 2 ^ gS s B := Nat.lt_of_lt_of_le h1 (Nat.pow_le_pow_right (by omega) h2)
  refine ⟨h3, ?_⟩
  unfold gD
  have hk : 2 ^ (64 - gF f B) = 2 ^ gS s B * 2 ^ (64 - gF f B - gS s B) := by rw [← Nat.pow_add]; congr 1; omega
  rw [hk]
  exact Nat.mul_lt_mul_of_lt_of_le h3 (Nat.le_refl _) (Nat.pow_pos (by omega))
theorem ofNat_toNat {d : Nat} (h : d < 2 ^ 64) : (UInt64.ofNat d).toNat = d := u64_ofNat (by omega)
theorem ofNat_zero_iff {d : Nat} (h : d < 2 ^ 64) : UInt64.ofNat d = 0 ↔ d = 0 := by
  constructor
  · intro e; have := congrArg UInt64.toNat e; rw [ofNat_toNat h] at this; exact this
  · intro e; subst e; rfl
theorem xor_back (a b : UInt64) : (a ^^^ b) ^^^ a = b := xor_self_ a b
theorem old_iff {l : List UInt64} {f s : Nat} (hw : WinOk f s) (h0 : l.length ≠ 0) {B : List Int} (hb : Bit B) (hs : s ≠ 0) (hB : 2 + s ≤ B.length) (hz : B.getD 0 0 ≠ 0) (h1 : ¬ bitOne B = true) :
    putB l f s (lastU l ^^^ UInt64.ofNat (gD f s B)) = B.take (gA B + gS s B) ↔ gD f s B ≠ 0 := by
  have eF : gF f B = f := by unfold gF; rw [if_neg h1]
  have eS : gS s B = s := by unfold gS; rw [if_neg h1]
  have eA : gA B = 2 := by unfold gA; rw [if_neg h1]
  obtain ⟨hm, hlt⟩ := gD_lt (f := f) (s := s) hb (by rw [eF, eS]; exact hw.le)
  have hdef : gD f s B = dv ((B.drop 2).take s) * 2 ^ (64 - f - s) := by unfold gD; rw [eF, eS, eA]
  rw [eF] at hlt
  rw [eS, eA] at hm
  rw [eS, eA]
  have hd : gD f s B < 2 ^ 64 := Nat.lt_of_lt_of_le hlt (Nat.pow_le_pow_right (by omega) (by omega))
  rw [cut2 hb hB hz h1]
  unfold putB
  rw [if_neg h0, xor_back]
  by_cases e : gD f s B = 0
  · rw [if_pos ((ofNat_zero_iff hd).2 e)]
    constructor
    · intro h
      have := congrArg List.length h
      simp at this
    · intro h; exact absurd e h
  · rw [if_neg (fun h => e ((ofNat_zero_iff hd).1 h)), ofNat_toNat hd]
    have hh : hol f s (gD f s B) = true := by
      unfold hol; rw [decide_eq_true_eq]
      exact ⟨by omega, hlt, by rw [hdef]; exact ⟨_, Nat.mul_comm _ _⟩⟩
    rw [if_pos hh]
    constructor
    · intro _; exact e
    · intro _
      congr 1
      rw [hdef, Nat.mul_div_cancel _ (Nat.pow_pos (by omega))]
      have := rowN_self ((hb.drop 2).take s)
      rwa [show ((B.drop 2).take s).length = s by rw [List.length_take, List.length_drop]; omega] at this
theorem new_iff {l : List UInt64} {f s : Nat} (hw : WinOk f s) (h0 : l.length ≠ 0) {B : List Int} (hb : Bit B) (h1 : bitOne B = true) (hB : 13 + gS s B ≤ B.length) (hz : B.getD 0 0 ≠ 0) (h64 : gF f B + gS s B ≤ 64) :
    putB l f s (lastU l ^^^ UInt64.ofNat (gD f s B)) = B.take (gA B + gS s B) ↔ gD f s B ≠ 0 ∧ hol f s (gD f s B) = false ∧ arF (gD f s B) = gF f B ∧ arS (gD f s B) = gS s B := by
  have eF : gF f B = dv ((B.drop 2).take 5) := by unfold gF; rw [if_pos h1]
  have eS : gS s B = dv ((B.drop 7).take 6) + 1 := by unfold gS; rw [if_pos h1]
  have eA : gA B = 13 := by unfold gA; rw [if_pos h1]
  have l5 : dv ((B.drop 2).take 5) < 2 ^ 5 := by have := dv_lt ((hb.drop 2).take 5); rwa [show ((B.drop 2).take 5).length = 5 by rw [List.length_take, List.length_drop]; omega] at this
  have l6 : dv ((B.drop 7).take 6) < 2 ^ 6 := by have := dv_lt ((hb.drop 7).take 6); rwa [show ((B.drop 7).take 6).length = 6 by rw [List.length_take, List.length_drop]; omega] at this
  obtain ⟨hm, hlt⟩ := gD_lt (f := f) (s := s) hb h64
  have hd : gD f s B < 2 ^ 64 := Nat.lt_of_lt_of_le hlt (Nat.pow_le_pow_right (by omega) (by omega))
  have hdef : gD f s B = dv ((B.drop 13).take (gS s B)) * 2 ^ (64 - gF f B - gS s B) := by unfold gD; rw [eA]
  rw [eA, cut13 hb hB hz h1]
  have hSM : ((B.drop 13).take (gS s B)).length = gS s B := by rw [List.length_take, List.length_drop]; omega
  unfold putB
  rw [if_neg h0, xor_back]
  by_cases e : gD f s B = 0
  · rw [if_pos ((ofNat_zero_iff hd).2 e)]
    constructor
    · intro h
      have := congrArg List.length h
      simp at this
    · intro h; exact absurd e h.1
  · rw [if_neg (fun h => e ((ofNat_zero_iff hd).1 h)), ofNat_toNat hd]
    by_cases hh : hol f s (gD f s B) = true
    · rw [if_pos hh]
      constructor
      · intro h
        exfalso
        have := congrArg (fun l => l.getD 1 0) h
        simp at this
      · intro h; rw [hh] at h; cases h.2.1
    · rw [if_neg hh]
      obtain ⟨a1, a2, a3, a4⟩ := ar_le hd e
      constructor
      · intro h
        have hl : ([1, 1] ++ rowN (arF (gD f s B)) 5 : List Int).length = ([1, 1] ++ rowN (dv ((B.drop 2).take 5)) 5).length := by simp only [List.length_append, rowN_len]
        obtain ⟨e1, e2, e3⟩ := app_inj5 hl (by rw [rowN_len, rowN_len]) h
        have e4 := List.append_cancel_left e1
        have e5 := rowN_inj (by omega) l5 e4
        have e6 := rowN_inj (n := 6) (by omega) l6 e2
        exact ⟨e, by simpa using hh, by rw [eF]; exact e5, by omega⟩
      · rintro ⟨_, _, e1, e2⟩
        rw [e1, e2] at a4
        rw [e1, e2, ← a4, eF, hdef, eF, Nat.mul_div_cancel _ (Nat.pow_pos (by omega)), show gS s B - 1 = dv ((B.drop 7).take 6) by omega]
        congr 1
        have := rowN_self ((hb.drop 13).take (gS s B))
        rwa [hSM] at this

/-- the turn of the program's read -/
noncomputable def turnX (a0 : xor_Row) (a1 : bitio_Reader) : Option (Int × Int × List UInt8 × Int × Int × Int × UInt64) :=
 (bif decide (a0.n = 0) then
 ((bitio_Reader_Take a1 64).bind fun (r144, r145, r146) =>
 bif ((!r145) && (decide (0 = 0))) then
 some (r146.b, r146.n, r146.at_, 2, r144)
 else
 some (r146.b, r146.n, r146.at_, 0, r144) : Option (List UInt8 × Int × Int × Int × UInt64)).bind fun (c128, c131, c132, c134, x135) =>
 some (a0.win.ahead, a0.win.size, c128, c131, c132, c134, x135)
 else
 ((bitio_Reader_Take a1 1).bind fun (r188, r189, r190) =>
 bif ((!r189) && (decide (0 = 0))) then
 some (r190.b, r190.n, r190.at_, 2, r188)
 else
 some (r190.b, r190.n, r190.at_, 0, r188) : Option (List UInt8 × Int × Int × Int × UInt64)).bind fun (c172, c175, c176, c178, x179) =>
 bif decide (x179 = 0) then
 some (a0.win.ahead, a0.win.size, c172, c175, c176, c178, 0)
 else
 ((bitio_Reader_Take (bitio_Reader.mk c172 c175 c176) 1).bind fun (r230, r231, r232) =>
 bif ((!r231) && (decide (c178 = 0))) then
 some (r232.b, r232.n, r232.at_, 2, r230)
 else
 some (r232.b, r232.n, r232.at_, c178, r230) : Option (List UInt8 × Int × Int × Int × UInt64)).bind fun (c217, c220, c221, c223, x224) =>
 bif decide (x224 = 0) then
 (bif ((decide (a0.win.ahead = (0 : Int)) && (decide (a0.win.size = (0 : Int)) && true)) && (decide (c223 = 0))) then
 some 3
 else
 some c223 : Option Int).bind fun c258 =>
 ((bitio_Reader_Take (bitio_Reader.mk c217 c220 c221) a0.win.size).bind fun (r391, r392, r393) =>
 bif ((!r392) && (decide (c258 = 0))) then
 some (2, r393.b, r393.n, r393.at_, r391)
 else
 some (c258, r393.b, r393.n, r393.at_, r391) : Option (Int × List UInt8 × Int × Int × UInt64)).bind fun (c374, c376, c379, c380, x381) =>
 (xor_window_behind a0.win).bind fun r420 =>
 lett (shlU x381 ((toU64 (r420.tmod 64)).toNat)) fun d438 =>
 bif ((decide (d438 = 0)) && (decide (c374 = 0))) then
 some (a0.win.ahead, a0.win.size, c376, c379, c380, 3, d438)
 else
 some (a0.win.ahead, a0.win.size, c376, c379, c380, c374, d438)
 else
 ((bitio_Reader_Take (bitio_Reader.mk c217 c220 c221) 5).bind fun (r483, r484, r485) =>
 bif ((!r484) && (decide (c223 = 0))) then
 some (r485.b, r485.n, r485.at_, 2, r483)
 else
 some (r485.b, r485.n, r485.at_, c223, r483) : Option (List UInt8 × Int × Int × Int × UInt64)).bind fun (c470, c473, c474, c476, x477) =>
 ((bitio_Reader_Take (bitio_Reader.mk c470 c473 c474) 6).bind fun (r535, r536, r537) =>
 bif ((!r536) && (decide (c476 = 0))) then
 some (r537.b, r537.n, r537.at_, 2, r535)
 else
 some (r537.b, r537.n, r537.at_, c476, r535) : Option (List UInt8 × Int × Int × Int × UInt64)).bind fun (c518, c521, c522, c524, x525) =>
 lett (w64 ((w64 (x525.toNat : Int)) + 1)) fun t567 =>
 ((bif decide (c524 = 0) then
 (xor_window_behind (xor_window.mk (w64 (x477.toNat : Int)) t567)).bind fun r587 =>
 some (decide (r587 < 0))
 else
 some false : Option Bool).bind fun x580 =>
 bif x580 then
 some 3
 else
 some c524 : Option Int).bind fun c573 =>
 ((bitio_Reader_Take (bitio_Reader.mk c518 c521 c522) t567).bind fun (r621, r622, r623) =>
 bif ((!r622) && (decide (c573 = 0))) then
 some (2, r623.b, r623.n, r623.at_, r621)
 else
 some (c573, r623.b, r623.n, r623.at_, r621) : Option (Int × List UInt8 × Int × Int × UInt64)).bind fun (c604, c606, c609, c610, x611) =>
 bif (!decide (c604 = 0)) then
 some (a0.win.ahead, a0.win.size, c606, c609, c610, c604, 0)
 else
 (xor_window_behind (xor_window.mk (w64 (x477.toNat : Int)) t567)).bind fun r658 =>
 lett (shlU x611 ((toU64 r658).toNat)) fun d667 =>
 ((bif decide (d667 = 0) then
 some true
 else
 (xor_around d667).bind fun r722 =>
 some (!(decide (r722.ahead = w64 (x477.toNat : Int)) && (decide (r722.size = t567) && true)))).bind fun x686 =>
 (bif x686 then
 some true
 else
 (xor_window_holds a0.win d667).bind fun r813 =>
 some r813).bind fun x740 =>
 bif x740 then
 some 3
 else
 some c604 : Option Int).bind fun c669 =>
 some (w64 (x477.toNat : Int), t567, c606, c609, c610, c669, d667) : Option (Int × Int × List UInt8 × Int × Int × Int × UInt64))
theorem get_turn (a0 : xor_Row) (a1 : bitio_Reader) : xor_Row_Get a0 a1 = (turnX a0 a1).bind fun (c108, c109, c111, c114, c115, c117, x118) =>
 bif (!decide (c117 = 0)) then
 some (0, c117, a0, a1)
 else
 lett ((a0.last ^^^ x118)) fun t883 =>
 lett (w64 (a0.n + 1)) fun t887 =>
 (bitio_Reader_At (bitio_Reader.mk c111 c114 c115)).bind fun r895 =>
 (bitio_Reader_At a1).bind fun r919 =>
 (bitio_Reader_Skip a1 (w64 (r895 - r919))).bind fun (r930, r931) =>
 some (t883, 0, (xor_Row.mk t887 t883 (xor_window.mk c108 c109)), r931) := rfl
end Go.Lg
