/- Law 07: what is read of a float, by the program, is the document's. -/
import Derived.Test.YtddfmahlbbbljaaDoorLg07e
set_option linter.unusedVariables false
namespace Go.Lg
attribute [local irreducible] w64 toU64 toU8 shlU shrU shlB shrB

theorem dv_take1 {B : List Int} (hb : Bit B) (h : 0 < B.length) : dv (B.take 1) = (B.getD 0 0).toNat ∧ (UInt64.ofNat (dv (B.take 1)) = 0 ↔ B.getD 0 0 = 0) := by
  have e : B.take 1 = [B[0]] := by
    cases B with
    | nil => simp at h
    | cons x B => rfl
  have e1 : dv (B.take 1) = (B.getD 0 0).toNat := by rw [e, dv_one, getD_0 h]
  refine ⟨e1, ?_⟩
  rw [e1, getD_0 h]
  rcases hb B[0] (List.getElem_mem _) with e2 | e2 <;> rw [e2] <;> simp
theorem drop_getD (B : List Int) : (B.drop 1).getD 0 0 = B.getD 1 0 := by simp [List.getD, List.getElem?_drop]
theorem bit1_zero {B : List Int} (hb : Bit B) (h : 1 < B.length) : (B.getD 1 0 = 0) ↔ ¬ bitOne B = true := by
  unfold bitOne
  rw [getD_1 h, decide_eq_true_eq]
  rcases hb B[1] (List.getElem_mem _) with e2 | e2 <;> rw [e2] <;> simp

/-- bits are taken; the first error stays -/
noncomputable def tkE (r : bitio_Reader) (k e : Int) : Option (List UInt8 × Int × Int × Int × UInt64) := (bitio_Reader_Take r k).bind fun (v, ok, r') =>
  bif ((!ok) && (decide (e = 0))) then some (r'.b, r'.n, r'.at_, 2, v) else some (r'.b, r'.n, r'.at_, e, v)
noncomputable def tkF (r : bitio_Reader) (k e : Int) : Option (Int × List UInt8 × Int × Int × UInt64) := (bitio_Reader_Take r k).bind fun (v, ok, r') =>
  bif ((!ok) && (decide (e = 0))) then some (2, r'.b, r'.n, r'.at_, v) else some (e, r'.b, r'.n, r'.at_, v)
abbrev Turn7 := Int × Int × List UInt8 × Int × Int × Int × UInt64
/-- by the window that stands -/
noncomputable def oldT (W : xor_window) (r : bitio_Reader) (e : Int) : Option Turn7 :=
  (bif ((decide (W.ahead = (0 : Int)) && (decide (W.size = (0 : Int)) && true)) && (decide (e = 0))) then some 3 else some e).bind fun c258 =>
  (tkF r W.size c258).bind fun (c374, c376, c379, c380, x381) =>
  (xor_window_behind W).bind fun r420 =>
  lett (shlU x381 ((toU64 (r420.tmod 64)).toNat)) fun d438 =>
  bif ((decide (d438 = 0)) && (decide (c374 = 0))) then some (W.ahead, W.size, c376, c379, c380, 3, d438) else some (W.ahead, W.size, c376, c379, c380, c374, d438)
/-- what is read by a window, held against it -/
noncomputable def newD (W V : xor_window) (d : UInt64) (e : Int) : Option Int :=
  ((bif decide (d = 0) then some true else (xor_around d).bind fun r722 => some (!(decide (r722.ahead = V.ahead) && (decide (r722.size = V.size) && true)))).bind fun x686 =>
  (bif x686 then some true else (xor_window_holds W d).bind fun r813 => some r813).bind fun x740 => bif x740 then some 3 else some e)
/-- by a new window -/
noncomputable def newU (W V : xor_window) (r : bitio_Reader) (e : Int) : Option Turn7 :=
  ((bif decide (e = 0) then (xor_window_behind V).bind fun r587 => some (decide (r587 < 0)) else some false).bind fun x580 => bif x580 then some 3 else some e).bind fun c573 =>
  (tkF r V.size c573).bind fun (c604, c606, c609, c610, x611) =>
  bif (!decide (c604 = 0)) then some (W.ahead, W.size, c606, c609, c610, c604, 0)
  else (xor_window_behind V).bind fun r658 =>
  lett (shlU x611 ((toU64 r658).toNat)) fun d667 =>
  (newD W V d667 c604).bind fun c669 => some (V.ahead, V.size, c606, c609, c610, c669, d667)
noncomputable def newT (W : xor_window) (r : bitio_Reader) (e : Int) : Option Turn7 :=
  (tkE r 5 e).bind fun (c470, c473, c474, c476, x477) =>
  (tkE ⟨c470, c473, c474⟩ 6 c476).bind fun (c518, c521, c522, c524, x525) =>
  newU W ⟨w64 (x477.toNat : Int), w64 ((w64 (x525.toNat : Int)) + 1)⟩ ⟨c518, c521, c522⟩ c524
noncomputable def turnY (a0 : xor_Row) (a1 : bitio_Reader) : Option Turn7 :=
  bif decide (a0.n = 0) then (tkE a1 64 0).bind fun (c128, c131, c132, c134, x135) => some (a0.win.ahead, a0.win.size, c128, c131, c132, c134, x135)
  else (tkE a1 1 0).bind fun (c172, c175, c176, c178, x179) =>
  bif decide (x179 = 0) then some (a0.win.ahead, a0.win.size, c172, c175, c176, c178, 0)
  else (tkE ⟨c172, c175, c176⟩ 1 c178).bind fun (c217, c220, c221, c223, x224) =>
  bif decide (x224 = 0) then oldT a0.win ⟨c217, c220, c221⟩ c223 else newT a0.win ⟨c217, c220, c221⟩ c223
theorem turnXY (a0 : xor_Row) (a1 : bitio_Reader) : turnX a0 a1 = turnY a0 a1 := by
  unfold turnX turnY oldT newT newU newD tkE tkF
  rfl

theorem RA.any {r : bitio_Reader} {A : List Int} {p : Nat} (h : RA r A p) (k : Int) : ∃ v ok r' q, bitio_Reader_Take r k = some (v, ok, r') ∧ RA r' A q := by
  obtain ⟨v, h1, _⟩ := take_eq (k := k) h.small h.len h.le
  rw [← h.eq] at h1
  refine ⟨_, _, _, (if lookOk A.length p k then p + k.toNat else p), h1, h.moved ?_⟩
  have := h.le
  split
  · rename_i hk; unfold lookOk at hk; have := of_decide_eq_true hk; omega
  · exact this
theorem tkE_ok {r : bitio_Reader} {A : List Int} {p : Nat} (h : RA r A p) {k : Nat} (hk : k ≤ 64) (hp : p + k ≤ A.length) (e : Int) : ∃ r', tkE r (k : Int) e = some (r'.b, r'.n, r'.at_, e, UInt64.ofNat (dv ((A.drop p).take k))) ∧ RA r' A (p + k) := by
  obtain ⟨r1, e1, h1, _⟩ := h.take hk hp
  exact ⟨r1, by unfold tkE; rw [e1]; rfl, h1⟩
theorem tkE_no {r : bitio_Reader} {A : List Int} {p : Nat} (h : RA r A p) {k : Nat} (hp : A.length < p + k) : tkE r (k : Int) 0 = some (r.b, r.n, r.at_, 2, 0) := by
  unfold tkE; rw [h.takeNo hp]; rfl
theorem tkF_ok {r : bitio_Reader} {A : List Int} {p : Nat} (h : RA r A p) {k : Nat} (hk : k ≤ 64) (hp : p + k ≤ A.length) (e : Int) : ∃ r', tkF r (k : Int) e = some (e, r'.b, r'.n, r'.at_, UInt64.ofNat (dv ((A.drop p).take k))) ∧ RA r' A (p + k) := by
  obtain ⟨r1, e1, h1, _⟩ := h.take hk hp
  exact ⟨r1, by unfold tkF; rw [e1]; rfl, h1⟩
theorem tkF_no {r : bitio_Reader} {A : List Int} {p : Nat} (h : RA r A p) {k : Nat} (hp : A.length < p + k) : tkF r (k : Int) 0 = some (2, r.b, r.n, r.at_, 0) := by
  unfold tkF; rw [h.takeNo hp]; rfl
theorem tkE_any {r : bitio_Reader} {A : List Int} {p : Nat} (h : RA r A p) (k : Int) {e : Int} (he : e ≠ 0) : ∃ r' v q, tkE r k e = some (r'.b, r'.n, r'.at_, e, v) ∧ RA r' A q := by
  obtain ⟨v, ok, r', q, e1, h1⟩ := h.any k
  exact ⟨r', v, q, by unfold tkE; rw [e1, bind_some]; dsimp only; rw [decide_eq_false he, Bool.and_false]; rfl, h1⟩
theorem tkF_any {r : bitio_Reader} {A : List Int} {p : Nat} (h : RA r A p) (k : Int) {e : Int} (he : e ≠ 0) : ∃ r' v q, tkF r k e = some (e, r'.b, r'.n, r'.at_, v) ∧ RA r' A q := by
  obtain ⟨v, ok, r', q, e1, h1⟩ := h.any k
  exact ⟨r', v, q, by unfold tkF; rw [e1, bind_some]; dsimp only; rw [decide_eq_false he, Bool.and_false]; rfl, h1⟩

/-- an error stays -/
def ErrT (o : Option Turn7) (A : List Int) (e : Int) : Prop := ∃ (F S : Int) (d : UInt64) (q : Nat) (r' : bitio_Reader), o = some (F, S, r'.b, r'.n, r'.at_, e, d) ∧ RA r' A q
theorem oldT_err {f s : Nat} (hle : f + s ≤ 64) {r : bitio_Reader} {A : List Int} {p : Nat} (h : RA r A p) {e : Int} (he : e ≠ 0) : ErrT (oldT ⟨(f : Int), (s : Int)⟩ r e) A e := by
  obtain ⟨r1, v, q, e1, h1⟩ := tkF_any h (s : Int) he
  unfold oldT
  dsimp only
  rw [decide_eq_false he, Bool.and_false, cond_false, bind_some, e1, bind_some]
  dsimp only
  rw [behind_eq hle, bind_some, lett_eq, decide_eq_false he, Bool.and_false, cond_false]
  exact ⟨_, _, _, q, r1, rfl, h1⟩
theorem newU_err {W V : xor_window} {r : bitio_Reader} {A : List Int} {p : Nat} (h : RA r A p) {e : Int} (he : e ≠ 0) : ErrT (newU W V r e) A e := by
  obtain ⟨r1, v, q, e1, h1⟩ := tkF_any h V.size he
  unfold newU
  rw [decide_eq_false he, cond_false, bind_some, cond_false, bind_some, e1, bind_some]
  dsimp only
  rw [decide_eq_false he, Bool.not_false, cond_true]
  exact ⟨_, _, _, q, r1, rfl, h1⟩
theorem tkE_any0 {r : bitio_Reader} {A : List Int} {p : Nat} (h : RA r A p) {k : Nat} (hk : k ≤ 64) : ∃ r' v q e, tkE r (k : Int) 0 = some (r'.b, r'.n, r'.at_, e, v) ∧ RA r' A q ∧ (e = 0 ∨ e = 2) ∧ (e = 0 → q = p + k ∧ p + k ≤ A.length) ∧ (e = 2 → q = p ∧ A.length < p + k) := by
  rcases Nat.lt_or_ge A.length (p + k) with hs | hs
  · exact ⟨r, _, p, 2, tkE_no h hs, h, .inr rfl, fun e => (by cases e), fun _ => ⟨rfl, hs⟩⟩
  · obtain ⟨r1, e1, h1⟩ := tkE_ok h hk hs 0
    exact ⟨r1, _, p + k, 0, e1, h1, .inl rfl, fun _ => ⟨rfl, hs⟩, fun e => (by cases e)⟩
/-- a short one -/
theorem newT_short {W : xor_window} {r : bitio_Reader} {A : List Int} {p : Nat} (h : RA r A p) (hs : A.length < p + 11) : ErrT (newT W r 0) A 2 := by
  obtain ⟨r1, v1, q1, e1, a1, h1, c1, o1, s1⟩ := tkE_any0 h (k := 5) (by omega)
  unfold newT
  rw [show (5 : Int) = ((5 : Nat) : Int) from rfl, a1, bind_some]
  dsimp only
  rcases c1 with c | c
  · subst c
    have a2 : tkE ⟨r1.b, r1.n, r1.at_⟩ ((6 : Nat) : Int) 0 = _ := tkE_no h1 (k := 6) (by have := (o1 rfl).1; omega)
    rw [show (6 : Int) = ((6 : Nat) : Int) from rfl, a2, bind_some]
    exact newU_err (e := 2) h1 (by decide)
  · subst c
    obtain ⟨r2, v2, q2, a2, h2⟩ := tkE_any h1 6 (e := 2) (by decide)
    have a2' : tkE ⟨r1.b, r1.n, r1.at_⟩ 6 2 = _ := a2
    rw [a2', bind_some]
    exact newU_err (e := 2) h2 (by decide)
theorem newD_eq {f s F S : Nat} (hw : WinOk f s) (d : UInt64) : newD ⟨(f : Int), (s : Int)⟩ ⟨(F : Int), (S : Int)⟩ d 0 =
    some (if d.toNat ≠ 0 ∧ hol f s d.toNat = false ∧ arF d.toNat = F ∧ arS d.toNat = S then 0 else 3) := by
  unfold newD
  by_cases h0 : d = 0
  · rw [bifTd h0, bind_some, cond_true, bind_some, cond_true, if_neg (fun h => h.1 (by rw [h0]; rfl))]
  · rw [bifFd h0, around_eq (nz h0), bind_some, bind_some]
    dsimp only
    by_cases h1 : arF d.toNat = F ∧ arS d.toNat = S
    · rw [decide_eq_true (by rw [h1.1]), decide_eq_true (by rw [h1.2]), Bool.and_true, Bool.and_true, Bool.not_true, cond_false, holds_eq hw.le hw.z, bind_some, bind_some]
      by_cases h2 : hol f s d.toNat = true
      · rw [h2, cond_true, if_neg (fun h => by cases h.2.1)]
      · rw [show hol f s d.toNat = false by simpa using h2, cond_false, if_pos ⟨nz h0, rfl, h1.1, h1.2⟩]
    · have : (!(decide (((arF d.toNat : Nat) : Int) = (F : Int)) && (decide (((arS d.toNat : Nat) : Int) = (S : Int)) && true))) = true := by
        rw [Bool.not_eq_true', Bool.and_true, Bool.and_eq_false_iff, decide_eq_false_iff_not, decide_eq_false_iff_not]
        omega
      rw [this, cond_true, bind_some, cond_true, if_neg (fun h => h1 h.2.2)]

/-- what the turn comes to -/
def TurnOk (o : Option Turn7) (l : List UInt64) (f s : Nat) (A B : List Int) (p : Nat) : Prop :=
  ∃ (F S e : Int) (d : UInt64) (q : Nat) (r' : bitio_Reader), o = some (F, S, r'.b, r'.n, r'.at_, e, d) ∧ RA r' A q ∧ e = (getX l f s B).e ∧
      (e = 0 → F = ((putF l f s (getX l f s B).v : Nat) : Int) ∧ S = ((putS l f s (getX l f s B).v : Nat) : Int) ∧ lastU l ^^^ d = (getX l f s B).v ∧ q = p + (getX l f s B).n)
theorem ErrT.ok {o : Option Turn7} {l : List UInt64} {f s : Nat} {A B : List Int} {p : Nat} {e : Int} (h : ErrT o A e) (he : e ≠ 0) (hg : (getX l f s B).e = e) : TurnOk o l f s A B p := by
  obtain ⟨F, S, d, q, r', h1, h2⟩ := h
  exact ⟨F, S, e, d, q, r', h1, h2, hg.symm, fun e0 => absurd e0 he⟩
theorem oldT_ok {l : List UInt64} {f s : Nat} (hok : WinOk f s) {r2 : bitio_Reader} {A B : List Int} {p : Nat} (hr2 : RA r2 A (p + 1 + 1)) (hb : Bit B) (hB2 : A.drop (p + 1 + 1) = B.drop 2) (hBl : B.length = A.length - p)
    (h0 : ¬ l.length = 0) (h1 : ¬ B.length < 1) (h2 : ¬ B.getD 0 0 = 0) (h3 : ¬ B.length < 2) (h4 : ¬ bitOne B = true) : TurnOk (oldT ⟨(f : Int), (s : Int)⟩ r2 0) l f s A B p := by
  have hle := hok.le
  have hone : ¬ (bitOne B = true ∧ B.length < 13) := fun hh => h4 hh.1
  have eF : gF f B = f := by unfold gF; rw [if_neg h4]
  have eS : gS s B = s := by unfold gS; rw [if_neg h4]
  have eA : gA B = 2 := by unfold gA; rw [if_neg h4]
  by_cases h5 : s = 0
  · have hf := hok.z h5
    have g : getX l f s B = ⟨0, 0, 3⟩ := by unfold getX; rw [if_neg h0, if_neg h1, if_neg h2, if_neg h3, if_neg hone, if_pos (.inl (by rw [eS]; exact h5))]
    refine ErrT.ok (e := 3) ?_ (by decide) (by rw [g])
    obtain ⟨r3, v, q, e3, hr3⟩ := tkF_any hr2 (s : Int) (e := 3) (by decide)
    unfold oldT
    dsimp only
    have hc : (decide ((f : Int) = 0) && (decide ((s : Int) = 0) && true) && decide ((0 : Int) = 0)) = true := by rw [h5, hf]; rfl
    rw [hc, cond_true, bind_some, e3, bind_some]
    dsimp only
    rw [behind_eq hle, bind_some, lett_eq, show (decide ((3 : Int) = 0)) = false from rfl, Bool.and_false, cond_false]
    exact ⟨_, _, _, q, r3, rfl, hr3⟩
  · have hc : (decide ((f : Int) = 0) && (decide ((s : Int) = 0) && true) && decide ((0 : Int) = 0)) = false := by
      have : ¬ (s : Int) = 0 := by omega
      rw [decide_eq_false this]; simp
    by_cases h6 : B.length - 2 < s
    · have g : getX l f s B = ⟨0, 0, 2⟩ := by unfold getX; rw [if_neg h0, if_neg h1, if_neg h2, if_neg h3, if_neg hone, if_neg (by rw [eS, eF]; omega), eA, eS, if_pos h6]
      refine ErrT.ok (e := 2) ?_ (by decide) (by rw [g])
      unfold oldT
      dsimp only
      rw [hc, cond_false, bind_some, tkF_no hr2 (by have := hr2.le; omega), bind_some]
      dsimp only
      rw [behind_eq hle, bind_some, lett_eq, show (decide ((2 : Int) = 0)) = false from rfl, Bool.and_false, cond_false]
      exact ⟨_, _, _, _, r2, rfl, hr2⟩
    · obtain ⟨r3, e3, hr3⟩ := tkF_ok hr2 (k := s) (by omega) (by have := hr2.le; omega) 0
      obtain ⟨hm, hlt⟩ := gD_lt (f := f) (s := s) hb (by rw [eF, eS]; exact hle)
      have hdef : gD f s B = dv ((B.drop 2).take s) * 2 ^ (64 - f - s) := by unfold gD; rw [eF, eS, eA]
      rw [eS, eA] at hm
      rw [eF] at hlt
      have hd : gD f s B < 2 ^ 64 := Nat.lt_of_lt_of_le hlt (Nat.pow_le_pow_right (by omega) (by omega))
      have hsh : shlU (UInt64.ofNat (dv ((B.drop 2).take s))) ((toU64 ((((64 - f - s : Nat) : Int)).tmod 64)).toNat) = UInt64.ofNat (gD f s B) := by
        have hm64 : dv ((B.drop 2).take s) < 2 ^ 64 := Nat.lt_of_lt_of_le hm (Nat.pow_le_pow_right (by omega) (by omega))
        rw [show (64 : Int) = ((64 : Nat) : Int) from rfl, tmodN, Nat.mod_eq_of_lt (by omega), toU64_small (by omega)]
        apply UInt64.toNat_inj.1
        rw [shlU_nat _ (by omega) (by rw [ofNat_toNat hm64, ← hdef]; exact hd), ofNat_toNat hm64, ofNat_toNat hd, hdef]
      have hiff := old_iff hok h0 hb h5 (by omega) h2 h4
      unfold oldT
      dsimp only
      rw [hc, cond_false, bind_some, e3, bind_some]
      dsimp only
      rw [behind_eq hle, bind_some, lett_eq, hB2, hsh, decide_eq_true (rfl : (0 : Int) = 0), Bool.and_true]
      by_cases h7 : gD f s B = 0
      · have g : getX l f s B = ⟨0, 0, 3⟩ := by
          unfold getX; rw [if_neg h0, if_neg h1, if_neg h2, if_neg h3, if_neg hone, if_neg (by rw [eS, eF]; omega), if_neg (by rw [eA, eS]; exact h6), if_neg (fun e => hiff.1 e h7)]
        rw [bifTd ((ofNat_zero_iff hd).2 h7)]
        exact ErrT.ok (e := 3) ⟨_, _, _, _, r3, rfl, hr3⟩ (by decide) (by rw [g])
      · have g : getX l f s B = ⟨lastU l ^^^ UInt64.ofNat (gD f s B), 2 + s, 0⟩ := by
          unfold getX; rw [if_neg h0, if_neg h1, if_neg h2, if_neg h3, if_neg hone, if_neg (by rw [eS, eF]; omega), if_neg (by rw [eA, eS]; exact h6), if_pos (hiff.2 h7), eA, eS]
        rw [bifFd (fun e => h7 ((ofNat_zero_iff hd).1 e))]
        refine ⟨_, _, 0, _, _, r3, rfl, hr3, by rw [g], fun _ => ?_⟩
        rw [g]
        have hh : hol f s (gD f s B) = true := by
          unfold hol; rw [decide_eq_true_eq]
          exact ⟨by omega, hlt, by rw [hdef]; exact ⟨_, Nat.mul_comm _ _⟩⟩
        have hc3 : l.length = 0 ∨ (lastU l ^^^ UInt64.ofNat (gD f s B)) ^^^ lastU l = 0 ∨ hol f s ((lastU l ^^^ UInt64.ofNat (gD f s B)) ^^^ lastU l).toNat = true := by
          right; right; rw [xor_back, ofNat_toNat hd]; exact hh
        unfold putF putS
        rw [if_pos hc3, if_pos hc3]
        exact ⟨rfl, rfl, rfl, by dsimp only; omega⟩
theorem newT_ok {l : List UInt64} {f s : Nat} (hok : WinOk f s) {r2 : bitio_Reader} {A B : List Int} {p : Nat} (hr2 : RA r2 A (p + 1 + 1)) (hb : Bit B) (hB : A.drop p = B) (hBl : B.length = A.length - p)
    (h0 : ¬ l.length = 0) (h1 : ¬ B.length < 1) (h2 : ¬ B.getD 0 0 = 0) (h3 : ¬ B.length < 2) (h4 : bitOne B = true) : TurnOk (newT ⟨(f : Int), (s : Int)⟩ r2 0) l f s A B p := by
  have hle := hok.le
  have hpl := hr2.le
  by_cases h5 : B.length < 13
  · have g : getX l f s B = ⟨0, 0, 2⟩ := by unfold getX; rw [if_neg h0, if_neg h1, if_neg h2, if_neg h3, if_pos ⟨h4, h5⟩]
    exact ErrT.ok (newT_short hr2 (by omega)) (by decide) (by rw [g])
  · have hone : ¬ (bitOne B = true ∧ B.length < 13) := fun hh => h5 hh.2
    have eF : gF f B = dv ((B.drop 2).take 5) := by unfold gF; rw [if_pos h4]
    have eS : gS s B = dv ((B.drop 7).take 6) + 1 := by unfold gS; rw [if_pos h4]
    have eA : gA B = 13 := by unfold gA; rw [if_pos h4]
    have l5 : dv ((B.drop 2).take 5) < 2 ^ 5 := by have := dv_lt ((hb.drop 2).take 5); rwa [show ((B.drop 2).take 5).length = 5 by rw [List.length_take, List.length_drop]; omega] at this
    have l6 : dv ((B.drop 7).take 6) < 2 ^ 6 := by have := dv_lt ((hb.drop 7).take 6); rwa [show ((B.drop 7).take 6).length = 6 by rw [List.length_take, List.length_drop]; omega] at this
    obtain ⟨r3, e3, hr3⟩ := tkE_ok hr2 (k := 5) (by omega) (by omega) 0
    obtain ⟨r4, e4, hr4⟩ := tkE_ok hr3 (k := 6) (by omega) (by omega) 0
    have e4' : tkE ⟨r3.b, r3.n, r3.at_⟩ ((6 : Nat) : Int) 0 = _ := e4
    have d2 : A.drop (p + 1 + 1) = B.drop 2 := by rw [← hB, List.drop_drop, Nat.add_assoc]
    have d7 : A.drop (p + 1 + 1 + 5) = B.drop 7 := by rw [← hB, List.drop_drop]
    have d13 : A.drop (p + 1 + 1 + 5 + 6) = B.drop 13 := by rw [← hB, List.drop_drop]
    unfold newT
    rw [show (5 : Int) = ((5 : Nat) : Int) from rfl, e3, bind_some]
    dsimp only
    rw [show (6 : Int) = ((6 : Nat) : Int) from rfl, e4', bind_some]
    dsimp only
    rw [d2, d7, ofNat_toNat (by omega), ofNat_toNat (by omega), w64_nat (by omega), w64_nat (by omega), w64_succ (by omega), ← eF, ← eS]
    generalize hF : gF f B = F at *
    generalize hS : gS s B = S at *
    unfold newU
    dsimp only
    rw [decide_eq_true (rfl : (0 : Int) = 0), cond_true]
    by_cases h6 : 64 < F + S
    · have g : getX l f s B = ⟨0, 0, 3⟩ := by unfold getX; rw [if_neg h0, if_neg h1, if_neg h2, if_neg h3, if_neg hone, hF, hS, if_pos (.inr h6)]
      have hbeh : xor_window_behind ⟨(F : Int), (S : Int)⟩ = some (64 - (F : Int) - (S : Int)) := by
        unfold xor_window_behind; dsimp only
        rw [w64_id (x := 64 - (F : Int)) (by omega) (by omega), w64_id (by omega) (by omega)]; rfl
      rw [hbeh, bind_some, bind_some, decide_eq_true (show 64 - (F : Int) - (S : Int) < 0 by omega), cond_true, bind_some]
      obtain ⟨r5, v, q, e5, hr5⟩ := tkF_any hr4 (S : Int) (e := 3) (by decide)
      have e5' : tkF ⟨r4.b, r4.n, r4.at_⟩ (S : Int) 3 = _ := e5
      rw [e5', bind_some]
      dsimp only
      rw [show (decide ((3 : Int) = 0)) = false from rfl, Bool.not_false, cond_true]
      exact ErrT.ok (e := 3) ⟨_, _, _, q, r5, rfl, hr5⟩ (by decide) (by rw [g])
    · rw [behind_eq (by omega), bind_some, bind_some, decide_eq_false (show ¬ ((64 - F - S : Nat) : Int) < 0 by omega), cond_false, bind_some]
      by_cases h7 : B.length - 13 < S
      · have g : getX l f s B = ⟨0, 0, 2⟩ := by unfold getX; rw [if_neg h0, if_neg h1, if_neg h2, if_neg h3, if_neg hone, hF, hS, if_neg (by omega), eA, if_pos h7]
        have e5' : tkF ⟨r4.b, r4.n, r4.at_⟩ (S : Int) 0 = _ := tkF_no hr4 (by omega)
        rw [e5', bind_some]
        dsimp only
        rw [show (decide ((2 : Int) = 0)) = false from rfl, Bool.not_false, cond_true]
        exact ErrT.ok (e := 2) ⟨_, _, _, _, r4, rfl, hr4⟩ (by decide) (by rw [g])
      · obtain ⟨r5, e5, hr5⟩ := tkF_ok hr4 (k := S) (by omega) (by omega) 0
        have e5' : tkF ⟨r4.b, r4.n, r4.at_⟩ (S : Int) 0 = _ := e5
        obtain ⟨hm, hlt⟩ := gD_lt (f := f) (s := s) hb (by rw [hF, hS]; omega)
        have hdef : gD f s B = dv ((B.drop 13).take S) * 2 ^ (64 - F - S) := by unfold gD; rw [hF, hS, eA]
        rw [hS, eA] at hm
        rw [hF] at hlt
        have hd : gD f s B < 2 ^ 64 := Nat.lt_of_lt_of_le hlt (Nat.pow_le_pow_right (by omega) (by omega))
        have hsh : shlU (UInt64.ofNat (dv ((B.drop 13).take S))) ((toU64 ((64 - F - S : Nat) : Int)).toNat) = UInt64.ofNat (gD f s B) := by
          have hm64 : dv ((B.drop 13).take S) < 2 ^ 64 := Nat.lt_of_lt_of_le hm (Nat.pow_le_pow_right (by omega) (by omega))
          rw [toU64_small (by omega)]
          apply UInt64.toNat_inj.1
          rw [shlU_nat _ (by omega) (by rw [ofNat_toNat hm64, ← hdef]; exact hd), ofNat_toNat hm64, ofNat_toNat hd, hdef]
        have hiff := new_iff (l := l) hok h0 hb h4 (by rw [hS]; omega) h2 (by rw [hF, hS]; omega)
        rw [hF, hS, eA] at hiff
        rw [e5', bind_some]
        dsimp only
        rw [decide_eq_true (rfl : (0 : Int) = 0), Bool.not_true, cond_false, bind_some, lett_eq, d13, hsh, newD_eq hok, ofNat_toNat hd, bind_some]
        by_cases h8 : gD f s B ≠ 0 ∧ hol f s (gD f s B) = false ∧ arF (gD f s B) = F ∧ arS (gD f s B) = S
        · have g : getX l f s B = ⟨lastU l ^^^ UInt64.ofNat (gD f s B), 13 + S, 0⟩ := by
            unfold getX; rw [if_neg h0, if_neg h1, if_neg h2, if_neg h3, if_neg hone, hF, hS, if_neg (by omega), eA, if_neg h7, if_pos (hiff.2 h8)]
          rw [if_pos h8]
          refine ⟨_, _, 0, _, _, r5, rfl, hr5, by rw [g], fun _ => ?_⟩
          rw [g]
          have hc3 : ¬ (l.length = 0 ∨ (lastU l ^^^ UInt64.ofNat (gD f s B)) ^^^ lastU l = 0 ∨ hol f s ((lastU l ^^^ UInt64.ofNat (gD f s B)) ^^^ lastU l).toNat = true) := by
            rw [xor_back, ofNat_toNat hd]
            rintro (h | h | h)
            · exact h0 h
            · exact h8.1 ((ofNat_zero_iff hd).1 h)
            · rw [h] at h8; cases h8.2.1
          unfold putF putS
          rw [if_neg hc3, if_neg hc3, xor_back, ofNat_toNat hd, h8.2.2.1, h8.2.2.2]
          exact ⟨rfl, rfl, rfl, by dsimp only; omega⟩
        · have g : getX l f s B = ⟨0, 0, 3⟩ := by
            unfold getX; rw [if_neg h0, if_neg h1, if_neg h2, if_neg h3, if_neg hone, hF, hS, if_neg (by omega), eA, if_neg h7, if_neg (fun e => h8 (hiff.1 e))]
          rw [if_neg h8]
          exact ErrT.ok (e := 3) ⟨_, _, _, _, r5, rfl, hr5⟩ (by decide) (by rw [g])
theorem turn_ok {x : xor_Row} {l : List UInt64} {f s : Nat} (h : XS x l f s) {r : bitio_Reader} {A : List Int} {p : Nat} (hr : RA r A p) : TurnOk (turnX x r) l f s A (A.drop p) p := by
  obtain ⟨xn, xl, xw⟩ := x
  obtain ⟨hn, hla, hwi, hok⟩ := h
  dsimp only at hn hla hwi
  subst hla; subst hwi; subst hn
  have hle := hok.le
  have hbA := hr.bit
  have hpl := hr.le
  generalize hB : A.drop p = B
  have hb : Bit B := by rw [← hB]; exact hbA.drop p
  have hBl : B.length = A.length - p := by rw [← hB, List.length_drop]
  rw [turnXY]
  unfold turnY
  dsimp only
  by_cases h0 : l.length = 0
  · have hl0 : l = [] := List.eq_nil_of_length_eq_zero h0
    rw [bifTd (by omega)]
    by_cases h1 : B.length < 64
    · have g : getX l f s B = ⟨0, 0, 2⟩ := by unfold getX; rw [if_pos h0, if_pos h1]
      rw [show (64 : Int) = ((64 : Nat) : Int) from rfl, tkE_no hr (by omega), bind_some]
      exact ErrT.ok (e := 2) ⟨_, _, _, p, r, rfl, hr⟩ (by decide) (by rw [g])
    · have g : getX l f s B = ⟨UInt64.ofNat (dv (B.take 64)), 64, 0⟩ := by unfold getX; rw [if_pos h0, if_neg h1]
      obtain ⟨r1, e1, hr1⟩ := tkE_ok hr (k := 64) (by omega) (by omega) 0
      rw [show (64 : Int) = ((64 : Nat) : Int) from rfl, e1, hB, bind_some]
      refine ⟨_, _, 0, _, p + 64, r1, rfl, hr1, by rw [g], fun _ => ?_⟩
      rw [g]
      unfold putF putS
      rw [if_pos (.inl h0), if_pos (.inl h0), hl0, lastU_nil, UInt64.zero_xor]
      exact ⟨rfl, rfl, rfl, rfl⟩
  · rw [bifFd (by omega)]
    by_cases h1 : B.length < 1
    · have g : getX l f s B = ⟨0, 0, 2⟩ := by unfold getX; rw [if_neg h0, if_pos h1]
      rw [show (1 : Int) = ((1 : Nat) : Int) from rfl, tkE_no hr (by omega), bind_some]
      exact ErrT.ok (e := 2) ⟨_, _, _, p, r, rfl, hr⟩ (by decide) (by rw [g])
    · obtain ⟨r1, e1, hr1⟩ := tkE_ok hr (k := 1) (by omega) (by omega) 0
      rw [show (1 : Int) = ((1 : Nat) : Int) from rfl, e1, hB, bind_some]
      dsimp only
      by_cases h2 : B.getD 0 0 = 0
      · have g : getX l f s B = ⟨lastU l, 1, 0⟩ := by unfold getX; rw [if_neg h0, if_neg h1, if_pos h2]
        rw [bifTd ((dv_take1 hb (by omega)).2.2 h2)]
        refine ⟨_, _, 0, 0, p + 1, r1, rfl, hr1, by rw [g], fun _ => ?_⟩
        rw [g]
        have hz : lastU l ^^^ lastU l = 0 := UInt64.xor_self
        unfold putF putS
        rw [if_pos (.inr (.inl hz)), if_pos (.inr (.inl hz)), UInt64.xor_zero]
        exact ⟨rfl, rfl, rfl, rfl⟩
      · rw [bifFd (fun e => h2 ((dv_take1 hb (by omega)).2.1 e))]
        have hB1 : A.drop (p + 1) = B.drop 1 := by rw [← hB, List.drop_drop]
        by_cases h3 : B.length < 2
        · have g : getX l f s B = ⟨0, 0, 2⟩ := by unfold getX; rw [if_neg h0, if_neg h1, if_neg h2, if_pos h3]
          have e2 : tkE ⟨r1.b, r1.n, r1.at_⟩ ((1 : Nat) : Int) 0 = _ := tkE_no hr1 (by omega)
          rw [e2, bind_some]
          dsimp only
          rw [bifTd rfl]
          exact ErrT.ok (oldT_err (e := 2) hle hr1 (by decide)) (by decide) (by rw [g])
        · obtain ⟨r2, e2, hr2⟩ := tkE_ok hr1 (k := 1) (by omega) (by omega) 0
          have e2' : tkE ⟨r1.b, r1.n, r1.at_⟩ ((1 : Nat) : Int) 0 = _ := e2
          rw [e2', hB1, bind_some]
          dsimp only
          have h10 := (dv_take1 (hb.drop 1) (by rw [List.length_drop]; omega)).2
          rw [drop_getD, bit1_zero hb (by omega)] at h10
          have hB2 : A.drop (p + 1 + 1) = B.drop 2 := by rw [← hB, List.drop_drop, Nat.add_assoc]
          by_cases h4 : bitOne B = true
          · rw [bifFd (fun e => h10.1 e h4)]
            exact newT_ok hok hr2 hb hB hBl h0 h1 h2 h3 h4
          · rw [bifTd (h10.2 h4)]
            exact oldT_ok hok hr2 hb hB2 hBl h0 h1 h2 h3 h4
end Go.Lg
