/- Lemmas about the given model and about plain data, which the rows stand on: no statement of the program by itself. -/
import Derived.Test.YtgdfaomjidhajaaDoorGcLgPart0
set_option linter.unusedVariables false
namespace Go.Lg
attribute [local irreducible] w64 toU64 toU8 shlU shrU shlB shrB
/-- how far off the "]" is that ends a set -/
def endL : List UInt8 → Option Nat
  | [] => none
  | [c] => if c = 93 then some 0 else none
  | c :: d :: r => if c = 93 then some 0 else if c = 92 then (endL r).map (· + 2) else (endL (d :: r)).map (· + 1)
/-- the byte ahead, and how many bytes it takes -/
def mem32 : List UInt8 → Option (UInt8 × Nat)
  | [] => none
  | [c] => if c = 92 then none else some (c, 1)
  | c :: d :: _ => if c = 92 then some (d, 2) else some (c, 1)
theorem mem32_1 (c : UInt8) : mem32 [c] = if c = 92 then none else some (c, 1) := rfl
theorem mem32_2 (c d : UInt8) (r : List UInt8) : mem32 (c :: d :: r) = if c = 92 then some (d, 2) else some (c, 1) := rfl
theorem endL_1 (c : UInt8) : endL [c] = if c = 93 then some 0 else none := rfl
theorem endL_2 (c d : UInt8) (r : List UInt8) : endL (c :: d :: r) = if c = 93 then some 0 else if c = 92 then (endL r).map (· + 2) else (endL (d :: r)).map (· + 1) := rfl
theorem endL_93 (r : List UInt8) : endL (93 :: r) = some 0 := by cases r <;> simp [endL]
theorem endL_mem {l : List UInt8} {a : UInt8} {m : Nat} (h : mem32 l = some (a, m)) (hc : l.head? ≠ some 93) : endL l = (endL (l.drop m)).map (· + m) := by
  match l, h, hc with
  | [c], h, hc =>
    have hc' : c ≠ 93 := fun e => hc (by rw [e]; rfl)
    rw [mem32_1] at h
    split at h
    · cases h
    · simp only [Option.some.injEq, Prod.mk.injEq] at h
      obtain ⟨rfl, rfl⟩ := h
      simp [endL, hc']
  | c :: d :: r, h, hc =>
    have hc' : c ≠ 93 := fun e => hc (by rw [e]; rfl)
    rw [mem32_2] at h
    split at h
    · rename_i q
      simp only [Option.some.injEq, Prod.mk.injEq] at h
      obtain ⟨rfl, rfl⟩ := h
      simp [endL, hc', q]
    · rename_i q
      simp only [Option.some.injEq, Prod.mk.injEq] at h
      obtain ⟨rfl, rfl⟩ := h
      simp [endL, hc', q]
theorem endL_some {l : List UInt8} {k : Nat} (h : endL l = some k) : (l.head? = some 93 ∧ k = 0) ∨ (l.head? ≠ some 93 ∧ ∃ a m, mem32 l = some (a, m) ∧ 1 ≤ m ∧ m ≤ k ∧ endL (l.drop m) = some (k - m)) := by
  match l, h with
  | [c], h =>
    rw [endL_1] at h
    split at h
    · rename_i q
      cases h
      exact .inl ⟨by rw [q]; rfl, rfl⟩
    · cases h
  | c :: d :: r, h =>
    rw [endL_2] at h
    split at h
    · rename_i q
      cases h
      exact .inl ⟨by rw [q]; rfl, rfl⟩
    · rename_i q
      refine .inr ⟨fun e => q (by simpa using e), ?_⟩
      split at h
      · rename_i q2
        obtain ⟨j, h1, rfl⟩ := Option.map_eq_some_iff.1 h
        exact ⟨d, 2, by simp [mem32, q2], by omega, by omega, by simpa using h1⟩
      · rename_i q2
        obtain ⟨j, h1, rfl⟩ := Option.map_eq_some_iff.1 h
        exact ⟨c, 1, by simp [mem32, q2], by omega, by omega, by simpa using h1⟩
theorem mem32_len {l : List UInt8} {a : UInt8} {m : Nat} (h : mem32 l = some (a, m)) : 1 ≤ m ∧ m ≤ 2 ∧ m ≤ l.length := by
  match l, h with
  | [c], h =>
    rw [mem32_1] at h
    split at h <;> simp at h
    obtain ⟨_, rfl⟩ := h
    simp
  | c :: d :: r, h =>
    rw [mem32_2] at h
    split at h <;> simp at h <;> obtain ⟨_, rfl⟩ := h <;> simp
theorem mem32_app {l : List UInt8} {a : UInt8} {m : Nat} (q : List UInt8) (h : mem32 l = some (a, m)) : mem32 (l ++ q) = some (a, m) := by
  match l, h with
  | [c], h =>
    rw [mem32_1] at h
    split at h
    · cases h
    · rename_i e
      cases q with
      | nil => simpa [mem32, e] using h
      | cons x q => simpa [mem32, e] using h
  | c :: d :: r, h => simpa [mem32] using h
theorem endL_app {l : List UInt8} (q : List UInt8) : ∀ {k : Nat}, endL l = some k → endL (l ++ q) = some k := by
  have key : ∀ n (l : List UInt8) k, l.length ≤ n → endL l = some k → endL (l ++ q) = some k := by
    intro n
    induction n with
    | zero => intro l k hl h; have : l = [] := List.eq_nil_of_length_eq_zero (by omega); subst this; cases h
    | succ n ih =>
      intro l k hl h
      rcases endL_some h with ⟨h1, rfl⟩ | ⟨h1, a, m, h2, h3, h4, h5⟩
      · cases l with
        | nil => cases h1
        | cons c r => simp at h1; subst h1; exact endL_93 _
      · have hm := mem32_len h2
        have h6 := ih (l.drop m) _ (by rw [List.length_drop]; omega) h5
        have h7 := mem32_app q h2
        have h8 : (l ++ q).head? ≠ some 93 := by
          cases l with
          | nil => cases h2
          | cons c r => simpa using h1
        rw [endL_mem h7 h8, List.drop_append_of_le_length hm.2.2, h6, Option.map_some]
        congr 1; omega
  intro k h
  exact key _ l _ (Nat.le_refl _) h
def offS (k : Nat) (o : Option (Nat ⊕ glob_set)) : Option (Nat ⊕ glob_set) := o.map fun
  | .inl a => .inl (k + a)
  | .inr S => .inr S
/-- is a "-" there that stands between two bytes -/
def dash (l : List UInt8) : Option Bool := l.head?.bind fun x => if x = 45 then l.tail.head?.bind fun y => some (decide (y ≠ 93 ∧ y ≠ 45)) else some false
/-- what a set holds beside those that are known; or how far off its fault is -/
def clsS : Nat → glob_set → List UInt8 → Option (Nat ⊕ glob_set)
  | 0, _, _ => none
  | n + 1, S, l => l.head?.bind fun c =>
    if c = 93 then some (.inr S)
    else if c = 45 then l.tail.head?.bind fun d => if d = 93 then offS 1 (clsS n (addS S 45) l.tail) else some (.inl 0)
    else (mem32 l).bind fun x => (dash (l.drop x.2)).bind fun b =>
      if b = true then (mem32 ((l.drop x.2).tail)).bind fun y =>
        if y.1 < x.1 then some (.inl 0) else offS (x.2 + 1 + y.2) (clsS n (spanS S x.1.toNat (y.1.toNat + 1 - x.1.toNat)) (l.drop (x.2 + 1 + y.2)))
      else offS x.2 (clsS n (spanS S x.1.toNat 1) (l.drop x.2))
theorem dash_app {l : List UInt8} {b : Bool} (q : List UInt8) (h : dash l = some b) : dash (l ++ q) = some b := by
  match l, h with
  | [c], h =>
    unfold dash at h ⊢
    simp only [List.head?_cons, Option.bind_some] at h
    split at h
    · cases h
    · rename_i e; simpa [e] using h
  | c :: d :: r, h => simpa [dash] using h
theorem clsS_app (q : List UInt8) : ∀ (n : Nat) (S : glob_set) (l : List UInt8) (r : Nat ⊕ glob_set), clsS n S l = some r → clsS n S (l ++ q) = some r := by
  intro n
  induction n with
  | zero => intro S l r h; cases h
  | succ n ih =>
    have ihO : ∀ k S l r, offS k (clsS n S l) = some r → offS k (clsS n S (l ++ q)) = some r := by
      intro k S l r h
      obtain ⟨r', h1, h2⟩ := Option.map_eq_some_iff.1 h
      unfold offS
      rw [ih _ _ _ h1, Option.map_some, h2]
    intro S l r h
    unfold clsS at h ⊢
    obtain ⟨c, hc, h⟩ := bnd h
    have e1 : (l ++ q).head? = some c := by
      cases l with
      | nil => cases hc
      | cons _ _ => simpa using hc
    have e2 : (l ++ q).tail = l.tail ++ q := by
      cases l with
      | nil => cases hc
      | cons _ _ => rfl
    rw [e1, bind_some]
    split at h
    · rename_i p; rw [if_pos p]; exact h
    · rename_i p
      rw [if_neg p]
      split at h
      · rename_i p2
        rw [if_pos p2]
        obtain ⟨d, hd, h⟩ := bnd h
        have e3 : (l.tail ++ q).head? = some d := by
          cases ht : l.tail with
          | nil => rw [ht] at hd; cases hd
          | cons _ _ => rw [ht] at hd; simpa using hd
        rw [e2, e3, bind_some]
        split at h
        · rename_i p3; rw [if_pos p3]; exact ihO _ _ _ _ h
        · rename_i p3; rw [if_neg p3]; exact h
      · rename_i p2
        rw [if_neg p2]
        obtain ⟨⟨a, m⟩, hm, h⟩ := bnd h
        have hl := mem32_len hm
        rw [mem32_app q hm, bind_some]
        dsimp only at h ⊢
        obtain ⟨b, hb, h⟩ := bnd h
        rw [List.drop_append_of_le_length hl.2.2, dash_app q hb, bind_some]
        cases b with
        | false => exact ihO _ _ _ _ h
        | true =>
          rw [if_pos rfl] at h ⊢
          obtain ⟨⟨d, m2⟩, hm2, h⟩ := bnd h
          have hl2 := mem32_len hm2
          rw [List.length_tail, List.length_drop] at hl2
          have e4 : (l.drop m ++ q).tail = (l.drop m).tail ++ q := by
            cases hx : l.drop m with
            | nil => rw [hx] at hm2; cases hm2
            | cons _ _ => rfl
          rw [e4, mem32_app q hm2, bind_some]
          dsimp only at h ⊢
          split at h
          · rename_i p3; rw [if_pos p3]; exact h
          · rename_i p3
            rw [if_neg p3, List.drop_append_of_le_length (by omega)]
            exact ihO _ _ _ _ h
theorem dash_end {l : List UInt8} {k : Nat} (h : endL l = some k) : ∃ b, dash l = some b ∧ (b = true → 2 ≤ k ∧ l.head? = some 45 ∧ endL l.tail = some (k - 1) ∧ l.tail.head? ≠ some 93) := by
  match l, h with
  | [c], h =>
    rw [endL_1] at h
    split at h
    · rename_i q; subst q; exact ⟨false, rfl, fun h => by cases h⟩
    · cases h
  | c :: d :: r, h =>
    by_cases q : c = 45
    · subst q
      refine ⟨decide (d ≠ 93 ∧ d ≠ 45), by simp [dash], fun hb => ?_⟩
      rw [decide_eq_true_eq] at hb
      simp [endL] at h
      obtain ⟨j, h1, rfl⟩ := h
      refine ⟨?_, rfl, by simpa using h1, by simpa using hb.1⟩
      rcases endL_some h1 with ⟨h2, rfl⟩ | ⟨h2, a, m, h3, h4, h5, h6⟩
      · simp at h2; exact absurd h2 hb.1
      · omega
    · exact ⟨false, by simp [dash, q], fun h => by cases h⟩
theorem clsS_total : ∀ (n : Nat) (S : glob_set) (l : List UInt8) (k : Nat), endL l = some k → k < n → ∃ r, clsS n S l = some r := by
  intro n
  induction n with
  | zero => intro S l k _ h; omega
  | succ n ih =>
    have ihO : ∀ j S l k, endL l = some k → k < n → ∃ r, offS j (clsS n S l) = some r := by
      intro j S l k h1 h2
      obtain ⟨r, h3⟩ := ih S l k h1 h2
      rw [h3]; exact ⟨_, rfl⟩
    intro S l k h hk
    unfold clsS
    rcases endL_some h with ⟨h1, rfl⟩ | ⟨h1, a, m, h2, h3, h4, h5⟩
    · rw [h1, bind_some, if_pos rfl]; exact ⟨_, rfl⟩
    · cases hc : l.head? with
      | none => rw [List.head?_eq_none_iff] at hc; rw [hc] at h2; cases h2
      | some c =>
        rw [hc] at h1
        have h1' : c ≠ 93 := fun e => h1 (by rw [e])
        rw [bind_some, if_neg h1']
        by_cases q : c = 45
        · rw [if_pos q]
          match l, hc, h2, h5 with
          | [x], hc, h2, h5 =>
            simp at hc; subst hc; subst q
            simp [mem32] at h2
            obtain ⟨rfl, rfl⟩ := h2
            cases h5
          | x :: d :: r, hc, h2, h5 =>
            simp at hc; subst hc; subst q
            simp [mem32] at h2
            obtain ⟨rfl, rfl⟩ := h2
            simp only [List.tail_cons, List.head?_cons, Option.bind_some]
            split
            · exact ihO _ _ _ _ h5 (by omega)
            · exact ⟨_, rfl⟩
        · rw [if_neg q, h2, bind_some]
          dsimp only
          obtain ⟨b, hb, hb2⟩ := dash_end h5
          rw [hb, bind_some]
          cases b with
          | false => exact ihO _ _ _ _ h5 (by omega)
          | true =>
            obtain ⟨g1, g2, g3, g4⟩ := hb2 rfl
            rw [if_pos rfl]
            rcases endL_some g3 with ⟨e1, _⟩ | ⟨_, d, m2, f1, f2, f3, f4⟩
            · exact absurd e1 g4
            · rw [f1, bind_some]
              dsimp only
              split
              · exact ⟨_, rfl⟩
              · rw [← List.drop_one, List.drop_drop, List.drop_drop] at f4
                refine ihO _ _ _ _ (by rw [show m + 1 + m2 = m + (1 + m2) by omega]; exact f4) (by omega)
end Go.Lg
namespace Go.Lg
attribute [local irreducible] w64 toU64 toU8 shlU shrU shlB shrB
section
variable {s : List UInt8} {p : Nat} {c : UInt8}
theorem ix_lt (h : (s.drop p).head? = some c) : p < s.length := by
  rw [List.head?_drop] at h
  exact (List.getElem?_eq_some_iff.1 h).1
theorem ix (h : (s.drop p).head? = some c) : idx s (p : Int) = some c := by
  rw [List.head?_drop] at h
  unfold idx
  rw [if_pos (by omega), Int.toNat_natCast]; exact h
theorem ix_tail (h : (s.drop p).tail.head? = some c) : (s.drop (p + 1)).head? = some c := by
  rwa [List.tail_drop] at h
end
theorem member_eq {s : List UInt8} {p m : Nat} {a : UInt8} (hs : s.length ≤ 1000) (h : mem32 (s.drop p) = some (a, m)) : glob_member s (p : Int) = some (a, (m : Int)) := by
  unfold glob_member
  cases hl : s.drop p with
  | nil => rw [hl] at h; cases h
  | cons c r =>
    have h0 : (s.drop p).head? = some c := by rw [hl]; rfl
    have hp := ix_lt h0
    rw [ix h0, bind_some]
    by_cases q : c = 92
    · rw [bifTd q, w64_succ (by omega)]
      cases r with
      | nil => rw [hl] at h; simp [mem32, q] at h
      | cons d r =>
        rw [ix (ix_tail (c := d) (by rw [hl]; rfl)), bind_some]
        rw [hl] at h
        simp [mem32, q] at h
        rw [h.1, ← h.2]; rfl
    · rw [bifFd q, bind_some]
      rw [hl] at h
      cases r with
      | nil => simp [mem32, q] at h; rw [h.1, ← h.2]; rfl
      | cons d r => simp [mem32, q] at h; rw [h.1, ← h.2]; rfl
theorem thing_eq {s : List UInt8} {p m : Nat} {a : UInt8} (hs : s.length ≤ 1000) (h : mem32 (s.drop p) = some (a, m)) : ref32_thing s (p : Int) = some ⟨a, ((p + m : Nat) : Int)⟩ := by
  unfold ref32_thing
  cases hl : s.drop p with
  | nil => rw [hl] at h; cases h
  | cons c r =>
    have h0 : (s.drop p).head? = some c := by rw [hl]; rfl
    have hp := ix_lt h0
    rw [ix h0, bind_some]
    by_cases q : c = 92
    · rw [bifTd q, w64_succ (by omega)]
      cases r with
      | nil => rw [hl] at h; simp [mem32, q] at h
      | cons d r =>
        rw [ix (ix_tail (c := d) (by rw [hl]; rfl)), bind_some]
        rw [hl] at h
        simp [mem32, q] at h
        rw [h.1, ← h.2, w64_id (by omega) (by omega)]; rfl
    · rw [bifFd q, bind_some, w64_succ (by omega)]
      rw [hl] at h
      cases r with
      | nil => simp [mem32, q] at h; rw [h.1, ← h.2]
      | cons d r => simp [mem32, q] at h; rw [h.1, ← h.2]
theorem dash_g {s : List UInt8} {k : Nat} {b : Bool} {β : Type} (hs : s.length ≤ 1000) (h : dash (s.drop k) = some b) (F : Bool → Option β) :
    ((idx s (k : Int)).bind fun c165 =>
     (bif decide (c165 = 45) then
     (idx s (w64 ((k : Int) + 1))).bind fun c170 =>
     some (!decide (c170 = 93))
     else
     some false : Option Bool).bind fun x166 =>
     (bif x166 then
     (idx s (w64 ((k : Int) + 1))).bind fun c175 =>
     some (!decide (c175 = 45))
     else
     some false : Option Bool).bind F) = F b := by
  unfold dash at h
  obtain ⟨x, hx, h⟩ := bnd h
  have hp := ix_lt hx
  rw [ix hx, bind_some]
  by_cases q : x = 45
  · rw [if_pos q] at h
    obtain ⟨y, hy, h⟩ := bnd h
    rw [bifTd q, w64_succ (by omega), ix (ix_tail hy), bind_some, bind_some]
    cases h
    by_cases q1 : y = 93
    · simp [q1]
    · by_cases q2 : y = 45
      · simp [q2]
      · simp [q1, q2]
  · rw [if_neg q] at h
    cases h
    rw [bifFd q, bind_some]; rfl
theorem dash_r {s : List UInt8} {p k : Nat} {b : Bool} {β : Type} (hs : s.length ≤ 1000) (h : dash (s.drop p) = some b) (he : endL (s.drop p) = some k) (F : Bool → Option β) :
    ((bif decide (w64 ((p : Int) + 1) < ((p + k : Nat) : Int)) then
     (idx s (p : Int)).bind fun c167 =>
     some (decide (c167 = 45))
     else
     some false : Option Bool).bind fun x163 =>
     (bif x163 then
     (idx s (w64 ((p : Int) + 1))).bind fun c172 =>
     some (!decide (c172 = 45))
     else
     some false : Option Bool).bind F) = F b := by
  obtain ⟨b', hb, hb2⟩ := dash_end he
  rw [h] at hb
  cases hb
  unfold dash at h
  obtain ⟨x, hx, h⟩ := bnd h
  have hp := ix_lt hx
  rw [w64_succ (by omega), ix hx]
  by_cases q : p + 1 < p + k
  · rw [bifTd (by omega), bind_some, bind_some]
    by_cases q1 : x = 45
    · rw [if_pos q1] at h
      obtain ⟨y, hy, h⟩ := bnd h
      rw [bifTd q1, ix (ix_tail hy), bind_some, bind_some]
      have hy2 : y ≠ 93 := by
        rintro rfl
        rcases endL_some he with ⟨h1, h2⟩ | ⟨h1, a, m, h2, h3, h4, h5⟩
        · omega
        · cases hl : s.drop p with
          | nil => rw [hl] at hx; cases hx
          | cons z r =>
            rw [hl] at hx hy he
            simp at hx hy
            subst hx
            subst q1
            match r, hy with
            | w :: r, hy =>
              simp at hy; subst hy
              simp [endL, endL_93] at he
              omega
      cases h
      simp [hy2]
    · rw [if_neg q1] at h
      cases h
      rw [bifFd q1, bind_some]
  · rw [bifFd (by omega), bind_some, cond_false, bind_some]
    cases b with
    | false => rfl
    | true => have := (hb2 rfl).1; omega
theorem add45 (S : glob_set) : addS S 45 = ⟨S.a0 ||| shlU 1 (((45 : UInt8).toUInt64).toNat), S.a1, S.a2, S.a3⟩ := rfl
theorem offS_some {k : Nat} {o : Option (Nat ⊕ glob_set)} {r : Nat ⊕ glob_set} (h : offS k o = some r) : (∃ a, o = some (.inl a) ∧ r = .inl (k + a)) ∨ (∃ S, o = some (.inr S) ∧ r = .inr S) := by
  obtain ⟨x, h1, h2⟩ := Option.map_eq_some_iff.1 h
  cases x with
  | inl a => exact .inl ⟨a, h1, h2.symm⟩
  | inr S => exact .inr ⟨S, h1, h2.symm⟩
/-- what the program's loop over a set's things comes to -/
def GLo (s : List UInt8) (S : glob_set) (p : Nat) : Nat ⊕ glob_set → Prop
  | .inl o => ∃ T, loop (glob_class_lp1 s) (S.a0, S.a1, S.a2, S.a3, (p : Int)) = some (.out (.out (⟨0, T, false, 0⟩, 0, ⟨((p + o : Nat) : Int), 3⟩)))
  | .inr T => ∃ k, endL (s.drop p) = some k ∧ loop (glob_class_lp1 s) (S.a0, S.a1, S.a2, S.a3, (p : Int)) = some (.go (T.a0, T.a1, T.a2, T.a3, ((p + k : Nat) : Int)))
theorem GLo.step {s : List UInt8} {S T : glob_set} {p m : Nat} {o : Option (Nat ⊕ glob_set)} {r : Nat ⊕ glob_set} (hn : glob_class_lp1 s (S.a0, S.a1, S.a2, S.a3, (p : Int)) = some (.next (T.a0, T.a1, T.a2, T.a3, ((p + m : Nat) : Int))))
    (he : endL (s.drop p) = (endL (s.drop (p + m))).map (· + m)) (h : offS m o = some r) (ih : ∀ r', o = some r' → GLo s T (p + m) r') : GLo s S p r := by
  rcases offS_some h with ⟨a, h1, rfl⟩ | ⟨U, h1, rfl⟩
  · obtain ⟨V, hV⟩ := ih _ h1
    exact ⟨V, by rw [loop_next hn, hV, Nat.add_assoc]⟩
  · obtain ⟨k, hk, hV⟩ := ih _ h1
    exact ⟨k + m, by rw [he, hk]; rfl, by rw [loop_next hn, hV, Nat.add_assoc, Nat.add_comm m k]⟩
theorem cls_g (s : List UInt8) (hs : s.length ≤ 1000) : ∀ (n : Nat) (S : glob_set) (p : Nat) (r : Nat ⊕ glob_set), clsS n S (s.drop p) = some r → GLo s S p r := by
  intro n
  induction n with
  | zero => intro S p r h; cases h
  | succ n ih =>
    intro S p r h
    unfold clsS at h
    obtain ⟨c, hc, h⟩ := bnd h
    have hp := ix_lt hc
    split at h
    · rename_i q
      cases h
      refine ⟨0, ?_, loop_brk ?_⟩
      · cases hl : s.drop p with
        | nil => rw [hl] at hc; cases hc
        | cons x r => rw [hl] at hc; simp at hc; rw [hc, q]; exact endL_93 _
      · unfold glob_class_lp1
        dsimp only
        rw [ix hc, bind_some, bifF (by simp [q])]; rfl
    · rename_i q
      split at h
      · rename_i q2
        obtain ⟨d, hd, h⟩ := bnd h
        have hp2 := ix_lt (ix_tail hd)
        split at h
        · rename_i q3
          rw [List.tail_drop] at h
          refine GLo.step (T := addS S 45) ?_ ?_ h (fun r' => ih _ _ _)
          · unfold glob_class_lp1
            dsimp only
            rw [ix hc, bind_some, bifT (by simp [q]), bind_some, bifTd q2, w64_succ (by omega), ix (ix_tail hd), bind_some, bifF (by simp [q3]), lett_eq, bind_some, lett_eq, flow_go, add45]
          · have : mem32 (s.drop p) = some (45, 1) := by
              cases hl : s.drop p with
              | nil => rw [hl] at hc; cases hc
              | cons x r =>
                rw [hl] at hc hd
                simp at hc hd
                cases r with
                | nil => cases hd
                | cons y r => rw [hc, q2]; simp [mem32]
            rw [endL_mem this (by rw [hc]; simp [q]), List.drop_drop]
        · rename_i q3
          cases h
          refine ⟨S, loop_out ?_⟩
          unfold glob_class_lp1
          dsimp only
          rw [ix hc, bind_some, bifT (by simp [q]), bind_some, bifTd q2, w64_succ (by omega), ix (ix_tail hd), bind_some, bifT (by simp [q3])]
          rfl
      · rename_i q2
        obtain ⟨⟨a, m⟩, hm, h⟩ := bnd h
        have hl := mem32_len hm
        rw [List.length_drop] at hl
        dsimp only at h
        obtain ⟨b, hb, h⟩ := bnd h
        rw [List.drop_drop] at h hb
        have em : endL (s.drop p) = (endL (s.drop (p + m))).map (· + m) := by rw [endL_mem hm (by rw [hc]; simp [q]), List.drop_drop]
        cases b with
        | false =>
          rw [if_neg (by simp)] at h
          refine GLo.step (T := spanS S a.toNat 1) ?_ em h (fun r' => ih _ _ _)
          unfold glob_class_lp1
          dsimp only
          rw [ix hc, bind_some, bifT (by simp [q]), bind_some, bifFd q2, member_eq hs hm, bind_some]
          dsimp only
          rw [lett_eq, w64_addN (by omega), dash_g hs hb, cond_false, flow_go]
          dsimp only
          rw [lett_eq, span_g a 1 a.toNat S rfl, flow_go, bind_some]
          dsimp only
          rw [lett_eq, flow_go, w64_addN (by omega)]
        | true =>
          rw [if_pos rfl] at h
          obtain ⟨⟨d, m2⟩, hm2, h⟩ := bnd h
          have hl2 := mem32_len hm2
          rw [List.tail_drop] at hm2
          rw [List.length_tail, List.length_drop] at hl2
          dsimp only at h
          split at h
          · rename_i q3
            cases h
            refine ⟨S, loop_out ?_⟩
            unfold glob_class_lp1
            dsimp only
            rw [ix hc, bind_some, bifT (by simp [q]), bind_some, bifFd q2, member_eq hs hm, bind_some]
            dsimp only
            rw [lett_eq, w64_addN (by omega), dash_g hs hb, cond_true, w64_succ (by omega), member_eq hs hm2, bind_some]
            dsimp only
            rw [bifTd q3]
            rfl
          · rename_i q3
            rw [List.drop_drop] at h
            refine GLo.step (T := spanS S a.toNat (d.toNat + 1 - a.toNat)) ?_ ?_ h (fun r' => ih _ _ _)
            · unfold glob_class_lp1
              dsimp only
              rw [ix hc, bind_some, bifT (by simp [q]), bind_some, bifFd q2, member_eq hs hm, bind_some]
              dsimp only
              have q3' : a.toNat ≤ d.toNat := by rw [UInt8.lt_iff_toNat_lt] at q3; omega
              rw [lett_eq, w64_addN (by omega), dash_g hs hb, cond_true, w64_succ (by omega), member_eq hs hm2, bind_some]
              dsimp only
              rw [bifFd q3, lett_eq, flow_go]
              dsimp only
              rw [lett_eq, span_g d (d.toNat + 1 - a.toNat) a.toNat S (by omega), flow_go, bind_some]
              dsimp only
              rw [lett_eq, flow_go, w64_succ (by omega), w64_addN (by omega), w64_addN (by omega)]
            · rw [em]
              have hd45 : (s.drop (p + m)).head? = some 45 ∧ (s.drop (p + m)).tail.head? ≠ some 93 := by
                unfold dash at hb
                obtain ⟨x, hx, hb⟩ := bnd hb
                split at hb
                · rename_i qx
                  obtain ⟨y, hy, hb⟩ := bnd hb
                  simp at hb
                  rw [hx, hy, qx]
                  exact ⟨rfl, by simpa using hb.1⟩
                · cases hb
              have e1 : mem32 (s.drop (p + m)) = some (45, 1) := by
                cases hx : s.drop (p + m) with
                | nil => rw [hx] at hd45; cases hd45.1
                | cons x r =>
                  rw [hx] at hd45
                  simp at hd45
                  rw [hd45.1]
                  cases r <;> simp [mem32]
              rw [endL_mem e1 (by rw [hd45.1]; simp), List.drop_drop, endL_mem hm2 (by rw [← List.tail_drop]; exact hd45.2), List.drop_drop, Option.map_map, Option.map_map, show p + m + 1 + m2 = p + (m + 1 + m2) by omega]
              congr 1
              funext x
              show x + m2 + 1 + m = x + (m + 1 + m2)
              omega
/-- what the document's loop comes to -/
def RLo (p : Nat) : Nat ⊕ glob_set → Flow (List Bool) (Flow (List Bool) ref32_Got)
  | .inl o => .out (.out ⟨[], ((p + o : Nat) : Int), 3⟩)
  | .inr T => .go (boolsS T)
theorem RLo_step {s : List UInt8} {S T : glob_set} {to : Int} {p m : Nat} {o : Option (Nat ⊕ glob_set)} {r : Nat ⊕ glob_set} (hn : ref32_set_lp1 s to ((p : Int), boolsS S) = some (.next (((p + m : Nat) : Int), boolsS T)))
    (h : offS m o = some r) (ih : ∀ r', o = some r' → loop (ref32_set_lp1 s to) (((p + m : Nat) : Int), boolsS T) = some (RLo (p + m) r')) : loop (ref32_set_lp1 s to) ((p : Int), boolsS S) = some (RLo p r) := by
  rcases offS_some h with ⟨a, h1, rfl⟩ | ⟨U, h1, rfl⟩
  · rw [loop_next hn, ih _ h1]; simp only [RLo, Nat.add_assoc]
  · rw [loop_next hn, ih _ h1]; rfl
theorem cls_r (s : List UInt8) (hs : s.length ≤ 1000) (to : Nat) : ∀ (n : Nat) (S : glob_set) (p k : Nat) (r : Nat ⊕ glob_set), endL (s.drop p) = some k → p + k = to → clsS n S (s.drop p) = some r → loop (ref32_set_lp1 s (to : Int)) ((p : Int), boolsS S) = some (RLo p r) := by
  intro n
  induction n with
  | zero => intro S p k r _ _ h; cases h
  | succ n ih =>
    intro S p k r he hto h
    subst hto
    unfold clsS at h
    obtain ⟨c, hc, h⟩ := bnd h
    have hp := ix_lt hc
    have hlen : p + k < s.length := by
      have key : ∀ n (l : List UInt8) k, l.length ≤ n → endL l = some k → k < l.length := by
        intro n
        induction n with
        | zero => intro l k hl h; have : l = [] := List.eq_nil_of_length_eq_zero (by omega); subst this; cases h
        | succ n ih =>
          intro l k hl h
          rcases endL_some h with ⟨h1, rfl⟩ | ⟨h1, a, m, h2, h3, h4, h5⟩
          · cases l with
            | nil => cases h1
            | cons _ _ => simp
          · have := ih _ _ (by rw [List.length_drop]; omega) h5
            rw [List.length_drop] at this; omega
      have := key _ _ _ (Nat.le_refl _) he
      rw [List.length_drop] at this; omega
    rcases endL_some he with ⟨h1, rfl⟩ | ⟨h1, a, m, h2, h3, h4, h5⟩
    · rw [hc] at h1
      cases h1
      rw [if_pos rfl] at h
      cases h
      refine loop_brk ?_
      unfold ref32_set_lp1
      dsimp only
      rw [bifFd (by omega)]
    · have q : c ≠ 93 := fun e => h1 (by rw [hc, e])
      rw [if_neg q] at h
      have lt : decide ((p : Int) < ((p + k : Nat) : Int)) = true := decide_eq_true (by omega)
      rw [List.drop_drop] at h5
      split at h
      · rename_i q2
        obtain ⟨d, hd, h⟩ := bnd h
        have em : a = 45 ∧ m = 1 := by
          cases hl : s.drop p with
          | nil => rw [hl] at hc; cases hc
          | cons x r =>
            rw [hl] at hc hd h2
            simp at hc hd
            subst hc
            subst q2
            cases r with
            | nil => cases hd
            | cons y r => simp [mem32] at h2; exact ⟨h2.1.symm, h2.2.symm⟩
        obtain ⟨rfl, rfl⟩ := em
        have hd2 := ix_tail hd
        split at h
        · rename_i q3
          rw [List.tail_drop] at h
          have k1 : k = 1 := by
            rcases endL_some h5 with ⟨_, e⟩ | ⟨e, _⟩
            · omega
            · exact absurd (by rw [hd2, q3]) e
          subst k1
          refine RLo_step (T := addS S 45) (m := 1) ?_ h (fun r' h' => ih _ _ _ _ h5 (by omega) h')
          unfold ref32_set_lp1
          dsimp only
          have e45 : idx (boolsS S) 45 = some _ := idx_nat (i := 45) (by rw [bools_len]; omega)
          rw [bifT lt, ix hc, bind_some, bifTd q2, w64_succ (by omega), bifF (by simp), e45, bind_some]
          have := bools_set S (i := 45) (by omega)
          rw [show ((45 : Nat) : Int) = (45 : Int) from rfl, show toU8 (45 : Int) = 45 from by apply UInt8.toNat_inj.1; exact toU8_nat (x := 45) (by omega)] at this
          rw [this, bind_some, lett_eq, flow_go]
        · rename_i q3
          cases h
          have k2 : k ≠ 1 := by
            rintro rfl
            rcases endL_some h5 with ⟨e, _⟩ | ⟨_, _, _, _, e1, e2, _⟩
            · rw [hd2] at e; cases e; exact q3 rfl
            · omega
          refine loop_out ?_
          unfold ref32_set_lp1
          dsimp only
          rw [bifT lt, ix hc, bind_some, bifTd q2, w64_succ (by omega), bifT (by
            rw [Bool.not_eq_true', decide_eq_false_iff_not]; omega)]
          rfl
      · rename_i q2
        obtain ⟨⟨a', m'⟩, hm, h⟩ := bnd h
        rw [h2] at hm
        cases hm
        dsimp only at h
        obtain ⟨b, hb, h⟩ := bnd h
        rw [List.drop_drop] at h hb
        have eto : ((p + k : Nat) : Int) = ((p + m + (k - m) : Nat) : Int) := by omega
        cases b with
        | false =>
          rw [if_neg (by simp)] at h
          refine RLo_step (T := spanS S a.toNat 1) (m := m) ?_ h (fun r' h' => ih _ _ _ _ h5 (by omega) h')
          unfold ref32_set_lp1
          dsimp only
          rw [bifT lt, ix hc, bind_some, bifFd q2, thing_eq hs h2, bind_some]
          dsimp only
          rw [eto, dash_r hs hb h5, cond_false, bind_some]
          dsimp only
          rw [bifFd (by rw [UInt8.lt_iff_toNat_lt]; omega), lett_eq, span_r a 1 a.toNat S rfl, flow_go, bind_some, flow_go]
        | true =>
          rw [if_pos rfl] at h
          obtain ⟨⟨d, m2⟩, hm2, h⟩ := bnd h
          rw [List.tail_drop] at hm2
          dsimp only at h
          split at h
          · rename_i q3
            cases h
            refine loop_out ?_
            unfold ref32_set_lp1
            dsimp only
            rw [bifT lt, ix hc, bind_some, bifFd q2, thing_eq hs h2, bind_some]
            dsimp only
            rw [eto, dash_r hs hb h5, cond_true, w64_succ (by omega), thing_eq hs hm2, bind_some, bind_some]
            dsimp only
            rw [bifTd q3]
            rfl
          · rename_i q3
            rw [List.drop_drop] at h
            have q3' : a.toNat ≤ d.toNat := by rw [UInt8.lt_iff_toNat_lt] at q3; omega
            obtain ⟨b', hb', hb2⟩ := dash_end h5
            rw [hb] at hb'
            cases hb'
            obtain ⟨g1, g2, g3, g4⟩ := hb2 rfl
            rw [List.tail_drop] at g3 g4
            have e5 : endL (s.drop (p + (m + 1 + m2))) = some (k - (m + 1 + m2)) ∧ m + 1 + m2 ≤ k := by
              rcases endL_some g3 with ⟨e, _⟩ | ⟨_, d', m', f1, f2, f3, f4⟩
              · exact absurd e g4
              · rw [hm2] at f1
                cases f1
                rw [List.drop_drop] at f4
                rw [show p + (m + 1 + m2) = p + m + 1 + m2 by omega, f4]
                exact ⟨by congr 1; omega, by omega⟩
            refine RLo_step (T := spanS S a.toNat (d.toNat + 1 - a.toNat)) (m := m + 1 + m2) ?_ h (fun r' h' => ih _ _ _ _ e5.1 (by omega) h')
            unfold ref32_set_lp1
            dsimp only
            rw [bifT lt, ix hc, bind_some, bifFd q2, thing_eq hs h2, bind_some]
            dsimp only
            rw [eto, dash_r hs hb h5, cond_true, w64_succ (by omega), thing_eq hs hm2, bind_some, bind_some]
            dsimp only
            rw [bifFd q3, lett_eq, span_r d (d.toNat + 1 - a.toNat) a.toNat S (by omega), flow_go, bind_some, flow_go, show p + m + 1 + m2 = p + (m + 1 + m2) by omega]
end Go.Lg
namespace Go.Lg
attribute [local irreducible] w64 toU64 toU8 shlU shrU shlB shrB
theorem endL_cons (c : UInt8) (r : List UInt8) : endL (c :: r) = if c = 93 then some 0 else if c = 92 then (endL r.tail).map (· + 2) else (endL r).map (· + 1) := by
  cases r with
  | nil => simp [endL]
  | cons d r => simp [endL]
theorem endL_lt {l : List UInt8} {k : Nat} (h : endL l = some k) : k < l.length := by
  have key : ∀ n (l : List UInt8) k, l.length ≤ n → endL l = some k → k < l.length := by
    intro n
    induction n with
    | zero => intro l k hl h; have : l = [] := List.eq_nil_of_length_eq_zero (by omega); subst this; cases h
    | succ n ih =>
      intro l k hl h
      rcases endL_some h with ⟨h1, rfl⟩ | ⟨h1, a, m, h2, h3, h4, h5⟩
      · cases l with
        | nil => cases h1
        | cons _ _ => simp
      · have := ih _ _ (by rw [List.length_drop]; omega) h5
        rw [List.length_drop] at this; omega
  exact key _ _ _ (Nat.le_refl _) h
theorem drop_at {s : List UInt8} {p : Nat} (h : p < s.length) : ∃ c r, s.drop p = c :: r ∧ s.drop (p + 1) = r ∧ (s.drop p).head? = some c :=
  ⟨s[p], s.drop (p + 1), List.drop_eq_getElem_cons h, rfl, by rw [List.drop_eq_getElem_cons h]; rfl⟩
theorem closed_loop (s : List UInt8) (hs : s.length ≤ 1000) : ∀ n p : Nat, p ≤ 1002 → s.length < p + n → ∃ q : Nat, loop (glob_closed_lp1 s) (p : Int) = some (.go (q : Int)) ∧ decide (q < s.length) = (endL (s.drop p)).isSome := by
  have over : ∀ p : Nat, s.length ≤ p → ∃ q : Nat, loop (glob_closed_lp1 s) (p : Int) = some (.go (q : Int)) ∧ decide (q < s.length) = (endL (s.drop p)).isSome := by
    intro p h
    refine ⟨p, loop_brk ?_, ?_⟩
    · unfold glob_closed_lp1
      rw [bifFd (by omega)]; rfl
    · rw [List.drop_eq_nil_of_le h, decide_eq_false (by omega)]; rfl
  intro n
  induction n with
  | zero => intro p _ h; exact over p (by omega)
  | succ n ih =>
    intro p hp h
    by_cases q : p < s.length
    · obtain ⟨c, r, h1, h2, h3⟩ := drop_at q
      by_cases e : c = 93
      · refine ⟨p, loop_brk ?_, ?_⟩
        · unfold glob_closed_lp1
          rw [bifTd (by omega), ix h3, bind_some, bind_some, bifF (by simp [e])]
        · rw [h1, endL_cons, if_pos e, decide_eq_true q]; rfl
      · by_cases e2 : c = 92
        · have hn : glob_closed_lp1 s (p : Int) = some (.next ((p + 2 : Nat) : Int)) := by
            unfold glob_closed_lp1
            rw [bifTd (by omega), ix h3, bind_some, bind_some, bifT (by simp [e]), bind_some, bifTd e2, lett_eq, bind_some, lett_eq, w64_succ (by omega), w64_succ (by omega), bind_some]
          obtain ⟨x, hx, hx2⟩ := ih (p + 2) (by omega) (by omega)
          refine ⟨x, by rw [loop_next hn, hx], ?_⟩
          rw [hx2, h1, endL_cons, if_neg e, if_pos e2, ← h2, List.tail_drop, Option.isSome_map]
        · have hn : glob_closed_lp1 s (p : Int) = some (.next ((p + 1 : Nat) : Int)) := by
            unfold glob_closed_lp1
            rw [bifTd (by omega), ix h3, bind_some, bind_some, bifT (by simp [e]), bind_some, bifFd e2, bind_some, lett_eq, w64_succ (by omega), bind_some]
          obtain ⟨x, hx, hx2⟩ := ih (p + 1) (by omega) (by omega)
          refine ⟨x, by rw [loop_next hn, hx], ?_⟩
          rw [hx2, h1, endL_cons, if_neg e, if_neg e2, ← h2, Option.isSome_map]
    · exact over p (by omega)
theorem closed_eq (s : List UInt8) (hs : s.length ≤ 1000) (p : Nat) (hp : p ≤ 1002) : glob_closed s (p : Int) = some (endL (s.drop p)).isSome := by
  obtain ⟨q, h1, h2⟩ := closed_loop s hs (s.length + 1) p hp (by omega)
  unfold glob_closed
  rw [h1, flow_go, bind_some, lett_eq, ← h2]
  congr 1
  rw [decide_eq_decide]; omega
def endI (p : Nat) : Option Nat → Int
  | none => -1
  | some k => ((p + k : Nat) : Int)
def endF (p : Nat) : Option Nat → Flow Unit Int
  | none => .go ()
  | some k => .out ((p + k : Nat) : Int)
theorem end_loop (s : List UInt8) (hs : s.length ≤ 1000) : ∀ n p : Nat, p ≤ 1002 → s.length < p + n → loop (ref32_end_lp1 s) (p : Int) = some (endF p (endL (s.drop p))) := by
  have over : ∀ p : Nat, s.length ≤ p → loop (ref32_end_lp1 s) (p : Int) = some (endF p (endL (s.drop p))) := by
    intro p h
    rw [List.drop_eq_nil_of_le h]
    refine loop_brk ?_
    unfold ref32_end_lp1
    rw [bifFd (by omega)]
  intro n
  induction n with
  | zero => intro p _ h; exact over p (by omega)
  | succ n ih =>
    intro p hp h
    by_cases q : p < s.length
    · obtain ⟨c, r, h1, h2, h3⟩ := drop_at q
      by_cases e : c = 93
      · rw [h1, endL_cons, if_pos e]
        refine loop_out ?_
        unfold ref32_end_lp1
        rw [bifTd (by omega), ix h3, bind_some, bifTd e]; rfl
      · by_cases e2 : c = 92
        · have hn : ref32_end_lp1 s (p : Int) = some (.next ((p + 2 : Nat) : Int)) := by
            unfold ref32_end_lp1
            rw [bifTd (by omega), ix h3, bind_some, bifFd e, bind_some, bifTd e2, lett_eq, bind_some, lett_eq, flow_go, w64_succ (by omega), w64_succ (by omega)]
          rw [loop_next hn, ih (p + 2) (by omega) (by omega), h1, endL_cons, if_neg e, if_pos e2, ← h2, List.tail_drop]
          cases endL (s.drop (p + 1 + 1)) with
          | none => rfl
          | some k => simp only [endF, Option.map_some]; rw [show p + 2 + k = p + (k + 2) by omega]
        · have hn : ref32_end_lp1 s (p : Int) = some (.next ((p + 1 : Nat) : Int)) := by
            unfold ref32_end_lp1
            rw [bifTd (by omega), ix h3, bind_some, bifFd e, bind_some, bifFd e2, bind_some, lett_eq, flow_go, w64_succ (by omega)]
          rw [loop_next hn, ih (p + 1) (by omega) (by omega), h1, endL_cons, if_neg e, if_neg e2, ← h2]
          cases endL (s.drop (p + 1)) with
          | none => rfl
          | some k => simp only [endF, Option.map_some]; rw [show p + 1 + k = p + (k + 1) by omega]
    · exact over p (by omega)
theorem end_eq (s : List UInt8) (hs : s.length ≤ 1000) (p : Nat) (hp : p ≤ 1002) : ref32_end s (p : Int) = some (endI p (endL (s.drop p))) := by
  unfold ref32_end
  rw [end_loop s hs (s.length + 1) p hp (by omega)]
  cases endL (s.drop p) <;> rfl
/-! ### a set -/
def bang (r : List UInt8) : Nat := if r.head? = some 33 then 1 else 0
theorem bang_g {s : List UInt8} {p : Nat} {β : Type} (hp : p ≤ s.length) (F : Bool → Option β) : (bif decide ((p : Int) < (s.length : Int)) then
     (idx s (p : Int)).bind fun c32 =>
     some (decide (c32 = 33))
     else
     some false : Option Bool).bind F = F (decide (bang (s.drop p) = 1)) := by
  by_cases q : p < s.length
  · obtain ⟨c, r, h1, h2, h3⟩ := drop_at q
    rw [bifTd (by omega), ix h3, bind_some, bind_some]
    unfold bang
    rw [h3]
    by_cases e : c = 33
    · simp [e]
    · simp [e]
  · rw [bifFd (by omega), bind_some, List.drop_eq_nil_of_le (by omega)]; rfl
theorem bang_le (r : List UInt8) : bang r = 0 ∨ bang r = 1 := by
  unfold bang; split
  · exact .inr rfl
  · exact .inl rfl
theorem bang_a {r : List UInt8} {p : Nat} {β : Type} (hp : p ≤ 1000) (F : Int → Option β) : (bif decide (bang r = 1) then
     lett (w64 ((p : Int) + 1)) fun at37 =>
     some at37
     else
     some (p : Int) : Option Int).bind F = F ((p + bang r : Nat) : Int) := by
  rcases bang_le r with h | h
  · rw [h, bifFd (by omega), bind_some]; rfl
  · rw [h, bifTd rfl, lett_eq, bind_some, w64_succ (by omega)]
def classS (r : List UInt8) : (Nat × Int) ⊕ (glob_piece × Nat) :=
  match endL (r.drop (bang r)) with
  | none => .inl (0, 2)
  | some 0 => .inl (0, 3)
  | some (k + 1) => match clsS (k + 2) nilS (r.drop (bang r)) with
    | none => .inl (0, 1)
    | some (.inl o) => .inl (1 + bang r + o, 3)
    | some (.inr S) => .inr (⟨0, if bang r = 1 then notS S else S, false, 0⟩, 1 + bang r + (k + 1) + 1)
def GNx (o : Option (glob_piece × Int × glob_fault)) (p : Nat) : (Nat × Int) ⊕ (glob_piece × Nat) → Prop
  | .inl x => ∃ P n, o = some (P, n, ⟨((p + x.1 : Nat) : Int), x.2⟩)
  | .inr x => o = some (x.1, (x.2 : Int), ⟨0, 0⟩)
theorem class_g (s : List UInt8) (hs : s.length ≤ 1000) (p : Nat) (hp : p < s.length) : GNx (glob_class s (p : Int)) p (classS (s.drop (p + 1))) := by
  unfold glob_class
  rw [lett_eq, w64_succ (by omega), bang_g (by omega), bang_a (by omega), closed_eq s hs _ (by have := bang_le (s.drop (p + 1)); omega), bind_some]
  unfold classS
  rw [List.drop_drop]
  have hb := bang_le (s.drop (p + 1))
  generalize hB : bang (s.drop (p + 1)) = B at hb ⊢
  cases he : endL (s.drop (p + 1 + B)) with
  | none => exact ⟨_, _, rfl⟩
  | some k =>
    rw [bifF (by simp)]
    have hl := endL_lt he
    rw [List.length_drop] at hl
    cases k with
    | zero =>
      refine ⟨⟨0, nilS, false, 0⟩, 0, ?_⟩
      have hd : s.drop (p + 1 + B) ≠ [] := fun e => by rw [e] at he; cases he
      have hc : clsS 1 nilS (s.drop (p + 1 + B)) = some (.inr nilS) := by
        rcases endL_some he with ⟨h1, _⟩ | ⟨_, _, _, _, h3, h4, _⟩
        · unfold clsS; rw [h1, bind_some, if_pos rfl]
        · omega
      obtain ⟨k, hk, hr⟩ := cls_g s hs _ _ _ _ hc
      rw [he] at hk
      cases hk
      have hr' : loop (glob_class_lp1 s) (0, 0, 0, 0, ((p + 1 + B : Nat) : Int)) = some (.go (0, 0, 0, 0, ((p + 1 + B + 0 : Nat) : Int))) := hr
      rw [hr', flow_go]
      dsimp only
      rw [flow_go]
      dsimp only
      rw [bifTd (by omega)]; rfl
    | succ k =>
      obtain ⟨r, hr⟩ := clsS_total (k + 2) nilS _ _ he (by omega)
      have hg := cls_g s hs _ _ _ _ hr
      dsimp only
      rw [hr]
      cases r with
      | inl o =>
        obtain ⟨T, hT⟩ := hg
        have hT' : loop (glob_class_lp1 s) (0, 0, 0, 0, ((p + 1 + B : Nat) : Int)) = _ := hT
        refine ⟨⟨0, T, false, 0⟩, 0, ?_⟩
        rw [hT', flow_out, flow_out, show p + (1 + B + o) = p + 1 + B + o by omega]
      | inr S =>
        obtain ⟨k', hk, hT⟩ := hg
        rw [he] at hk
        cases hk
        have hT' : loop (glob_class_lp1 s) (0, 0, 0, 0, ((p + 1 + B : Nat) : Int)) = _ := hT
        rw [hT', flow_go]
        dsimp only
        rw [flow_go]
        dsimp only
        rw [bifFd (by omega)]
        have e : w64 (w64 (((p + 1 + B + (k + 1) : Nat) : Int) + 1) - (p : Int)) = ((1 + B + (k + 1) + 1 : Nat) : Int) := by
          rw [w64_succ (by omega), w64_subN (by omega) (by omega)]; congr 1; omega
        rcases hb with rfl | rfl
        · rw [bifFd (by omega), bind_some]
          dsimp only
          rw [lett_eq, e]; rfl
        · rw [bifTd rfl, not_g, flow_go, bind_some]
          dsimp only
          rw [bind_some]
          dsimp only
          rw [lett_eq, e]; rfl
def refPc (P : glob_piece) : ref32_Piece := ⟨decide (P.kind = 1), P.plain, if P.kind = 1 then [] else boolsS P.set, P.c⟩
def RNx (p : Nat) : (Nat × Int) ⊕ (glob_piece × Nat) → ref32_Got
  | .inl x => ⟨[], ((p + x.1 : Nat) : Int), x.2⟩
  | .inr x => ⟨[refPc x.1], ((p + x.2 : Nat) : Int), 0⟩
theorem class_r (s : List UInt8) (hs : s.length ≤ 1000) (p : Nat) (hp : p < s.length) : ref32_set s (p : Int) = some (RNx p (classS (s.drop (p + 1)))) := by
  unfold ref32_set
  rw [lett_eq, w64_succ (by omega), bang_g (by omega), bang_a (by omega), end_eq s hs _ (by have := bang_le (s.drop (p + 1)); omega), bind_some]
  unfold classS
  rw [List.drop_drop]
  have hb := bang_le (s.drop (p + 1))
  generalize hB : bang (s.drop (p + 1)) = B at hb ⊢
  cases he : endL (s.drop (p + 1 + B)) with
  | none => rfl
  | some k =>
    have hl := endL_lt he
    rw [List.length_drop] at hl
    unfold endI
    dsimp only
    rw [bifFd (by omega)]
    cases k with
    | zero => rw [bifTd (by omega)]; rfl
    | succ k =>
      rw [bifFd (by omega), nothing_eq, bind_some, bools_nil]
      obtain ⟨r, hr⟩ := clsS_total (k + 2) nilS _ _ he (by omega)
      rw [cls_r s hs (p + 1 + B + (k + 1)) _ _ _ _ _ he rfl hr]
      dsimp only
      rw [hr]
      cases r with
      | inl o =>
        rw [show RLo (p + 1 + B) (.inl o) = .out (.out ⟨[], ((p + 1 + B + o : Nat) : Int), 3⟩) from rfl, flow_out, flow_out, show p + 1 + B + o = p + (1 + B + o) by omega]; rfl
      | inr S =>
        rw [show RLo (p + 1 + B) (.inr S) = .go (boolsS S) from rfl, flow_go, flow_go]
        have e : w64 (((p + 1 + B + (k + 1) : Nat) : Int) + 1) = ((p + (1 + B + (k + 1) + 1) : Nat) : Int) := by
          rw [w64_succ (by omega)]; congr 1; omega
        rcases hb with rfl | rfl
        · rw [bifFd (by omega), bind_some, e]; rfl
        · rw [bifTd rfl, not_r, flow_go, bind_some, bind_some, e]; rfl
end Go.Lg
namespace Go.Lg
attribute [local irreducible] w64 toU64 toU8 shlU shrU shlB shrB spanS
theorem classS_no {r : List UInt8} {x : Nat × Int} (h : classS r = .inl x) : x.2 = 2 ∨ x.2 = 3 := by
  unfold classS at h
  split at h
  · cases h; exact .inl rfl
  · cases h; exact .inr rfl
  · rename_i k he
    obtain ⟨y, hy⟩ := clsS_total (k + 2) nilS _ _ he (by omega)
    rw [hy] at h
    cases y with
    | inl o => cases h; exact .inr rfl
    | inr S => cases h
theorem classS_yes {r : List UInt8} {P : glob_piece} {k : Nat} (h : classS r = .inr (P, k)) : 1 ≤ k ∧ k ≤ r.length + 1 ∧ ∀ q, classS (r ++ q) = .inr (P, k) := by
  have hb : ∀ q, endL (r.drop (bang r)) ≠ none → bang (r ++ q) = bang r ∧ (r ++ q).drop (bang r) = r.drop (bang r) ++ q := by
    intro q hn
    cases r with
    | nil => exact absurd (by rw [List.drop_nil]; rfl) hn
    | cons c r =>
      refine ⟨rfl, List.drop_append_of_le_length ?_⟩
      have := bang_le (c :: r)
      rw [List.length_cons]; omega
  unfold classS at h
  split at h
  · cases h
  · cases h
  · rename_i k' he
    have hl := endL_lt he
    rw [List.length_drop] at hl
    obtain ⟨y, hy⟩ := clsS_total (k' + 2) nilS _ _ he (by omega)
    rw [hy] at h
    cases y with
    | inl o => cases h
    | inr S =>
      cases h
      refine ⟨by omega, by omega, fun q => ?_⟩
      obtain ⟨b1, b2⟩ := hb q (by rw [he]; simp)
      unfold classS
      rw [b1, b2, endL_app q he]
      dsimp only
      rw [clsS_app q _ _ _ _ hy]
def byteP (c : UInt8) : glob_piece := ⟨0, addS nilS c, true, c⟩
/-- the piece ahead and how many bytes it takes; or how far off the fault is, and which -/
def nextS : List UInt8 → (Nat × Int) ⊕ (glob_piece × Nat)
  | [] => .inl (0, 1)
  | c :: r => if c = 42 then .inr (⟨1, nilS, false, 0⟩, 1) else if c = 63 then .inr (⟨0, fullS, false, 0⟩, 1) else if c = 91 then classS r
    else if c = 92 then (match r.head? with
      | none => .inl (0, 2)
      | some d => .inr (byteP d, 2))
    else .inr (byteP c, 1)
theorem nextS_c (c : UInt8) (r : List UInt8) : nextS (c :: r) = if c = 42 then .inr (⟨1, nilS, false, 0⟩, 1) else if c = 63 then .inr (⟨0, fullS, false, 0⟩, 1) else if c = 91 then classS r
    else if c = 92 then (match r.head? with
      | none => .inl (0, 2)
      | some d => .inr (byteP d, 2))
    else .inr (byteP c, 1) := rfl
theorem nextS_no {l : List UInt8} {x : Nat × Int} (h : nextS l = .inl x) : x.2 ≠ 0 := by
  cases l with
  | nil => cases h; simp
  | cons c r =>
    rw [nextS_c] at h
    split at h
    · cases h
    · split at h
      · cases h
      · split at h
        · have := classS_no h; omega
        · split at h
          · split at h
            · cases h; simp
            · cases h
          · cases h
theorem nextS_yes {l : List UInt8} {P : glob_piece} {k : Nat} (h : nextS l = .inr (P, k)) : 1 ≤ k ∧ k ≤ l.length ∧ ∀ q, nextS (l ++ q) = .inr (P, k) := by
  cases l with
  | nil => cases h
  | cons c r =>
    rw [List.length_cons]
    rw [nextS_c] at h
    split at h
    · rename_i e; cases h; exact ⟨by omega, by omega, fun q => by rw [List.cons_append]; rw [nextS_c, if_pos e]⟩
    · rename_i e1
      split at h
      · rename_i e; cases h; exact ⟨by omega, by omega, fun q => by rw [List.cons_append]; rw [nextS_c, if_neg e1, if_pos e]⟩
      · rename_i e2
        split at h
        · rename_i e
          obtain ⟨h1, h2, h3⟩ := classS_yes h
          exact ⟨h1, h2, fun q => by rw [List.cons_append]; rw [nextS_c, if_neg e1, if_neg e2, if_pos e]; exact h3 q⟩
        · rename_i e3
          split at h
          · rename_i e
            cases r with
            | nil => cases h
            | cons d r =>
              cases h
              exact ⟨by omega, by simp, fun q => by rw [List.cons_append]; rw [nextS_c, if_neg e1, if_neg e2, if_neg e3, if_pos e]; rfl⟩
          · rename_i e
            cases h
            exact ⟨by omega, by omega, fun q => by rw [List.cons_append]; rw [nextS_c, if_neg e1, if_neg e2, if_neg e3, if_neg e]⟩
theorem byteOf_eq (c : UInt8) : glob_byteOf c = some (byteP c) := by
  unfold glob_byteOf
  exact add_step nilS c _
theorem next_g (s : List UInt8) (hs : s.length ≤ 1000) (p : Nat) (hp : p < s.length) : GNx (glob_next s (p : Int)) p (nextS (s.drop p)) := by
  obtain ⟨c, r, h1, h2, h3⟩ := drop_at hp
  unfold glob_next
  rw [ix h3, bind_some, lett_eq, h1]
  rw [nextS_c]
  by_cases e1 : c = 42
  · rw [bifTd e1, if_pos e1]; exact rfl
  · rw [bifFd e1, if_neg e1, lett_eq]
    by_cases e2 : c = 63
    · rw [bifTd e2, if_pos e2, lett_eq, show (((0 : UInt8).toNat : Nat) : Int) = ((0 : Nat) : Int) from rfl]
      have := span_n 256 0 nilS rfl
      have h : loop glob_next_lp1 (0, 0, 0, 0, ((0 : Nat) : Int)) = _ := this
      rw [h, flow_go, bind_some]
      exact rfl
    · rw [bifFd e2, if_neg e2, lett_eq]
      by_cases e3 : c = 91
      · rw [bifTd e3, if_pos e3]
        have := class_g s hs p hp
        rw [h2] at this
        cases hc : classS r with
        | inl x =>
          rw [hc] at this
          obtain ⟨P, n, hx⟩ := this
          exact ⟨P, n, by rw [hx, bind_some]⟩
        | inr x =>
          rw [hc] at this
          have hx : glob_class s (p : Int) = some (x.1, (x.2 : Int), ⟨0, 0⟩) := this
          rw [hx, bind_some]; exact rfl
      · rw [bifFd e3, if_neg e3, lett_eq]
        by_cases e4 : c = 92
        · rw [bifTd e4, if_pos e4, w64_succ (by omega)]
          by_cases e5 : p + 1 = s.length
          · have : r.head? = none := by rw [← h2, List.drop_eq_nil_of_le (by omega)]; rfl
            rw [bifTd (by omega), this]
            exact ⟨_, _, rfl⟩
          · obtain ⟨d, r', g1, g2, g3⟩ := drop_at (s := s) (p := p + 1) (by omega)
            have : r.head? = some d := by rw [← h2, g3]
            rw [bifFd (by omega), ix g3, bind_some, byteOf_eq, bind_some, this]
            exact rfl
        · rw [bifFd e4, if_neg e4, bind_some, byteOf_eq, bind_some]
          exact rfl
theorem refPc_byte (c : UInt8) : refPc (byteP c) = ⟨false, true, boolsS (addS nilS c), c⟩ := rfl
theorem plain_eq (c : UInt8) : ref32_plain c = some (refPc (byteP c)) := by
  have := UInt8.toNat_lt c
  unfold ref32_plain
  rw [nothing_eq, bind_some, bools_nil, idx_nat (by rw [bools_len]; omega), bind_some, bools_set _ (by omega), bind_some, toU8_mod, refPc_byte]
/-! ### piece by piece -/
def compS : Nat → Nat → List UInt8 → (Nat × Int) ⊕ List glob_piece
  | 0, _, _ => .inr []
  | n + 1, p, l => if l = [] then .inr [] else match nextS l with
    | .inl x => .inl (p + x.1, x.2)
    | .inr x => match compS n (p + x.2) (l.drop x.2) with
      | .inl y => .inl y
      | .inr ps => .inr (x.1 :: ps)
theorem compS_len : ∀ (n p : Nat) (l : List UInt8) (ps : List glob_piece), compS n p l = .inr ps → ps.length ≤ l.length
  | 0, p, l, ps, h => by cases h; exact Nat.zero_le _
  | n + 1, p, l, ps, h => by
    unfold compS at h
    split at h
    · cases h; exact Nat.zero_le _
    · split at h
      · cases h
      · rename_i x hx
        obtain ⟨P, k⟩ := x
        obtain ⟨h1, h2, _⟩ := nextS_yes hx
        split at h
        · cases h
        · rename_i qs hq
          cases h
          have := compS_len n _ _ _ hq
          rw [List.length_drop] at this
          rw [List.length_cons]; dsimp only at this; omega
def GC (acc : List glob_piece) : (Nat × Int) ⊕ List glob_piece → Flow (List glob_piece) (Option glob_Glob × Int × Int)
  | .inl x => .out (none, (x.1 : Int), x.2)
  | .inr ps => .go (acc ++ ps)
theorem comp_g (s : List UInt8) (hs : s.length ≤ 1000) : ∀ (n p : Nat) (acc : List glob_piece), p ≤ s.length → s.length < p + n → acc.length ≤ p → loop (glob_Compile_lp1 s) (acc, (p : Int)) = some (GC acc (compS n p (s.drop p))) := by
  intro n
  induction n with
  | zero => intro p acc h1 h2; omega
  | succ n ih =>
    intro p acc h1 h2 h3
    unfold compS
    by_cases q : p < s.length
    · have hne : s.drop p ≠ [] := fun e => by have := congrArg List.length e; rw [List.length_drop, List.length_nil] at this; omega
      have hx := next_g s hs p q
      rw [if_neg hne]
      cases hn : nextS (s.drop p) with
      | inl x =>
        rw [hn] at hx
        obtain ⟨P, m, hx⟩ := hx
        refine loop_out ?_
        unfold glob_Compile_lp1
        dsimp only
        rw [bifTd (by omega), hx, bind_some]
        dsimp only
        have hz := nextS_no hn
        rw [bifT (by rw [decide_eq_false hz, Bool.false_and, Bool.and_false]; rfl)]; rfl
      | inr x =>
        obtain ⟨P, k⟩ := x
        rw [hn] at hx
        obtain ⟨k1, k2, _⟩ := nextS_yes hn
        rw [List.length_drop] at k2
        have hx' : glob_next s (p : Int) = some (P, (k : Int), ⟨0, 0⟩) := hx
        have hst : glob_Compile_lp1 s (acc, (p : Int)) = some (.next (acc ++ [P], ((p + k : Nat) : Int))) := by
          unfold glob_Compile_lp1
          dsimp only
          rw [bifTd (by omega), hx', bind_some]
          dsimp only
          rw [bifF (by simp), app_ok (by simp; omega), bind_some, lett_eq, w64_addN (by omega)]
        rw [loop_next hst, ih (p + k) _ (by omega) (by omega) (by simp; omega)]
        dsimp only
        rw [List.drop_drop]
        cases compS n (p + k) (s.drop (p + k)) with
        | inl y => rfl
        | inr ps => simp [GC]
    · rw [if_pos (List.drop_eq_nil_of_le (by omega))]
      refine loop_brk ?_
      unfold glob_Compile_lp1
      dsimp only
      rw [bifFd (by omega)]; simp
def RC (acc : List glob_piece) : (Nat × Int) ⊕ List glob_piece → Flow (List ref32_Piece) ref32_Got
  | .inl x => .out ⟨[], (x.1 : Int), x.2⟩
  | .inr ps => .go ((acc ++ ps).map refPc)
theorem comp_r (s : List UInt8) (hs : s.length ≤ 1000) : ∀ (n p : Nat) (acc : List glob_piece), p ≤ s.length → s.length < p + n → acc.length ≤ p → loop (ref32_Compile_lp1 s) (acc.map refPc, (p : Int)) = some (RC acc (compS n p (s.drop p))) := by
  intro n
  induction n with
  | zero => intro p acc h1 h2; omega
  | succ n ih =>
    intro p acc h1 h2 h3
    unfold compS
    by_cases q : p < s.length
    · have hne : s.drop p ≠ [] := fun e => by have := congrArg List.length e; rw [List.length_drop, List.length_nil] at this; omega
      rw [if_neg hne]
      obtain ⟨c, r, g1, g2, g3⟩ := drop_at q
      have fin : ∀ (P : glob_piece) (k : Nat), nextS (s.drop p) = .inr (P, k) → ref32_Compile_lp1 s (acc.map refPc, (p : Int)) = some (.next (acc.map refPc ++ [refPc P], ((p + k : Nat) : Int))) →
          loop (ref32_Compile_lp1 s) (acc.map refPc, (p : Int)) = some (RC acc (match nextS (s.drop p) with
            | .inl x => .inl (p + x.1, x.2)
            | .inr x => match compS n (p + x.2) ((s.drop p).drop x.2) with
              | .inl y => .inl y
              | .inr ps => .inr (x.1 :: ps))) := by
        intro P k hk hst
        obtain ⟨k1, k2, _⟩ := nextS_yes hk
        rw [List.length_drop] at k2
        have e : acc.map refPc ++ [refPc P] = (acc ++ [P]).map refPc := by rw [List.map_append]; rfl
        rw [e] at hst
        rw [loop_next hst, ih (p + k) _ (by omega) (by omega) (by simp; omega), hk]
        dsimp only
        rw [List.drop_drop]
        cases compS n (p + k) (s.drop (p + k)) with
        | inl y => rfl
        | inr ps => simp [RC]
      by_cases e1 : c = 42
      · refine fin ⟨1, nilS, false, 0⟩ 1 (by rw [g1]; rw [nextS_c, if_pos e1]) ?_
        unfold ref32_Compile_lp1
        dsimp only
        rw [bifTd (by omega), ix g3, bind_some, bifFd (by rw [e1]; decide), bifFd (by rw [e1]; decide), bifTd e1, app_ok (by simp; omega), bind_some, bind_some, lett_eq, w64_succ (by omega), flow_go]; rfl
      · by_cases e2 : c = 63
        · refine fin ⟨0, fullS, false, 0⟩ 1 (by rw [g1]; rw [nextS_c, if_neg e1, if_pos e2]) ?_
          unfold ref32_Compile_lp1
          dsimp only
          rw [bifTd (by omega), ix g3, bind_some, bifFd (by rw [e2]; decide), bifFd (by rw [e2]; decide), bifFd e1, bifTd e2, nothing_eq, bind_some, bools_full, app_ok (by simp; omega), bind_some, bind_some, lett_eq, w64_succ (by omega), flow_go]; rfl
        · by_cases e3 : c = 91
          · have hcl : nextS (s.drop p) = classS r := by rw [g1]; rw [nextS_c, if_neg e1, if_neg e2, if_pos e3]
            have hr := class_r s hs p q
            rw [g2] at hr
            cases hc : classS r with
            | inl x =>
              rw [hc] at hr hcl
              rw [hcl]
              refine loop_out ?_
              have hz := classS_no hc
              unfold ref32_Compile_lp1
              dsimp only
              rw [bifTd (by omega), ix g3, bind_some, bifTd e3, hr, bind_some, bifT (by
                rw [Bool.not_eq_true', decide_eq_false_iff_not]; show ¬ x.2 = 0; omega)]
              rfl
            | inr x =>
              obtain ⟨P, k⟩ := x
              rw [hc] at hr hcl
              refine fin P k hcl ?_
              unfold ref32_Compile_lp1
              dsimp only
              rw [bifTd (by omega), ix g3, bind_some, bifTd e3, hr, bind_some, bifF (by simp [RNx])]
              have e : idx (RNx p (.inr (P, k))).L 0 = some (refPc P) := rfl
              rw [e, bind_some, app_ok (by simp; omega), bind_some, flow_go]; rfl
          · by_cases e4 : c = 92
            · by_cases e5 : p + 1 = s.length
              · have hh : r.head? = none := by rw [← g2, List.drop_eq_nil_of_le (by omega)]; rfl
                have hcl : nextS (s.drop p) = .inl (0, 2) := by rw [g1]; rw [nextS_c, if_neg e1, if_neg e2, if_neg e3, if_pos e4, hh]
                rw [hcl]
                refine loop_out ?_
                unfold ref32_Compile_lp1
                dsimp only
                rw [bifTd (by omega), ix g3, bind_some, bifFd e3, bifTd e4, w64_succ (by omega), bifTd (by omega)]
                rfl
              · obtain ⟨d, r', f1, f2, f3⟩ := drop_at (s := s) (p := p + 1) (by omega)
                have hh : r.head? = some d := by rw [← g2, f3]
                refine fin (byteP d) 2 (by rw [g1]; rw [nextS_c, if_neg e1, if_neg e2, if_neg e3, if_pos e4, hh]) ?_
                unfold ref32_Compile_lp1
                dsimp only
                rw [bifTd (by omega), ix g3, bind_some, bifFd e3, bifTd e4, w64_succ (by omega), bifFd (by omega), ix f3, bind_some, plain_eq, bind_some, app_ok (by simp; omega), bind_some, lett_eq, flow_go, w64_id (by omega) (by omega)]; rfl
            · refine fin (byteP c) 1 (by rw [g1]; rw [nextS_c, if_neg e1, if_neg e2, if_neg e3, if_neg e4]) ?_
              unfold ref32_Compile_lp1
              dsimp only
              rw [bifTd (by omega), ix g3, bind_some, bifFd e3, bifFd e4, bifFd e1, bifFd e2, plain_eq, bind_some, app_ok (by simp; omega), bind_some, bind_some, lett_eq, w64_succ (by omega), flow_go]
    · rw [if_pos (List.drop_eq_nil_of_le (by omega))]
      refine loop_brk ?_
      unfold ref32_Compile_lp1
      dsimp only
      rw [bifFd (by omega)]; simp
def comp (s : List UInt8) : (Nat × Int) ⊕ List glob_piece := if 64 < s.length then .inl (64, 4) else compS (s.length + 1) 0 s
def GC2 (s : List UInt8) : (Nat × Int) ⊕ List glob_piece → Option glob_Glob × Int × Int
  | .inl x => (none, (x.1 : Int), x.2)
  | .inr ps => (some ⟨s, ps⟩, 0, 0)
def RC2 : (Nat × Int) ⊕ List glob_piece → ref32_Got
  | .inl x => ⟨[], (x.1 : Int), x.2⟩
  | .inr ps => ⟨ps.map refPc, 0, 0⟩
theorem compile_g (s : List UInt8) : glob_Compile s = some (GC2 s (comp s)) := by
  unfold glob_Compile comp
  by_cases h : 64 < s.length
  · rw [bifTd (by omega), if_pos h]; rfl
  · have := comp_g s (by omega) (s.length + 1) 0 [] (by omega) (by omega) (by simp)
    rw [List.drop_zero] at this
    rw [bifFd (by omega), if_neg h, show (0 : Int) = ((0 : Nat) : Int) from rfl, this]
    cases compS (s.length + 1) 0 s <;> rfl
theorem compile_r (s : List UInt8) : ref32_Compile s = some (RC2 (comp s)) := by
  unfold ref32_Compile comp
  by_cases h : 64 < s.length
  · rw [bifTd (by omega), if_pos h]; rfl
  · have := comp_r s (by omega) (s.length + 1) 0 [] (by omega) (by omega) (by simp)
    rw [List.drop_zero, List.map_nil] at this
    rw [bifFd (by omega), if_neg h, show (0 : Int) = ((0 : Nat) : Int) from rfl, this]
    cases compS (s.length + 1) 0 s <;> rfl
theorem compS_no : ∀ (n p : Nat) (l : List UInt8) (x : Nat × Int), compS n p l = .inl x → x.2 ≠ 0
  | 0, p, l, x, h => by cases h
  | n + 1, p, l, x, h => by
    unfold compS at h
    split at h
    · cases h
    · split at h
      · rename_i y hy
        cases h
        show y.2 ≠ 0
        exact nextS_no hy
      · split at h
        · rename_i y hy
          cases h
          exact compS_no n _ _ _ hy
        · cases h
theorem comp_no {s : List UInt8} {x : Nat × Int} (h : comp s = .inl x) : x.2 ≠ 0 := by
  unfold comp at h
  split at h
  · cases h; simp
  · exact compS_no _ _ _ _ h
theorem comp_len {s : List UInt8} {ps : List glob_piece} (h : comp s = .inr ps) : ps.length ≤ 64 := by
  unfold comp at h
  split at h
  · cases h
  · have := compS_len _ _ _ _ h; omega
end Go.Lg
namespace Go.Lg
attribute [local irreducible] w64 toU64 toU8 shlU shrU shlB shrB spanS
/-! ### the document's Match -/
theorem mt_nil (s : List UInt8) : mt [] s = s.isEmpty := by cases s <;> simp [mt]
theorem gmatch_eq (g : glob_Glob) (s : List UInt8) (hp : g.pieces.length ≤ 1000) (hs : s.length ≤ 1000) : glob_Glob_Match g s = some (mt (g.pieces.map pcOf) s) := by
  unfold glob_Glob_Match
  rw [match_loop g s hp hs, flow_out]
/-! ### the one text -/
def plS (l : List glob_piece) : Option (List UInt8) := if l.all (·.plain) then some (l.map (·.c)) else none
def plO : Option (List UInt8) → List UInt8 × Bool
  | none => ([], false)
  | some l => (l, true)
theorem all_take {l : List glob_piece} {i : Nat} (hi : i < l.length) : (l.take (i + 1)).all (·.plain) = ((l.take i).all (·.plain) && l[i].plain) := by
  rw [List.take_succ_eq_append_getElem hi, List.all_append]; simp
theorem plain_r (l : List glob_piece) (hl : l.length ≤ 1000) : ref32_Plain (l.map refPc) = some (plO (plS l)) := by
  have key : ∀ k i, i + k = l.length → (l.take i).all (·.plain) = true → loop (ref32_Plain_lp1 (l.map refPc)) ((l.take i).map (·.c), (i : Int)) = some (match plS l with | none => .out ([], false) | some t => .go t) := by
    intro k
    induction k with
    | zero =>
      intro i h1 h2
      have e : l.take i = l := List.take_of_length_le (by omega)
      rw [e] at h2 ⊢
      unfold plS
      rw [if_pos h2]
      refine loop_brk ?_
      unfold ref32_Plain_lp1
      dsimp only
      rw [bifFd (by rw [List.length_map]; omega)]
    | succ k ih =>
      intro i h1 h2
      have hi : i < l.length := by omega
      have h3 := all_take hi
      rw [h2, Bool.true_and] at h3
      cases hp : l[i].plain with
      | true =>
        rw [hp] at h3
        have hst : ref32_Plain_lp1 (l.map refPc) ((l.take i).map (·.c), (i : Int)) = some (.next ((l.take (i + 1)).map (·.c), ((i + 1 : Nat) : Int))) := by
          unfold ref32_Plain_lp1
          dsimp only
          rw [bifTd (by rw [List.length_map]; omega), idx_nat (by rw [List.length_map]; exact hi), List.getElem_map, bind_some, bifF (by simp [refPc, hp]), bind_some, app_ok (by simp; omega), bind_some, lett_eq, w64_succ (by omega), List.take_succ_eq_append_getElem hi, List.map_append]
          rfl
        rw [loop_next hst, ih (i + 1) (by omega) h3]
      | false =>
        have : plS l = none := by
          unfold plS
          rw [if_neg]
          intro h
          rw [List.all_eq_true] at h
          have := h l[i] (List.getElem_mem hi)
          rw [hp] at this; cases this
        rw [this]
        refine loop_out ?_
        unfold ref32_Plain_lp1
        dsimp only
        rw [bifTd (by rw [List.length_map]; omega), idx_nat (by rw [List.length_map]; exact hi), List.getElem_map, bind_some, bifT (by simp [refPc, hp])]
        rfl
  unfold ref32_Plain
  have := key l.length 0 (by omega) (by simp)
  rw [List.take_zero, List.map_nil] at this
  rw [show (0 : Int) = ((0 : Nat) : Int) from rfl, this]
  cases plS l <;> rfl
theorem plain_g (g : glob_Glob) (hl : g.pieces.length ≤ 1000) : glob_Glob_Plain g = some (plO (plS g.pieces)) := by
  have key : ∀ k i u, i + k = g.pieces.length → (g.pieces.take i).all (·.plain) = true → ∃ u', loop (glob_Glob_Plain_lp1 g) (u, (g.pieces.take i).map (·.c), (i : Int)) = some (match plS g.pieces with | none => .out ([], false) | some t => .go (u', t)) := by
    intro k
    induction k with
    | zero =>
      intro i u h1 h2
      have e : g.pieces.take i = g.pieces := List.take_of_length_le (by omega)
      rw [e] at h2 ⊢
      unfold plS
      rw [if_pos h2]
      refine ⟨u, loop_brk ?_⟩
      unfold glob_Glob_Plain_lp1
      dsimp only
      rw [bifFd (by omega)]
    | succ k ih =>
      intro i u h1 h2
      have hi : i < g.pieces.length := by omega
      have h3 := all_take hi
      rw [h2, Bool.true_and] at h3
      cases hp : g.pieces[i].plain with
      | true =>
        rw [hp] at h3
        have hst : glob_Glob_Plain_lp1 g (u, (g.pieces.take i).map (·.c), (i : Int)) = some (.next (true, (g.pieces.take (i + 1)).map (·.c), ((i + 1 : Nat) : Int))) := by
          unfold glob_Glob_Plain_lp1
          dsimp only
          rw [bifTd (by omega), idx_nat hi, bind_some, bifF (by simp [hp])]
          have eu : (bif (!u) then some true else bif (!u) then none else some u : Option Bool) = some true := by cases u <;> rfl
          rw [eu, bind_some, app_ok (by simp; omega), bind_some, bind_some]
          dsimp only
          rw [w64_succ (by omega), List.take_succ_eq_append_getElem hi, List.map_append]
          rfl
        obtain ⟨u', h4⟩ := ih (i + 1) true (by omega) h3
        exact ⟨u', by rw [loop_next hst, h4]⟩
      | false =>
        have : plS g.pieces = none := by
          unfold plS
          rw [if_neg]
          intro h
          rw [List.all_eq_true] at h
          have := h g.pieces[i] (List.getElem_mem hi)
          rw [hp] at this; cases this
        rw [this]
        refine ⟨u, loop_out ?_⟩
        unfold glob_Glob_Plain_lp1
        dsimp only
        rw [bifTd (by omega), idx_nat hi, bind_some, bifT (by simp [hp])]
        rfl
  unfold glob_Glob_Plain
  obtain ⟨u', h⟩ := key g.pieces.length 0 false (by omega) (by simp)
  rw [List.take_zero, List.map_nil] at h
  rw [show (0 : Int) = ((0 : Nat) : Int) from rfl, h]
  cases plS g.pieces <;> rfl
/-! ### what the document tells -/
theorem comp_w1 : comp [97, 42, 98, 63] = .inr [byteP 97, ⟨1, nilS, false, 0⟩, byteP 98, ⟨0, fullS, false, 0⟩] := rfl
theorem comp_w2 : comp [91, 98, 45, 97, 93] = .inl (1, 3) := rfl
theorem inS_byte (c d : UInt8) : inS (addS nilS c) d = decide (d = c) := by rw [inS_add, inS_nil, Bool.or_false]
theorem quote_w : glob_Quote [97, 42] = some [97, 92, 42] := by
  unfold glob_Quote
  have s0 : glob_Quote_lp1 [97, 42] ([], ((0 : Nat) : Int)) = some (.next ([97], ((1 : Nat) : Int))) := by
    unfold glob_Quote_lp1
    dsimp only
    rw [bifTd (by simp), idx_nat (by simp), bind_some, w64_succ (by omega)]
    rfl
  have s1 : glob_Quote_lp1 [97, 42] ([97], ((1 : Nat) : Int)) = some (.next ([97, 92, 42], ((2 : Nat) : Int))) := by
    unfold glob_Quote_lp1
    dsimp only
    rw [bifTd (by simp), idx_nat (by simp), bind_some, w64_succ (by omega)]
    rfl
  have s2 : glob_Quote_lp1 [97, 42] ([97, 92, 42], ((2 : Nat) : Int)) = some (.brk [97, 92, 42]) := by
    unfold glob_Quote_lp1
    dsimp only
    rw [bifFd (by simp)]
  rw [show (0 : Int) = ((0 : Nat) : Int) from rfl, loop_next s0, loop_next s1, loop_brk s2]; rfl
theorem awake32 : law32_awake = some true := by
  unfold law32_awake
  have m1 : mt ([byteP 97, ⟨1, nilS, false, 0⟩, byteP 98, ⟨0, fullS, false, 0⟩].map pcOf) [97, 120, 120, 98, 99] = true := by
    simp [pcOf, byteP, mt_sc, mt_oc, mt_sn, mt_on, mt_nil, inS_byte, inS_full]
  have m2 : mt ([byteP 97, ⟨1, nilS, false, 0⟩, byteP 98, ⟨0, fullS, false, 0⟩].map pcOf) [97, 98] = false := by
    simp [pcOf, byteP, mt_sc, mt_oc, mt_sn, mt_on, mt_nil, inS_byte, inS_full]
  rw [compile_g, comp_w1, bind_some, compile_g, comp_w2]
  dsimp only [GC2]
  rw [bind_some]
  dsimp only
  rw [bind_some, bifT (by simp), gmatch_eq _ _ (by decide) (by decide), bind_some, m1, bind_some, cond_true, gmatch_eq _ _ (by decide) (by decide), bind_some, m2, bind_some, bifT (by decide), quote_w, bind_some, bind_some]
  rfl
/-! ### the laws -/
theorem globCompiles (a : List UInt8) : law32_GlobCompiles a = some true := by
  unfold law32_GlobCompiles
  rw [awake32, bind_some, bifF (c := !true) rfl]
  by_cases h : 200 < a.length
  · rw [bifTd (by omega)]
  · rw [bifFd (by omega), compile_g, bind_some, compile_r]
    cases hc : comp a with
    | inl x =>
      have hz := comp_no hc
      dsimp only [GC2, RC2]
      rw [bind_some, bifF (by simp [hz]), bifT (by rfl), lett_eq]
      simp
    | inr ps =>
      have hl := comp_len hc
      dsimp only [GC2, RC2]
      rw [bind_some, bifF (by simp), bifF (by rfl), bind_some, plain_g _ (by dsimp only; omega), bind_some]
      dsimp only
      rw [plain_r _ (by omega), bind_some]
      rw [bifT (by simp)]
      unfold glob_Glob_Text
      rw [bind_some, bind_some, lett_eq]
      simp
end Go.Lg
