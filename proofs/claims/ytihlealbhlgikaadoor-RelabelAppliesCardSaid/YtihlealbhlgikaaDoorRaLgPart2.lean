/- Lemmas about the given model and about plain data, which the rows stand on: no statement of the program by itself. -/
import Derived.Test.YtihlealbhlgikaaDoorRaLgPart1
import Derived.Test.YtihlealbhlgikaaDoorRaLgPart0
set_option linter.unusedVariables false
namespace Go.Lg
attribute [local irreducible] w64 toU64 toU8 shlU shrU shlB shrB spanS
theorem classS_no {r : List UInt8} {x : Nat × Int} (h : classS r = .inl x) : x.2 = 2 ∨ x.2 = 3 := by
  unfold classS at h
  split at h
  · cases h; exact .inl rfl
  · cases h; exact .inr rfl
  · rename_i k he
    obtain ⟨y, hy⟩ := clsS_total (k + 2) nilS _ _ he (by omega)
    rw [hy] at h
    cases y with
    | inl o => cases h; exact .inr rfl
    | inr S => cases h
theorem classS_yes {r : List UInt8} {P : glob_piece} {k : Nat} (h : classS r = .inr (P, k)) : 1 ≤ k ∧ k ≤ r.length + 1 ∧ ∀ q, classS (r ++ q) = .inr (P, k) := by
  have hb : ∀ q, endL (r.drop (bang r)) ≠ none → bang (r ++ q) = bang r ∧ (r ++ q).drop (bang r) = r.drop (bang r) ++ q := by
    intro q hn
    cases r with
    | nil => exact absurd (by rw [List.drop_nil]; rfl) hn
    | cons c r =>
      refine ⟨rfl, List.drop_append_of_le_length ?_⟩
      have := bang_le (c :: r)
      rw [List.length_cons]; omega
  unfold classS at h
  split at h
  · cases h
  · cases h
  · rename_i k' he
    have hl := endL_lt he
    rw [List.length_drop] at hl
    obtain ⟨y, hy⟩ := clsS_total (k' + 2) nilS _ _ he (by omega)
    rw [hy] at h
    cases y with
    | inl o => cases h
    | inr S =>
      cases h
      refine ⟨by omega, by omega, fun q => ?_⟩
      obtain ⟨b1, b2⟩ := hb q (by rw [he]; simp)
      unfold classS
      rw [b1, b2, endL_app q he]
      dsimp only
      rw [clsS_app q _ _ _ _ hy]
def byteP (c : UInt8) : glob_piece := ⟨0, addSt nilS c, true, c⟩
/-- the piece ahead and how many bytes it takes; or how far off the fault is, and which -/
def nextS : List UInt8 → (Nat × Int) ⊕ (glob_piece × Nat)
  | [] => .inl (0, 1)
  | c :: r => if c = 42 then .inr (⟨1, nilS, false, 0⟩, 1) else if c = 63 then .inr (⟨0, fullS, false, 0⟩, 1) else if c = 91 then classS r
    else if c = 92 then (match r.head? with
      | none => .inl (0, 2)
      | some d => .inr (byteP d, 2))
    else .inr (byteP c, 1)
theorem nextS_c (c : UInt8) (r : List UInt8) : nextS (c :: r) = if c = 42 then .inr (⟨1, nilS, false, 0⟩, 1) else if c = 63 then .inr (⟨0, fullS, false, 0⟩, 1) else if c = 91 then classS r
    else if c = 92 then (match r.head? with
      | none => .inl (0, 2)
      | some d => .inr (byteP d, 2))
    else .inr (byteP c, 1) := rfl
theorem nextS_no {l : List UInt8} {x : Nat × Int} (h : nextS l = .inl x) : x.2 ≠ 0 := by
  cases l with
  | nil => cases h; simp
  | cons c r =>
    rw [nextS_c] at h
    split at h
    · cases h
    · split at h
      · cases h
      · split at h
        · have := classS_no h; omega
        · split at h
          · split at h
            · cases h; simp
            · cases h
          · cases h
theorem nextS_yes {l : List UInt8} {P : glob_piece} {k : Nat} (h : nextS l = .inr (P, k)) : 1 ≤ k ∧ k ≤ l.length ∧ ∀ q, nextS (l ++ q) = .inr (P, k) := by
  cases l with
  | nil => cases h
  | cons c r =>
    rw [List.length_cons]
    rw [nextS_c] at h
    split at h
    · rename_i e; cases h; exact ⟨by omega, by omega, fun q => by rw [List.cons_append]; rw [nextS_c, if_pos e]⟩
    · rename_i e1
      split at h
      · rename_i e; cases h; exact ⟨by omega, by omega, fun q => by rw [List.cons_append]; rw [nextS_c, if_neg e1, if_pos e]⟩
      · rename_i e2
        split at h
        · rename_i e
          obtain ⟨h1, h2, h3⟩ := classS_yes h
          exact ⟨h1, h2, fun q => by rw [List.cons_append]; rw [nextS_c, if_neg e1, if_neg e2, if_pos e]; exact h3 q⟩
        · rename_i e3
          split at h
          · rename_i e
            cases r with
            | nil => cases h
            | cons d r =>
              cases h
              exact ⟨by omega, by simp, fun q => by rw [List.cons_append]; rw [nextS_c, if_neg e1, if_neg e2, if_neg e3, if_pos e]; rfl⟩
          · rename_i e
            cases h
            exact ⟨by omega, by omega, fun q => by rw [List.cons_append]; rw [nextS_c, if_neg e1, if_neg e2, if_neg e3, if_neg e]⟩
theorem byteOf_eq (c : UInt8) : glob_byteOf c = some (byteP c) := by
  unfold glob_byteOf
  exact add_step nilS c _
theorem next_g (s : List UInt8) (hs : s.length ≤ 1000) (p : Nat) (hp : p < s.length) : GNx (glob_next s (p : Int)) p (nextS (s.drop p)) := by
  obtain ⟨c, r, h1, h2, h3⟩ := drop_at hp
  unfold glob_next
  rw [ix h3, bind_some, lett_eq, h1]
  rw [nextS_c]
  by_cases e1 : c = 42
  · rw [bifTd e1, if_pos e1]; exact rfl
  · rw [bifFd e1, if_neg e1, lett_eq]
    by_cases e2 : c = 63
    · rw [bifTd e2, if_pos e2, lett_eq, show (((0 : UInt8).toNat : Nat) : Int) = ((0 : Nat) : Int) from rfl]
      have := span_n 256 0 nilS rfl
      have h : loop glob_next_lp1 (0, 0, 0, 0, ((0 : Nat) : Int)) = _ := this
      rw [h, flow_go, bind_some]
      exact rfl
    · rw [bifFd e2, if_neg e2, lett_eq]
      by_cases e3 : c = 91
      · rw [bifTd e3, if_pos e3]
        have := class_g s hs p hp
        rw [h2] at this
        cases hc : classS r with
        | inl x =>
          rw [hc] at this
          obtain ⟨P, n, hx⟩ := this
          exact ⟨P, n, by rw [hx, bind_some]⟩
        | inr x =>
          rw [hc] at this
          have hx : glob_class s (p : Int) = some (x.1, (x.2 : Int), ⟨0, 0⟩) := this
          rw [hx, bind_some]; exact rfl
      · rw [bifFd e3, if_neg e3, lett_eq]
        by_cases e4 : c = 92
        · rw [bifTd e4, if_pos e4, w64_succ (by omega)]
          by_cases e5 : p + 1 = s.length
          · have : r.head? = none := by rw [← h2, List.drop_eq_nil_of_le (by omega)]; rfl
            rw [bifTd (by omega), this]
            exact ⟨_, _, rfl⟩
          · obtain ⟨d, r', g1, g2, g3⟩ := drop_at (s := s) (p := p + 1) (by omega)
            have : r.head? = some d := by rw [← h2, g3]
            rw [bifFd (by omega), ix g3, bind_some, byteOf_eq, bind_some, this]
            exact rfl
        · rw [bifFd e4, if_neg e4, bind_some, byteOf_eq, bind_some]
          exact rfl
theorem refPc_byte (c : UInt8) : refPc (byteP c) = ⟨false, true, boolsS (addSt nilS c), c⟩ := rfl
theorem plain_eq (c : UInt8) : ref32_plain c = some (refPc (byteP c)) := by
  have := UInt8.toNat_lt c
  unfold ref32_plain
  rw [nothing_eq, bind_some, bools_nil, idx_nat (by rw [bools_len]; omega), bind_some, bools_set _ (by omega), bind_some, toU8_mod, refPc_byte]
/-! ### piece by piece -/
def compS : Nat → Nat → List UInt8 → (Nat × Int) ⊕ List glob_piece
  | 0, _, _ => .inr []
  | n + 1, p, l => if l = [] then .inr [] else match nextS l with
    | .inl x => .inl (p + x.1, x.2)
    | .inr x => match compS n (p + x.2) (l.drop x.2) with
      | .inl y => .inl y
      | .inr ps => .inr (x.1 :: ps)
theorem compS_len : ∀ (n p : Nat) (l : List UInt8) (ps : List glob_piece), compS n p l = .inr ps → ps.length ≤ l.length
  | 0, p, l, ps, h => by cases h; exact Nat.zero_le _
  | n + 1, p, l, ps, h => by
    unfold compS at h
    split at h
    · cases h; exact Nat.zero_le _
    · split at h
      · cases h
      · rename_i x hx
        obtain ⟨P, k⟩ := x
        obtain ⟨h1, h2, _⟩ := nextS_yes hx
        split at h
        · cases h
        · rename_i qs hq
          cases h
          have := compS_len n _ _ _ hq
          rw [List.length_drop] at this
          rw [List.length_cons]; dsimp only at this; omega
def GC (acc : List glob_piece) : (Nat × Int) ⊕ List glob_piece → Flow (List glob_piece) (Option glob_Glob × Int × Int)
  | .inl x => .out (none, (x.1 : Int), x.2)
  | .inr ps => .go (acc ++ ps)
theorem comp_g (s : List UInt8) (hs : s.length ≤ 1000) : ∀ (n p : Nat) (acc : List glob_piece), p ≤ s.length → s.length < p + n → acc.length ≤ p → loop (glob_Compile_lp1 s) (acc, (p : Int)) = some (GC acc (compS n p (s.drop p))) := by
  intro n
  induction n with
  | zero => intro p acc h1 h2; omega
  | succ n ih =>
    intro p acc h1 h2 h3
    unfold compS
    by_cases q : p < s.length
    · have hne : s.drop p ≠ [] := fun e => by have := congrArg List.length e; rw [List.length_drop, List.length_nil] at this; omega
      have hx := next_g s hs p q
      rw [if_neg hne]
      cases hn : nextS (s.drop p) with
      | inl x =>
        rw [hn] at hx
        obtain ⟨P, m, hx⟩ := hx
        refine loop_out ?_
        unfold glob_Compile_lp1
        dsimp only
        rw [bifTd (by omega), hx, bind_some]
        dsimp only
        have hz := nextS_no hn
        rw [bifT (by rw [decide_eq_false hz, Bool.false_and, Bool.and_false]; rfl)]; rfl
      | inr x =>
        obtain ⟨P, k⟩ := x
        rw [hn] at hx
        obtain ⟨k1, k2, _⟩ := nextS_yes hn
        rw [List.length_drop] at k2
        have hx' : glob_next s (p : Int) = some (P, (k : Int), ⟨0, 0⟩) := hx
        have hst : glob_Compile_lp1 s (acc, (p : Int)) = some (.next (acc ++ [P], ((p + k : Nat) : Int))) := by
          unfold glob_Compile_lp1
          dsimp only
          rw [bifTd (by omega), hx', bind_some]
          dsimp only
          rw [bifF (by simp), app_ok (by simp; omega), bind_some, lett_eq, w64_addN (by omega)]
        rw [loop_next hst, ih (p + k) _ (by omega) (by omega) (by simp; omega)]
        dsimp only
        rw [List.drop_drop]
        cases compS n (p + k) (s.drop (p + k)) with
        | inl y => rfl
        | inr ps => simp [GC]
    · rw [if_pos (List.drop_eq_nil_of_le (by omega))]
      refine loop_brk ?_
      unfold glob_Compile_lp1
      dsimp only
      rw [bifFd (by omega)]; simp
def RC (acc : List glob_piece) : (Nat × Int) ⊕ List glob_piece → Flow (List ref32_Piece) ref32_Got
  | .inl x => .out ⟨[], (x.1 : Int), x.2⟩
  | .inr ps => .go ((acc ++ ps).map refPc)
theorem comp_r (s : List UInt8) (hs : s.length ≤ 1000) : ∀ (n p : Nat) (acc : List glob_piece), p ≤ s.length → s.length < p + n → acc.length ≤ p → loop (ref32_Compile_lp1 s) (acc.map refPc, (p : Int)) = some (RC acc (compS n p (s.drop p))) := by
  intro n
  induction n with
  | zero => intro p acc h1 h2; omega
  | succ n ih =>
    intro p acc h1 h2 h3
    unfold compS
    by_cases q : p < s.length
    · have hne : s.drop p ≠ [] := fun e => by have := congrArg List.length e; rw [List.length_drop, List.length_nil] at this; omega
      rw [if_neg hne]
      obtain ⟨c, r, g1, g2, g3⟩ := drop_at q
      have fin : ∀ (P : glob_piece) (k : Nat), nextS (s.drop p) = .inr (P, k) → ref32_Compile_lp1 s (acc.map refPc, (p : Int)) = some (.next (acc.map refPc ++ [refPc P], ((p + k : Nat) : Int))) →
          loop (ref32_Compile_lp1 s) (acc.map refPc, (p : Int)) = some (RC acc (match nextS (s.drop p) with
            | .inl x => .inl (p + x.1, x.2)
            | .inr x => match compS n (p + x.2) ((s.drop p).drop x.2) with
              | .inl y => .inl y
              | .inr ps => .inr (x.1 :: ps))) := by
        intro P k hk hst
        obtain ⟨k1, k2, _⟩ := nextS_yes hk
        rw [List.length_drop] at k2
        have e : acc.map refPc ++ [refPc P] = (acc ++ [P]).map refPc := by rw [List.map_append]; rfl
        rw [e] at hst
        rw [loop_next hst, ih (p + k) _ (by omega) (by omega) (by simp; omega), hk]
        dsimp only
        rw [List.drop_drop]
        cases compS n (p + k) (s.drop (p + k)) with
        | inl y => rfl
        | inr ps => simp [RC]
      by_cases e1 : c = 42
      · refine fin ⟨1, nilS, false, 0⟩ 1 (by rw [g1]; rw [nextS_c, if_pos e1]) ?_
        unfold ref32_Compile_lp1
        dsimp only
        rw [bifTd (by omega), ix g3, bind_some, bifFd (by rw [e1]; decide), bifFd (by rw [e1]; decide), bifTd e1, app_ok (by simp; omega), bind_some, bind_some, lett_eq, w64_succ (by omega), flow_go]; rfl
      · by_cases e2 : c = 63
        · refine fin ⟨0, fullS, false, 0⟩ 1 (by rw [g1]; rw [nextS_c, if_neg e1, if_pos e2]) ?_
          unfold ref32_Compile_lp1
          dsimp only
          rw [bifTd (by omega), ix g3, bind_some, bifFd (by rw [e2]; decide), bifFd (by rw [e2]; decide), bifFd e1, bifTd e2, nothing_eq, bind_some, bools_full, app_ok (by simp; omega), bind_some, bind_some, lett_eq, w64_succ (by omega), flow_go]; rfl
        · by_cases e3 : c = 91
          · have hcl : nextS (s.drop p) = classS r := by rw [g1]; rw [nextS_c, if_neg e1, if_neg e2, if_pos e3]
            have hr := class_r s hs p q
            rw [g2] at hr
            cases hc : classS r with
            | inl x =>
              rw [hc] at hr hcl
              rw [hcl]
              refine loop_out ?_
              have hz := classS_no hc
              unfold ref32_Compile_lp1
              dsimp only
              rw [bifTd (by omega), ix g3, bind_some, bifTd e3, hr, bind_some, bifT (by
                rw [Bool.not_eq_true', decide_eq_false_iff_not]; show ¬ x.2 = 0; omega)]
              rfl
            | inr x =>
              obtain ⟨P, k⟩ := x
              rw [hc] at hr hcl
              refine fin P k hcl ?_
              unfold ref32_Compile_lp1
              dsimp only
              rw [bifTd (by omega), ix g3, bind_some, bifTd e3, hr, bind_some, bifF (by simp [RNx])]
              have e : idx (RNx p (.inr (P, k))).L 0 = some (refPc P) := rfl
              rw [e, bind_some, app_ok (by simp; omega), bind_some, flow_go]; rfl
          · by_cases e4 : c = 92
            · by_cases e5 : p + 1 = s.length
              · have hh : r.head? = none := by rw [← g2, List.drop_eq_nil_of_le (by omega)]; rfl
                have hcl : nextS (s.drop p) = .inl (0, 2) := by rw [g1]; rw [nextS_c, if_neg e1, if_neg e2, if_neg e3, if_pos e4, hh]
                rw [hcl]
                refine loop_out ?_
                unfold ref32_Compile_lp1
                dsimp only
                rw [bifTd (by omega), ix g3, bind_some, bifFd e3, bifTd e4, w64_succ (by omega), bifTd (by omega)]
                rfl
              · obtain ⟨d, r', f1, f2, f3⟩ := drop_at (s := s) (p := p + 1) (by omega)
                have hh : r.head? = some d := by rw [← g2, f3]
                refine fin (byteP d) 2 (by rw [g1]; rw [nextS_c, if_neg e1, if_neg e2, if_neg e3, if_pos e4, hh]) ?_
                unfold ref32_Compile_lp1
                dsimp only
                rw [bifTd (by omega), ix g3, bind_some, bifFd e3, bifTd e4, w64_succ (by omega), bifFd (by omega), ix f3, bind_some, plain_eq, bind_some, app_ok (by simp; omega), bind_some, lett_eq, flow_go, w64_id (by omega) (by omega)]; rfl
            · refine fin (byteP c) 1 (by rw [g1]; rw [nextS_c, if_neg e1, if_neg e2, if_neg e3, if_neg e4]) ?_
              unfold ref32_Compile_lp1
              dsimp only
              rw [bifTd (by omega), ix g3, bind_some, bifFd e3, bifFd e4, bifFd e1, bifFd e2, plain_eq, bind_some, app_ok (by simp; omega), bind_some, bind_some, lett_eq, w64_succ (by omega), flow_go]
    · rw [if_pos (List.drop_eq_nil_of_le (by omega))]
      refine loop_brk ?_
      unfold ref32_Compile_lp1
      dsimp only
      rw [bifFd (by omega)]; simp
def comp (s : List UInt8) : (Nat × Int) ⊕ List glob_piece := if 64 < s.length then .inl (64, 4) else compS (s.length + 1) 0 s
def GC2 (s : List UInt8) : (Nat × Int) ⊕ List glob_piece → Option glob_Glob × Int × Int
  | .inl x => (none, (x.1 : Int), x.2)
  | .inr ps => (some ⟨s, ps⟩, 0, 0)
def RC2 : (Nat × Int) ⊕ List glob_piece → ref32_Got
  | .inl x => ⟨[], (x.1 : Int), x.2⟩
  | .inr ps => ⟨ps.map refPc, 0, 0⟩
theorem compile_g (s : List UInt8) : glob_Compile s = some (GC2 s (comp s)) := by
  unfold glob_Compile comp
  by_cases h : 64 < s.length
  · rw [bifTd (by omega), if_pos h]; rfl
  · have := comp_g s (by omega) (s.length + 1) 0 [] (by omega) (by omega) (by simp)
    rw [List.drop_zero] at this
    rw [bifFd (by omega), if_neg h, show (0 : Int) = ((0 : Nat) : Int) from rfl, this]
    cases compS (s.length + 1) 0 s <;> rfl
theorem compile_r (s : List UInt8) : ref32_Compile s = some (RC2 (comp s)) := by
  unfold ref32_Compile comp
  by_cases h : 64 < s.length
  · rw [bifTd (by omega), if_pos h]; rfl
  · have := comp_r s (by omega) (s.length + 1) 0 [] (by omega) (by omega) (by simp)
    rw [List.drop_zero, List.map_nil] at this
    rw [bifFd (by omega), if_neg h, show (0 : Int) = ((0 : Nat) : Int) from rfl, this]
    cases compS (s.length + 1) 0 s <;> rfl
theorem compS_no : ∀ (n p : Nat) (l : List UInt8) (x : Nat × Int), compS n p l = .inl x → x.2 ≠ 0
  | 0, p, l, x, h => by cases h
  | n + 1, p, l, x, h => by
    unfold compS at h
    split at h
    · cases h
    · split at h
      · rename_i y hy
        cases h
        show y.2 ≠ 0
        exact nextS_no hy
      · split at h
        · rename_i y hy
          cases h
          exact compS_no n _ _ _ hy
        · cases h
theorem comp_no {s : List UInt8} {x : Nat × Int} (h : comp s = .inl x) : x.2 ≠ 0 := by
  unfold comp at h
  split at h
  · cases h; simp
  · exact compS_no _ _ _ _ h
theorem comp_len {s : List UInt8} {ps : List glob_piece} (h : comp s = .inr ps) : ps.length ≤ 64 := by
  unfold comp at h
  split at h
  · cases h
  · have := compS_len _ _ _ _ h; omega
end Go.Lg
namespace Go.Lg
attribute [local irreducible] w64 toU64 toU8 shlU shrU shlB shrB spanS
/-! ### the document's Match -/
theorem mt_rest (s : List UInt8) : mt [.some] s = true := by
  induction s with
  | nil => rw [mt_sn]; simp [mt]
  | cons c s ih => rw [mt_sc, ih, Bool.or_true]
theorem mt_nil (s : List UInt8) : mt [] s = s.isEmpty := by cases s <;> simp [mt]
theorem mt_one1 (f : UInt8 → Bool) (s : List UInt8) : mt [.one f] s = true ↔ ∃ c, s = [c] ∧ f c = true := by
  cases s with
  | nil => rw [mt_on]; simp
  | cons c s =>
    rw [mt_oc, mt_nil, Bool.and_eq_true]
    constructor
    · rintro ⟨h1, h2⟩
      rw [List.isEmpty_iff] at h2
      exact ⟨c, by rw [h2], h1⟩
    · rintro ⟨d, h1, h2⟩
      cases h1
      exact ⟨h2, rfl⟩
theorem mt_snoc_some (ps : List Pc) (s : List UInt8) {k : Nat} (hk : k ≤ s.length) : mt (ps ++ [.some]) (s.take k) = (mt ps (s.take k) || (decide (0 < k) && mt (ps ++ [.some]) (s.take (k - 1)))) := by
  rw [Bool.eq_iff_iff, Bool.or_eq_true, Bool.and_eq_true, decide_eq_true_eq, mt_app, mt_app]
  simp only [List.length_take, Nat.min_eq_left hk, mt_rest, and_true, List.take_take]
  constructor
  · rintro ⟨j, h1, h2⟩
    rw [Nat.min_eq_left h1] at h2
    by_cases e : j = k
    · subst e; exact .inl h2
    · exact .inr ⟨by omega, j, by omega, by rw [Nat.min_eq_left (by omega)]; exact h2⟩
  · rintro (h | ⟨h0, j, h1, h2⟩)
    · exact ⟨k, Nat.le_refl _, by rw [Nat.min_eq_left (Nat.le_refl _)]; exact h⟩
    · exact ⟨j, by omega, by rw [Nat.min_eq_left (by omega)] at h2 ⊢; exact h2⟩
theorem mt_snoc_zero (ps : List Pc) (f : UInt8 → Bool) (s : List UInt8) : mt (ps ++ [.one f]) (s.take 0) = false := by
  rw [Bool.eq_false_iff]
  intro h
  obtain ⟨j, h1, _, h3⟩ := (mt_app _ _ _).1 h
  rw [List.take_zero, List.drop_nil, mt_on] at h3
  cases h3
theorem mt_snoc_one (ps : List Pc) (f : UInt8 → Bool) (s : List UInt8) {k : Nat} (hk : k < s.length) : mt (ps ++ [.one f]) (s.take (k + 1)) = (mt ps (s.take k) && f s[k]) := by
  rw [Bool.eq_iff_iff, Bool.and_eq_true, mt_app]
  have hl : (s.take (k + 1)).length = k + 1 := by rw [List.length_take]; omega
  constructor
  · rintro ⟨j, h1, h2, h3⟩
    obtain ⟨c, h4, h5⟩ := (mt_one1 _ _).1 h3
    have h6 := congrArg List.length h4
    rw [List.length_drop, hl, List.length_singleton] at h6
    obtain rfl : j = k := by omega
    rw [List.take_take, Nat.min_eq_left (by omega)] at h2
    refine ⟨h2, ?_⟩
    have : (s.take (j + 1)).drop j = [s[j]] := by
      rw [List.take_succ_eq_append_getElem hk, List.drop_append_of_le_length (by rw [List.length_take]; omega), List.drop_eq_nil_of_le (by rw [List.length_take]; omega)]; rfl
    rw [this] at h4
    cases h4
    exact h5
  · rintro ⟨h1, h2⟩
    refine ⟨k, by omega, by rw [List.take_take, Nat.min_eq_left (by omega)]; exact h1, (mt_one1 _ _).2 ⟨s[k], ?_, h2⟩⟩
    rw [List.take_succ_eq_append_getElem hk, List.drop_append_of_le_length (by rw [List.length_take]; omega), List.drop_eq_nil_of_le (by rw [List.length_take]; omega)]; rfl
/-- which beginnings match -/
def canR (ps : List Pc) (s : List UInt8) : List Bool := (List.range (s.length + 1)).map fun k => mt ps (s.take k)
def midR (ps : List Pc) (s : List UInt8) (k : Nat) : List Bool := (List.range k).map (fun k => mt ps (s.take k)) ++ List.replicate (s.length + 1 - k) false
theorem canR_at (ps : List Pc) (s : List UInt8) {k : Nat} (h : k ≤ s.length) : idx (canR ps s) (k : Int) = some (mt ps (s.take k)) := by
  unfold canR
  rw [idx_nat (by simp; omega)]
  simp
theorem midR_at (ps : List Pc) (s : List UInt8) {k j : Nat} (h : j < k) : idx (midR ps s k) (j : Int) = some (mt ps (s.take j)) := by
  unfold midR
  rw [idx_nat (by simp; omega), List.getElem_append_left (by simp; omega)]
  simp
theorem midR_set (ps : List Pc) (s : List UInt8) {k : Nat} (h : k ≤ s.length) : (∃ y, idx (midR ps s k) (k : Int) = some y) ∧ setI (midR ps s k) (k : Int) (mt ps (s.take k)) = some (midR ps s (k + 1)) := by
  refine ⟨⟨_, idx_nat (by simp [midR]; omega)⟩, ?_⟩
  rw [setI_nat (by simp [midR]; omega)]
  congr 1
  unfold midR
  rw [List.set_append_right _ _ (by simp), List.length_map, List.length_range, Nat.sub_self, show s.length + 1 - k = (s.length + 1 - (k + 1)) + 1 by omega, List.replicate_succ, List.set_cons_zero, List.range_succ, List.map_append, List.append_assoc]
  rfl
theorem rmatch_in (gs : List glob_piece) (s : List UInt8) (hs : s.length ≤ 1000) (P : List Pc) (i : Nat) (hi : i < gs.length) :
    loop (ref32_Match_lp2 (gs.map refPc) s (canR P s) (i : Int)) (midR (P ++ [pcOf gs[i]]) s 0, 0) = some (.go (canR (P ++ [pcOf gs[i]]) s)) := by
  have h := loop_for (f := ref32_Match_lp2 (gs.map refPc) s (canR P s) (i : Int)) (fun k => (midR (P ++ [pcOf gs[i]]) s k, (k : Int))) (s.length + 1) (b := canR (P ++ [pcOf gs[i]]) s) (fun k hk => by
    obtain ⟨⟨y, hy⟩, hset⟩ := midR_set (P ++ [pcOf gs[i]]) s (k := k) (by omega)
    unfold ref32_Match_lp2
    dsimp only
    rw [bifTd (by omega), idx_nat (by rw [List.length_map]; exact hi), List.getElem_map, bind_some]
    by_cases e : gs[i].kind = 1
    · have ep : pcOf gs[i] = .some := by unfold pcOf; rw [if_pos e]
      rw [ep] at hy hset ⊢
      rw [bifT (by simp [refPc, e]), canR_at _ _ (by omega), bind_some]
      have key : mt (P ++ [.some]) (s.take k) = (mt P (s.take k) || (decide (0 < k) && mt (P ++ [.some]) (s.take (k - 1)))) := mt_snoc_some P s (by omega)
      by_cases h1 : mt P (s.take k) = true
      · rw [bifT h1, bind_some, hy, bind_some]
        rw [h1, Bool.true_or] at key
        rw [key] at hset
        rw [hset, bind_some, bind_some, lett_eq, w64_succ (by omega)]
      · rw [Bool.not_eq_true] at h1
        rw [h1, Bool.false_or] at key
        rw [bifF h1]
        by_cases h2 : 0 < k
        · rw [bifTd (by omega), show (k : Int) - 1 = ((k - 1 : Nat) : Int) by omega, w64_nat (by omega), midR_at _ _ (by omega), bind_some, bind_some, bind_some, hy, bind_some]
          rw [decide_eq_true h2, Bool.true_and] at key
          rw [← key, hset, bind_some, bind_some, lett_eq, w64_succ (by omega)]
        · rw [bifFd (by omega), bind_some, bind_some, hy, bind_some]
          rw [decide_eq_false h2, Bool.false_and] at key
          rw [← key, hset, bind_some, bind_some, lett_eq, w64_succ (by omega)]
    · have ep : pcOf gs[i] = .one (inS gs[i].set) := by unfold pcOf; rw [if_neg e]
      rw [ep] at hy hset ⊢
      rw [bifF (by simp [refPc, e])]
      cases k with
      | zero =>
        rw [mt_snoc_zero] at hset
        rw [bifFd (by omega), bind_some, cond_false, bind_some, hy, bind_some, hset, bind_some, bind_some, lett_eq, w64_succ (by omega)]
      | succ k =>
        have key := mt_snoc_one P (inS gs[i].set) s (k := k) (by omega)
        rw [bifTd (by omega), show ((k + 1 : Nat) : Int) - 1 = ((k : Nat) : Int) by omega, w64_nat (by omega), canR_at _ _ (by omega), bind_some, bind_some]
        by_cases h1 : mt P (s.take k) = true
        · rw [bifT h1, bind_some, idx_nat (by omega), bind_some]
          have eI : (refPc gs[i]).In = boolsS gs[i].set := by unfold refPc; dsimp only; rw [if_neg e]
          rw [eI, bools_at, bind_some, bind_some, hy, bind_some]
          rw [h1, Bool.true_and] at key
          rw [← key, hset, bind_some, bind_some, lett_eq, w64_succ (by omega)]
        · rw [Bool.not_eq_true] at h1
          rw [h1, Bool.false_and] at key
          rw [bifF h1, bind_some, hy, bind_some, ← key, hset, bind_some, bind_some, lett_eq, w64_succ (by omega)]) (by
    have e : midR (P ++ [pcOf gs[i]]) s (s.length + 1) = canR (P ++ [pcOf gs[i]]) s := by unfold midR canR; rw [Nat.sub_self, List.replicate_zero, List.append_nil]
    unfold ref32_Match_lp2
    dsimp only
    rw [bifFd (by omega), e])
  exact h
theorem rmatch_eq (gs : List glob_piece) (s : List UInt8) (hg : gs.length ≤ 1000) (hs : s.length ≤ 1000) : ref32_Match (gs.map refPc) s = some (mt (gs.map pcOf) s) := by
  unfold ref32_Match
  have hmk : mk (w64 ((s.length : Int) + 1)) false = some (List.replicate (s.length + 1) false) := by
    rw [w64_succ (by omega)]
    unfold mk LIM
    rw [if_pos (by constructor <;> omega), Int.toNat_natCast]
  have h0 : List.replicate (s.length + 1) false = midR (([] : List Pc)) s 0 := rfl
  have hm : ∀ ps : List Pc, List.replicate (s.length + 1) false = midR ps s 0 := fun _ => rfl
  have h1 : setI (List.replicate (s.length + 1) false) ((0 : Nat) : Int) true = some (canR [] s) := by
    rw [setI_nat (by simp)]
    congr 1
    refine List.ext_getElem (by simp [canR]) fun k k1 k2 => ?_
    have : k ≤ s.length := by simp at k1; omega
    simp only [canR, List.getElem_map, List.getElem_range, List.getElem_set, List.getElem_replicate, mt_nil]
    cases k with
    | zero => simp
    | succ k =>
      cases s with
      | nil => simp at this
      | cons c s => simp
  have hlp := loop_for (f := ref32_Match_lp1 (gs.map refPc) s) (fun i => (canR ((gs.map pcOf).take i) s, (i : Int))) gs.length (b := canR (gs.map pcOf) s) (fun i hi => by
    unfold ref32_Match_lp1
    dsimp only
    have e : (gs.map pcOf).take (i + 1) = (gs.map pcOf).take i ++ [pcOf gs[i]] := by
      rw [List.take_succ_eq_append_getElem (by rw [List.length_map]; exact hi), List.getElem_map]
    rw [bifTd (by rw [List.length_map]; omega), hmk, bind_some, hm ((gs.map pcOf).take i ++ [pcOf gs[i]]), rmatch_in gs s hs _ i hi, flow_go, bind_some, lett_eq, w64_succ (by omega), e]) (by
    unfold ref32_Match_lp1
    dsimp only
    rw [bifFd (by rw [List.length_map]; omega), List.take_of_length_le (by simp)])
  have hlp' : loop (ref32_Match_lp1 (gs.map refPc) s) (canR [] s, 0) = _ := hlp
  rw [hmk, bind_some, idx_0 (by simp), bind_some, show (0 : Int) = ((0 : Nat) : Int) from rfl, h1, bind_some]
  rw [show ((0 : Nat) : Int) = (0 : Int) from rfl, hlp', flow_go, bind_some, canR_at _ _ (Nat.le_refl _), bind_some, List.take_of_length_le (Nat.le_refl _)]
theorem gmatch_eq (g : glob_Glob) (s : List UInt8) (hp : g.pieces.length ≤ 1000) (hs : s.length ≤ 1000) : glob_Glob_Match g s = some (mt (g.pieces.map pcOf) s) := by
  unfold glob_Glob_Match
  rw [match_loop g s hp hs, flow_out]
/-! ### the one text -/
/-! ### what the document tells -/
theorem inS_byte (c d : UInt8) : inS (addSt nilS c) d = decide (d = c) := by rw [inS_add, inS_nil, Bool.or_false]
/-! ### the laws -/
end Go.Lg
namespace Go.Lg
structure api_Rule where
  Kind : Int
  Key : List UInt8
  Glob : List UInt8
  To : List UInt8
  Val : List UInt8
  deriving DecidableEq
structure relabel_rule where
  Rule : api_Rule
  g : Option glob_Glob
  deriving DecidableEq
structure relabel_Rules where
  l : List relabel_rule
  deriving DecidableEq
structure ref33_Through where
  P : api_Point
  Stop : Int
  deriving DecidableEq
structure ref33_Got where
  P : api_Point
  Kept : Bool
  E : Int
  deriving DecidableEq
noncomputable def relabel_isKey (a0 : List UInt8) : Option Bool :=
 (label_Check a0 []).bind fun r11 =>
 lett (decide (r11 = 0)) fun t20 =>
 some t20
noncomputable def relabel_isValue (a0 : List UInt8) : Option Bool :=
 (label_Check [120] [(api_Pair.mk [120] a0)]).bind fun r16 =>
 lett (decide (r16 = 0)) fun t25 =>
 some t25
noncomputable def relabel_Check (a0 : api_Rule) : Option Int :=
 bif ((decide (a0.Kind < 1)) || (decide (5 < a0.Kind))) then
 some 14
 else
 (glob_Compile a0.Glob).bind fun (r21, r22, r23) =>
 bif (!decide (r23 = 0)) then
 some r23
 else
 (bif decide (a0.Key = []) then
 some true
 else
 (relabel_isKey a0.Key).bind fun r44 =>
 some r44 : Option Bool).bind fun x37 =>
 (lett (decide (a0.Kind = 4)) fun t60 =>
 bif t60 then
 (bif (x37 && (!decide (a0.Key = []))) then
 (relabel_isKey a0.To).bind fun r70 =>
 some r70
 else
 some false : Option Bool).bind fun x63 =>
 lett ((x63 && (decide (a0.Val = [])))) fun good81 =>
 some good81
 else
 lett (decide (a0.Kind = 3)) fun t82 =>
 bif t82 then
 (bif x37 then
 (relabel_isKey a0.To).bind fun r91 =>
 some r91
 else
 some false : Option Bool).bind fun x84 =>
 (bif x84 then
 (relabel_isValue a0.Val).bind fun r108 =>
 some r108
 else
 some false : Option Bool).bind fun x100 =>
 some x100
 else
 lett (decide (a0.Kind = 5)) fun t117 =>
 bif t117 then
 lett ((((decide (a0.Key = [])) && (decide (a0.To = []))) && (decide (a0.Val = [])))) fun good121 =>
 some good121
 else
 lett (((x37 && (decide (a0.To = []))) && (decide (a0.Val = [])))) fun good124 =>
 some good124 : Option Bool).bind fun good54 =>
 bif (!good54) then
 some 3
 else
 some 0
noncomputable def relabel_Compile_lp1 (a0 : List api_Rule) : (List relabel_rule × Int) → Option (Rnd (List relabel_rule × Int) (List relabel_rule) (Option relabel_Rules × Int × Int)) := fun (c22, x25) =>
 bif decide (x25 < (a0.length : Int)) then
 (idx a0 x25).bind fun e43 =>
 (relabel_Check e43).bind fun r68 =>
 bif (!decide (r68 = 0)) then
 outr (some (none, x25, r68))
 else
 (glob_Compile e43.Glob).bind fun (r81, r82, r83) =>
 (app c22 [(relabel_rule.mk e43 r81)]).bind fun xs146 =>
 some (.next (xs146, w64 (x25 + 1)))
 else
 some (.brk c22)
noncomputable def relabel_Compile (a0 : List api_Rule) : Option (Option relabel_Rules × Int × Int) :=
 bif decide (64 < (a0.length : Int)) then
 some (none, 64, 4)
 else
 flow (loop (relabel_Compile_lp1 a0) ([], 0)) fun c30 =>
 some ((some (relabel_Rules.mk c30)), 0, 0)
noncomputable def relabel_Rules_Len (a0 : relabel_Rules) : Option Int :=
 lett ((a0.l.length : Int)) fun t13 =>
 some t13
noncomputable def relabel_find_lp1 (a0 : List api_Pair) (a1 : List UInt8) : Int → Option (Rnd Int Unit Int) := fun x24 =>
 bif decide (x24 < (a0.length : Int)) then
 (idx a0 x24).bind fun e38 =>
 (lett (decide (e38.Key = a1)) fun t64 =>
 some t64 : Option Bool).bind fun x51 =>
 bif x51 then
 outr (some x24)
 else
 some (.next (w64 (x24 + 1)))
 else
 some (.brk ())
noncomputable def relabel_find (a0 : List api_Pair) (a1 : List UInt8) : Option Int :=
 (flow (loop (relabel_find_lp1 a0 a1) 0) fun (_ : Unit) =>
 some (-1) : Option Int).bind fun x17 =>
 some x17
noncomputable def relabel_rule_holds (a0 : relabel_rule) (a1 : api_Point) : Option Bool :=
 (bif (!decide (a0.Rule.Key = [])) then
 (relabel_find a1.Attrs a0.Rule.Key).bind fun r51 =>
 bif decide (0 ≤ r51) then
 (idx a1.Attrs r51).bind fun e62 =>
 some e62.Val
 else
 some []
 else
 some a1.Name : Option (List UInt8)).bind fun s42 =>
 (a0.g).bind fun d81 =>
 (glob_Glob_Match d81 s42).bind fun r90 =>
 some r90
noncomputable def relabel_without_lp1 (a1 : List UInt8) (r18 : List api_Pair) : Int → Option (Rnd Int Unit Int) := fun x44 =>
 bif decide (x44 < (r18.length : Int)) then
 (idx r18 x44).bind fun e58 =>
 (lett (decide (e58.Key = a1)) fun t83 =>
 some t83 : Option Bool).bind fun x69 =>
 bif x69 then
 outr (some x44)
 else
 some (.next (w64 (x44 + 1)))
 else
 some (.brk ())
noncomputable def relabel_without_lp2 (a1 : List UInt8) : (List api_Pair × Int × Int) → Option (Rnd (List api_Pair × Int × Int) (List api_Pair × Int) (List api_Pair × Int)) := fun (s100, i103, j104) =>
 bif decide (j104 < (s100.length : Int)) then
 ((idx s100 j104).bind fun e135 =>
 (lett (decide (e135.Key = a1)) fun t170 =>
 some t170 : Option Bool).bind fun x153 =>
 bif (!x153) then
 (idx s100 i103).bind fun e173 =>
 (setI s100 i103 e135).bind fun xs186 =>
 lett (w64 (i103 + 1)) fun i190 =>
 some (xs186, i190)
 else
 some (s100, i103) : Option (List api_Pair × Int)).bind fun (s126, i129) =>
 lett (w64 (j104 + 1)) fun j200 =>
 some (.next (s126, i129, j200))
 else
 some (.brk (s100, i103))
noncomputable def relabel_without (a0 : List api_Pair) (a1 : List UInt8) : Option (List api_Pair) :=
 (slices_Clone_api_Pair_api_Pair a0).bind fun r18 =>
 ((flow (loop (relabel_without_lp1 a1 r18) 0) fun (_ : Unit) =>
 some (-1) : Option Int).bind fun x38 =>
 bif decide (x38 = (-1)) then
 some r18
 else
 lett (w64 (x38 + 1)) fun j90 =>
 (flow (loop (relabel_without_lp2 a1) (r18, x38, j90)) fun (s108, i111) =>
 some (s108, i111) : Option (List api_Pair × Int)).bind fun (s91, i94) =>
 (slc s91 i94 (s91.length : Int)).bind fun tl210 =>
 (slc (clr s91 i94 (api_Pair.mk [] [])) 0 i94).bind fun t216 =>
 some t216 : Option (List api_Pair)).bind fun x30 =>
 some x30
noncomputable def relabel_rule_turn_lp1 (a0 : relabel_rule) (r576 : List api_Pair) : Int → Option (Rnd Int Unit Int) := fun x602 =>
 bif decide (x602 < (r576.length : Int)) then
 (idx r576 x602).bind fun e616 =>
 ((a0.g).bind fun d646 =>
 (glob_Glob_Match d646 e616.Key).bind fun r655 =>
 some r655 : Option Bool).bind fun x627 =>
 bif x627 then
 outr (some x602)
 else
 some (.next (w64 (x602 + 1)))
 else
 some (.brk ())
noncomputable def relabel_rule_turn_lp2 (a0 : relabel_rule) : (List api_Pair × Int × Int) → Option (Rnd (List api_Pair × Int × Int) (List api_Pair × Int) (List api_Pair × Int)) := fun (s680, i683, j684) =>
 bif decide (j684 < (s680.length : Int)) then
 ((idx s680 j684).bind fun e715 =>
 ((a0.g).bind fun d758 =>
 (glob_Glob_Match d758 e715.Key).bind fun r767 =>
 some r767 : Option Bool).bind fun x733 =>
 bif (!x733) then
 (idx s680 i683).bind fun e778 =>
 (setI s680 i683 e715).bind fun xs791 =>
 lett (w64 (i683 + 1)) fun i795 =>
 some (xs791, i795)
 else
 some (s680, i683) : Option (List api_Pair × Int)).bind fun (s706, i709) =>
 lett (w64 (j684 + 1)) fun j805 =>
 some (.next (s706, i709, j805))
 else
 some (.brk (s680, i683))
noncomputable def relabel_rule_turn (a0 : relabel_rule) (a1 : api_Point) : Option (Bool × api_Point) :=
 (relabel_rule_holds a0 a1).bind fun r36 =>
 lett (decide (a0.Rule.Kind = 1)) fun t46 =>
 bif t46 then
 some (r36, a1)
 else
 lett (decide (a0.Rule.Kind = 2)) fun t53 =>
 bif t53 then
 lett ((!r36)) fun t55 =>
 some (t55, a1)
 else
 lett (decide (a0.Rule.Kind = 3)) fun t61 =>
 bif t61 then
 bif r36 then
 ((relabel_without a1.Attrs a0.Rule.To).bind fun r134 =>
 some (r134, [(api_Pair.mk a0.Rule.To a0.Rule.Val)])).bind fun (x120, x123) =>
 (app x120 x123).bind fun xs189 =>
 some (true, (api_Point.mk a1.Name xs189 a1.Kind a1.Temp a1.Mono a1.Start a1.Time a1.Int_ a1.Re a1.Im a1.Hist a1.Flags))
 else
 some (true, a1)
 else
 lett (decide (a0.Rule.Kind = 4)) fun t229 =>
 bif t229 then
 (relabel_find a1.Attrs a0.Rule.Key).bind fun r238 =>
 bif ((decide (0 ≤ r238)) && r36) then
 (idx a1.Attrs r238).bind fun e281 =>
 ((relabel_without a1.Attrs a0.Rule.Key).bind fun r387 =>
 ((relabel_without r387 a0.Rule.To).bind fun r411 =>
 some (r411, [(api_Pair.mk a0.Rule.To e281.Val)])).bind fun (x399, x402) =>
 some (x399, x402)).bind fun (x372, x375) =>
 (app x372 x375).bind fun xs515 =>
 some (true, (api_Point.mk a1.Name xs515 a1.Kind a1.Temp a1.Mono a1.Start a1.Time a1.Int_ a1.Re a1.Im a1.Hist a1.Flags))
 else
 some (true, a1)
 else
 lett (decide (a0.Rule.Kind = 5)) fun t572 =>
 bif t572 then
 (slices_Clone_api_Pair_api_Pair a1.Attrs).bind fun r576 =>
 ((flow (loop (relabel_rule_turn_lp1 a0 r576) 0) fun (_ : Unit) =>
 some (-1) : Option Int).bind fun x596 =>
 bif decide (x596 = (-1)) then
 some r576
 else
 lett (w64 (x596 + 1)) fun j670 =>
 (flow (loop (relabel_rule_turn_lp2 a0) (r576, x596, j670)) fun (s688, i691) =>
 some (s688, i691) : Option (List api_Pair × Int)).bind fun (s671, i674) =>
 (slc s671 i674 (s671.length : Int)).bind fun tl815 =>
 (slc (clr s671 i674 (api_Pair.mk [] [])) 0 i674).bind fun t821 =>
 some t821 : Option (List api_Pair)).bind fun x588 =>
 some (true, (api_Point.mk a1.Name x588 a1.Kind a1.Temp a1.Mono a1.Start a1.Time a1.Int_ a1.Re a1.Im a1.Hist a1.Flags))
 else
 some (true, a1)
noncomputable def relabel_Rules_run_lp1 (a0 : relabel_Rules) : (List UInt8 × List api_Pair × Int × Int × Bool × Int × Int × Int × UInt64 × UInt64 × Int × UInt64 × Int × List UInt64 × Int × List UInt64 × Int × Int) → Option (Rnd (List UInt8 × List api_Pair × Int × Int × Bool × Int × Int × Int × UInt64 × UInt64 × Int × UInt64 × Int × List UInt64 × Int × List UInt64 × Int × Int) (List UInt8 × List api_Pair × Int × Int × Bool × Int × Int × Int × UInt64 × UInt64 × Int × UInt64 × Int × List UInt64 × Int × List UInt64 × Int) (Int × api_Point)) := fun (c18, c19, c22, c23, c24, c25, c26, c27, c28, c29, c30, c31, c32, c33, c36, c37, c40, x41) =>
 bif decide (x41 < (a0.l.length : Int)) then
 (idx a0.l x41).bind fun e79 =>
 (relabel_rule_turn e79 (api_Point.mk c18 c19 c22 c23 c24 c25 c26 c27 c28 c29 (api_Hist.mk c30 c31 (api_Side.mk c32 c33) (api_Side.mk c36 c37)) c40)).bind fun (r114, r115) =>
 bif (!r114) then
 outr (some (x41, r115))
 else
 some (.next (r115.Name, r115.Attrs, r115.Kind, r115.Temp, r115.Mono, r115.Start, r115.Time, r115.Int_, r115.Re, r115.Im, r115.Hist.Scale, r115.Hist.Zero, r115.Hist.Pos.Offset, r115.Hist.Pos.Counts, r115.Hist.Neg.Offset, r115.Hist.Neg.Counts, r115.Flags, w64 (x41 + 1)))
 else
 some (.brk (c18, c19, c22, c23, c24, c25, c26, c27, c28, c29, c30, c31, c32, c33, c36, c37, c40))
noncomputable def relabel_Rules_run (a0 : relabel_Rules) (a1 : api_Point) : Option (Int × api_Point) :=
 flow (loop (relabel_Rules_run_lp1 a0) (a1.Name, a1.Attrs, a1.Kind, a1.Temp, a1.Mono, a1.Start, a1.Time, a1.Int_, a1.Re, a1.Im, a1.Hist.Scale, a1.Hist.Zero, a1.Hist.Pos.Offset, a1.Hist.Pos.Counts, a1.Hist.Neg.Offset, a1.Hist.Neg.Counts, a1.Flags, 0)) fun (c46, c47, c50, c51, c52, c53, c54, c55, c56, c57, c58, c59, c60, c61, c64, c65, c68) =>
 some ((-1), (api_Point.mk c46 c47 c50 c51 c52 c53 c54 c55 c56 c57 (api_Hist.mk c58 c59 (api_Side.mk c60 c61) (api_Side.mk c64 c65)) c68))
noncomputable def relabel_Rules_Apply (a0 : relabel_Rules) (a1 : api_Point) : Option (api_Point × Bool × Int) :=
 (point_Check a1).bind fun r45 =>
 bif (!decide (r45 = 0)) then
 some ((api_Point.mk [] [] 0 0 false 0 0 0 0 0 (api_Hist.mk 0 0 (api_Side.mk 0 []) (api_Side.mk 0 [])) 0), false, r45)
 else
 (point_Clone a1).bind fun r64 =>
 (relabel_Rules_run a0 r64).bind fun (r115, r116) =>
 bif decide (0 ≤ r115) then
 some ((api_Point.mk [] [] 0 0 false 0 0 0 0 0 (api_Hist.mk 0 0 (api_Side.mk 0 []) (api_Side.mk 0 [])) 0), false, 0)
 else
 (point_Check r116).bind fun r144 =>
 bif (!decide (r144 = 0)) then
 some ((api_Point.mk [] [] 0 0 false 0 0 0 0 0 (api_Hist.mk 0 0 (api_Side.mk 0 []) (api_Side.mk 0 [])) 0), false, r144)
 else
 (label_Sorted r116.Attrs).bind fun r161 =>
 some ((api_Point.mk r116.Name r161 r116.Kind r116.Temp r116.Mono r116.Start r116.Time r116.Int_ r116.Re r116.Im r116.Hist r116.Flags), true, 0)
noncomputable def relabel_Rules_Stop (a0 : relabel_Rules) (a1 : api_Point) : Option Int :=
 (point_Check a1).bind fun r36 =>
 bif (!decide (r36 = 0)) then
 some (-1)
 else
 (point_Clone a1).bind fun r51 =>
 (relabel_Rules_run a0 r51).bind fun (r108, r109) =>
 some r108
noncomputable def law33_awake  : Option Bool :=
 (relabel_Compile [(api_Rule.mk 2 [] [116, 109, 112, 46, 42] [] []), (api_Rule.mk 3 [] [42] [101, 110, 118] [112, 114, 111, 100])]).bind fun (r18, r19, r20) =>
 (relabel_Compile [(api_Rule.mk 1 [] [42] [] []), (api_Rule.mk 1 [] [91] [] [])]).bind fun (r38, r39, r40) =>
 (r18).bind fun d54 =>
 (bif (((r18.isNone || (!decide (r20 = 0))) || (!decide (r39 = 1))) || (!decide (r40 = 2))) then
 some true
 else
 (relabel_Rules_Len d54).bind fun r72 =>
 some (!decide (r72 = 2)) : Option Bool).bind fun x61 =>
 bif x61 then
 some false
 else
 (relabel_Rules_Apply d54 (api_Point.mk [97] [] 3 0 false 0 0 0 0 0 (api_Hist.mk 0 0 (api_Side.mk 0 []) (api_Side.mk 0 [])) 0)).bind fun (r89, r90, r91) =>
 (relabel_Rules_Apply d54 (api_Point.mk [116, 109, 112, 46, 97] [] 3 0 false 0 0 0 0 0 (api_Hist.mk 0 0 (api_Side.mk 0 []) (api_Side.mk 0 [])) 0)).bind fun (r141, r142, r143) =>
 (bif ((r90 && (decide (r91 = 0))) && (decide ((r89.Attrs.length : Int) = 1))) then
 (idx r89.Attrs 0).bind fun e203 =>
 some (decide (e203.Val = [112, 114, 111, 100]))
 else
 some false : Option Bool).bind fun x196 =>
 (bif ((x196 && (!r142)) && (decide (r143 = 0))) then
 (relabel_Rules_Stop d54 (api_Point.mk [116, 109, 112, 46, 97] [] 3 0 false 0 0 0 0 0 (api_Hist.mk 0 0 (api_Side.mk 0 []) (api_Side.mk 0 [])) 0)).bind fun r232 =>
 some (decide (r232 = 0))
 else
 some false : Option Bool).bind fun x219 =>
 some x219
noncomputable def ref33_Few_lp1 (a0 : List api_Rule) : Int → Option (Rnd Int Unit Bool) := fun i14 =>
 bif decide (i14 < (a0.length : Int)) then
 (idx a0 i14).bind fun e22 =>
 (bif decide (70 < (e22.Glob.length : Int)) then
 some true
 else
 (idx a0 i14).bind fun e38 =>
 some (decide (100 < (e38.Key.length : Int))) : Option Bool).bind fun x34 =>
 (bif x34 then
 some true
 else
 (idx a0 i14).bind fun e54 =>
 some (decide (100 < (e54.To.length : Int))) : Option Bool).bind fun x50 =>
 (bif x50 then
 some true
 else
 (idx a0 i14).bind fun e70 =>
 some (decide (100 < (e70.Val.length : Int))) : Option Bool).bind fun x66 =>
 bif x66 then
 outr (some false)
 else
 lett (w64 (i14 + 1)) fun i84 =>
 some (.next i84)
 else
 some (.brk ())
noncomputable def ref33_Few (a0 : List api_Rule) : Option Bool :=
 bif decide (70 < (a0.length : Int)) then
 some false
 else
 flow (loop (ref33_Few_lp1 a0) 0) fun (_ : Unit) =>
 some true
noncomputable def ref33_get_lp1 (a0 : List api_Pair) (a1 : List UInt8) : Int → Option (Rnd Int Unit (List UInt8 × Bool)) := fun i12 =>
 bif decide (i12 < (a0.length : Int)) then
 (idx a0 i12).bind fun e20 =>
 bif decide (e20.Key = a1) then
 (idx a0 i12).bind fun e33 =>
 outr (some (e33.Val, true))
 else
 lett (w64 (i12 + 1)) fun i46 =>
 some (.next i46)
 else
 some (.brk ())
noncomputable def ref33_get (a0 : List api_Pair) (a1 : List UInt8) : Option (List UInt8 × Bool) :=
 flow (loop (ref33_get_lp1 a0 a1) 0) fun (_ : Unit) =>
 some ([], false)
noncomputable def ref33_matches (a0 : api_Rule) (a1 : List UInt8) : Option Bool :=
 (ref32_Compile a0.Glob).bind fun r16 =>
 (ref32_Match r16.L a1).bind fun r28 =>
 some r28
noncomputable def ref33_without_lp1 (a0 : List api_Pair) (a1 : List UInt8) : (List api_Pair × Int) → Option (Rnd (List api_Pair × Int) (List api_Pair) (List api_Pair)) := fun (out12, i15) =>
 bif decide (i15 < (a0.length : Int)) then
 ((idx a0 i15).bind fun e41 =>
 bif (!decide (e41.Key = a1)) then
 (idx a0 i15).bind fun e54 =>
 (app out12 [e54]).bind fun xs71 =>
 some xs71
 else
 some out12 : Option (List api_Pair)).bind fun out33 =>
 lett (w64 (i15 + 1)) fun i84 =>
 some (.next (out33, i84))
 else
 some (.brk out12)
noncomputable def ref33_without (a0 : List api_Pair) (a1 : List UInt8) : Option (List api_Pair) :=
 flow (loop (ref33_without_lp1 a0 a1) ([], 0)) fun out19 =>
 some out19
noncomputable def ref33_Go_lp2 (c38 : List api_Pair) (e74 : api_Rule) : (List api_Pair × Int) → Option (Rnd (List api_Pair × Int) (List api_Pair) (List api_Pair)) := fun (out556, k559) =>
 bif decide (k559 < (c38.length : Int)) then
 ((idx c38 k559).bind fun e597 =>
 (ref33_matches e74 e597.Key).bind fun r610 =>
 bif (!r610) then
 (idx c38 k559).bind fun e621 =>
 (app out556 [e621]).bind fun xs639 =>
 some xs639
 else
 some out556 : Option (List api_Pair)).bind fun out584 =>
 lett (w64 (k559 + 1)) fun k656 =>
 some (.next (out584, k656))
 else
 some (.brk out556)
noncomputable def ref33_Go_lp1 (a0 : List api_Rule) (a1 : api_Point) : (List api_Pair × Int) → Option (Rnd (List api_Pair × Int) (List api_Pair) ref33_Through) := fun (c38, i41) =>
 bif decide (i41 < (a0.length : Int)) then
 flow ((idx a0 i41).bind fun e74 =>
 (bif (!decide (e74.Key = [])) then
 (ref33_get c38 e74.Key).bind fun (r106, r107) =>
 some (r106, r107)
 else
 some (a1.Name, true) : Option (List UInt8 × Bool)).bind fun (looked96, has97) =>
 (ref33_matches e74 looked96).bind fun r117 =>
 flow (lett (decide (e74.Kind = 1)) fun t136 =>
 bif t136 then
 bif (!r117) then
 outs (outs (outr (some (ref33_Through.mk (api_Point.mk [] [] 0 0 false 0 0 0 0 0 (api_Hist.mk 0 0 (api_Side.mk 0 []) (api_Side.mk 0 [])) 0) i41))))
 else
 some (.go c38)
 else
 lett (decide (e74.Kind = 2)) fun t154 =>
 bif t154 then
 bif r117 then
 outs (outs (outr (some (ref33_Through.mk (api_Point.mk [] [] 0 0 false 0 0 0 0 0 (api_Hist.mk 0 0 (api_Side.mk 0 []) (api_Side.mk 0 [])) 0) i41))))
 else
 some (.go c38)
 else
 lett (decide (e74.Kind = 3)) fun t172 =>
 bif t172 then
 bif r117 then
 ((ref33_without c38 e74.To).bind fun r231 =>
 some (r231, [(api_Pair.mk e74.To e74.Val)])).bind fun (x214, x217) =>
 (app x214 x217).bind fun xs289 =>
 some (.go xs289)
 else
 some (.go c38)
 else
 lett (decide (e74.Kind = 4)) fun t321 =>
 bif t321 then
 bif (r117 && has97) then
 ((ref33_without c38 e74.Key).bind fun r384 =>
 ((ref33_without r384 e74.To).bind fun r408 =>
 some (r408, [(api_Pair.mk e74.To looked96)])).bind fun (x396, x399) =>
 some (x396, x399)).bind fun (x367, x370) =>
 (app x367 x370).bind fun xs514 =>
 some (.go xs514)
 else
 some (.go c38)
 else
 lett (decide (e74.Kind = 5)) fun t546 =>
 bif t546 then
 (flow (loop (ref33_Go_lp2 c38 e74) ([], 0)) fun out563 =>
 some out563 : Option (List api_Pair)).bind fun out548 =>
 some (.go out548)
 else
 some (.go c38) : Option (Flow (List api_Pair) (Flow (List api_Pair) (Rnd (List api_Pair × Int) (List api_Pair) ref33_Through)))) fun c128 =>
 some (.go c128) : Option (Flow (List api_Pair) (Rnd (List api_Pair × Int) (List api_Pair) ref33_Through))) fun c66 =>
 lett (w64 (i41 + 1)) fun i687 =>
 some (.next (c66, i687))
 else
 some (.brk c38)
noncomputable def ref33_Go (a0 : List api_Rule) (a1 : api_Point) : Option ref33_Through :=
 flow (loop (ref33_Go_lp1 a0 a1) (a1.Attrs, 0)) fun c46 =>
 some (ref33_Through.mk (api_Point.mk a1.Name c46 a1.Kind a1.Temp a1.Mono a1.Start a1.Time a1.Int_ a1.Re a1.Im a1.Hist a1.Flags) (-1))
noncomputable def ref33_Apply (a0 : List api_Rule) (a1 : api_Point) : Option ref33_Got :=
 (ref12_Check a1).bind fun r44 =>
 bif (!decide (r44 = 0)) then
 some (ref33_Got.mk (api_Point.mk [] [] 0 0 false 0 0 0 0 0 (api_Hist.mk 0 0 (api_Side.mk 0 []) (api_Side.mk 0 [])) 0) false r44)
 else
 (ref33_Go a0 a1).bind fun r66 =>
 bif decide (0 ≤ r66.Stop) then
 some (ref33_Got.mk (api_Point.mk [] [] 0 0 false 0 0 0 0 0 (api_Hist.mk 0 0 (api_Side.mk 0 []) (api_Side.mk 0 [])) 0) false 0)
 else
 (ref12_Check r66.P).bind fun r119 =>
 bif (!decide (r119 = 0)) then
 some (ref33_Got.mk (api_Point.mk [] [] 0 0 false 0 0 0 0 0 (api_Hist.mk 0 0 (api_Side.mk 0 []) (api_Side.mk 0 [])) 0) false r119)
 else
 (ref11_Sorted r66.P.Attrs).bind fun r150 =>
 some (ref33_Got.mk (api_Point.mk r66.P.Name r150 r66.P.Kind r66.P.Temp r66.P.Mono r66.P.Start r66.P.Time r66.P.Int_ r66.P.Re r66.P.Im r66.P.Hist r66.P.Flags) true 0)
noncomputable def law33_RelabelApplies (a0 : List api_Rule) (a1 : api_Point) : Option Bool :=
 (law33_awake).bind fun r34 =>
 bif (!r34) then
 some false
 else
 (ref33_Few a0).bind fun r47 =>
 (bif (!r47) then
 some true
 else
 (ref12_Light a1).bind fun r74 =>
 some (!r74) : Option Bool).bind fun x56 =>
 bif x56 then
 some true
 else
 (relabel_Compile a0).bind fun (r90, r91, r92) =>
 bif r90.isNone then
 some true
 else
 (r90).bind fun d109 =>
 (relabel_Rules_Apply d109 a1).bind fun (r131, r132, r133) =>
 (ref33_Apply a0 a1).bind fun r193 =>
 (ref12_Same r131 r193.P).bind fun r252 =>
 (bif (((!r252) || (!decide (r132 = r193.Kept))) || (!decide (r133 = r193.E))) then
 some true
 else
 (ref11_Same r131.Attrs r193.P.Attrs).bind fun r276 =>
 some (!r276) : Option Bool).bind fun x265 =>
 bif x265 then
 some false
 else
 ((ref12_Check a1).bind fun r313 =>
 bif decide (r313 = 0) then
 (ref33_Go a0 a1).bind fun r333 =>
 some r333.Stop
 else
 some (-1) : Option Int).bind fun stop287 =>
 (relabel_Rules_Stop d109 a1).bind fun r393 =>
 lett (((decide (r393 = stop287)) && ((!r132) || (decide (stop287 < 0))))) fun t404 =>
 some t404
def rep_api_Rule : Rep api_Rule := Rep.via (Rep.pair Rep.i (Rep.pair Rep.s (Rep.pair Rep.s (Rep.pair Rep.s Rep.s)))) fun d => (d.Kind, d.Key, d.Glob, d.To, d.Val)
def rep_relabel_rule : Rep relabel_rule := Rep.via (Rep.pair rep_api_Rule (Rep.ptr rep_glob_Glob 96)) fun d => (d.Rule, d.g)
end Go.Lg
namespace Go.Lg
attribute [local irreducible] w64 toU64 toU8 shlU shrU shlB shrB spanS
/-! ### the first that is sought -/
def idxI : Option Nat → Int
  | some k => (k : Int)
  | none => -1
def idxF {ρ : Type} (g : Nat → ρ) : Option Nat → Flow Unit ρ
  | some k => .out (g k)
  | none => .go ()
theorem find_loop {α : Type} {f : Int → Option (Rnd Int Unit Int)} {l : List α} (d : α → Bool) (hl : l.length ≤ 100000)
    (hs : ∀ (i : Nat) (h : i < l.length), f (i : Int) = some (if d l[i] = true then .out (i : Int) else .next (w64 ((i : Int) + 1)))) (he : f (l.length : Int) = some (.brk ())) :
    loop f 0 = some (idxF (fun k => (k : Int)) (l.findIdx? d)) := by
  have key : ∀ (m i : Nat), i + m = l.length → loop f (i : Int) = some (idxF (fun k => (k : Int)) (((l.drop i).findIdx? d).map (· + i))) := by
    intro m
    induction m with
    | zero =>
      intro i hi
      have : i = l.length := by omega
      subst this
      rw [loop_brk he, List.drop_eq_nil_of_le (Nat.le_refl _)]; rfl
    | succ m ih =>
      intro i hi
      have hlt : i < l.length := by omega
      have h1 := hs i hlt
      rw [List.drop_eq_getElem_cons hlt, List.findIdx?_cons]
      by_cases hd : d l[i] = true
      · rw [if_pos hd] at h1
        rw [loop_out h1, if_pos hd]
        simp [idxF]
      · rw [if_neg hd, w64_succ (by omega)] at h1
        rw [loop_next h1, ih (i + 1) (by omega), if_neg hd]
        congr 1
        cases (l.drop (i + 1)).findIdx? d with
        | none => rfl
        | some k => simp only [Option.map_some, idxF]; congr 1; omega
  have := key l.length 0 (by omega)
  rw [List.drop_zero] at this
  rw [show (0 : Int) = ((0 : Nat) : Int) from rfl, this]
  cases l.findIdx? d <;> rfl
theorem find_eq {l : List api_Pair} {k : List UInt8} (hl : l.length ≤ 100000) : relabel_find l k = some (idxI (l.findIdx? fun a => decide (a.Key = k))) := by
  unfold relabel_find
  rw [find_loop (l := l) (fun a => decide (a.Key = k)) hl (fun i h => by
    unfold relabel_find_lp1
    rw [bifTd (by omega), idx_nat h, bind_some, lett_eq, bind_some]
    by_cases e : l[i].Key = k
    · rw [bifTd e, if_pos (by simp [e])]; rfl
    · rw [bifFd e, if_neg (by simp [e])]) (by
    unfold relabel_find_lp1
    rw [bifFd (by omega)])]
  cases l.findIdx? fun a => decide (a.Key = k) <;> rfl
/-! ### all but some -/
theorem del_loop {f : List api_Pair × Int × Int → Option (Rnd (List api_Pair × Int × Int) (List api_Pair × Int) (List api_Pair × Int))} (d : api_Pair → Bool) {n : Nat} {s0 : List api_Pair}
    (hs : ∀ (s : List api_Pair) (i j : Nat) (h : j < s.length), i ≤ j → s.length = n → s[j] ∈ s0 → f (s, (i : Int), (j : Int)) = some (.next (if d s[j] = true then (s, (i : Int), ((j + 1 : Nat) : Int)) else (s.set i s[j], ((i + 1 : Nat) : Int), ((j + 1 : Nat) : Int)))))
    (he : ∀ (s : List api_Pair) (i : Int), s.length = n → f (s, i, (n : Int)) = some (.brk (s, i))) (h0 : s0.length = n) :
    ∀ (m : Nat) (s : List api_Pair) (i j : Nat), j + m = n → s.length = n → i ≤ j → s.take i = (s0.take j).filter (fun a => !d a) → s.drop j = s0.drop j →
      ∃ s', loop f (s, (i : Int), (j : Int)) = some (.go (s', ((s0.filter fun a => !d a).length : Int))) ∧ s'.length = n ∧ s'.take (s0.filter fun a => !d a).length = s0.filter fun a => !d a := by
  intro m
  induction m with
  | zero =>
    intro s i j hj hl hij h1 h2
    have : j = n := by omega
    subst this
    have e0 : s0.take j = s0 := List.take_of_length_le (by omega)
    rw [e0] at h1
    have hi : i = (s0.filter fun a => !d a).length := by
      rw [← h1, List.length_take]; omega
    exact ⟨s, by rw [loop_brk (he s i hl), hi], hl, by rw [← hi]; exact h1⟩
  | succ m ih =>
    intro s i j hj hl hij h1 h2
    have hlt : j < s.length := by omega
    have hlt0 : j < s0.length := by omega
    have hej : s[j] = s0[j] := by
      have : (s.drop j).head? = (s0.drop j).head? := by rw [h2]
      rw [List.head?_drop, List.head?_drop, List.getElem?_eq_getElem hlt, List.getElem?_eq_getElem hlt0] at this
      exact Option.some.inj this
    have hd1 : s.drop (j + 1) = s0.drop (j + 1) := by rw [← List.tail_drop, h2, List.tail_drop]
    have hst := hs s i j hlt hij hl (by rw [hej]; exact List.getElem_mem hlt0)
    have htk : (s0.take (j + 1)).filter (fun a => !d a) = (s0.take j).filter (fun a => !d a) ++ if d s0[j] = true then [] else [s0[j]] := by
      rw [List.take_succ_eq_append_getElem hlt0, List.filter_append]
      congr 1
      by_cases hd : d s0[j] = true
      · rw [if_pos hd]; simp [hd]
      · rw [if_neg hd]; simp [hd]
    rw [hej] at hst
    by_cases hd : d s0[j] = true
    · rw [if_pos hd] at hst htk
      obtain ⟨s', q1, q2, q3⟩ := ih s i (j + 1) (by omega) hl (by omega) (by rw [htk, List.append_nil, h1]) hd1
      exact ⟨s', by rw [loop_next hst, q1], q2, q3⟩
    · rw [if_neg hd] at hst htk
      obtain ⟨s', q1, q2, q3⟩ := ih (s.set i s0[j]) (i + 1) (j + 1) (by omega) (by rw [List.length_set]; exact hl) (by omega) (by
        rw [htk, ← h1, List.take_succ_eq_append_getElem (by rw [List.length_set]; omega), List.take_set_of_le (by omega), List.getElem_set_self]) (by rw [List.drop_set_of_lt (by omega)]; exact hd1)
      exact ⟨s', by rw [loop_next hst, q1], q2, q3⟩
/-- what is left by a deletion, as the program does it -/
theorem del_eq {fi : Int → Option (Rnd Int Unit Int)} {f : List api_Pair × Int × Int → Option (Rnd (List api_Pair × Int × Int) (List api_Pair × Int) (List api_Pair × Int))} (d : api_Pair → Bool) {l : List api_Pair} (hl : l.length ≤ 1000)
    (hf : loop fi 0 = some (idxF (fun k => (k : Int)) (l.findIdx? d)))
    (hs : ∀ (s : List api_Pair) (i j : Nat) (h : j < s.length), i ≤ j → s.length = l.length → s[j] ∈ l → f (s, (i : Int), (j : Int)) = some (.next (if d s[j] = true then (s, (i : Int), ((j + 1 : Nat) : Int)) else (s.set i s[j], ((i + 1 : Nat) : Int), ((j + 1 : Nat) : Int)))))
    (he : ∀ (s : List api_Pair) (i : Int), s.length = l.length → f (s, i, (l.length : Int)) = some (.brk (s, i))) :
    ((flow (loop fi 0) fun (_ : Unit) =>
     some (-1) : Option Int).bind fun x38 =>
     bif decide (x38 = (-1)) then
     some l
     else
     lett (w64 (x38 + 1)) fun j90 =>
     (flow (loop f (l, x38, j90)) fun (s108, i111) =>
     some (s108, i111) : Option (List api_Pair × Int)).bind fun (s91, i94) =>
     (slc s91 i94 (s91.length : Int)).bind fun tl210 =>
     (slc (clr s91 i94 (api_Pair.mk [] [])) 0 i94).bind fun t216 =>
     some t216 : Option (List api_Pair)) = some (l.filter fun a => !d a) := by
  rw [hf]
  cases hq : l.findIdx? d with
  | none =>
    rw [show idxF (fun k => (k : Int)) (none : Option Nat) = (.go () : Flow Unit Int) from rfl, flow_go, bind_some, bifTd rfl]
    congr 1
    rw [List.findIdx?_eq_none_iff] at hq
    exact (List.filter_eq_self.2 fun a ha => by rw [hq a ha]; rfl).symm
  | some k =>
    obtain ⟨hk, hdk, hbef⟩ := List.findIdx?_eq_some_iff_getElem.1 hq
    rw [show idxF (fun k => (k : Int)) (some k) = (.out (k : Int) : Flow Unit Int) from rfl, flow_out, bind_some, bifFd (by omega), lett_eq, w64_succ (by omega)]
    have hpre : l.take k = (l.take (k + 1)).filter fun a => !d a := by
      rw [List.take_succ_eq_append_getElem hk, List.filter_append]
      have e1 : (l.take k).filter (fun a => !d a) = l.take k := List.filter_eq_self.2 fun a ha => by
        obtain ⟨j, hj, rfl⟩ := List.getElem_of_mem ha
        rw [List.length_take] at hj
        rw [List.getElem_take]
        have := hbef j (by omega)
        simpa using this
      rw [e1]; simp [hdk]
    obtain ⟨s', q1, q2, q3⟩ := del_loop (s0 := l) d hs he rfl (l.length - (k + 1)) l k (k + 1) (by omega) rfl (by omega) hpre rfl
    have hle : (l.filter fun a => !d a).length ≤ l.length := List.length_filter_le _ _
    rw [q1, flow_go, bind_some]
    dsimp only
    rw [slc_nat (by omega) (by omega), bind_some]
    have hc : (clr s' ((l.filter fun a => !d a).length : Int) (⟨[], []⟩ : api_Pair)).length = s'.length := by
      unfold clr
      rw [Int.toNat_natCast, List.length_append, List.length_take, List.length_replicate]; omega
    rw [show (0 : Int) = ((0 : Nat) : Int) from rfl, slc_nat (by omega) (by rw [hc]; omega), bind_some, List.drop_zero]
    congr 1
    unfold clr
    rw [Int.toNat_natCast, List.take_append_of_le_length (by rw [List.length_take]; omega), List.take_take, Nat.min_self, q3]
theorem cloneP_eq {l : List api_Pair} (hl : l.length ≤ 100000) : slices_Clone_api_Pair_api_Pair l = some l := by
  unfold slices_Clone_api_Pair_api_Pair
  rw [app_ok (by simp; omega)]; rfl
def woA (l : List api_Pair) (k : List UInt8) : List api_Pair := l.filter fun a => !decide (a.Key = k)
theorem without_eq {l : List api_Pair} {k : List UInt8} (hl : l.length ≤ 1000) : relabel_without l k = some (woA l k) := by
  unfold relabel_without
  rw [cloneP_eq (by omega), bind_some]
  have := del_eq (fi := relabel_without_lp1 k l) (f := relabel_without_lp2 k) (fun a => decide (a.Key = k)) hl (find_loop (l := l) (fun a => decide (a.Key = k)) (by omega) (fun i h => by
      unfold relabel_without_lp1
      rw [bifTd (by omega), idx_nat h, bind_some, lett_eq, bind_some]
      by_cases e : l[i].Key = k
      · rw [bifTd e, if_pos (by simp [e])]; rfl
      · rw [bifFd e, if_neg (by simp [e])]) (by
      unfold relabel_without_lp1
      rw [bifFd (by omega)])) (fun s i j h hij hn _ => by
      unfold relabel_without_lp2
      dsimp only
      rw [bifTd (by omega), idx_nat h, bind_some, lett_eq, bind_some]
      by_cases e : s[j].Key = k
      · rw [bifF (by simp [e]), bind_some]
        dsimp only
        rw [lett_eq, w64_succ (by omega), if_pos (by simp [e])]
      · rw [bifT (by simp [e]), idx_nat (by omega), bind_some, setI_nat (by omega), bind_some, lett_eq, bind_some]
        dsimp only
        rw [lett_eq, w64_succ (by omega), w64_succ (by omega), if_neg (by simp [e])]) (fun s i hn => by
      unfold relabel_without_lp2
      dsimp only
      rw [bifFd (by omega)])
  rw [this, bind_some]; rfl
end Go.Lg
namespace Go.Lg
attribute [local irreducible] w64 toU64 toU8 shlU shrU shlB shrB spanS
theorem labelE_nil (s : List UInt8) : labelE s [] = if nameOk s = true then 0 else 3 := by
  unfold labelE
  cases nameOk s <;> rfl
theorem isKey_eq (s : List UInt8) : relabel_isKey s = some (nameOk s) := by
  unfold relabel_isKey
  rw [label_eq, bind_some, lett_eq, labelE_nil]
  cases nameOk s <;> rfl
theorem labelE_one (s : List UInt8) : labelE [120] [⟨[120], s⟩] = if valueOk s = true then 0 else 3 := by
  have hn : nameOk [120] = true := by decide
  have hd : dupB [⟨[120], s⟩] 0 = false := by
    unfold dupB
    rw [decide_eq_false]
    rintro ⟨k, hk, _⟩
    omega
  unfold labelE
  rw [hn, if_neg (by simp), if_neg (by simp), List.length_singleton]
  unfold firstE
  have : pairE [⟨[120], s⟩] 0 = if valueOk s = true then none else some 3 := by
    unfold pairE
    rw [show ([⟨[120], s⟩] : List api_Pair).getD 0 P0 = ⟨[120], s⟩ from rfl, hd]
    dsimp only
    rw [hn, Bool.true_and]
    cases valueOk s <;> rfl
  rw [this]
  cases valueOk s
  · rfl
  · simp [firstE]
theorem isValueR_eq (s : List UInt8) : relabel_isValue s = some (valueOk s) := by
  unfold relabel_isValue
  rw [label_eq, bind_some, lett_eq, labelE_one]
  cases valueOk s <;> rfl
/-- what is wrong with a rule -/
def restB (r : api_Rule) : Bool :=
  if r.Kind = 4 then !decide (r.Key = []) && nameOk r.To && decide (r.Val = []) else if r.Kind = 3 then nameOk r.To && valueOk r.Val
  else if r.Kind = 5 then decide (r.Key = []) && decide (r.To = []) && decide (r.Val = []) else decide (r.To = []) && decide (r.Val = [])
def keyB (r : api_Rule) : Bool := decide (r.Key = []) || nameOk r.Key
def ruleE (r : api_Rule) : Int :=
  if r.Kind < 1 ∨ 5 < r.Kind then 14
  else match comp r.Glob with
  | .inl x => x.2
  | .inr _ => if (keyB r && restB r) = true then 0 else 3
theorem rest4 {r : api_Rule} (h : r.Kind = 4) : restB r = (!decide (r.Key = []) && nameOk r.To && decide (r.Val = [])) := by unfold restB; rw [if_pos h]
theorem rest3 {r : api_Rule} (h : r.Kind = 3) : restB r = (nameOk r.To && valueOk r.Val) := by unfold restB; rw [if_neg (by omega), if_pos h]
theorem rest5 {r : api_Rule} (h : r.Kind = 5) : restB r = (decide (r.Key = []) && decide (r.To = []) && decide (r.Val = [])) := by unfold restB; rw [if_neg (by omega), if_neg (by omega), if_pos h]
theorem rest0 {r : api_Rule} (h4 : r.Kind ≠ 4) (h3 : r.Kind ≠ 3) (h5 : r.Kind ≠ 5) : restB r = (decide (r.To = []) && decide (r.Val = [])) := by unfold restB; rw [if_neg h4, if_neg h3, if_neg h5]
theorem check_eq33 (r : api_Rule) : relabel_Check r = some (ruleE r) := by
  unfold relabel_Check ruleE
  by_cases h : r.Kind < 1 ∨ 5 < r.Kind
  · rw [bifT (by simpa using h), if_pos h]
  rw [bifF (by rw [Bool.or_eq_false_iff, decide_eq_false_iff_not, decide_eq_false_iff_not]; omega), if_neg h, compile_g]
  cases hc : comp r.Glob with
  | inl x =>
    have := comp_no hc
    dsimp only [GC2]
    rw [bind_some, bifT (by simp [this])]
  | inr ps =>
    dsimp only [GC2]
    rw [bind_some, bifF (by simp)]
    have e1 : (bif decide (r.Key = []) then some true else (relabel_isKey r.Key).bind fun r44 => some r44 : Option Bool) = some (keyB r) := by
      unfold keyB
      by_cases k : r.Key = []
      · rw [bifTd k, decide_eq_true k]; rfl
      · rw [bifFd k, isKey_eq, bind_some, decide_eq_false k, Bool.false_or]
    rw [e1, bind_some, lett_eq]
    by_cases k4 : r.Kind = 4
    · rw [bifTd k4, rest4 k4]
      cases hk : (keyB r && !decide (r.Key = [])) with
      | false =>
        rw [cond_false, bind_some, lett_eq, bind_some, ← Bool.and_assoc, ← Bool.and_assoc, hk]; rfl
      | true =>
        rw [cond_true, isKey_eq, bind_some, bind_some, lett_eq, bind_some, ← Bool.and_assoc, ← Bool.and_assoc, hk, Bool.true_and]
        cases (nameOk r.To && decide (r.Val = [])) <;> rfl
    · rw [bifFd k4, lett_eq]
      by_cases k3 : r.Kind = 3
      · rw [bifTd k3, rest3 k3]
        cases keyB r with
        | false => rfl
        | true =>
          rw [cond_true, isKey_eq, bind_some, bind_some]
          cases nameOk r.To with
          | false => rfl
          | true =>
            rw [cond_true, isValueR_eq, bind_some, bind_some, bind_some]
            cases valueOk r.Val <;> rfl
      · rw [bifFd k3, lett_eq]
        by_cases k5 : r.Kind = 5
        · rw [bifTd k5, lett_eq, bind_some, rest5 k5]
          unfold keyB
          by_cases a : r.Key = [] <;> by_cases b : r.To = [] <;> by_cases c : r.Val = [] <;> simp [a, b, c]
        · rw [bifFd k5, lett_eq, bind_some, rest0 k4 k3 k5, ← Bool.and_assoc]
          cases (keyB r && decide (r.To = []) && decide (r.Val = [])) <;> rfl
/-- a rule with its pattern -/
def mkR (r : api_Rule) : relabel_rule := ⟨r, (GC2 r.Glob (comp r.Glob)).1⟩
/-- the first rule that is not right -/
def badR : List api_Rule → Nat → Option (Nat × Int)
  | [], _ => none
  | r :: rs, i => if ruleE r ≠ 0 then some (i, ruleE r) else badR rs (i + 1)
def compR (l : List api_Rule) : Option relabel_Rules × Int × Int :=
  if 64 < l.length then (none, 64, 4) else match badR l 0 with
  | some x => (none, (x.1 : Int), x.2)
  | none => (some ⟨l.map mkR⟩, 0, 0)
def badF (acc : List relabel_rule) : Option (Nat × Int) → Flow (List relabel_rule) (Option relabel_Rules × Int × Int)
  | some x => .out (none, (x.1 : Int), x.2)
  | none => .go acc
theorem compR_loop {l : List api_Rule} (hl : l.length ≤ 64) : ∀ (m i : Nat), i + m = l.length → loop (relabel_Compile_lp1 l) ((l.take i).map mkR, (i : Int)) = some (badF (l.map mkR) (badR (l.drop i) i)) := by
  intro m
  induction m with
  | zero =>
    intro i hi
    rw [List.drop_eq_nil_of_le (by omega), List.take_of_length_le (by omega)]
    refine loop_brk ?_
    unfold relabel_Compile_lp1
    dsimp only
    rw [bifFd (by omega)]
  | succ m ih =>
    intro i hi
    have hlt : i < l.length := by omega
    rw [List.drop_eq_getElem_cons hlt]
    unfold badR
    by_cases e : ruleE l[i] = 0
    · have hst : relabel_Compile_lp1 l ((l.take i).map mkR, (i : Int)) = some (.next ((l.take (i + 1)).map mkR, ((i + 1 : Nat) : Int))) := by
        unfold relabel_Compile_lp1
        dsimp only
        rw [bifTd (by omega), idx_nat hlt, bind_some, check_eq33, bind_some, bifF (by simp [e]), compile_g, bind_some]
        rw [app_ok (by simp; omega), bind_some, w64_succ (by omega), List.take_succ_eq_append_getElem hlt, List.map_append]
        rfl
      rw [loop_next hst, if_neg (fun h => h e), ih (i + 1) (by omega)]
    · rw [if_pos e]
      refine loop_out ?_
      unfold relabel_Compile_lp1
      dsimp only
      rw [bifTd (by omega), idx_nat hlt, bind_some, check_eq33, bind_some, bifT (by simp [e])]
      rfl
theorem compR_eq (l : List api_Rule) : relabel_Compile l = some (compR l) := by
  unfold relabel_Compile compR
  by_cases h : 64 < l.length
  · rw [bifTd (by omega), if_pos h]
  · have := compR_loop (l := l) (by omega) l.length 0 (by omega)
    rw [List.take_zero, List.drop_zero, List.map_nil] at this
    rw [bifFd (by omega), if_neg h, show (0 : Int) = ((0 : Nat) : Int) from rfl, this]
    cases badR l 0 <;> rfl
theorem badR_none {l : List api_Rule} : ∀ {i : Nat}, badR l i = none → ∀ r ∈ l, ruleE r = 0 := by
  induction l with
  | nil => intro i _ r hr; cases hr
  | cons x xs ih =>
    intro i h r hr
    unfold badR at h
    split at h
    · cases h
    · rename_i e
      rcases List.mem_cons.1 hr with rfl | hr
      · exact Classical.not_not.1 e
      · exact ih h r hr
theorem badR_of {l : List api_Rule} : ∀ {i : Nat}, (∀ r ∈ l, ruleE r = 0) → badR l i = none := by
  induction l with
  | nil => intro i _; rfl
  | cons x xs ih =>
    intro i h
    unfold badR
    rw [if_neg (fun e => e (h x (by simp)))]
    exact ih fun r hr => h r (by simp [hr])
theorem badR_err {l : List api_Rule} : ∀ {i : Nat} {x : Nat × Int}, badR l i = some x → x.2 ≠ 0 := by
  induction l with
  | nil => intro i x h; cases h
  | cons y ys ih =>
    intro i x h
    unfold badR at h
    split at h
    · rename_i e; cases h; exact e
    · exact ih h
/-- what a right rule is -/
structure GoodR (r : api_Rule) : Prop where
  k : 1 ≤ r.Kind ∧ r.Kind ≤ 5
  c : ∃ ps, comp r.Glob = .inr ps
  n : r.Key = [] ∨ nameOk r.Key = true
  k4 : r.Kind = 4 → r.Key ≠ [] ∧ nameOk r.To = true
  k3 : r.Kind = 3 → nameOk r.To = true ∧ valueOk r.Val = true
theorem goodR {r : api_Rule} (h : ruleE r = 0) : GoodR r := by
  unfold ruleE at h
  split at h
  · cases h
  · rename_i hk
    split at h
    · rename_i x hx
      exact absurd h (comp_no hx)
    · rename_i ps hp
      split at h
      · rename_i g
        rw [Bool.and_eq_true] at g
        refine ⟨by omega, ⟨ps, hp⟩, by simpa [keyB] using g.1, fun e => ?_, fun e => ?_⟩
        · have := g.2
          rw [rest4 e] at this
          simp only [Bool.and_eq_true, Bool.not_eq_true', decide_eq_false_iff_not] at this
          exact this.1
        · have := g.2
          rw [rest3 e] at this
          simpa using this
      · cases h
end Go.Lg
namespace Go.Lg
attribute [local irreducible] w64 toU64 toU8 shlU shrU shlB shrB spanS
/-- an attribute's value -/
def getA (l : List api_Pair) (k : List UInt8) : Option (List UInt8) := (l.find? fun a => decide (a.Key = k)).map (·.Val)
/-- does a rule's pattern match -/
def mG (r : api_Rule) (s : List UInt8) : Bool := match comp r.Glob with
  | .inl _ => false
  | .inr ps => mt (ps.map pcOf) s
def looked (r : api_Rule) (n : List UInt8) (l : List api_Pair) : Option (List UInt8) := if r.Key = [] then some n else getA l r.Key
def holdsE (r : api_Rule) (n : List UInt8) (l : List api_Pair) : Bool := mG r ((looked r n l).getD [])
/-- what a rule makes of attributes; none: the point is let go -/
def turnE (r : api_Rule) (n : List UInt8) (l : List api_Pair) : Option (List api_Pair) :=
  if r.Kind = 1 then (if holdsE r n l = true then some l else none)
  else if r.Kind = 2 then (if holdsE r n l = true then none else some l)
  else if r.Kind = 3 then (if holdsE r n l = true then some (woA l r.To ++ [⟨r.To, r.Val⟩]) else some l)
  else if r.Kind = 4 then (match getA l r.Key with
    | some v => if holdsE r n l = true then some (woA (woA l r.Key) r.To ++ [⟨r.To, v⟩]) else some l
    | none => some l)
  else some (l.filter fun a => !mG r a.Key)
/-- texts that are not too long -/
structure Sh (n : List UInt8) (l : List api_Pair) : Prop where
  n : n.length ≤ 1000
  kv : ∀ a ∈ l, a.Key.length ≤ 1000 ∧ a.Val.length ≤ 1000
theorem getA_idx {l : List api_Pair} {k : List UInt8} : getA l k = (l.findIdx? fun a => decide (a.Key = k)).bind fun i => l[i]?.map (·.Val) := by
  unfold getA
  induction l with
  | nil => rfl
  | cons a l ih =>
    rw [List.find?_cons, List.findIdx?_cons]
    cases h : decide (a.Key = k) with
    | true => rfl
    | false =>
      rw [if_neg (by simp)]
      simp only
      rw [ih]
      cases (l.findIdx? fun a => decide (a.Key = k)) <;> rfl
theorem getA_mem {l : List api_Pair} {k v : List UInt8} (h : getA l k = some v) : ∃ a ∈ l, a.Key = k ∧ a.Val = v := by
  unfold getA at h
  obtain ⟨a, h1, h2⟩ := Option.map_eq_some_iff.1 h
  have h3 := List.find?_some h1
  exact ⟨a, List.mem_of_find?_eq_some h1, by simpa using h3, h2⟩
section
variable {r : api_Rule} {n : List UInt8} {l : List api_Pair} {p : api_Point}
theorem match_mG (g : GoodR r) {s : List UInt8} (hs : s.length ≤ 1000) : ((mkR r).g).bind (fun d => (glob_Glob_Match d s).bind fun x => some x) = some (mG r s) := by
  obtain ⟨ps, hp⟩ := g.c
  have hl := comp_len hp
  unfold mkR mG
  rw [hp]
  dsimp only [GC2]
  rw [bind_some, gmatch_eq _ _ (by dsimp only; omega) hs, bind_some]
theorem rmatch_mG (g : GoodR r) {s : List UInt8} (hs : s.length ≤ 1000) : ref33_matches r s = some (mG r s) := by
  obtain ⟨ps, hp⟩ := g.c
  have hl := comp_len hp
  unfold ref33_matches mG
  rw [compile_r, bind_some, hp]
  dsimp only [RC2]
  rw [rmatch_eq _ _ (by omega) hs, bind_some]
theorem looked_len (sh : Sh n l) : ((looked r n l).getD []).length ≤ 1000 := by
  unfold looked
  split
  · exact sh.n
  · cases h : getA l r.Key with
    | none => exact Nat.zero_le _
    | some v =>
      obtain ⟨a, h1, _, h2⟩ := getA_mem h
      rw [← h2]; exact (sh.kv a h1).2
theorem holds_eq (g : GoodR r) (sh : Sh p.Name p.Attrs) (hl : p.Attrs.length ≤ 1000) : relabel_rule_holds (mkR r) p = some (holdsE r p.Name p.Attrs) := by
  unfold relabel_rule_holds
  have e : (bif (!decide ((mkR r).Rule.Key = [])) then
      (relabel_find p.Attrs (mkR r).Rule.Key).bind fun r49 =>
      bif decide (0 ≤ r49) then
      (idx p.Attrs r49).bind fun e60 =>
      some e60.Val
      else
      some []
      else
      some p.Name : Option (List UInt8)) = some ((looked r p.Name p.Attrs).getD []) := by
    unfold looked mkR
    dsimp only
    by_cases k : r.Key = []
    · rw [bifF (by simp [k]), if_pos k]; rfl
    · rw [bifT (by simp [k]), if_neg k, find_eq (by omega), bind_some, getA_idx]
      cases h : p.Attrs.findIdx? fun a => decide (a.Key = r.Key) with
      | none => rw [show idxI none = -1 from rfl, bifFd (by omega)]; rfl
      | some i =>
        have hi := (List.findIdx?_eq_some_iff_getElem.1 h).1
        rw [show idxI (some i) = (i : Int) from rfl, bifTd (by omega), idx_nat hi, bind_some, Option.bind_some, List.getElem?_eq_getElem hi]; rfl
  rw [e, bind_some]
  unfold holdsE
  exact match_mG g (looked_len sh)
theorem woA_len (k : List UInt8) : (woA l k).length ≤ l.length := List.length_filter_le _ _
theorem turn_eq (g : GoodR r) (sh : Sh p.Name p.Attrs) (hl : p.Attrs.length ≤ 900) :
    relabel_rule_turn (mkR r) p = some (match turnE r p.Name p.Attrs with | none => (false, p) | some l => (true, { p with Attrs := l })) := by
  unfold relabel_rule_turn turnE
  rw [holds_eq g sh (by omega), bind_some, lett_eq]
  have eR : (mkR r).Rule = r := rfl
  rw [eR]
  by_cases k1 : r.Kind = 1
  · rw [bifTd k1, if_pos k1]
    cases holdsE r p.Name p.Attrs <;> rfl
  rw [bifFd k1, if_neg k1, lett_eq]
  by_cases k2 : r.Kind = 2
  · rw [bifTd k2, if_pos k2, lett_eq]
    cases holdsE r p.Name p.Attrs <;> rfl
  rw [bifFd k2, if_neg k2, lett_eq]
  by_cases k3 : r.Kind = 3
  · rw [bifTd k3, if_pos k3]
    cases holdsE r p.Name p.Attrs with
    | false => rfl
    | true =>
      rw [cond_true, without_eq (by omega), bind_some, bind_some]
      dsimp only
      have := woA_len (l := p.Attrs) r.To
      rw [app_ok (by simp; omega), bind_some]; rfl
  rw [bifFd k3, if_neg k3, lett_eq]
  by_cases k4 : r.Kind = 4
  · rw [bifTd k4, if_pos k4, find_eq (by omega), bind_some, getA_idx]
    cases h : p.Attrs.findIdx? fun a => decide (a.Key = r.Key) with
    | none => rw [show idxI none = -1 from rfl, bifF (by simp)]; rfl
    | some i =>
      have hi := (List.findIdx?_eq_some_iff_getElem.1 h).1
      rw [show idxI (some i) = (i : Int) from rfl, Option.bind_some, List.getElem?_eq_getElem hi]
      dsimp only [Option.map_some]
      cases holdsE r p.Name p.Attrs with
      | false => rw [bifF (by simp)]; rfl
      | true =>
        have h1 := woA_len (l := p.Attrs) r.Key
        have h2 := woA_len (l := woA p.Attrs r.Key) r.To
        rw [bifT (by simp), idx_nat hi, bind_some, without_eq (by omega), bind_some, without_eq (by omega), bind_some, bind_some]
        dsimp only
        rw [bind_some]
        dsimp only
        rw [app_ok (by simp; omega), bind_some]; rfl
  rw [bifFd k4, if_neg k4, lett_eq]
  have k5 : r.Kind = 5 := by have := g.k; omega
  rw [bifTd k5, cloneP_eq (by omega), bind_some]
  have := del_eq (fi := relabel_rule_turn_lp1 (mkR r) p.Attrs) (f := relabel_rule_turn_lp2 (mkR r)) (l := p.Attrs) (fun a => mG r a.Key) (by omega) ?_ ?_ ?_
  · rw [this, bind_some]
  · refine find_loop (l := p.Attrs) (fun a => mG r a.Key) (by omega) (fun i h => ?_) ?_
    · have := match_mG g (sh.kv _ (List.getElem_mem h)).1
      unfold relabel_rule_turn_lp1
      rw [bifTd (by omega), idx_nat h, bind_some, this, bind_some]
      cases hm : mG r p.Attrs[i].Key <;> simp [hm]
      rfl
    · unfold relabel_rule_turn_lp1
      rw [bifFd (by omega)]
  · intro s i j h hij hn hm
    have hg := match_mG g (sh.kv _ hm).1
    unfold relabel_rule_turn_lp2
    dsimp only
    rw [bifTd (by omega), idx_nat h, bind_some, hg, bind_some]
    cases mG r s[j].Key with
    | true =>
      rw [bifF (c := !true) rfl, bind_some]
      dsimp only
      rw [lett_eq, w64_succ (by omega), if_pos rfl]
    | false =>
      rw [bifT (c := !false) rfl, idx_nat (by omega), bind_some, setI_nat (by omega), bind_some, lett_eq, bind_some]
      dsimp only
      rw [lett_eq, w64_succ (by omega), w64_succ (by omega), if_neg (by simp)]
  · intro s i hn
    unfold relabel_rule_turn_lp2
    dsimp only
    rw [bifFd (by omega)]
end
end Go.Lg
namespace Go.Lg
attribute [local irreducible] w64 toU64 toU8 shlU shrU shlB shrB spanS
/-- attributes that are right but for how many they are -/
structure GA (l : List api_Pair) : Prop where
  g : ∀ a ∈ l, nameOk a.Key = true ∧ valueOk a.Val = true
  u : (l.map (·.Key)).Nodup
theorem nameOk_le {s : List UInt8} (h : nameOk s = true) : s.length ≤ 32 ∧ s ≠ [] := by
  unfold nameOk at h
  simp only [Bool.and_eq_true, decide_eq_true_eq] at h
  exact ⟨h.1.1.2, fun e => by rw [e] at h; simp at h⟩
theorem valueOk_le {s : List UInt8} (h : valueOk s = true) : s.length ≤ 32 := by
  unfold valueOk at h
  simp only [Bool.and_eq_true, decide_eq_true_eq] at h
  exact h.1.2
section
variable {r : api_Rule} {n : List UInt8} {l l' : List api_Pair} {p : api_Point}
theorem GA.sh (h : GA l) (hn : n.length ≤ 1000) : Sh n l := ⟨hn, fun a ha => by
  have h1 := nameOk_le (h.g a ha).1
  have h2 := valueOk_le (h.g a ha).2
  omega⟩
theorem GA.filter (h : GA l) (d : api_Pair → Bool) : GA (l.filter d) :=
  ⟨fun a ha => h.g a (List.mem_filter.1 ha).1, List.Sublist.nodup (List.Sublist.map _ List.filter_sublist) h.u⟩
theorem GA.put (h : GA l) {k v : List UInt8} (hk : nameOk k = true) (hv : valueOk v = true) : GA (woA l k ++ [⟨k, v⟩]) := by
  have h1 := h.filter (fun a => !decide (a.Key = k))
  refine ⟨fun a ha => ?_, ?_⟩
  · rcases List.mem_append.1 ha with ha | ha
    · exact h1.g a ha
    · rw [List.mem_singleton] at ha; subst ha; exact ⟨hk, hv⟩
  · rw [List.map_append, List.nodup_append]
    refine ⟨h1.u, by simp, ?_⟩
    intro a ha b hb
    obtain ⟨x, hx, rfl⟩ := List.mem_map.1 ha
    simp only [List.map_cons, List.map_nil, List.mem_singleton] at hb
    subst hb
    have := (List.mem_filter.1 hx).2
    simpa using this
theorem GA.turn (h : GA l) (g : GoodR r) (ht : turnE r n l = some l') : GA l' ∧ l'.length ≤ l.length + 1 := by
  unfold turnE at ht
  split at ht
  · split at ht
    · cases ht; exact ⟨h, by omega⟩
    · cases ht
  · split at ht
    · split at ht
      · cases ht
      · cases ht; exact ⟨h, by omega⟩
    · split at ht
      · rename_i k3
        split at ht
        · cases ht
          have := woA_len (l := l) r.To
          exact ⟨h.put (g.k3 k3).1 (g.k3 k3).2, by simp; omega⟩
        · cases ht; exact ⟨h, by omega⟩
      · split at ht
        · rename_i k4
          split at ht
          · rename_i v hv
            split at ht
            · cases ht
              have h1 := woA_len (l := l) r.Key
              have h2 := woA_len (l := woA l r.Key) r.To
              obtain ⟨a, ha, _, hav⟩ := getA_mem hv
              refine ⟨GA.put (h.filter _) (g.k4 k4).2 (by rw [← hav]; exact (h.g a ha).2), by simp; omega⟩
            · cases ht; exact ⟨h, by omega⟩
          · cases ht; exact ⟨h, by omega⟩
        · cases ht
          exact ⟨h.filter _, by have := List.length_filter_le (fun a => !mG r a.Key) l; omega⟩
end
/-- rules one behind the other: the place of that by which the point is let go, or the attributes -/
def thruE (n : List UInt8) : List api_Rule → Nat → List api_Pair → Nat ⊕ List api_Pair
  | [], _, l => .inr l
  | r :: rs, i, l => match turnE r n l with
    | none => .inl i
    | some l' => thruE n rs (i + 1) l'
abbrev St17 := List UInt8 × List api_Pair × Int × Int × Bool × Int × Int × Int × UInt64 × UInt64 × Int × UInt64 × Int × List UInt64 × Int × List UInt64 × Int
abbrev st17 (q : api_Point) : St17 := (q.Name, q.Attrs, q.Kind, q.Temp, q.Mono, q.Start, q.Time, q.Int_, q.Re, q.Im, q.Hist.Scale, q.Hist.Zero, q.Hist.Pos.Offset, q.Hist.Pos.Counts, q.Hist.Neg.Offset, q.Hist.Neg.Counts, q.Flags)
abbrev st18 (q : api_Point) (i : Int) := (q.Name, q.Attrs, q.Kind, q.Temp, q.Mono, q.Start, q.Time, q.Int_, q.Re, q.Im, q.Hist.Scale, q.Hist.Zero, q.Hist.Pos.Offset, q.Hist.Pos.Counts, q.Hist.Neg.Offset, q.Hist.Neg.Counts, q.Flags, i)
def thruF (p q' : api_Point) : Nat ⊕ List api_Pair → Flow St17 (Int × api_Point)
  | .inl k => .out ((k : Int), q')
  | .inr l => .go (st17 { p with Attrs := l })
theorem run_loop {rs : List api_Rule} (gr : ∀ r ∈ rs, GoodR r) (hr : rs.length ≤ 100) : ∀ (m i : Nat) (q : api_Point), i + m = rs.length → GA q.Attrs → q.Name.length ≤ 1000 → q.Attrs.length ≤ 200 + i →
    ∃ q', loop (relabel_Rules_run_lp1 ⟨rs.map mkR⟩) (st18 q (i : Int)) = some (thruF q q' (thruE q.Name (rs.drop i) i q.Attrs)) := by
  intro m
  induction m with
  | zero =>
    intro i q hi _ _ _
    refine ⟨q, ?_⟩
    rw [List.drop_eq_nil_of_le (by omega)]
    refine loop_brk ?_
    unfold relabel_Rules_run_lp1
    dsimp only
    rw [bifFd (by rw [List.length_map]; omega)]
  | succ m ih =>
    intro i q hi hg hn hl
    have hlt : i < rs.length := by omega
    have hgr := gr _ (List.getElem_mem hlt)
    have ht := turn_eq hgr (hg.sh hn) (p := q) (by omega)
    rw [List.drop_eq_getElem_cons hlt]
    unfold thruE
    have hx : idx (rs.map mkR) (i : Int) = some (mkR rs[i]) := by rw [idx_nat (by rw [List.length_map]; exact hlt), List.getElem_map]
    cases hE : turnE rs[i] q.Name q.Attrs with
    | none =>
      rw [hE] at ht
      refine ⟨q, loop_out ?_⟩
      unfold relabel_Rules_run_lp1
      dsimp only
      rw [bifTd (by rw [List.length_map]; omega), hx, bind_some]
      show (relabel_rule_turn (mkR rs[i]) q).bind _ = _
      rw [ht, bind_some]; rfl
    | some l' =>
      rw [hE] at ht
      obtain ⟨g1, g2⟩ := hg.turn hgr hE
      obtain ⟨q', hq⟩ := ih (i + 1) { q with Attrs := l' } (by omega) g1 hn (by dsimp only; omega)
      refine ⟨q', ?_⟩
      have hst : relabel_Rules_run_lp1 ⟨rs.map mkR⟩ (st18 q (i : Int)) = some (.next (st18 { q with Attrs := l' } ((i + 1 : Nat) : Int))) := by
        unfold relabel_Rules_run_lp1
        dsimp only
        rw [bifTd (by rw [List.length_map]; omega), hx, bind_some]
        show (relabel_rule_turn (mkR rs[i]) q).bind _ = _
        rw [ht, bind_some]
        dsimp only
        rw [bifF (c := !true) rfl, w64_succ (by omega)]
      rw [loop_next hst, hq]
      dsimp only
      cases thruE q.Name (rs.drop (i + 1)) (i + 1) l' <;> rfl
def runO (p q' : api_Point) : Nat ⊕ List api_Pair → Int × api_Point
  | .inl k => ((k : Int), q')
  | .inr l => (-1, { p with Attrs := l })
theorem run_eq {rs : List api_Rule} (gr : ∀ r ∈ rs, GoodR r) (hr : rs.length ≤ 100) {p : api_Point} (hg : GA p.Attrs) (hn : p.Name.length ≤ 1000) (hl : p.Attrs.length ≤ 200) :
    ∃ q', relabel_Rules_run ⟨rs.map mkR⟩ p = some (runO p q' (thruE p.Name rs 0 p.Attrs)) := by
  obtain ⟨q', h⟩ := run_loop gr hr rs.length 0 p (by omega) hg hn (by omega)
  refine ⟨q', ?_⟩
  unfold relabel_Rules_run
  rw [List.drop_zero] at h
  have h' : loop (relabel_Rules_run_lp1 ⟨rs.map mkR⟩) (st18 p 0) = _ := h
  rw [h']
  cases thruE p.Name rs 0 p.Attrs <;> rfl
/-! ### the document's -/
theorem rget_eq {l : List api_Pair} {k : List UInt8} (hl : l.length ≤ 100000) : ref33_get l k = some (match getA l k with | some v => (v, true) | none => ([], false)) := by
  have key : ∀ (m i : Nat), i + m = l.length → loop (ref33_get_lp1 l k) (i : Int) = some (match getA (l.drop i) k with | some v => .out (v, true) | none => .go ()) := by
    intro m
    induction m with
    | zero =>
      intro i hi
      rw [List.drop_eq_nil_of_le (by omega)]
      refine loop_brk ?_
      unfold ref33_get_lp1
      rw [bifFd (by omega)]
    | succ m ih =>
      intro i hi
      have hlt : i < l.length := by omega
      rw [List.drop_eq_getElem_cons hlt]
      unfold getA
      rw [List.find?_cons]
      by_cases e : l[i].Key = k
      · rw [decide_eq_true e]
        refine loop_out ?_
        unfold ref33_get_lp1
        rw [bifTd (by omega), idx_nat hlt, bind_some, bifTd e, bind_some]; rfl
      · rw [decide_eq_false e]
        have hst : ref33_get_lp1 l k (i : Int) = some (.next ((i + 1 : Nat) : Int)) := by
          unfold ref33_get_lp1
          rw [bifTd (by omega), idx_nat hlt, bind_some, bifFd e, lett_eq, w64_succ (by omega)]
        rw [loop_next hst, ih (i + 1) (by omega)]
        rfl
  unfold ref33_get
  have := key l.length 0 (by omega)
  rw [List.drop_zero] at this
  rw [show (0 : Int) = ((0 : Nat) : Int) from rfl, this]
  cases getA l k <;> rfl
theorem filter_loop {f : List api_Pair × Int → Option (Rnd (List api_Pair × Int) (List api_Pair) (List api_Pair))} {l : List api_Pair} (d : api_Pair → Bool) (hl : l.length ≤ 100000)
    (hs : ∀ (i : Nat) (h : i < l.length) (out : List api_Pair), out.length ≤ i → f (out, (i : Int)) = some (.next (out ++ (if d l[i] = true then [l[i]] else []), ((i + 1 : Nat) : Int)))) (he : ∀ out, f (out, (l.length : Int)) = some (.brk out)) :
    loop f ([], 0) = some (.go (l.filter d)) := by
  have key : ∀ (m i : Nat), i + m = l.length → loop f ((l.take i).filter d, (i : Int)) = some (.go (l.filter d)) := by
    intro m
    induction m with
    | zero =>
      intro i hi
      have : i = l.length := by omega
      subst this
      rw [loop_brk (he _), List.take_of_length_le (Nat.le_refl _)]
    | succ m ih =>
      intro i hi
      have hlt : i < l.length := by omega
      have hle : ((l.take i).filter d).length ≤ i := by
        have := List.length_filter_le d (l.take i)
        rw [List.length_take] at this; omega
      have hst := hs i hlt _ hle
      have e : (l.take i).filter d ++ (if d l[i] = true then [l[i]] else []) = (l.take (i + 1)).filter d := by
        rw [List.take_succ_eq_append_getElem hlt, List.filter_append]
        congr 1
        by_cases h : d l[i] = true <;> simp [h]
      rw [e] at hst
      rw [loop_next hst, ih (i + 1) (by omega)]
  exact key l.length 0 (by omega)
theorem rwithout_eq {l : List api_Pair} {k : List UInt8} (hl : l.length ≤ 100000) : ref33_without l k = some (woA l k) := by
  unfold ref33_without
  rw [filter_loop (l := l) (fun a => !decide (a.Key = k)) hl (fun i h out ho => by
    unfold ref33_without_lp1
    dsimp only
    rw [bifTd (by omega), idx_nat h, bind_some]
    by_cases e : l[i].Key = k
    · rw [bifF (by simp [e]), bind_some, lett_eq, w64_succ (by omega), if_neg (by simp [e]), List.append_nil]
    · rw [bifT (by simp [e]), bind_some, app_ok (by simp; omega), bind_some, bind_some, lett_eq, w64_succ (by omega), if_pos (by simp [e])]) (fun out => by
    unfold ref33_without_lp1
    dsimp only
    rw [bifFd (by omega)])]
  rfl
def thruG : Nat ⊕ List api_Pair → Flow (List api_Pair) ref33_Through
  | .inl k => .out ⟨⟨[], [], 0, 0, false, 0, 0, 0, 0, 0, ⟨0, 0, ⟨0, []⟩, ⟨0, []⟩⟩, 0⟩, (k : Int)⟩
  | .inr l => .go l
theorem rgo_loop {rs : List api_Rule} (gr : ∀ r ∈ rs, GoodR r) (hr : rs.length ≤ 100) {p : api_Point} (hn : p.Name.length ≤ 1000) : ∀ (m i : Nat) (l : List api_Pair), i + m = rs.length → GA l → l.length ≤ 200 + i →
    loop (ref33_Go_lp1 rs p) (l, (i : Int)) = some (thruG (thruE p.Name (rs.drop i) i l)) := by
  intro m
  induction m with
  | zero =>
    intro i l hi _ _
    rw [List.drop_eq_nil_of_le (by omega)]
    refine loop_brk ?_
    unfold ref33_Go_lp1
    dsimp only
    rw [bifFd (by omega)]
  | succ m ih =>
    intro i l hi hg hl
    have hlt : i < rs.length := by omega
    have hgr := gr _ (List.getElem_mem hlt)
    have sh := hg.sh hn
    rw [List.drop_eq_getElem_cons hlt]
    unfold thruE
    have hstep : ref33_Go_lp1 rs p (l, (i : Int)) = some (match turnE rs[i] p.Name l with | none => .out ⟨⟨[], [], 0, 0, false, 0, 0, 0, 0, 0, ⟨0, 0, ⟨0, []⟩, ⟨0, []⟩⟩, 0⟩, (i : Int)⟩ | some l' => .next (l', ((i + 1 : Nat) : Int))) := by
      unfold ref33_Go_lp1
      dsimp only
      rw [bifTd (by omega), idx_nat hlt, bind_some]
      generalize hR : rs[i] = r at hgr ⊢
      have e1 : (bif (!decide (r.Key = [])) then (ref33_get l r.Key).bind fun (r106, r107) => some (r106, r107) else some (p.Name, true) : Option (List UInt8 × Bool)) = some ((looked r p.Name l).getD [], (looked r p.Name l).isSome) := by
        unfold looked
        by_cases k : r.Key = []
        · rw [bifF (by simp [k]), if_pos k]; rfl
        · rw [bifT (by simp [k]), if_neg k, rget_eq (by omega), bind_some]
          cases getA l r.Key <;> rfl
      rw [e1, bind_some]
      dsimp only
      rw [rmatch_mG hgr (looked_len sh), bind_some, lett_eq]
      unfold turnE
      have eh : mG r ((looked r p.Name l).getD []) = holdsE r p.Name l := rfl
      rw [eh]
      by_cases k1 : r.Kind = 1
      · rw [bifTd k1, if_pos k1]
        cases holdsE r p.Name l with
        | true => rw [bifF (c := !true) rfl, flow_go, flow_go, lett_eq, w64_succ (by omega)]; rfl
        | false => rfl
      rw [bifFd k1, if_neg k1, lett_eq]
      by_cases k2 : r.Kind = 2
      · rw [bifTd k2, if_pos k2]
        cases holdsE r p.Name l with
        | false => rw [cond_false, flow_go, flow_go, lett_eq, w64_succ (by omega)]; rfl
        | true => rfl
      rw [bifFd k2, if_neg k2, lett_eq]
      by_cases k3 : r.Kind = 3
      · rw [bifTd k3, if_pos k3]
        cases holdsE r p.Name l with
        | false => rw [cond_false, flow_go, flow_go, lett_eq, w64_succ (by omega)]; rfl
        | true =>
          have := woA_len (l := l) r.To
          rw [cond_true, rwithout_eq (by omega), bind_some, bind_some]
          dsimp only
          rw [app_ok (by simp; omega), bind_some, flow_go, flow_go, lett_eq, w64_succ (by omega)]; rfl
      rw [bifFd k3, if_neg k3, lett_eq]
      by_cases k4 : r.Kind = 4
      · rw [bifTd k4, if_pos k4]
        have hk := (hgr.k4 k4).1
        have e2 : looked r p.Name l = getA l r.Key := by unfold looked; rw [if_neg hk]
        rw [e2]
        cases hq : getA l r.Key with
        | none => rw [bifF (by simp), flow_go, flow_go, lett_eq, w64_succ (by omega)]
        | some v =>
          dsimp only
          cases holdsE r p.Name l with
          | false => rw [bifF (by simp), flow_go, flow_go, lett_eq, w64_succ (by omega)]; rfl
          | true =>
            have h1 := woA_len (l := l) r.Key
            have h2 := woA_len (l := woA l r.Key) r.To
            rw [bifT (by simp), rwithout_eq (by omega), bind_some, rwithout_eq (by omega), bind_some, bind_some]
            dsimp only
            rw [bind_some]
            dsimp only
            rw [app_ok (by simp; omega), bind_some, flow_go, flow_go, lett_eq, w64_succ (by omega)]; rfl
      rw [bifFd k4, if_neg k4, lett_eq]
      have k5 : r.Kind = 5 := by have := hgr.k; omega
      rw [bifTd k5, filter_loop (f := ref33_Go_lp2 l r) (l := l) (fun a => !mG r a.Key) (by omega) (fun j h out ho => by
        unfold ref33_Go_lp2
        dsimp only
        rw [bifTd (by omega), idx_nat h, bind_some, rmatch_mG hgr (sh.kv _ (List.getElem_mem h)).1, bind_some]
        cases mG r l[j].Key with
        | true => rw [bifF (c := !true) rfl, bind_some, lett_eq, w64_succ (by omega), if_neg (by simp), List.append_nil]
        | false => rw [bifT (c := !false) rfl, bind_some, app_ok (by simp; omega), bind_some, bind_some, lett_eq, w64_succ (by omega), if_pos (by simp)]) (fun out => by
        unfold ref33_Go_lp2
        dsimp only
        rw [bifFd (by omega)]), flow_go, bind_some, flow_go, flow_go, lett_eq, w64_succ (by omega)]
    cases hE : turnE rs[i] p.Name l with
    | none =>
      rw [hE] at hstep
      rw [loop_out hstep]; rfl
    | some l' =>
      rw [hE] at hstep
      obtain ⟨g1, g2⟩ := hg.turn hgr hE
      rw [loop_next hstep, ih (i + 1) l' (by omega) g1 (by omega)]
def goO (p : api_Point) : Nat ⊕ List api_Pair → ref33_Through
  | .inl k => ⟨⟨[], [], 0, 0, false, 0, 0, 0, 0, 0, ⟨0, 0, ⟨0, []⟩, ⟨0, []⟩⟩, 0⟩, (k : Int)⟩
  | .inr l => ⟨{ p with Attrs := l }, -1⟩
theorem rgo_eq {rs : List api_Rule} (gr : ∀ r ∈ rs, GoodR r) (hr : rs.length ≤ 100) {p : api_Point} (hg : GA p.Attrs) (hn : p.Name.length ≤ 1000) (hl : p.Attrs.length ≤ 200) :
    ref33_Go rs p = some (goO p (thruE p.Name rs 0 p.Attrs)) := by
  unfold ref33_Go
  have := rgo_loop gr hr hn rs.length 0 p.Attrs (by omega) hg (by omega)
  rw [List.drop_zero] at this
  rw [show (0 : Int) = ((0 : Nat) : Int) from rfl, this]
  cases thruE p.Name rs 0 p.Attrs <;> rfl
end Go.Lg
namespace Go.Lg
attribute [local irreducible] w64 toU64 toU8 shlU shrU shlB shrB spanS
theorem ga_of {n : List UInt8} {l : List api_Pair} (h : labelE n l = 0) : GA l := by
  unfold labelE at h
  split at h
  · cases h
  · split at h
    · cases h
    · have h3 := (firstE_none _ _).1 (firstE_pair h)
      have key : ∀ (j : Nat) (hj : j < l.length), (nameOk l[j].Key = true ∧ valueOk l[j].Val = true) ∧ ∀ k (hk : k < j), (l[k]'(by omega)).Key ≠ l[j].Key := by
        intro j hj
        have h4 := h3 j (Nat.zero_le _) (by omega)
        unfold pairE at h4
        have hg : ∀ k (hk : k < l.length), l.getD k P0 = l[k] := fun k hk => by simp [List.getD, hk]
        rw [hg j hj] at h4
        split at h4
        · rename_i h5
          split at h4
          · cases h4
          · rename_i h6
            simp only [Bool.and_eq_true] at h5
            refine ⟨h5, fun k hk e => h6 ?_⟩
            unfold dupB
            rw [decide_eq_true_eq]
            exact ⟨k, hk, by rw [hg k (by omega), hg j hj]; exact e⟩
        · cases h4
      refine ⟨fun a ha => ?_, ?_⟩
      · obtain ⟨j, hj, rfl⟩ := List.getElem_of_mem ha
        exact (key j hj).1
      · unfold List.Nodup
        rw [List.pairwise_iff_getElem]
        intro i j hi hj hij
        rw [List.length_map] at hi hj
        rw [List.getElem_map, List.getElem_map]
        exact (key j hj).2 i hij
/-- what Apply answers -/
def applyE (rs : List api_Rule) (p : api_Point) : api_Point × Bool × Int :=
  if chkE p ≠ 0 then (Pt0, false, chkE p) else match thruE p.Name rs 0 p.Attrs with
  | .inl _ => (Pt0, false, 0)
  | .inr l => if chkE { p with Attrs := l } ≠ 0 then (Pt0, false, chkE { p with Attrs := l }) else ({ p with Attrs := srt l }, true, 0)
def stopE (rs : List api_Rule) (p : api_Point) : Int :=
  if chkE p ≠ 0 then -1 else match thruE p.Name rs 0 p.Attrs with
  | .inl k => (k : Int)
  | .inr _ => -1
theorem chk_ga {p : api_Point} (h : chkE p = 0) : GA p.Attrs ∧ p.Name.length ≤ 32 ∧ p.Attrs.length ≤ 4 :=
  have h1 := chk_label h
  have h2 := label_lens h1
  ⟨ga_of h1, h2.1, h2.2.1⟩
section
variable {rs : List api_Rule} (gr : ∀ r ∈ rs, GoodR r) (hr : rs.length ≤ 100) {p : api_Point} (o : OkH p.Hist)
include gr hr o
theorem apply_eq : relabel_Rules_Apply ⟨rs.map mkR⟩ p = some (applyE rs p) := by
  unfold relabel_Rules_Apply applyE
  rw [chk_eq o, bind_some]
  by_cases hc : chkE p = 0
  case neg => rw [bifT (by simp [hc]), if_pos hc]; rfl
  obtain ⟨g, hn, hl⟩ := chk_ga hc
  rw [bifF (by simp [hc]), if_neg (fun e => e hc), clone_p (by omega) o, bind_some]
  obtain ⟨q', hq⟩ := run_eq gr hr g (by omega) (by omega)
  rw [hq, bind_some]
  cases ht : thruE p.Name rs 0 p.Attrs with
  | inl k => dsimp only [runO]; rw [bifTd (by omega)]; rfl
  | inr l =>
    dsimp only [runO]
    rw [bifFd (by omega), chk_eq (p := { p with Attrs := l }) o, bind_some]
    by_cases hc2 : chkE { p with Attrs := l } = 0
    case neg => rw [bifT (by simp [hc2]), if_pos hc2]; rfl
    obtain ⟨g2, hn2, hl2⟩ := chk_ga hc2
    rw [bifF (by simp [hc2]), if_neg (fun e => e hc2), sorted_eq l (by dsimp only at hl2; omega), bind_some]
theorem stop_eq : relabel_Rules_Stop ⟨rs.map mkR⟩ p = some (stopE rs p) := by
  unfold relabel_Rules_Stop stopE
  rw [chk_eq o, bind_some]
  by_cases hc : chkE p = 0
  case neg => rw [bifT (by simp [hc]), if_pos hc]
  obtain ⟨g, hn, hl⟩ := chk_ga hc
  rw [bifF (by simp [hc]), if_neg (fun e => e hc), clone_p (by omega) o, bind_some]
  obtain ⟨q', hq⟩ := run_eq gr hr g (by omega) (by omega)
  rw [hq, bind_some]
  cases ht : thruE p.Name rs 0 p.Attrs <;> rfl
theorem rapply_eq : ref33_Apply rs p = some ⟨(applyE rs p).1, (applyE rs p).2.1, (applyE rs p).2.2⟩ := by
  unfold ref33_Apply applyE
  rw [rchk_eq o, bind_some]
  by_cases hc : chkE p = 0
  case neg => rw [bifT (by simp [hc]), if_pos hc]; rfl
  obtain ⟨g, hn, hl⟩ := chk_ga hc
  rw [bifF (by simp [hc]), if_neg (fun e => e hc), rgo_eq gr hr g (by omega) (by omega), bind_some]
  cases ht : thruE p.Name rs 0 p.Attrs with
  | inl k => dsimp only [goO]; rw [bifT (by simp)]; rfl
  | inr l =>
    dsimp only [goO]
    rw [bifF (by simp), rchk_eq (p := { p with Attrs := l }) o, bind_some]
    by_cases hc2 : chkE { p with Attrs := l } = 0
    case neg => rw [bifT (by simp [hc2]), if_pos hc2]; rfl
    obtain ⟨g2, hn2, hl2⟩ := chk_ga hc2
    rw [bifF (by simp [hc2]), if_neg (fun e => e hc2), rsorted_eq l (by dsimp only at hl2; omega), bind_some]
omit gr hr in
theorem apply_pok (i : I64 p.Int_) : Pok (applyE rs p).1 := by
  unfold applyE
  split
  · exact Pt0_pok
  · split
    · exact Pt0_pok
    · split
      · exact Pt0_pok
      · rename_i l _ hc
        have hl := (chk_ga (Classical.not_not.1 hc)).2.2
        exact ⟨o, i, by rw [srt_length]; dsimp only at hl; omega⟩
end
/-! ### what the document tells -/
def R1 : api_Rule := ⟨2, [], [116, 109, 112, 46, 42], [], []⟩
def R2 : api_Rule := ⟨3, [], [42], [101, 110, 118], [112, 114, 111, 100]⟩
def R3 : api_Rule := ⟨1, [], [42], [], []⟩
def R4 : api_Rule := ⟨1, [], [91], [], []⟩
theorem comp_r1 : comp [116, 109, 112, 46, 42] = .inr [byteP 116, byteP 109, byteP 112, byteP 46, ⟨1, nilS, false, 0⟩] := rfl
theorem comp_r2 : comp [42] = .inr [⟨1, nilS, false, 0⟩] := rfl
theorem comp_r4 : comp [91] = .inl (0, 2) := rfl
theorem rule_r1 : ruleE R1 = 0 := by unfold ruleE R1; rw [if_neg (by decide), comp_r1]; rfl
theorem rule_r2 : ruleE R2 = 0 := by unfold ruleE R2; rw [if_neg (by decide), comp_r2]; decide
theorem rule_r3 : ruleE R3 = 0 := by unfold ruleE R3; rw [if_neg (by decide), comp_r2]; rfl
theorem rule_r4 : ruleE R4 = 2 := by unfold ruleE R4; rw [if_neg (by decide), comp_r4]
theorem comp_12 : compR [R1, R2] = (some ⟨[R1, R2].map mkR⟩, 0, 0) := by
  unfold compR
  rw [if_neg (by decide), badR_of (fun r hr => by
    rcases List.mem_cons.1 hr with rfl | hr
    · exact rule_r1
    · rw [List.mem_singleton] at hr; subst hr; exact rule_r2)]
theorem comp_34 : compR [R3, R4] = (none, 1, 2) := by
  unfold compR
  rw [if_neg (by decide)]
  have : badR [R3, R4] 0 = some (1, 2) := by
    unfold badR
    rw [if_neg (fun e => e rule_r3)]
    unfold badR
    rw [rule_r4, if_pos (by decide)]
  rw [this]; rfl
def gP (n : List UInt8) (l : List api_Pair) : api_Point := ⟨n, l, 3, 0, false, 0, 0, 0, 0, 0, ⟨0, 0, ⟨0, []⟩, ⟨0, []⟩⟩, 0⟩
theorem hold1 (n : List UInt8) (l : List api_Pair) : holdsE R1 n l = mt ([byteP 116, byteP 109, byteP 112, byteP 46, ⟨1, nilS, false, 0⟩].map pcOf) n := by
  unfold holdsE mG looked R1
  dsimp only
  rw [comp_r1, if_pos rfl]; rfl
theorem hold2 (n : List UInt8) (l : List api_Pair) : holdsE R2 n l = true := by
  unfold holdsE mG looked R2
  dsimp only
  rw [comp_r2, if_pos rfl]
  exact mt_rest _
theorem gP_ok (n : List UInt8) (l : List api_Pair) : OkH (gP n l).Hist := H0_good.ok
theorem awake33 : law33_awake = some true := by
  have gr : ∀ r ∈ [R1, R2], GoodR r := fun r hr => goodR (by
    rcases List.mem_cons.1 hr with rfl | hr
    · exact rule_r1
    · rw [List.mem_singleton] at hr; subst hr; exact rule_r2)
  have c1 : chkE (gP [97] []) = 0 := by decide +kernel
  have c2 : chkE (gP [97] [⟨[101, 110, 118], [112, 114, 111, 100]⟩]) = 0 := by decide +kernel
  have c3 : chkE (gP [116, 109, 112, 46, 97] []) = 0 := by decide +kernel
  have m1 : holdsE R1 [97] [] = false := by
    rw [hold1]
    simp [pcOf, byteP, mt_oc, inS_byte]
  have m2 : holdsE R1 [116, 109, 112, 46, 97] [] = true := by
    rw [hold1]
    simp [pcOf, byteP, mt_oc, mt_sc, mt_sn, mt_nil, inS_byte]
  have t1 : thruE [97] [R1, R2] 0 [] = .inr [⟨[101, 110, 118], [112, 114, 111, 100]⟩] := by
    have e1 : turnE R1 [97] [] = some [] := by unfold turnE; rw [m1]; rfl
    have e2 : turnE R2 [97] [] = some [⟨[101, 110, 118], [112, 114, 111, 100]⟩] := by unfold turnE; rw [hold2]; rfl
    unfold thruE
    rw [e1]
    dsimp only
    unfold thruE
    rw [e2]
    rfl
  have t2 : thruE [116, 109, 112, 46, 97] [R1, R2] 0 [] = .inl 0 := by
    have e1 : turnE R1 [116, 109, 112, 46, 97] [] = none := by unfold turnE; rw [m2]; rfl
    unfold thruE
    rw [e1]
  have a1 : applyE [R1, R2] (gP [97] []) = (gP [97] [⟨[101, 110, 118], [112, 114, 111, 100]⟩], true, 0) := by
    unfold applyE
    rw [if_neg (fun e => e c1)]
    have e : (gP [97] []).Name = [97] ∧ (gP [97] []).Attrs = [] := ⟨rfl, rfl⟩
    rw [e.1, e.2, t1]
    dsimp only
    rw [if_neg]
    · rfl
    · exact fun e => e c2
  have a2 : applyE [R1, R2] (gP [116, 109, 112, 46, 97] []) = (Pt0, false, 0) := by
    unfold applyE
    rw [if_neg (fun e => e c3)]
    have e : (gP [116, 109, 112, 46, 97] []).Name = [116, 109, 112, 46, 97] ∧ (gP [116, 109, 112, 46, 97] []).Attrs = [] := ⟨rfl, rfl⟩
    rw [e.1, e.2, t2]
  have s2 : stopE [R1, R2] (gP [116, 109, 112, 46, 97] []) = 0 := by
    unfold stopE
    rw [if_neg (fun e => e c3)]
    have e : (gP [116, 109, 112, 46, 97] []).Name = [116, 109, 112, 46, 97] ∧ (gP [116, 109, 112, 46, 97] []).Attrs = [] := ⟨rfl, rfl⟩
    rw [e.1, e.2, t2]; rfl
  have q1 := apply_eq gr (by decide) (gP_ok [97] [])
  have q2 := apply_eq gr (by decide) (gP_ok [116, 109, 112, 46, 97] [])
  have q3 := stop_eq gr (by decide) (gP_ok [116, 109, 112, 46, 97] [])
  rw [a1] at q1
  rw [a2] at q2
  rw [s2] at q3
  unfold gP at q1 q2 q3
  have e1 : relabel_Compile [(api_Rule.mk 2 [] [116, 109, 112, 46, 42] [] []), (api_Rule.mk 3 [] [42] [101, 110, 118] [112, 114, 111, 100])] = _ := compR_eq [R1, R2]
  have e2 : relabel_Compile [(api_Rule.mk 1 [] [42] [] []), (api_Rule.mk 1 [] [91] [] [])] = _ := compR_eq [R3, R4]
  rw [comp_12] at e1
  rw [comp_34] at e2
  unfold law33_awake
  rw [e1, e2, bind_some]
  dsimp only
  rw [bind_some]
  dsimp only
  rw [bind_some, bifF (by simp)]
  unfold relabel_Rules_Len
  rw [lett_eq, bind_some, bind_some, bifF (by simp), q1, bind_some]
  dsimp only
  rw [q2, bind_some]
  dsimp only
  rw [bifT (by simp), idx_0 (by simp), bind_some, bind_some, bifT (by simp), q3, bind_some, bind_some]
  rfl
end Go.Lg
namespace Go.Lg
attribute [local irreducible] w64 toU64 toU8 shlU shrU shlB shrB spanS
/-! ### attributes in another order -/
end Go.Lg
namespace Go.Lg
attribute [local irreducible] w64 toU64 toU8 shlU shrU shlB shrB spanS
theorem few_some (l : List api_Rule) : ∃ b, ref33_Few l = some b ∧ (b = true → l.length ≤ 70) := by
  unfold ref33_Few
  by_cases h : 70 < l.length
  · exact ⟨false, by rw [bifTd (by omega)], fun e => by cases e⟩
  · rw [bifFd (by omega), scan0 (n := l.length) (fun i => if 70 < (l.getD i ⟨0, [], [], [], []⟩).Glob.length ∨ 100 < (l.getD i ⟨0, [], [], [], []⟩).Key.length ∨ 100 < (l.getD i ⟨0, [], [], [], []⟩).To.length ∨ 100 < (l.getD i ⟨0, [], [], [], []⟩).Val.length then some false else none) (fun i hi => by
      unfold ref33_Few_lp1
      have hg : l.getD i ⟨0, [], [], [], []⟩ = l[i] := by simp [List.getD, hi]
      rw [hg, bifTd (by omega), idx_nat hi, bind_some, bind_some]
      generalize l[i] = r
      by_cases h1 : 70 < r.Glob.length
      · rw [bifTd (by omega), bind_some, cond_true, bind_some, cond_true, bind_some, bifT rfl, if_pos (.inl h1)]; rfl
      rw [bifFd (by omega), bind_some]
      by_cases h2 : 100 < r.Key.length
      · rw [bifTd (by omega), bind_some, cond_true, bind_some, bifT rfl, if_pos (.inr (.inl h2))]; rfl
      rw [bifFd (by omega), bind_some, bind_some]
      by_cases h3 : 100 < r.To.length
      · rw [bifTd (by omega), bind_some, bifT rfl, if_pos (.inr (.inr (.inl h3)))]; rfl
      rw [bifFd (by omega), bind_some, bind_some]
      by_cases h4 : 100 < r.Val.length
      · rw [bifTd (by omega), if_pos (.inr (.inr (.inr h4)))]; rfl
      rw [bifFd (by omega), if_neg (by omega), lett_eq, w64_succ (by omega)]; rfl) (by
      unfold ref33_Few_lp1
      rw [bifFd (by omega)]), flow_E]
    cases firstE (fun i => if 70 < (l.getD i ⟨0, [], [], [], []⟩).Glob.length ∨ 100 < (l.getD i ⟨0, [], [], [], []⟩).Key.length ∨ 100 < (l.getD i ⟨0, [], [], [], []⟩).To.length ∨ 100 < (l.getD i ⟨0, [], [], [], []⟩).Val.length then some false else none) l.length 0 with
    | none => exact ⟨true, rfl, fun _ => by omega⟩
    | some b => exact ⟨b, rfl, fun _ => by omega⟩
theorem compR_cases (l : List api_Rule) : (∃ at_ e, compR l = (none, at_, e) ∧ e ≠ 0) ∨ (compR l = (some ⟨l.map mkR⟩, 0, 0) ∧ l.length ≤ 64 ∧ ∀ r ∈ l, ruleE r = 0) := by
  unfold compR
  by_cases h : 64 < l.length
  · rw [if_pos h]; exact .inl ⟨64, 4, rfl, by decide⟩
  · rw [if_neg h]
    cases hb : badR l 0 with
    | some x => exact .inl ⟨_, _, rfl, badR_err hb⟩
    | none => exact .inr ⟨rfl, by omega, badR_none hb⟩
/-! ### RelabelChecks -/
/-! ### RelabelApplies -/
theorem relabelApplies (l : List api_Rule) (p : api_Point) (ip : IsP p) : law33_RelabelApplies l p = some true := by
  unfold law33_RelabelApplies
  obtain ⟨b, hb, hl⟩ := few_some l
  rw [awake33, bind_some, bifF (c := !true) rfl, hb, bind_some]
  cases b with
  | false => rw [bifT (c := !false) rfl, bind_some, bifT rfl]
  | true =>
    rw [bifF (c := !true) rfl, rlightP_eq, bind_some, bind_some]
    by_cases lp : lightP p = true
    case neg => rw [bifT (by simpa using lp)]
    have ok := (lightP_of lp).pok ip
    rw [bifF (by simp [lp]), compR_eq, bind_some]
    rcases compR_cases l with ⟨a, e, h, _⟩ | ⟨h, h64, hg⟩
    · rw [h]
      dsimp only
      rw [bifT (by rfl)]
    · rw [h]
      have gr : ∀ r ∈ l, GoodR r := fun r hr => goodR (hg r hr)
      have pk := apply_pok (rs := l) ok.o ok.i
      dsimp only
      rw [bifF (by rfl), bind_some, apply_eq gr (by omega) ok.o, bind_some]
      try dsimp only
      rw [rapply_eq gr (by omega) ok.o, bind_some]
      dsimp only
      have hsm := samePairs_self (applyE l p).1.Attrs (by have := pk.a; omega)
      rw [same_pok pk, bind_some, bifF (by simp), hsm, bind_some, bind_some, bifF (c := !true) rfl, rchk_eq ok.o, bind_some]
      have hst : (bif decide (chkE p = 0) then (ref33_Go l p).bind fun r330 => some r330.Stop else some (-1) : Option Int) = some (stopE l p) := by
        unfold stopE
        by_cases hc : chkE p = 0
        · obtain ⟨g, hn, hla⟩ := chk_ga hc
          rw [bifTd hc, if_neg (fun e => e hc), rgo_eq gr (by omega) g (by omega) (by omega), bind_some]
          cases thruE p.Name l 0 p.Attrs <;> rfl
        · rw [bifFd hc, if_pos hc]
      rw [hst, bind_some, stop_eq gr (by omega) ok.o, bind_some, lett_eq]
      have hk : (applyE l p).2.1 = true → stopE l p < 0 := by
        intro hk
        unfold applyE at hk
        unfold stopE
        split at hk
        · cases hk
        · rename_i hc
          rw [if_neg hc]
          cases ht : thruE p.Name l 0 p.Attrs with
          | inl k => rw [ht] at hk; cases hk
          | inr l' => simp
      cases hq : (applyE l p).2.1 with
      | false => simp
      | true =>
        have := hk hq
        simp [this]
/-! ### RelabelParts -/
/-! ### RelabelNone -/
end Go.Lg
