/- Lemmas about the given model and about plain data, which the rows stand on: no statement of the program by itself. -/
import Derived.Test.YtgdfaomjidhajaaDoorGjLgPart0
set_option linter.unusedVariables false
namespace Go.Lg
attribute [local irreducible] w64 toU64 toU8 shlU shrU shlB shrB spanS
theorem classS_no {r : List UInt8} {x : Nat × Int} (h : classS r = .inl x) : x.2 = 2 ∨ x.2 = 3 := by
  unfold classS at h
  split at h
  · cases h; exact .inl rfl
  · cases h; exact .inr rfl
  · rename_i k he
    obtain ⟨y, hy⟩ := clsS_total (k + 2) nilS _ _ he (by omega)
    rw [hy] at h
    cases y with
    | inl o => cases h; exact .inr rfl
    | inr S => cases h
theorem classS_yes {r : List UInt8} {P : glob_piece} {k : Nat} (h : classS r = .inr (P, k)) : 1 ≤ k ∧ k ≤ r.length + 1 ∧ ∀ q, classS (r ++ q) = .inr (P, k) := by
  have hb : ∀ q, endL (r.drop (bang r)) ≠ none → bang (r ++ q) = bang r ∧ (r ++ q).drop (bang r) = r.drop (bang r) ++ q := by
    intro q hn
    cases r with
    | nil => exact absurd (by rw [List.drop_nil]; rfl) hn
    | cons c r =>
      refine ⟨rfl, List.drop_append_of_le_length ?_⟩
      have := bang_le (c :: r)
      rw [List.length_cons]; omega
  unfold classS at h
  split at h
  · cases h
  · cases h
  · rename_i k' he
    have hl := endL_lt he
    rw [List.length_drop] at hl
    obtain ⟨y, hy⟩ := clsS_total (k' + 2) nilS _ _ he (by omega)
    rw [hy] at h
    cases y with
    | inl o => cases h
    | inr S =>
      cases h
      refine ⟨by omega, by omega, fun q => ?_⟩
      obtain ⟨b1, b2⟩ := hb q (by rw [he]; simp)
      unfold classS
      rw [b1, b2, endL_app q he]
      dsimp only
      rw [clsS_app q _ _ _ _ hy]
def byteP (c : UInt8) : glob_piece := ⟨0, addS nilS c, true, c⟩
/-- the piece ahead and how many bytes it takes; or how far off the fault is, and which -/
def nextS : List UInt8 → (Nat × Int) ⊕ (glob_piece × Nat)
  | [] => .inl (0, 1)
  | c :: r => if c = 42 then .inr (⟨1, nilS, false, 0⟩, 1) else if c = 63 then .inr (⟨0, fullS, false, 0⟩, 1) else if c = 91 then classS r
    else if c = 92 then (match r.head? with
      | none => .inl (0, 2)
      | some d => .inr (byteP d, 2))
    else .inr (byteP c, 1)
theorem nextS_c (c : UInt8) (r : List UInt8) : nextS (c :: r) = if c = 42 then .inr (⟨1, nilS, false, 0⟩, 1) else if c = 63 then .inr (⟨0, fullS, false, 0⟩, 1) else if c = 91 then classS r
    else if c = 92 then (match r.head? with
      | none => .inl (0, 2)
      | some d => .inr (byteP d, 2))
    else .inr (byteP c, 1) := rfl
theorem nextS_no {l : List UInt8} {x : Nat × Int} (h : nextS l = .inl x) : x.2 ≠ 0 := by
  cases l with
  | nil => cases h; simp
  | cons c r =>
    rw [nextS_c] at h
    split at h
    · cases h
    · split at h
      · cases h
      · split at h
        · have := classS_no h; omega
        · split at h
          · split at h
            · cases h; simp
            · cases h
          · cases h
theorem nextS_yes {l : List UInt8} {P : glob_piece} {k : Nat} (h : nextS l = .inr (P, k)) : 1 ≤ k ∧ k ≤ l.length ∧ ∀ q, nextS (l ++ q) = .inr (P, k) := by
  cases l with
  | nil => cases h
  | cons c r =>
    rw [List.length_cons]
    rw [nextS_c] at h
    split at h
    · rename_i e; cases h; exact ⟨by omega, by omega, fun q => by rw [List.cons_append]; rw [nextS_c, if_pos e]⟩
    · rename_i e1
      split at h
      · rename_i e; cases h; exact ⟨by omega, by omega, fun q => by rw [List.cons_append]; rw [nextS_c, if_neg e1, if_pos e]⟩
      · rename_i e2
        split at h
        · rename_i e
          obtain ⟨h1, h2, h3⟩ := classS_yes h
          exact ⟨h1, h2, fun q => by rw [List.cons_append]; rw [nextS_c, if_neg e1, if_neg e2, if_pos e]; exact h3 q⟩
        · rename_i e3
          split at h
          · rename_i e
            cases r with
            | nil => cases h
            | cons d r =>
              cases h
              exact ⟨by omega, by simp, fun q => by rw [List.cons_append]; rw [nextS_c, if_neg e1, if_neg e2, if_neg e3, if_pos e]; rfl⟩
          · rename_i e
            cases h
            exact ⟨by omega, by omega, fun q => by rw [List.cons_append]; rw [nextS_c, if_neg e1, if_neg e2, if_neg e3, if_neg e]⟩
theorem byteOf_eq (c : UInt8) : glob_byteOf c = some (byteP c) := by
  unfold glob_byteOf
  exact add_step nilS c _
theorem next_g (s : List UInt8) (hs : s.length ≤ 1000) (p : Nat) (hp : p < s.length) : GNx (glob_next s (p : Int)) p (nextS (s.drop p)) := by
  obtain ⟨c, r, h1, h2, h3⟩ := drop_at hp
  unfold glob_next
  rw [ix h3, bind_some, lett_eq, h1]
  rw [nextS_c]
  by_cases e1 : c = 42
  · rw [bifTd e1, if_pos e1]; exact rfl
  · rw [bifFd e1, if_neg e1, lett_eq]
    by_cases e2 : c = 63
    · rw [bifTd e2, if_pos e2, lett_eq, show (((0 : UInt8).toNat : Nat) : Int) = ((0 : Nat) : Int) from rfl]
      have := span_n 256 0 nilS rfl
      have h : loop glob_next_lp1 (0, 0, 0, 0, ((0 : Nat) : Int)) = _ := this
      rw [h, flow_go, bind_some]
      exact rfl
    · rw [bifFd e2, if_neg e2, lett_eq]
      by_cases e3 : c = 91
      · rw [bifTd e3, if_pos e3]
        have := class_g s hs p hp
        rw [h2] at this
        cases hc : classS r with
        | inl x =>
          rw [hc] at this
          obtain ⟨P, n, hx⟩ := this
          exact ⟨P, n, by rw [hx, bind_some]⟩
        | inr x =>
          rw [hc] at this
          have hx : glob_class s (p : Int) = some (x.1, (x.2 : Int), ⟨0, 0⟩) := this
          rw [hx, bind_some]; exact rfl
      · rw [bifFd e3, if_neg e3, lett_eq]
        by_cases e4 : c = 92
        · rw [bifTd e4, if_pos e4, w64_succ (by omega)]
          by_cases e5 : p + 1 = s.length
          · have : r.head? = none := by rw [← h2, List.drop_eq_nil_of_le (by omega)]; rfl
            rw [bifTd (by omega), this]
            exact ⟨_, _, rfl⟩
          · obtain ⟨d, r', g1, g2, g3⟩ := drop_at (s := s) (p := p + 1) (by omega)
            have : r.head? = some d := by rw [← h2, g3]
            rw [bifFd (by omega), ix g3, bind_some, byteOf_eq, bind_some, this]
            exact rfl
        · rw [bifFd e4, if_neg e4, bind_some, byteOf_eq, bind_some]
          exact rfl
/-! ### piece by piece -/
def compS : Nat → Nat → List UInt8 → (Nat × Int) ⊕ List glob_piece
  | 0, _, _ => .inr []
  | n + 1, p, l => if l = [] then .inr [] else match nextS l with
    | .inl x => .inl (p + x.1, x.2)
    | .inr x => match compS n (p + x.2) (l.drop x.2) with
      | .inl y => .inl y
      | .inr ps => .inr (x.1 :: ps)
theorem compS_len : ∀ (n p : Nat) (l : List UInt8) (ps : List glob_piece), compS n p l = .inr ps → ps.length ≤ l.length
  | 0, p, l, ps, h => by cases h; exact Nat.zero_le _
  | n + 1, p, l, ps, h => by
    unfold compS at h
    split at h
    · cases h; exact Nat.zero_le _
    · split at h
      · cases h
      · rename_i x hx
        obtain ⟨P, k⟩ := x
        obtain ⟨h1, h2, _⟩ := nextS_yes hx
        split at h
        · cases h
        · rename_i qs hq
          cases h
          have := compS_len n _ _ _ hq
          rw [List.length_drop] at this
          rw [List.length_cons]; dsimp only at this; omega
def GC (acc : List glob_piece) : (Nat × Int) ⊕ List glob_piece → Flow (List glob_piece) (Option glob_Glob × Int × Int)
  | .inl x => .out (none, (x.1 : Int), x.2)
  | .inr ps => .go (acc ++ ps)
theorem comp_g (s : List UInt8) (hs : s.length ≤ 1000) : ∀ (n p : Nat) (acc : List glob_piece), p ≤ s.length → s.length < p + n → acc.length ≤ p → loop (glob_Compile_lp1 s) (acc, (p : Int)) = some (GC acc (compS n p (s.drop p))) := by
  intro n
  induction n with
  | zero => intro p acc h1 h2; omega
  | succ n ih =>
    intro p acc h1 h2 h3
    unfold compS
    by_cases q : p < s.length
    · have hne : s.drop p ≠ [] := fun e => by have := congrArg List.length e; rw [List.length_drop, List.length_nil] at this; omega
      have hx := next_g s hs p q
      rw [if_neg hne]
      cases hn : nextS (s.drop p) with
      | inl x =>
        rw [hn] at hx
        obtain ⟨P, m, hx⟩ := hx
        refine loop_out ?_
        unfold glob_Compile_lp1
        dsimp only
        rw [bifTd (by omega), hx, bind_some]
        dsimp only
        have hz := nextS_no hn
        rw [bifT (by rw [decide_eq_false hz, Bool.false_and, Bool.and_false]; rfl)]; rfl
      | inr x =>
        obtain ⟨P, k⟩ := x
        rw [hn] at hx
        obtain ⟨k1, k2, _⟩ := nextS_yes hn
        rw [List.length_drop] at k2
        have hx' : glob_next s (p : Int) = some (P, (k : Int), ⟨0, 0⟩) := hx
        have hst : glob_Compile_lp1 s (acc, (p : Int)) = some (.next (acc ++ [P], ((p + k : Nat) : Int))) := by
          unfold glob_Compile_lp1
          dsimp only
          rw [bifTd (by omega), hx', bind_some]
          dsimp only
          rw [bifF (by simp), app_ok (by simp; omega), bind_some, lett_eq, w64_addN (by omega)]
        rw [loop_next hst, ih (p + k) _ (by omega) (by omega) (by simp; omega)]
        dsimp only
        rw [List.drop_drop]
        cases compS n (p + k) (s.drop (p + k)) with
        | inl y => rfl
        | inr ps => simp [GC]
    · rw [if_pos (List.drop_eq_nil_of_le (by omega))]
      refine loop_brk ?_
      unfold glob_Compile_lp1
      dsimp only
      rw [bifFd (by omega)]; simp
def comp (s : List UInt8) : (Nat × Int) ⊕ List glob_piece := if 64 < s.length then .inl (64, 4) else compS (s.length + 1) 0 s
def GC2 (s : List UInt8) : (Nat × Int) ⊕ List glob_piece → Option glob_Glob × Int × Int
  | .inl x => (none, (x.1 : Int), x.2)
  | .inr ps => (some ⟨s, ps⟩, 0, 0)
theorem compile_g (s : List UInt8) : glob_Compile s = some (GC2 s (comp s)) := by
  unfold glob_Compile comp
  by_cases h : 64 < s.length
  · rw [bifTd (by omega), if_pos h]; rfl
  · have := comp_g s (by omega) (s.length + 1) 0 [] (by omega) (by omega) (by simp)
    rw [List.drop_zero] at this
    rw [bifFd (by omega), if_neg h, show (0 : Int) = ((0 : Nat) : Int) from rfl, this]
    cases compS (s.length + 1) 0 s <;> rfl
theorem comp_len {s : List UInt8} {ps : List glob_piece} (h : comp s = .inr ps) : ps.length ≤ 64 := by
  unfold comp at h
  split at h
  · cases h
  · have := compS_len _ _ _ _ h; omega
/-- it hangs not on the place nor on the rounds -/
theorem compS_ind : ∀ (n p n' p' : Nat) (l : List UInt8) (ps : List glob_piece), l.length < n → l.length < n' → compS n p l = .inr ps → compS n' p' l = .inr ps
  | 0, _, _, _, _, _, h, _, _ => by omega
  | _ + 1, _, 0, _, _, _, _, h, _ => by omega
  | n + 1, p, n' + 1, p', l, ps, h1, h2, h => by
    unfold compS at h ⊢
    split at h
    · rename_i e; rw [if_pos e]; exact h
    · rename_i e
      rw [if_neg e]
      split at h
      · cases h
      · rename_i x hx
        obtain ⟨P, k⟩ := x
        obtain ⟨k1, k2, _⟩ := nextS_yes hx
        dsimp only at h ⊢
        split at h
        · cases h
        · rename_i qs hq
          rw [compS_ind n _ n' (p' + k) _ _ (by rw [List.length_drop]; omega) (by rw [List.length_drop]; omega) hq]
          exact h
theorem compS_app : ∀ (n p n' p' m q : Nat) (l r : List UInt8) (ps qs : List glob_piece), l.length < n → r.length < n' → l.length + r.length < m → compS n p l = .inr ps → compS n' p' r = .inr qs → compS m q (l ++ r) = .inr (ps ++ qs)
  | 0, _, _, _, _, _, _, _, _, _, h, _, _, _, _ => by omega
  | _ + 1, _, _, _, 0, _, _, _, _, _, _, _, h, _, _ => by omega
  | n + 1, p, n', p', m + 1, q, l, r, ps, qs, h1, h2, h3, h, h' => by
    by_cases e : l = []
    · subst e
      unfold compS at h
      rw [if_pos rfl] at h
      cases h
      exact compS_ind n' p' (m + 1) q r qs h2 (by simpa using h3) h'
    · unfold compS at h ⊢
      rw [if_neg e] at h
      rw [if_neg (fun e' => e (List.append_eq_nil_iff.1 e').1)]
      split at h
      · cases h
      · rename_i x hx
        obtain ⟨P, k⟩ := x
        obtain ⟨k1, k2, k3⟩ := nextS_yes hx
        rw [k3 r]
        dsimp only at h ⊢
        split at h
        · cases h
        · rename_i qs' hq
          cases h
          rw [List.drop_append_of_le_length k2, compS_app n _ n' p' m (q + k) _ r _ qs (by rw [List.length_drop]; omega) h2 (by rw [List.length_drop]; omega) hq h']
          rfl
theorem comp_app {a b : List UInt8} {ps qs : List glob_piece} (h : a.length + b.length ≤ 64) (ha : comp a = .inr ps) (hb : comp b = .inr qs) : comp (a ++ b) = .inr (ps ++ qs) := by
  unfold comp at *
  rw [if_neg (by omega)] at ha hb
  rw [if_neg (by rw [List.length_append]; omega)]
  exact compS_app _ _ _ _ _ _ _ _ _ _ (Nat.lt_succ_self _) (Nat.lt_succ_self _) (by rw [List.length_append]; omega) ha hb
end Go.Lg
namespace Go.Lg
attribute [local irreducible] w64 toU64 toU8 shlU shrU shlB shrB spanS
/-! ### the document's Match -/
theorem mt_nil (s : List UInt8) : mt [] s = s.isEmpty := by cases s <;> simp [mt]
/-- which beginnings match -/
def canR (ps : List Pc) (s : List UInt8) : List Bool := (List.range (s.length + 1)).map fun k => mt ps (s.take k)
theorem canR_at (ps : List Pc) (s : List UInt8) {k : Nat} (h : k ≤ s.length) : idx (canR ps s) (k : Int) = some (mt ps (s.take k)) := by
  unfold canR
  rw [idx_nat (by simp; omega)]
  simp
theorem gmatch_eq (g : glob_Glob) (s : List UInt8) (hp : g.pieces.length ≤ 1000) (hs : s.length ≤ 1000) : glob_Glob_Match g s = some (mt (g.pieces.map pcOf) s) := by
  unfold glob_Glob_Match
  rw [match_loop g s hp hs, flow_out]
/-! ### the one text -/
/-! ### what the document tells -/
theorem comp_w1 : comp [97, 42, 98, 63] = .inr [byteP 97, ⟨1, nilS, false, 0⟩, byteP 98, ⟨0, fullS, false, 0⟩] := rfl
theorem comp_w2 : comp [91, 98, 45, 97, 93] = .inl (1, 3) := rfl
theorem inS_byte (c d : UInt8) : inS (addS nilS c) d = decide (d = c) := by rw [inS_add, inS_nil, Bool.or_false]
theorem quote_w : glob_Quote [97, 42] = some [97, 92, 42] := by
  unfold glob_Quote
  have s0 : glob_Quote_lp1 [97, 42] ([], ((0 : Nat) : Int)) = some (.next ([97], ((1 : Nat) : Int))) := by
    unfold glob_Quote_lp1
    dsimp only
    rw [bifTd (by simp), idx_nat (by simp), bind_some, w64_succ (by omega)]
    rfl
  have s1 : glob_Quote_lp1 [97, 42] ([97], ((1 : Nat) : Int)) = some (.next ([97, 92, 42], ((2 : Nat) : Int))) := by
    unfold glob_Quote_lp1
    dsimp only
    rw [bifTd (by simp), idx_nat (by simp), bind_some, w64_succ (by omega)]
    rfl
  have s2 : glob_Quote_lp1 [97, 42] ([97, 92, 42], ((2 : Nat) : Int)) = some (.brk [97, 92, 42]) := by
    unfold glob_Quote_lp1
    dsimp only
    rw [bifFd (by simp)]
  rw [show (0 : Int) = ((0 : Nat) : Int) from rfl, loop_next s0, loop_next s1, loop_brk s2]; rfl
theorem awake32 : law32_awake = some true := by
  unfold law32_awake
  have m1 : mt ([byteP 97, ⟨1, nilS, false, 0⟩, byteP 98, ⟨0, fullS, false, 0⟩].map pcOf) [97, 120, 120, 98, 99] = true := by
    simp [pcOf, byteP, mt_sc, mt_oc, mt_sn, mt_on, mt_nil, inS_byte, inS_full]
  have m2 : mt ([byteP 97, ⟨1, nilS, false, 0⟩, byteP 98, ⟨0, fullS, false, 0⟩].map pcOf) [97, 98] = false := by
    simp [pcOf, byteP, mt_sc, mt_oc, mt_sn, mt_on, mt_nil, inS_byte, inS_full]
  rw [compile_g, comp_w1, bind_some, compile_g, comp_w2]
  dsimp only [GC2]
  rw [bind_some]
  dsimp only
  rw [bind_some, bifT (by simp), gmatch_eq _ _ (by decide) (by decide), bind_some, m1, bind_some, cond_true, gmatch_eq _ _ (by decide) (by decide), bind_some, m2, bind_some, bifT (by decide), quote_w, bind_some, bind_some]
  rfl
/-! ### the laws -/
theorem mt_parts (xs ys : List Pc) (s : List UInt8) : mt (xs ++ ys) s = (List.range (s.length + 1)).any fun i => mt xs (s.take i) && mt ys (s.drop i) := by
  rw [Bool.eq_iff_iff, mt_app, List.any_eq_true]
  constructor
  · rintro ⟨k, h1, h2, h3⟩
    exact ⟨k, List.mem_range.2 (by omega), by rw [h2, h3]; rfl⟩
  · rintro ⟨k, h1, h2⟩
    rw [Bool.and_eq_true] at h2
    rw [List.mem_range] at h1
    exact ⟨k, by omega, h2.1, h2.2⟩
theorem globJoins (a b s : List UInt8) : law32_GlobJoins a b s = some true := by
  unfold law32_GlobJoins
  rw [awake32, bind_some, bifF (c := !true) rfl]
  by_cases h : 32 < a.length ∨ 32 < b.length ∨ 60 < s.length
  · rw [bifT (by simp only [Bool.or_eq_true, decide_eq_true_eq]; omega)]
  · rw [bifF (by simp only [Bool.or_eq_false_iff, decide_eq_false_iff_not]; omega), compile_g, bind_some, compile_g]
    cases ha : comp a with
    | inl x => dsimp only [GC2]; rw [bind_some]; exact bifT rfl
    | inr xs =>
      cases hb : comp b with
      | inl x => dsimp only [GC2]; rw [bind_some]; exact bifT rfl
      | inr ys =>
        have hx := comp_len ha
        have hy := comp_len hb
        have hab := comp_app (by omega) ha hb
        dsimp only [GC2]
        rw [bind_some, bifF (by rfl), app_ok (by omega), bind_some, compile_g, hab]
        dsimp only [GC2]
        rw [bind_some]
        dsimp only
        rw [bifF (by simp), bind_some, bind_some]
        have hlp := loop_for (f := law32_GlobJoins_lp1 s ⟨a, xs⟩ ⟨b, ys⟩) (fun i => ((List.range i).any fun i => mt (xs.map pcOf) (s.take i) && mt (ys.map pcOf) (s.drop i), (i : Int))) (s.length + 1) (b := mt ((xs ++ ys).map pcOf) s) (fun i hi => by
          unfold law32_GlobJoins_lp1
          dsimp only
          rw [bifTd (by omega), List.range_succ, List.any_append]
          cases hd : (List.range i).any fun i => mt (xs.map pcOf) (s.take i) && mt (ys.map pcOf) (s.drop i) with
          | true => rw [cond_true, bind_some, lett_eq, w64_succ (by omega), Bool.true_or]
          | false =>
            have e1 : slc s ((0 : Nat) : Int) (i : Int) = some (s.take i) := by rw [slc_nat (by omega) (by omega), List.drop_zero]
            have e2 : slc s (i : Int) (s.length : Int) = some (s.drop i) := by rw [slc_nat (by omega) (by omega), List.take_of_length_le (Nat.le_refl _)]
            rw [cond_false, show (0 : Int) = ((0 : Nat) : Int) from rfl, e1, bind_some, gmatch_eq _ _ (by dsimp only; omega) (by rw [List.length_take]; omega), bind_some]
            dsimp only
            cases hm : mt (xs.map pcOf) (s.take i) with
            | false => rw [cond_false, bind_some, bind_some, lett_eq, w64_succ (by omega)]; simp [hm]
            | true =>
              rw [cond_true, e2, bind_some, gmatch_eq _ _ (by dsimp only; omega) (by rw [List.length_drop]; omega), bind_some, bind_some, bind_some, lett_eq, w64_succ (by omega)]
              simp [hm]) (by
          unfold law32_GlobJoins_lp1
          dsimp only
          rw [bifFd (by omega), List.map_append, mt_parts])
        have hlp' : loop (law32_GlobJoins_lp1 s ⟨a, xs⟩ ⟨b, ys⟩) (false, 0) = _ := hlp
        rw [hlp', flow_go, bind_some, bind_some, gmatch_eq _ _ (by simp; omega) (by omega), bind_some, lett_eq]
        simp
end Go.Lg
