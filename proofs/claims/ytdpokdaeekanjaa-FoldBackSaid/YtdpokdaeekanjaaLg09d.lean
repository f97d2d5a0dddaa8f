/- Lemmas about the given model and about plain data, which the rows stand on: no statement of the program by itself. -/
import Derived.Test.YtdpokdaeekanjaaLg09c
set_option linter.unusedVariables false
namespace Go.Lg
attribute [local irreducible] w64 toU64 toU8 shlU shrU shlB shrB

/-! ### taken away -/
def Enough (x y : api_Side) (n : Nat) : Prop := ∀ (k : Nat) (h : k < y.Counts.length), k < n → y.Counts[k] ≤ atS x (y.Offset + k)
def enough (x y : api_Side) : Bool := (List.range y.Counts.length).all fun (k : Nat) => decide (y.Counts.getD k 0 ≤ atS x (y.Offset + k))
theorem enough_iff (x y : api_Side) : enough x y = true ↔ Enough x y y.Counts.length := by
  unfold enough Enough
  rw [List.all_eq_true]
  constructor
  · intro h k hk _
    have := of_decide_eq_true (h k (List.mem_range.2 hk))
    rwa [getD_lt hk] at this
  · intro h k hk
    have hk := List.mem_range.1 hk
    rw [getD_lt hk]
    exact decide_eq_true (h k hk hk)
def subS (x y : api_Side) (i : Int) : UInt64 := atS x i - atS y i
def leftT (x y : api_Side) : api_Side := trimS ⟨x.Offset, onL (subS x y) x.Offset x.Counts.length⟩
theorem left_lp {x y : api_Side} (hx : RightS x) (hy : RightS y) :
    loop (fold_left_lp1 x y) 0 = some (if enough x y then .go () else .out (.out (⟨0, []⟩, false))) ∧ loop (ref09_less_lp1 x y) 0 = some (if enough x y then .go () else .out (.out (⟨0, []⟩, false))) := by
  have hyo := hy.off; have l2 := hy.len; have hxo := hx.off; have l1 := hx.len
  have key : ∀ (m k : Nat), k + m = y.Counts.length → Enough x y k →
      loop (fold_left_lp1 x y) (k : Int) = some (if enough x y then .go () else .out (.out (⟨0, []⟩, false))) ∧ loop (ref09_less_lp1 x y) (k : Int) = some (if enough x y then .go () else .out (.out (⟨0, []⟩, false))) := by
    intro m
    induction m with
    | zero =>
      intro k hk he
      obtain rfl : k = y.Counts.length := by omega
      rw [if_pos ((enough_iff x y).2 he)]
      constructor
      · refine loop_brk ?_
        unfold fold_left_lp1
        rw [bifFd (by omega)]
      · refine loop_brk ?_
        unfold ref09_less_lp1
        rw [bifFd (by omega)]
    | succ m ih =>
      intro k hk he
      have hlt : k < y.Counts.length := by omega
      have hb : -2000000000 ≤ y.Offset + (k : Int) ∧ y.Offset + (k : Int) ≤ 2000000000 := by
        have a1 := hy.lo (by omega); have a2 := hy.hi (by omega); omega
      have e1 : w64 (y.Offset + (k : Int)) = y.Offset + k := w64_id (by omega) (by omega)
      have A1 := At_eq (s := x) (i := y.Offset + k) (by unfold I64; omega) (by unfold I64; omega) (by omega)
      have A2 := RAt_eq hx hb
      have f1 : fold_left_lp1 x y (k : Int) = (bif decide (atS x (y.Offset + k) < y.Counts[k]) then some (.out (.out (⟨0, []⟩, false))) else some (.next ((k + 1 : Nat) : Int))) := by
        unfold fold_left_lp1
        rw [bifTd (by omega), idx_nat hlt, bind_some, e1, A1, bind_some, w64_succ (by omega)]; rfl
      have f2 : ref09_less_lp1 x y (k : Int) = (bif decide (atS x (y.Offset + k) < y.Counts[k]) then some (.out (.out (⟨0, []⟩, false))) else some (.next ((k + 1 : Nat) : Int))) := by
        unfold ref09_less_lp1
        rw [bifTd (by omega), idx_nat hlt, bind_some, e1, A2, bind_some, lett_eq, w64_succ (by omega)]; rfl
      by_cases h : atS x (y.Offset + k) < y.Counts[k]
      · have hn : ¬ enough x y = true := fun e => by
          have := (enough_iff x y).1 e k hlt hlt
          rw [UInt64.le_iff_toNat_le] at this; rw [UInt64.lt_iff_toNat_lt] at h; omega
        rw [bifTd h] at f1 f2
        rw [if_neg hn]
        exact ⟨loop_out f1, loop_out f2⟩
      · rw [bifFd h] at f1 f2
        rw [loop_next f1, loop_next f2]
        refine ih (k + 1) (by omega) fun j hj hjk => ?_
        by_cases e : j = k
        · subst e
          rw [UInt64.le_iff_toNat_le]; rw [UInt64.lt_iff_toNat_lt] at h; omega
        · exact he j hj (by omega)
  exact key y.Counts.length 0 (by omega) fun k hk h => by omega
theorem left_eq {x y : api_Side} (hx : RightS x) (hy : RightS y) : fold_left x y = some (if enough x y then (leftT x y, true) else (⟨0, []⟩, false)) := by
  have hyo := hy.off; have l2 := hy.len; have hxo := hx.off; have l1 := hx.len
  unfold fold_left
  rw [(left_lp hx hy).1]
  by_cases he : enough x y = true
  case neg => rw [if_neg he, if_neg he]; rfl
  rw [if_pos he, if_pos he, flow_go, flow_go]
  have key : ∀ (m k : Nat), k + m = x.Counts.length → loop (fold_left_lp2 x y) (onL (subS x y) x.Offset k, (k : Int)) = some (.go (onL (subS x y) x.Offset x.Counts.length)) := by
    intro m
    induction m with
    | zero =>
      intro k hk
      obtain rfl : k = x.Counts.length := by omega
      refine loop_brk ?_
      unfold fold_left_lp2
      dsimp only
      rw [bifFd (by omega)]
    | succ m ih =>
      intro k hk
      rw [← ih (k + 1) (by omega)]
      refine loop_next ?_
      have hlt : k < x.Counts.length := by omega
      have e1 : w64 (x.Offset + (k : Int)) = x.Offset + k := w64_id (by omega) (by omega)
      have A1 := At_eq (s := y) (i := x.Offset + k) (by unfold I64; omega) (by unfold I64; omega) (by omega)
      have hb : subS x y (x.Offset + k) = x.Counts[k] - atS y (x.Offset + k) := by unfold subS; rw [atS_in hlt]
      unfold fold_left_lp2
      dsimp only
      rw [bifTd (by omega), idx_nat hlt, bind_some, e1, A1, bind_some, app_ok (by rw [onL_len]; simp; omega), bind_some, onL_succ, hb, w64_succ (by omega)]
  have k0 : loop (fold_left_lp2 x y) ([], 0) = _ := key x.Counts.length 0 (by omega)
  rw [k0, flow_go, bind_some, Trim_eq (by dsimp only; omega) (by dsimp only; rw [onL_len]; omega), bind_some]; rfl
theorem enough_in {x y : api_Side} (hx : RightS x) (hy : RightS y) (he : enough x y = true) : loS x y = x.Offset ∧ hiS x y = x.Offset + x.Counts.length := by
  have h := (enough_iff x y).1 he
  have hz := hx.z
  by_cases hp : 0 < y.Counts.length
  · have a1 := h 0 hp hp
    have a2 := h (y.Counts.length - 1) (by omega) (by omega)
    have b1 := u_ne (hy.f hp)
    have b2 := u_ne (hy.e hp)
    rw [UInt64.le_iff_toNat_le] at a1 a2
    have c1 : ¬ (y.Offset + ((0 : Nat) : Int) < x.Offset ∨ x.Offset + x.Counts.length ≤ y.Offset + ((0 : Nat) : Int)) := fun e => by
      rw [atS_out e] at a1
      have : (0 : UInt64).toNat = 0 := rfl
      omega
    have c2 : ¬ (y.Offset + ((y.Counts.length - 1 : Nat) : Int) < x.Offset ∨ x.Offset + x.Counts.length ≤ y.Offset + ((y.Counts.length - 1 : Nat) : Int)) := fun e => by
      rw [atS_out e] at a2
      have : (0 : UInt64).toNat = 0 := rfl
      omega
    unfold loS hiS
    rw [if_neg (by omega), if_neg (by omega), if_neg (by omega), if_neg (by omega)]
    omega
  · have := hy.z (by omega)
    unfold loS hiS
    by_cases hq : x.Counts.length = 0
    · have := hz hq
      rw [if_pos hq, if_pos hq]; omega
    · rw [if_neg hq, if_pos (by omega), if_neg hq, if_pos (by omega)]
      exact ⟨rfl, rfl⟩
theorem less_eq {x y : api_Side} (hx : RightS x) (hy : RightS y) : ref09_less x y = some (if enough x y then (leftT x y, true) else (⟨0, []⟩, false)) := by
  have hyo := hy.off; have l2 := hy.len; have hxo := hx.off; have l1 := hx.len
  have c := cov hx hy
  unfold ref09_less
  rw [reach_eq hx hy, bind_some]
  by_cases h0 : loS x y = hiS x y
  · have hz := c.z.1 h0
    have he : enough x y = true := (enough_iff x y).2 fun k hk _ => by omega
    rw [if_pos h0, if_pos he]
    dsimp only
    rw [bifT (by rfl)]
    have : leftT x y = ⟨0, []⟩ := by
      unfold leftT
      rw [hz.1]; rfl
    rw [this]
  · rw [if_neg h0]
    dsimp only
    rw [bifF (by rfl), (left_lp hx hy).2]
    by_cases he : enough x y = true
    case neg => rw [if_neg he, if_neg he]; rfl
    obtain ⟨g1, g2⟩ := enough_in hx hy he
    rw [if_pos he, if_pos he, flow_go, flow_go, g1, g2]
    have hp : 0 < x.Counts.length := by omega
    have x1 := hx.lo hp; have x2 := hx.hi hp
    have e4 : w64 (x.Offset + 400) = x.Offset + 400 := w64_id (by omega) (by omega)
    have key : ∀ (m k : Nat), k + m = x.Counts.length → loop (ref09_less_lp2 x y x.Offset (x.Offset + x.Counts.length - 1)) (onL (subS x y) x.Offset k, x.Offset + (k : Int)) = some (.go (onL (subS x y) x.Offset x.Counts.length)) := by
      intro m
      induction m with
      | zero =>
        intro k hk
        obtain rfl : k = x.Counts.length := by omega
        refine loop_brk ?_
        unfold ref09_less_lp2
        dsimp only
        rw [bifF (by rw [Bool.and_eq_false_iff]; exact .inl (decide_eq_false (by omega)))]
      | succ m ih =>
        intro k hk
        rw [← ih (k + 1) (by omega)]
        refine loop_next ?_
        have hlt : k < x.Counts.length := by omega
        have hb : subS x y (x.Offset + k) = atS x (x.Offset + k) - atS y (x.Offset + k) := rfl
        unfold ref09_less_lp2
        dsimp only
        rw [e4, bifT (by rw [Bool.and_eq_true]; exact ⟨decide_eq_true (by omega), decide_eq_true (by omega)⟩), RAt_eq hx (by omega), bind_some, RAt_eq hy (by omega), bind_some, app_ok (by rw [onL_len]; simp; omega), bind_some, lett_eq, onL_succ, hb, w64_id (x := x.Offset + (k : Int) + 1) (by omega) (by omega), show x.Offset + (k : Int) + 1 = x.Offset + ((k + 1 : Nat) : Int) by omega]
    have k0 := key x.Counts.length 0 (by omega)
    rw [show x.Offset + ((0 : Nat) : Int) = x.Offset by omega] at k0
    have k0' : loop (ref09_less_lp2 x y x.Offset (x.Offset + x.Counts.length - 1)) ([], x.Offset) = _ := k0
    rw [k0', flow_go, bind_some, RTrim_eq (by dsimp only; omega) (by dsimp only; rw [onL_len]; omega), bind_some]; rfl
def subE (x y : api_Hist) : api_Hist × Int :=
  if y.Zero ≤ x.Zero ∧ enough x.Pos y.Pos = true ∧ enough x.Neg y.Neg = true then (⟨x.Scale, x.Zero - y.Zero, leftT x.Pos y.Pos, leftT x.Neg y.Neg⟩, 0) else (H0, 7)
theorem not_lt_u {a b : UInt64} : ¬ (a < b) ↔ b ≤ a := by rw [UInt64.lt_iff_toNat_lt, UInt64.le_iff_toNat_le]; omega
theorem Sub_lev {a b x y : api_Hist} (h : fold_Level a b = some (x, y, 0)) (gx : Good x) (gy : Good y) : fold_Sub a b = some (subE x y) := by
  unfold fold_Sub subE
  rw [h, bind_some]
  dsimp only
  rw [bifF (by rfl), left_eq gx.p gy.p, left_eq gx.n gy.n]
  by_cases h0 : x.Zero < y.Zero
  · rw [if_neg (fun e : y.Zero ≤ x.Zero ∧ enough x.Pos y.Pos = true ∧ enough x.Neg y.Neg = true => not_lt_u.2 e.1 h0)]
    cases enough x.Pos y.Pos <;> cases enough x.Neg y.Neg <;> simp [h0, H0]
  · cases h1 : enough x.Pos y.Pos <;> cases h2 : enough x.Neg y.Neg <;> simp [h0, not_lt_u.1 h0, H0]
theorem RSub_lev {a b x y : api_Hist} (h : ref09_Level a b = some ⟨x, y, 0⟩) (gx : Good x) (gy : Good y) : ref09_Sub a b = some (subE x y) := by
  unfold ref09_Sub subE
  rw [h, bind_some]
  dsimp only
  rw [bifF (by rfl), less_eq gx.p gy.p, less_eq gx.n gy.n]
  by_cases h0 : x.Zero < y.Zero
  · rw [if_neg (fun e : y.Zero ≤ x.Zero ∧ enough x.Pos y.Pos = true ∧ enough x.Neg y.Neg = true => not_lt_u.2 e.1 h0)]
    cases enough x.Pos y.Pos <;> cases enough x.Neg y.Neg <;> simp [h0, H0]
  · cases h1 : enough x.Pos y.Pos <;> cases h2 : enough x.Neg y.Neg <;> simp [h0, not_lt_u.1 h0, H0]
/-- and what was put there is what was there before -/
theorem left_back {x y : api_Side} (hx : RightS x) (hy : RightS y) (hs : su x.Counts + su y.Counts < 18446744073709551616) (hw : widthS x y ≤ 160) : enough (mergeS x y) y = true ∧ leftT (mergeS x y) y = x := by
  have c := cov hx hy
  have hm := merge_right hx hy hs hw
  have hat := merge_at c
  constructor
  · refine (enough_iff _ _).2 fun k hk _ => ?_
    rw [hat, UInt64.le_iff_toNat_le, add_nat hs, atS_in hk]; omega
  · refine (trim_tr _).ext hx.tr fun i => ?_
    rw [trim_at]
    have : atS ⟨(mergeS x y).Offset, onL (subS (mergeS x y) y) (mergeS x y).Offset (mergeS x y).Counts.length⟩ i = subS (mergeS x y) y i := by
      refine onL_at (fun j hj => ?_) i
      unfold subS
      have h0 := atS_out (s := mergeS x y) (i := j) hj
      have h1 := hat j
      rw [h0] at h1
      have h2 := add_nat hs j
      rw [← h1] at h2
      have z : (0 : UInt64).toNat = 0 := rfl
      have h3 : atS y j = 0 := UInt64.toNat_inj.1 (by omega)
      rw [h0, h3]; rfl
    rw [this]
    unfold subS
    rw [hat]
    unfold addS
    grind
end Go.Lg
