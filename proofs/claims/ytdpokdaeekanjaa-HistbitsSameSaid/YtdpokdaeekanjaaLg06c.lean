/- Lemmas about the given model and about plain data, which the rows stand on: no statement of the program by itself. -/
import Derived.Test.YtdpokdaeekanjaaLg06b
set_option linter.unusedVariables false
namespace Go.Lg
attribute [local irreducible] w64 toU64 toU8 shlU shrU shlB shrB

/-! ### what is put is read, and the other way round -/
theorem take_app {l m : List Int} {n : Nat} (h : l.length = n) : (l ++ m).take n = l := by subst h; simp
theorem drop_app {l m : List Int} {n : Nat} (h : l.length = n) : (l ++ m).drop n = m := by subst h; simp
theorem getSmall_put {v : Nat} (hv : v < 2 ^ 64) (rest : List Int) : getSmall (smallBits v ++ rest) = ⟨v, (smallBits v).length, 0⟩ := by
  have hc := cls_le v
  have h1 : (smallBits v ++ rest).take 2 = rowN (cls v) 2 := by unfold smallBits; rw [List.append_assoc, take_app (rowN_len _ _)]
  have h2 : (smallBits v ++ rest).drop 2 = rowN v (sz (cls v)) ++ rest := by unfold smallBits; rw [List.append_assoc, drop_app (rowN_len _ _)]
  have h3 : dv (rowN (cls v) 2) = cls v := by rw [rowN_dv]; omega
  have hl : (smallBits v ++ rest).length = 2 + sz (cls v) + rest.length := by rw [List.length_append, smallBits_len]
  unfold getSmall
  rw [if_neg (by omega)]
  dsimp only
  rw [h1, h3, h2, if_neg (by omega), take_app (rowN_len _ _), rowN_dv, Nat.mod_eq_of_lt (cls_lt hv), if_pos rfl, smallBits_len]
theorem getSmall_got {l : List Int} (hb : Bit l) (h : (getSmall l).e = 0) : (getSmall l).n ≤ l.length ∧ l.take (getSmall l).n = smallBits (getSmall l).v := by
  unfold getSmall at *
  by_cases h1 : l.length < 2
  · rw [if_pos h1] at h; exact absurd h (by decide)
  rw [if_neg h1] at h ⊢
  dsimp only at h ⊢
  by_cases h2 : l.length - 2 < sz (dv (l.take 2))
  · rw [if_pos h2] at h; exact absurd h (by decide)
  rw [if_neg h2] at h ⊢
  by_cases h3 : cls (dv ((l.drop 2).take (sz (dv (l.take 2))))) = dv (l.take 2)
  · rw [if_pos h3]
    dsimp only
    refine ⟨by omega, ?_⟩
    have e1 := rowN_self (hb.take 2)
    rw [List.length_take, Nat.min_eq_left (by omega)] at e1
    have e2 := rowN_self ((hb.drop 2).take (sz (dv (l.take 2))))
    rw [List.length_take, List.length_drop, Nat.min_eq_left (by omega)] at e2
    unfold smallBits
    rw [h3, e1, e2, List.take_add]
  · rw [if_neg h3] at h; exact absurd h (by decide)
theorem lead_head {k : Nat} (hk : k ≤ 4) (x : List Int) : lead 4 (headBits k ++ x) = k := by
  match k, hk with
  | 0, _ => rfl
  | 1, _ => rfl
  | 2, _ => rfl
  | 3, _ => rfl
  | 4, _ => rfl
theorem sxt_mod {k v : Nat} (hk : k ≤ 4) (hv : v < 2 ^ wd k) : sxt k v % 2 ^ wd k = v := by
  unfold sxt
  rcases wd_cases hk with ⟨rfl, h⟩ | ⟨rfl, h⟩ | ⟨rfl, h⟩ | ⟨rfl, h⟩ | ⟨rfl, h⟩ <;> rw [h] at hv ⊢ <;> split <;> omega
theorem sxt_wy {d : Int} (hd : I64 d) : sxt (wy d) ((toU64 d).toNat % 2 ^ wd (wy d)) = (toU64 d).toNat := by
  unfold I64 at hd
  have hu := toU64_toNat d
  have hul := UInt64.toNat_lt (toU64 d)
  generalize (toU64 d).toNat = u at *
  have hk := wy_le d
  have hr : (wy d = 0 → d = 0) ∧ (wy d = 1 → -32 ≤ d ∧ d < 32) ∧ (wy d = 2 → -512 ≤ d ∧ d < 512) ∧ (wy d = 3 → -32768 ≤ d ∧ d < 32768) := by
    unfold wy; split <;> (try split) <;> (try split) <;> (try split) <;> simp <;> omega
  generalize wy d = k at *
  unfold sxt
  rcases wd_cases hk with ⟨rfl, h⟩ | ⟨rfl, h⟩ | ⟨rfl, h⟩ | ⟨rfl, h⟩ | ⟨rfl, h⟩ <;> rw [h] <;> simp only [Nat.lt_irrefl, false_and, if_false, true_and, Nat.reduceLT, Nat.reduceSub, Nat.reducePow, forall_const] at hr ⊢
  · have := hr.1; omega
  · have := hr.2.1; split <;> omega
  · have := hr.2.2.1; split <;> omega
  · have := hr.2.2.2; split <;> omega
  · omega
theorem getStep_put {d : Int} (hd : I64 d) (rest : List Int) : getStep (stepBits d ++ rest) = ⟨(toU64 d).toNat, (stepBits d).length, 0⟩ := by
  have hk := wy_le d
  have hh := headBits_len hk
  have h0 : lead 4 (stepBits d ++ rest) = wy d := by unfold stepBits; rw [List.append_assoc, lead_head hk]
  have h1 : (stepBits d ++ rest).drop (min (wy d + 1) 4) = rowN (toU64 d).toNat (wd (wy d)) ++ rest := by unfold stepBits; rw [List.append_assoc, drop_app hh]
  have hl : (stepBits d ++ rest).length = min (wy d + 1) 4 + wd (wy d) + rest.length := by rw [List.length_append, stepBits_len]
  unfold getStep
  dsimp only
  rw [h0, if_neg (by omega), if_neg (by omega), h1, take_app (rowN_len _ _), rowN_dv, sxt_wy hd]
  have e : UInt64.ofNat (toU64 d).toNat = toU64 d := by simp
  rw [e, sg_toU64 hd, if_pos rfl, stepBits_len]
theorem head_lead {l : List Int} (hb : Bit l) : ∀ (m : Nat), (¬ (lead m l < m ∧ lead m l = l.length)) → l.take (min (lead m l + 1) m) = if lead m l < m then ones (lead m l) ++ [0] else ones (lead m l) := by
  intro m
  induction m generalizing l with
  | zero => intro h; simp [lead, ones]
  | succ m ih =>
    intro h
    match l with
    | [] => simp [lead] at h
    | x :: l =>
      have hb' : Bit l := fun y hy => hb y (by simp [hy])
      rw [lead] at h ⊢
      by_cases h1 : x = 1
      · rw [if_pos h1] at h ⊢
        have := ih hb' (by intro hc; apply h; simp only [List.length_cons]; omega)
        rw [show min (1 + lead m l + 1) (m + 1) = min (lead m l + 1) m + 1 by omega, List.take_succ_cons, this, h1]
        by_cases h2 : lead m l < m
        · rw [if_pos h2, if_pos (by omega), Nat.add_comm 1]; simp [ones, List.replicate_succ]
        · rw [if_neg h2, if_neg (by omega), Nat.add_comm 1]; simp [ones, List.replicate_succ]
      · have h0 : x = 0 := by rcases hb x (by simp) with e | e <;> first | exact e | exact absurd e h1
        rw [if_neg h1, if_pos (by omega), show min (0 + 1) (m + 1) = 1 by omega, h0]
        simp [ones]
theorem getStep_got {l : List Int} (hb : Bit l) (h : (getStep l).e = 0) : (getStep l).n ≤ l.length ∧ l.take (getStep l).n = stepBits (sg (UInt64.ofNat (getStep l).v)) := by
  have hle := lead_le 4 l
  have hhd := head_lead hb 4
  unfold getStep at *
  dsimp only at h ⊢
  generalize lead 4 l = k at *
  by_cases h1 : k < 4 ∧ k = l.length
  · rw [if_pos h1] at h; exact absurd h (by decide)
  have hhd' : l.take (min (k + 1) 4) = headBits k := by rw [hhd h1]; rfl
  rw [if_neg h1] at h ⊢
  have ha : min (k + 1) 4 ≤ l.length := by omega
  generalize min (k + 1) 4 = a at *
  by_cases h2 : l.length - a < wd k
  · rw [if_pos h2] at h; exact absurd h (by decide)
  rw [if_neg h2] at h ⊢
  have hv := dv_part_lt hb (a := a) (k := wd k) (by omega)
  have e2 := rowN_self ((hb.drop a).take (wd k))
  rw [List.length_take, List.length_drop, Nat.min_eq_left (by omega)] at e2
  generalize dv ((l.drop a).take (wd k)) = v at *
  by_cases h3 : wy (sg (UInt64.ofNat (sxt k v))) = k
  · rw [if_pos h3]
    dsimp only
    refine ⟨by omega, ?_⟩
    unfold stepBits
    rw [h3, toU64_sg, u64_ofNat (sxt_lt hle.1 hv), List.take_add, hhd', ← rowN_mod, sxt_mod hle.1 hv, e2]
  · rw [if_neg h3] at h; exact absurd h (by decide)
theorem nextGot_put {row : List Int} {x : Int} (hx : I64 x) (rest : List Int) : nextGot row (nextBits row x ++ rest) = ⟨toU64 x, (nextBits row x).length, 0⟩ := by
  unfold nextGot nextBits
  by_cases h0 : row.length = 0
  · rw [if_pos (by omega), if_pos h0, getSmall_put (zz_lt hx)]
    dsimp only
    rw [if_pos rfl, if_neg (by omega), zag_zz]
  by_cases h1 : row.length = 1
  · rw [if_pos (by omega), if_neg h0, if_pos h1, getSmall_put (zz_lt (sg_I64 _))]
    dsimp only
    rw [if_pos rfl, if_pos h1, zag_zz, toU64_sg, UInt64.sub_add_cancel]
  · rw [if_neg (by omega), if_neg h0, if_neg h1, getStep_put (sg_I64 _)]
    dsimp only
    rw [if_pos rfl, toU64_sg]
    congr 1
    simp only [UInt64.ofNat_toNat]
    grind
theorem nextGot_got {row l : List Int} (hb : Bit l) (h : (nextGot row l).e = 0) : (nextGot row l).n ≤ l.length ∧ l.take (nextGot row l).n = nextBits row (sg (nextGot row l).v) := by
  unfold nextGot at *
  by_cases h2 : row.length < 2
  · rw [if_pos h2] at h ⊢
    dsimp only at h ⊢
    by_cases he : (getSmall l).e = 0
    · obtain ⟨g1, g2⟩ := getSmall_got hb he
      have hz := zag_I64 (getSmall_lt hb)
      rw [if_pos he]
      dsimp only
      refine ⟨g1, ?_⟩
      unfold nextBits
      by_cases h0 : row.length = 0
      · rw [if_pos h0, if_neg (by omega), sg_toU64 hz, zz_zag, g2]
      · rw [if_neg h0, if_pos (by omega), if_pos (by omega), toU64_sg, UInt64.add_sub_cancel, sg_toU64 hz, zz_zag, g2]
    · rw [if_neg he] at h; exact absurd h he
  · rw [if_neg h2] at h ⊢
    dsimp only at h ⊢
    by_cases he : (getStep l).e = 0
    · obtain ⟨g1, g2⟩ := getStep_got hb he
      rw [if_pos he]
      dsimp only
      refine ⟨g1, ?_⟩
      unfold nextBits
      rw [if_neg (by omega), if_neg (by omega), toU64_sg, g2]
      congr 2
      grind
    · rw [if_neg he] at h; exact absurd h he
end Go.Lg
