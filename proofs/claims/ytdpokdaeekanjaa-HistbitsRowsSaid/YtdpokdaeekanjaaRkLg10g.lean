/- Law 10: what is put is read, and the other way round. -/
import Derived.Test.YtdpokdaeekanjaaRkLg10f
set_option linter.unusedVariables false
namespace Go.Lg
attribute [local irreducible] w64 toU64 toU8 shlU shrU shlB shrB
def bitsO (o : Option UInt64) (c : UInt64) : List Int := match o with
  | none => smallBits c.toNat
  | some w => smallBits (zz (sg (c - w)))
def cB : List (Option UInt64) → List UInt64 → List Int
  | o :: os, c :: cs => bitsO o c ++ cB os cs
  | _, _ => []
theorem cB_diff : ∀ (cs ws : List UInt64), cB (ws.map some) cs = diffB cs ws
  | [], [] => rfl
  | [], _ :: _ => rfl
  | _ :: _, [] => rfl
  | c :: cs, w :: ws => by rw [List.map_cons, cB, diffB, cB_diff cs ws]; rfl
theorem cB_full : ∀ (cs : List UInt64), cB (List.replicate cs.length none) cs = fullB cs
  | [] => rfl
  | c :: cs => by
    rw [List.length_cons, List.replicate_succ, cB, cB_full cs]
    unfold fullB
    rw [List.flatMap_cons]; rfl
theorem rB_put {B rest : List Int} {k q v : Nat} (hv : v < 2 ^ k) (h : B.drop q = rowN v k ++ rest) : rB B k q 0 = ⟨v, q + k, 0⟩ ∧ B.drop (q + k) = rest := by
  have hl : B.length - q = k + rest.length := by rw [← List.length_drop, h, List.length_append, rowN_len]
  constructor
  · unfold rB
    rw [if_neg (by simp), if_neg (by omega), h, take_app (rowN_len _ _), rowN_dv, Nat.mod_eq_of_lt hv]
  · rw [← List.drop_drop, h, drop_app (rowN_len _ _)]
theorem rS_put {B rest : List Int} {q v : Nat} (hv : v < 2 ^ 64) (h : B.drop q = smallBits v ++ rest) : rS B q 0 = ⟨v, q + (smallBits v).length, 0⟩ ∧ B.drop (q + (smallBits v).length) = rest := by
  constructor
  · unfold rS
    rw [if_neg (by simp), h, getSmall_put hv]
  · rw [← List.drop_drop, h, drop_app rfl]
theorem one_put (o : Option UInt64) (c : UInt64) : ∃ v : Nat, v < 2 ^ 64 ∧ bitsO o c = smallBits v ∧ val o v = c := by
  cases o with
  | none => exact ⟨c.toNat, c.toNat_lt, rfl, UInt64.ofNat_toNat⟩
  | some w =>
    refine ⟨zz (sg (c - w)), zz_lt (sg_I64 _), rfl, ?_⟩
    unfold val
    dsimp only
    rw [zag_zz, toU64_sg, UInt64.sub_add_cancel]
theorem rC_put : ∀ (os : List (Option UInt64)) (cs : List UInt64) {B rest : List Int} {q : Nat}, os.length = cs.length → B.drop q = cB os cs ++ rest → rC B os q 0 = ⟨cs, q + (cB os cs).length, 0⟩ ∧ B.drop (q + (cB os cs).length) = rest
  | [], [], B, rest, q, _, h => ⟨rfl, h⟩
  | o :: os, c :: cs, B, rest, q, hl, h => by
    obtain ⟨v, h1, h2, h3⟩ := one_put o c
    rw [cB, List.append_assoc, h2] at h
    obtain ⟨g1, g2⟩ := rS_put h1 h
    obtain ⟨f1, f2⟩ := rC_put os cs (by simpa using hl) g2
    rw [rC, cB, h2, g1]
    dsimp only
    rw [f1, h3, List.length_append, ← Nat.add_assoc]
    exact ⟨rfl, f2⟩
theorem rSide_put {s : api_Side} (hl : s.Counts.length ≤ 160) (ho : I64 s.Offset) (h0 : s.Counts.length = 0 → s.Offset = 0) {B rest : List Int} {q : Nat} (h : B.drop q = shapeB s ++ rest) :
    rSide B q 0 = ⟨⟨s.Offset, List.replicate s.Counts.length 0⟩, q + (shapeB s).length, 0⟩ ∧ B.drop (q + (shapeB s).length) = rest := by
  have hd : B.drop (q + (shapeB s).length) = rest := by rw [← List.drop_drop, h, drop_app rfl]
  refine ⟨?_, hd⟩
  unfold shapeB at h
  rw [List.append_assoc] at h
  obtain ⟨g1, g2⟩ := rB_put (by omega) h
  have he : e4 ⟨s.Counts.length, q + 8, 0⟩ = 0 := by unfold e4; rw [if_neg (by dsimp only; omega)]
  unfold rSide shapeB
  rw [g1, he]
  dsimp only
  by_cases hc : 0 < s.Counts.length
  · rw [if_neg (by omega), if_pos hc]
    rw [if_pos hc] at g2
    obtain ⟨k1, k2⟩ := rS_put (zz_lt ho) g2
    rw [k1]
    dsimp only
    rw [zag_zz, List.length_append, rowN_len, Nat.add_assoc]
  · have h00 : s.Counts.length = 0 := by omega
    rw [if_pos (.inr h00), if_neg hc, h00, h0 h00, List.append_nil, rowN_len]; rfl
theorem sideE_off {s : api_Side} (h : sideE s = 0) (h0 : s.Counts.length = 0) : s.Offset = 0 := by
  unfold sideE at h
  rw [if_neg (by omega), if_pos h0] at h
  by_cases h1 : s.Offset = 0
  · exact h1
  · rw [if_neg h1] at h; exact absurd h (by decide)
theorem histE_sides {h : api_Hist} (e : histE h = 0) : sideE h.Pos = 0 ∧ sideE h.Neg = 0 := by
  unfold histE at e
  split at e
  · cases e
  · split at e
    · rename_i h2; exact absurd e h2
    · rename_i h2
      split at e
      · rename_i h3; exact absurd e h3
      · rename_i h3; exact ⟨by simpa using h2, by simpa using h3⟩
theorem mkH_all (h : api_Hist) : mkH h.Scale h.Pos.Offset h.Pos.Counts.length h.Neg.Offset (allC h) = h := by
  unfold allC
  rw [mkH_eq _ _ _ _ rfl]
theorem getH_put {row : List api_Hist} {h : api_Hist} (o : OkH h) (he : histE h = 0) (rest : List Int) : getH row (hiB row h ++ rest) = ⟨h, (hiB row h).length, 0⟩ := by
  have g := goodH_of o he
  by_cases hk : alk row h = true
  · have hkk := hk
    unfold alk at hk
    rw [Bool.and_eq_true, decide_eq_true_eq] at hk
    have hal := hk.2
    unfold alikeB at hal
    rw [decide_eq_true_eq] at hal
    have hB : (hiB row h ++ rest).drop 0 = rowN 1 1 ++ (diffB (allC h) (allC (lastH row)) ++ rest) := by
      rw [List.drop_zero]; unfold hiB; rw [if_pos hkk, show rowN 1 1 = [1] from rfl]; rfl
    obtain ⟨g1, g2⟩ := rB_put (by decide) hB
    have hlen : (hiB row h).length = 1 + (diffB (allC h) (allC (lastH row))).length := by unfold hiB; rw [if_pos hkk, List.length_cons]; omega
    rw [← cB_diff] at g2
    have ll1 := allC_len h
    have ll2 := allC_len (lastH row)
    obtain ⟨f1, f2⟩ := rC_put ((allC (lastH row)).map some) (allC h) (by rw [List.length_map]; omega) g2
    unfold getH
    rw [g1]
    dsimp only
    rw [if_neg (by omega), if_pos rfl, f1]
    unfold getT
    dsimp only
    rw [if_neg (by simp), hal.1, hal.2.1, hal.2.2.1, hal.2.2.2.1, mkH_all, if_neg (by simpa using he), if_neg (by simp), hlen, cB_diff]
  · have h1 := g.s
    obtain ⟨sp, sn⟩ := histE_sides he
    have hB : (hiB row h ++ rest).drop 0 = rowN 0 1 ++ (rowN (h.Scale + 10).toNat 5 ++ (shapeB h.Pos ++ (shapeB h.Neg ++ (fullB (allC h) ++ rest)))) := by
      rw [List.drop_zero]; unfold hiB; rw [if_neg hk, show rowN 0 1 = [0] from rfl]; simp only [List.append_assoc]
    obtain ⟨g1, g2⟩ := rB_put (by decide) hB
    obtain ⟨k1, k2⟩ := rB_put (by omega) g2
    obtain ⟨p1, p2⟩ := rSide_put g.pl g.po (sideE_off sp) k2
    obtain ⟨n1, n2⟩ := rSide_put g.nl g.no (sideE_off sn) p2
    rw [← cB_full] at n2
    obtain ⟨f1, f2⟩ := rC_put (List.replicate (allC h).length none) (allC h) (by rw [List.length_replicate]) n2
    have hlen : (hiB row h).length = 0 + 1 + 5 + (shapeB h.Pos).length + (shapeB h.Neg).length + (fullB (allC h)).length := by
      unfold hiB; rw [if_neg hk]; simp only [List.length_append, rowN_len, List.length_cons, List.length_nil]
    unfold getH
    rw [g1]
    dsimp only
    rw [if_neg (by omega), if_neg (by omega), k1]
    dsimp only
    rw [p1]
    dsimp only
    rw [n1]
    dsimp only
    rw [List.length_replicate, List.length_replicate, ← allC_len, f1]
    unfold getT
    dsimp only
    rw [if_neg (by simp), show (((h.Scale + 10).toNat : Nat) : Int) - 10 = h.Scale by omega, mkH_all, if_neg (by simpa using he), if_neg (fun h => hk h.2), hlen, cB_full]
end Go.Lg
