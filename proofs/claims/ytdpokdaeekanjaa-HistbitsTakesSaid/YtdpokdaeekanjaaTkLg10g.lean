/- Law 10: what is put is read, and the other way round. -/
import Derived.Test.YtdpokdaeekanjaaTkLg10f
set_option linter.unusedVariables false
namespace Go.Lg
attribute [local irreducible] w64 toU64 toU8 shlU shrU shlB shrB
def bitsO (o : Option UInt64) (c : UInt64) : List Int := match o with
  | none => smallBits c.toNat
  | some w => smallBits (zz (sg (c - w)))
def cB : List (Option UInt64) → List UInt64 → List Int
  | o :: os, c :: cs => bitsO o c ++ cB os cs
  | _, _ => []
theorem cB_diff : ∀ (cs ws : List UInt64), cB (ws.map some) cs = diffB cs ws
  | [], [] => rfl
  | [], _ :: _ => rfl
  | _ :: _, [] => rfl
  | c :: cs, w :: ws => by rw [List.map_cons, cB, diffB, cB_diff cs ws]; rfl
theorem cB_full : ∀ (cs : List UInt64), cB (List.replicate cs.length none) cs = fullB cs
  | [] => rfl
  | c :: cs => by
    rw [List.length_cons, List.replicate_succ, cB, cB_full cs]
    unfold fullB
    rw [List.flatMap_cons]; rfl
theorem rB_got {B : List Int} (hb : Bit B) {k q : Nat} {e : Int} (hq : q ≤ B.length) (h : (rB B k q e).e = 0) : e = 0 ∧ q + k ≤ B.length ∧ (rB B k q e).q = q + k ∧ B.take (q + k) = B.take q ++ rowN (rB B k q e).v k := by
  unfold rB at *
  by_cases he : e = 0
  · rw [if_neg (by simpa using he)] at *
    by_cases h1 : B.length - q < k
    · rw [if_pos h1] at h; exact absurd h (show ¬ ((2 : Int) = 0) by decide)
    · rw [if_neg h1]
      refine ⟨he, by omega, rfl, ?_⟩
      have hl : ((B.drop q).take k).length = k := by rw [List.length_take, List.length_drop]; omega
      have := rowN_self ((hb.drop q).take k)
      rw [hl] at this
      dsimp only
      rw [this, List.take_add]
  · rw [if_pos he] at h; exact absurd h he
theorem rS_got {B : List Int} (hb : Bit B) {q : Nat} {e : Int} (h : (rS B q e).e = 0) : e = 0 ∧ B.take (rS B q e).q = B.take q ++ smallBits (rS B q e).v := by
  unfold rS at *
  by_cases he : e = 0
  · rw [if_neg (by simpa using he)] at *
    refine ⟨he, ?_⟩
    dsimp only at *
    rw [List.take_add, (getSmall_got (hb.drop q) h).2]
  · rw [if_pos he] at h; exact absurd h he
theorem one_got (o : Option UInt64) {v : Nat} (hv : v < 18446744073709551616) : bitsO o (val o v) = smallBits v := by
  cases o with
  | none => unfold bitsO val; dsimp only; rw [u64_ofNat hv]
  | some w => unfold bitsO val; dsimp only; rw [UInt64.add_sub_cancel, sg_toU64 (zag_I64 hv), zz_zag]
theorem rC_got {B : List Int} (hb : Bit B) : ∀ (os : List (Option UInt64)) (q : Nat) (e : Int), (rC B os q e).e = 0 → e = 0 ∧ B.take (rC B os q e).q = B.take q ++ cB os (rC B os q e).l
  | [], q, e, h => ⟨h, by rw [rC]; simp [cB]⟩
  | o :: os, q, e, h => by
    rw [rC] at *
    dsimp only at *
    obtain ⟨h1, h2⟩ := rC_got hb os _ _ h
    obtain ⟨h3, h4⟩ := rS_got hb h1
    refine ⟨h3, ?_⟩
    rw [h2, h4, cB, one_got o (rS_lt hb), List.append_assoc]
theorem rSide_got {B : List Int} (hb : Bit B) {q : Nat} {e : Int} (hq : q ≤ B.length) (h : (rSide B q e).e = 0) : e = 0 ∧ B.take (rSide B q e).q = B.take q ++ shapeB (rSide B q e).s := by
  have hlt := rB_lt hb (k := 8) (q := q) (e := e)
  unfold rSide at *
  by_cases h5 : e4 (rB B 8 q e) ≠ 0 ∨ (rB B 8 q e).v = 0
  · rw [if_pos h5] at *
    dsimp only at *
    have h0 : (rB B 8 q e).e = 0 := by unfold e4 at h; split at h <;> simp_all
    obtain ⟨h1, h2, h3, h4⟩ := rB_got hb hq h0
    have hv : (rB B 8 q e).v = 0 := by rcases h5 with h5 | h5; exact absurd h h5; exact h5
    refine ⟨h1, ?_⟩
    rw [h3, h4, hv]
    unfold shapeB
    dsimp only
    rw [if_neg (by simp), List.append_nil]; rfl
  · rw [if_neg h5] at *
    dsimp only at *
    obtain ⟨g1, g2⟩ := rS_got hb h
    have h0 : (rB B 8 q e).e = 0 := by unfold e4 at g1; split at g1 <;> simp_all
    obtain ⟨h1, h2, h3, h4⟩ := rB_got hb hq h0
    refine ⟨h1, ?_⟩
    have hv : (rB B 8 q e).v ≠ 0 := fun h => h5 (.inr h)
    rw [g2, h3, h4]
    unfold shapeB
    dsimp only
    rw [List.length_replicate, if_pos (by omega), zz_zag, ← h3, List.append_assoc]
theorem shapeB_congr {s t : api_Side} (h : s.Offset = t.Offset) (hl : s.Counts.length = t.Counts.length) : shapeB s = shapeB t := by unfold shapeB; rw [h, hl]
theorem getT_e {same : Bool} {row : List api_Hist} {sc po : Int} {pl : Nat} {no : Int} {r : SC} (h : (getT same row sc po pl no r).e = 0) :
    r.e = 0 ∧ histE (mkH sc po pl no r.l) = 0 ∧ ¬ (same = false ∧ alk row (mkH sc po pl no r.l) = true) ∧ getT same row sc po pl no r = ⟨mkH sc po pl no r.l, r.q, 0⟩ := by
  unfold getT at *
  by_cases h1 : r.e = 0
  · rw [if_neg (by simpa using h1)] at *
    by_cases h2 : histE (mkH sc po pl no r.l) = 0
    · rw [if_neg (by simpa using h2)] at *
      by_cases h3 : same = false ∧ alk row (mkH sc po pl no r.l) = true
      · rw [if_pos h3] at h; exact absurd h (by decide)
      · rw [if_neg h3]; exact ⟨h1, h2, h3, rfl⟩
    · rw [if_pos h2] at h; exact absurd h h2
  · rw [if_pos h1] at h; exact absurd h h1
theorem getH_got {row : List api_Hist} (hg : ∀ h ∈ row, GoodH h) {B : List Int} (hb : Bit B) (h : (getH row B).e = 0) :
    (getH row B).n ≤ B.length ∧ B.take (getH row B).n = hiB row (getH row B).h ∧ OkH (getH row B).h ∧ histE (getH row B).h = 0 := by
  have hq1 := rB_le (B := B) (k := 1) (q := 0) (e := 0) (by omega)
  have hl1 := rB_lt hb (k := 1) (q := 0) (e := 0)
  unfold getH at *
  by_cases hv : (rB B 1 0 0).v = 1
  · by_cases h0 : row.length = 0
    · rw [if_pos ⟨hv, h0⟩] at h; exact absurd h (by decide)
    · have hgl := hg _ (lastH_mem (row := row) (by omega))
      have hp := hgl.pl; have hn := hgl.nl; have hI := hgl.s
      have hal := allC_len (lastH row)
      rw [if_neg (fun h => h0 h.2), if_pos hv] at *
      obtain ⟨g1, g2, g3, g4⟩ := getT_e h
      rw [g4]
      dsimp only
      have hrl := rC_len B ((allC (lastH row)).map some) (rB B 1 0 0).q (rB B 1 0 0).e
      rw [List.length_map, hal] at hrl
      have hrq := rC_le hb ((allC (lastH row)).map some) (rB B 1 0 0).q (rB B 1 0 0).e hq1
      obtain ⟨k1, k2⟩ := rC_got hb _ _ _ g1
      obtain ⟨_, k4, k5, k6⟩ := rB_got hb (by omega) k1
      rw [hv] at k6
      generalize rC B ((allC (lastH row)).map some) (rB B 1 0 0).q (rB B 1 0 0).e = r at *
      have hpos := mkH_pos (lastH row).Scale (lastH row).Pos.Offset (lastH row).Pos.Counts.length (lastH row).Neg.Offset r.l (by omega)
      have hneg := mkH_neg (lastH row).Scale (lastH row).Pos.Offset (lastH row).Pos.Counts.length (lastH row).Neg.Offset r.l
      have ok : OkH (mkH (lastH row).Scale (lastH row).Pos.Offset (lastH row).Pos.Counts.length (lastH row).Neg.Offset r.l) := mkH_ok (by unfold I64; omega) hgl.po hgl.no (by omega) (by omega)
      have hall : allC (mkH (lastH row).Scale (lastH row).Pos.Offset (lastH row).Pos.Counts.length (lastH row).Neg.Offset r.l) = r.l := by
        unfold allC mkH
        dsimp only
        match hr : r.l, hrl with
        | [], hh => rw [List.length_nil] at hh; omega
        | z :: zs, _ =>
          rw [show (z :: zs).getD 0 0 = z from rfl, List.drop_succ_cons, List.drop_zero, Nat.add_comm 1, List.drop_succ_cons, List.take_append_drop]
      have hk : alk row (mkH (lastH row).Scale (lastH row).Pos.Offset (lastH row).Pos.Counts.length (lastH row).Neg.Offset r.l) = true := by
        unfold alk alikeB
        rw [Bool.and_eq_true, decide_eq_true_eq, decide_eq_true_eq]
        exact ⟨by omega, rfl, rfl, rfl, by rw [hpos], by rw [hneg]; omega⟩
      refine ⟨hrq, ?_, ok, g2⟩
      unfold hiB
      rw [if_pos hk, hall, k2, k5, k6, List.take_zero, cB_diff]; rfl
  · rw [if_neg (fun h => hv h.1), if_neg hv] at *
    dsimp only at *
    have hv0 : (rB B 1 0 0).v = 0 := by omega
    have hq2 := rB_le (k := 5) (e := (rB B 1 0 0).e) hq1
    have hl2 := rB_lt hb (k := 5) (q := (rB B 1 0 0).q) (e := (rB B 1 0 0).e)
    have hq3 := rSide_le hb (e := (rB B 5 (rB B 1 0 0).q (rB B 1 0 0).e).e) hq2
    have hs3 := rSide_len B hb (rB B 5 (rB B 1 0 0).q (rB B 1 0 0).e).q (rB B 5 (rB B 1 0 0).q (rB B 1 0 0).e).e
    have ho3 := rSide_off hb (rB B 5 (rB B 1 0 0).q (rB B 1 0 0).e).q (rB B 5 (rB B 1 0 0).q (rB B 1 0 0).e).e
    obtain ⟨g1, g2, g3, g4⟩ := getT_e h
    rw [g4]
    dsimp only
    generalize ha : rB B 1 0 0 = a at *
    generalize hbb : rB B 5 a.q a.e = b at *
    generalize hpp : rSide B b.q b.e = P at *
    have hq4 := rSide_le hb (e := P.e) hq3
    have hs4 := rSide_len B hb P.q P.e
    have ho4 := rSide_off hb P.q P.e
    generalize hnn : rSide B P.q P.e = N at *
    obtain ⟨k1, k2⟩ := rC_got hb _ _ _ g1
    have hrl := rC_len B (List.replicate (1 + P.s.Counts.length + N.s.Counts.length) none) N.q N.e
    rw [List.length_replicate] at hrl
    have hrq := rC_le hb (List.replicate (1 + P.s.Counts.length + N.s.Counts.length) none) N.q N.e hq4
    obtain ⟨n1, n2⟩ := rSide_got hb hq3 (by rw [hnn]; exact k1)
    obtain ⟨p1, p2⟩ := rSide_got hb hq2 (by rw [hpp]; exact n1)
    obtain ⟨b1, b2, b3, b4⟩ := rB_got hb hq1 (by rw [hbb]; exact p1)
    obtain ⟨a1, a2, a3, a4⟩ := rB_got hb (B := B) (k := 1) (q := 0) (e := 0) (by omega) (by rw [ha]; exact b1)
    rw [hnn] at n2
    rw [hpp] at p2
    rw [hbb] at b3 b4
    rw [ha] at a3 a4
    generalize hrr : rC B (List.replicate (1 + P.s.Counts.length + N.s.Counts.length) none) N.q N.e = r at *
    have hpos := mkH_pos ((b.v : Int) - 10) P.s.Offset P.s.Counts.length N.s.Offset r.l (by omega)
    have hneg := mkH_neg ((b.v : Int) - 10) P.s.Offset P.s.Counts.length N.s.Offset r.l
    have ok : OkH (mkH ((b.v : Int) - 10) P.s.Offset P.s.Counts.length N.s.Offset r.l) := mkH_ok (by unfold I64; omega) ho3 ho4 (by omega) (by omega)
    have hall : allC (mkH ((b.v : Int) - 10) P.s.Offset P.s.Counts.length N.s.Offset r.l) = r.l := by
      unfold allC mkH
      dsimp only
      match hr : r.l, hrl with
      | [], hh => rw [List.length_nil] at hh; omega
      | z :: zs, _ =>
        rw [show (z :: zs).getD 0 0 = z from rfl, List.drop_succ_cons, List.drop_zero, Nat.add_comm 1, List.drop_succ_cons, List.take_append_drop]
    have hk : ¬ alk row (mkH ((b.v : Int) - 10) P.s.Offset P.s.Counts.length N.s.Offset r.l) = true := fun hh => g3 ⟨rfl, hh⟩
    refine ⟨hrq, ?_, ok, g2⟩
    unfold hiB
    rw [if_neg hk, hall, k2, n2, p2, b3, b4, a3, a4, hv0, List.take_zero, ← cB_full, hrl]
    rw [shapeB_congr (s := (mkH ((b.v : Int) - 10) P.s.Offset P.s.Counts.length N.s.Offset r.l).Pos) (t := P.s) rfl hpos, shapeB_congr (s := (mkH ((b.v : Int) - 10) P.s.Offset P.s.Counts.length N.s.Offset r.l).Neg) (t := N.s) rfl (by rw [hneg]; omega)]
    rw [show ((mkH ((b.v : Int) - 10) P.s.Offset P.s.Counts.length N.s.Offset r.l).Scale + 10).toNat = b.v by show ((b.v : Int) - 10 + 10).toNat = b.v; omega]
    rfl
end Go.Lg
