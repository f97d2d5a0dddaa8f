/- Lemmas about the given model and about plain data, which the rows stand on: no statement of the program by itself. -/
import Derived.Test.YtdpokdaeekanjaaRkLg06
set_option linter.unusedVariables false
namespace Go.Lg
attribute [local irreducible] w64 toU64 toU8 shlU shrU shlB shrB
/-! ### a difference is read -/
def lead : Nat → List Int → Nat
  | 0, _ => 0
  | _ + 1, [] => 0
  | m + 1, x :: l => if x = 1 then 1 + lead m l else 0
theorem lead_le : ∀ (m : Nat) (l : List Int), lead m l ≤ m ∧ lead m l ≤ l.length
  | 0, l => by simp [lead]
  | m + 1, [] => by simp [lead]
  | m + 1, x :: l => by
    have := lead_le m l
    rw [lead]; split
    · simp; omega
    · simp
theorem lead_drop (l : List Int) {k m : Nat} (h : k < l.length) : lead (m + 1) (l.drop k) = if l[k] = 1 then 1 + lead m (l.drop (k + 1)) else 0 := by
  rw [List.drop_eq_getElem_cons h, lead]
theorem lead_end (l : List Int) {k m : Nat} (h : l.length ≤ k) : lead m (l.drop k) = 0 := by
  rw [List.drop_eq_nil_of_le h]
  cases m <;> rfl
/-- the sign of a way's bits -/
def sxt (k v : Nat) : Nat := if 0 < k ∧ k < 4 ∧ 2 ^ (wd k - 1) ≤ v then v + 18446744073709551616 - 2 ^ wd k else v
def getStep (l : List Int) : GotS :=
  let k := lead 4 l
  if k < 4 ∧ k = l.length then ⟨0, 0, 2⟩ else
  let a := min (k + 1) 4
  if l.length - a < wd k then ⟨0, 0, 2⟩ else
  let v := sxt k (dv ((l.drop a).take (wd k)))
  if wy (sg (UInt64.ofNat v)) = k then ⟨v, a + wd k, 0⟩ else ⟨0, 0, 3⟩
theorem wd_cases {k : Nat} (h : k ≤ 4) : (k = 0 ∧ wd k = 0) ∨ (k = 1 ∧ wd k = 6) ∨ (k = 2 ∧ wd k = 10) ∨ (k = 3 ∧ wd k = 16) ∨ (k = 4 ∧ wd k = 64) := by
  match k, h with
  | 0, _ => exact .inl ⟨rfl, rfl⟩
  | 1, _ => exact .inr (.inl ⟨rfl, rfl⟩)
  | 2, _ => exact .inr (.inr (.inl ⟨rfl, rfl⟩))
  | 3, _ => exact .inr (.inr (.inr (.inl ⟨rfl, rfl⟩)))
  | 4, _ => exact .inr (.inr (.inr (.inr ⟨rfl, rfl⟩)))
theorem sxt_lt {k v : Nat} (hk : k ≤ 4) (hv : v < 2 ^ wd k) : sxt k v < 18446744073709551616 := by
  unfold sxt
  rcases wd_cases hk with ⟨rfl, h⟩ | ⟨rfl, h⟩ | ⟨rfl, h⟩ | ⟨rfl, h⟩ | ⟨rfl, h⟩ <;> rw [h] at hv ⊢ <;> split <;> omega
theorem dv_part_lt {l : List Int} (hb : Bit l) {a k : Nat} (h : a + k ≤ l.length) : dv ((l.drop a).take k) < 2 ^ k := by
  have := dv_lt ((hb.drop a).take k)
  rwa [List.length_take, List.length_drop, Nat.min_eq_left (by omega)] at this
theorem sext_num {n m P H F v : Nat} (hm : min (64 - n) 64 = m) (hP : (2 : Nat) ^ m = P) (hH : 2 ^ (n - 1) = H) (hF : 2 ^ n = F) (hHF : F = 2 * H) (hPF : P * H = 9223372036854775808) (hv : v < F) (h0 : 0 < P) (hH0 : 0 < H) :
    ((((v * P % 18446744073709551616 : Nat) : Int) + 9223372036854775808) % 18446744073709551616 - 9223372036854775808) / (P : Int) = if (if H ≤ v then v + 18446744073709551616 - F else v) < 9223372036854775808 then (((if H ≤ v then v + 18446744073709551616 - F else v) : Nat) : Int) else (((if H ≤ v then v + 18446744073709551616 - F else v) : Nat) : Int) - 18446744073709551616 := by
  have h1 : v * P < 18446744073709551616 := by
    have h2 : v * P < F * P := Nat.mul_lt_mul_of_pos_right hv h0
    rw [hHF, Nat.mul_assoc, Nat.mul_comm H P, hPF] at h2
    omega
  have hHle : H ≤ 9223372036854775808 := by rw [← hPF]; exact Nat.le_mul_of_pos_left _ h0
  rw [Nat.mod_eq_of_lt h1]
  by_cases hc : H ≤ v
  · rw [if_pos hc, if_neg (by omega)]
    have h3 : 9223372036854775808 ≤ v * P := by rw [← hPF, Nat.mul_comm]; exact Nat.mul_le_mul_right _ hc
    have e : (((v * P : Nat) : Int) + 9223372036854775808) % 18446744073709551616 - 9223372036854775808 = ((v : Int) - (F : Int)) * (P : Int) := by
      have e2 : (F : Int) * (P : Int) = 18446744073709551616 := by
        have h7 : F * P = 18446744073709551616 := by rw [hHF, Nat.mul_assoc, Nat.mul_comm H P, hPF]
        rw [← Int.natCast_mul, h7]; rfl
      rw [Int.sub_mul, e2, ← Int.natCast_mul]
      omega
    rw [e, Int.mul_ediv_cancel _ (by omega)]
    omega
  · rw [if_neg hc]
    have h3 : v * P < 9223372036854775808 := by rw [← hPF, Nat.mul_comm P H]; exact Nat.mul_lt_mul_of_pos_right (by omega) h0
    have e : (((v * P : Nat) : Int) + 9223372036854775808) % 18446744073709551616 - 9223372036854775808 = (v : Int) * (P : Int) := by
      rw [← Int.natCast_mul]
      omega
    rw [e, Int.mul_ediv_cancel _ (by omega)]
    have : v < 9223372036854775808 := by omega
    rw [if_pos this]
theorem sext {k v : Nat} (hk : k ≤ 4) (hv : v < 2 ^ wd k) : shrI (w64 ((shlU (UInt64.ofNat v) (64 - wd k)).toNat : Int)) (64 - wd k) = sg (UInt64.ofNat (sxt k v)) := by
  have hs := sxt_lt hk hv
  have hw := wd_le k
  have hv64 : v < 18446744073709551616 := Nat.lt_of_lt_of_le hv (Nat.pow_le_pow_right (n := 2) (by omega) hw)
  rw [sg_val, u64_ofNat hs]
  have hsh : (shlU (UInt64.ofNat v) (64 - wd k)).toNat = v * 2 ^ (min (64 - wd k) 64) % 18446744073709551616 := by
    unfold shlU
    rw [UInt64.toNat_ofNat', u64_ofNat hv64]
  rw [hsh]
  have hd : ∀ x : Int, shrI (w64 x) (64 - wd k) = ((x + 9223372036854775808) % 18446744073709551616 - 9223372036854775808) / ((2 ^ min (64 - wd k) 64 : Nat) : Int) := by
    intro x; unfold shrI w64; rw [Int.natCast_pow]; rfl
  rw [hd]
  rcases wd_cases hk with ⟨rfl, h⟩ | ⟨rfl, h⟩ | ⟨rfl, h⟩ | ⟨rfl, h⟩ | ⟨rfl, h⟩
  · rw [h] at hv ⊢
    have : v = 0 := by omega
    subst this
    decide
  · rw [h] at hv ⊢
    have := sext_num (n := 6) (m := 58) (P := 288230376151711744) (H := 32) (F := 64) (v := v) rfl (by decide) rfl rfl rfl rfl hv (by omega) (by omega)
    simpa [sxt, h] using this
  · rw [h] at hv ⊢
    have := sext_num (n := 10) (m := 54) (P := 18014398509481984) (H := 512) (F := 1024) (v := v) rfl (by decide) rfl rfl rfl rfl hv (by omega) (by omega)
    simpa [sxt, h] using this
  · rw [h] at hv ⊢
    have := sext_num (n := 16) (m := 48) (P := 281474976710656) (H := 32768) (F := 65536) (v := v) rfl (by decide) rfl rfl rfl rfl hv (by omega) (by omega)
    simpa [sxt, h] using this
  · rw [h] at hv ⊢
    have e : sxt 4 v = v := by unfold sxt; rw [if_neg (by omega)]
    rw [e, show (2 : Nat) ^ min (64 - 64) 64 = 1 by decide]
    split <;> omega
theorem step_loop (a0 : bitio_Reader) {A : List Int} {p : Nat} : ∀ (m k : Nat) (x : bitio_Reader), k + m = 4 → RA x A (p + k) →
    (if k + lead m (A.drop (p + k)) < 4 ∧ p + (k + lead m (A.drop (p + k))) = A.length then loop (vary_step_lp1 a0) (x.b, x.n, x.at_, (k : Int)) = some (.out (.out (0, 2, a0)))
    else ∃ x', loop (vary_step_lp1 a0) (x.b, x.n, x.at_, (k : Int)) = some (.go (x'.b, x'.n, x'.at_, ((k + lead m (A.drop (p + k)) : Nat) : Int))) ∧ RA x' A (p + min (k + lead m (A.drop (p + k)) + 1) 4)) := by
  intro m
  induction m with
  | zero =>
    intro k x hk hx
    obtain rfl : k = 4 := by omega
    rw [if_neg (by simp [lead])]
    refine ⟨x, loop_brk ?_, by simpa [lead] using hx⟩
    unfold vary_step_lp1
    dsimp only
    rw [bifFd (by omega)]
    simp [lead]
  | succ m ih =>
    intro k x hk hx
    by_cases h : p + k < A.length
    · obtain ⟨x', t1, t2, _⟩ := hx.take (k := 1) (by omega) (by omega)
      have hd1 : (A.drop (p + k)).take 1 = [A[p + k]] := by rw [List.drop_eq_getElem_cons h, List.take_succ_cons, List.take_zero]
      rw [hd1, dv_one] at t1
      have t1' : bitio_Reader_Take ⟨x.b, x.n, x.at_⟩ 1 = _ := t1
      rw [lead_drop A h]
      have hbit := hx.bit _ (List.getElem_mem h)
      by_cases h1 : A[p + k] = 1
      · rw [if_pos h1]
        have := ih (k + 1) x' (by omega) (by rw [← Nat.add_assoc]; exact t2)
        rw [← Nat.add_assoc] at this
        have hr : vary_step_lp1 a0 (x.b, x.n, x.at_, (k : Int)) = some (.next (x'.b, x'.n, x'.at_, ((k + 1 : Nat) : Int))) := by
          unfold vary_step_lp1
          dsimp only
          rw [bifTd (by omega), t1', bind_some]
          dsimp only
          rw [bifF (by rfl), bifFd (by rw [h1]; decide), lett_eq, w64_succ (by omega)]
        rw [loop_next hr, show k + (1 + lead m (A.drop (p + k + 1))) = k + 1 + lead m (A.drop (p + k + 1)) by omega]
        exact this
      · have h0 : A[p + k] = 0 := by rcases hbit with e | e <;> first | exact e | exact absurd e h1
        rw [if_neg h1, if_neg (by omega)]
        refine ⟨x', loop_brk ?_, ?_⟩
        · unfold vary_step_lp1
          dsimp only
          rw [bifTd (by omega), t1', bind_some]
          dsimp only
          rw [bifF (by rfl), bifTd (by rw [h0]; decide)]
          simp
        · rw [show p + min (k + 0 + 1) 4 = p + k + 1 by omega]; exact t2
    · have hle := hx.le
      have t1 := hx.takeNo (k := 1) (by omega)
      have t1' : bitio_Reader_Take ⟨x.b, x.n, x.at_⟩ 1 = _ := t1
      rw [lead_end A (by omega), if_pos (by omega)]
      refine loop_out ?_
      unfold vary_step_lp1
      dsimp only
      rw [bifTd (by omega), t1', bind_some]
      dsimp only
      rw [bifT (by rfl)]
      rfl
theorem vstep_eq {r : bitio_Reader} {A : List Int} {p : Nat} (h : RA r A p) : ∃ r', vary_step r = some (if (getStep (A.drop p)).e = 0 then sg (UInt64.ofNat (getStep (A.drop p)).v) else 0, (getStep (A.drop p)).e, r') ∧ RA r' A (p + (getStep (A.drop p)).n) ∧ ((getStep (A.drop p)).e ≠ 0 → r' = r) := by
  have hlen : (A.drop p).length = A.length - p := List.length_drop
  have hle := h.le
  have hbig : A.length ≤ 8000000 := by have := h.len; have := h.small; omega
  have hl := step_loop r (A := A) (p := p) 4 0 r (by omega) h
  have hld := lead_le 4 (A.drop p)
  simp only [Nat.add_zero, Nat.zero_add] at hl
  unfold vary_step getStep
  have hloop : loop (vary_step_lp1 r) (r.b, r.n, r.at_, 0) = loop (vary_step_lp1 r) (r.b, r.n, r.at_, ((0 : Nat) : Int)) := rfl
  rw [hloop]
  generalize lead 4 (A.drop p) = k at *
  dsimp only
  by_cases h1 : k < 4 ∧ k = (A.drop p).length
  · rw [if_pos (by omega)] at hl
    rw [if_pos h1, hl]
    exact ⟨r, rfl, h, fun _ => rfl⟩
  rw [if_neg (by omega)] at hl
  obtain ⟨x', l1, l2⟩ := hl
  rw [if_neg h1, l1, flow_go]
  dsimp only
  rw [flow_go]
  dsimp only
  have hw := wd_le k
  have ha4 : min (k + 1) 4 ≤ 4 := by omega
  have ha := l2.le
  have hk4 := hld.1
  clear l1 hloop hld
  generalize min (k + 1) 4 = a at *
  rw [show vary_widths = some [0, 6, 10, 16, 64] from rfl, bind_some, widths_at hk4, bind_some]
  by_cases h3 : (A.drop p).length - a < wd k
  · have t1 := l2.takeNo (k := wd k) (by omega)
    have t1' : bitio_Reader_Take ⟨x'.b, x'.n, x'.at_⟩ _ = _ := t1
    rw [if_pos h3, t1', bind_some]
    exact ⟨r, rfl, h, fun _ => rfl⟩
  obtain ⟨x2, t1, t2, _⟩ := l2.take (k := wd k) hw (by omega)
  have t1' : bitio_Reader_Take ⟨x'.b, x'.n, x'.at_⟩ _ = _ := t1
  rw [← List.drop_drop] at t1'
  have hv := dv_part_lt (h.bit.drop p) (a := a) (k := wd k) (by omega)
  rw [if_neg h3, t1', bind_some]
  dsimp only
  generalize dv (((A.drop p).drop a).take (wd k)) = v at *
  have hT : (toU64 ((64 - wd k : Nat) : Int)).toNat = 64 - wd k := toU64_nat (by omega)
  have e64 : w64 (64 - ((wd k : Nat) : Int)) = ((64 - wd k : Nat) : Int) := w64_subN (a := 64) hw (by omega)
  rw [bifF (by rfl), lett_eq, e64, hT, sext hk4 hv, way_eq, bind_some]
  clear e64 hT
  by_cases h6 : wy (sg (UInt64.ofNat (sxt k v))) = k
  · have e7 : w64 (((p + a + wd k : Nat) : Int) - (p : Int)) = ((a + wd k : Nat) : Int) := by rw [w64_subN (by omega) (by omega)]; congr 1; omega
    obtain ⟨r', s1, s2, _⟩ := h.skip (k := a + wd k) (by omega)
    rw [if_pos h6, bifF (by rw [h6]; simp), t2.at', bind_some, h.at', bind_some, e7, s1, bind_some]
    exact ⟨r', by rw [if_pos rfl], s2, fun h => absurd rfl h⟩
  · rw [if_neg h6, bifT (by rw [decide_eq_false (fun e => h6 (by omega))]; rfl)]
    exact ⟨r, rfl, h, fun _ => rfl⟩
/-! ### the row's next number -/
structure GotU where
  v : UInt64
  n : Nat
  e : Int
def nextGot (row l : List Int) : GotU :=
  if row.length < 2 then
    let g := getSmall l
    if g.e = 0 then ⟨(if row.length = 1 then toU64 (zag g.v) + toU64 (row.getD 0 0) else toU64 (zag g.v)), g.n, 0⟩ else ⟨0, 0, g.e⟩
  else
    let g := getStep l
    if g.e = 0 then ⟨UInt64.ofNat g.v + 2 * toU64 (row.getD (row.length - 1) 0) - toU64 (row.getD (row.length - 2) 0), g.n, 0⟩ else ⟨0, 0, g.e⟩
theorem getSmall_lt {l : List Int} (hb : Bit l) : (getSmall l).v < 18446744073709551616 := by
  unfold getSmall
  split
  · simp
  · dsimp only
    split
    · simp
    · split
      · exact dv_take_lt (hb.drop 2) _ (sz_le _)
      · simp
theorem RowS.get {x : vary_Row} {row : List Int} (h : RowS x row) {r : bitio_Reader} {A : List Int} {p : Nat} (hr : RA r A p) (hs : row.length + 1 ≤ 1000000) :
    ∃ x' r', vary_Row_Get x r = some (if (nextGot row (A.drop p)).e = 0 then sg (nextGot row (A.drop p)).v else 0, (nextGot row (A.drop p)).e, x', r') ∧ RA r' A (p + (nextGot row (A.drop p)).n) ∧
      ((nextGot row (A.drop p)).e = 0 → RowS x' (row ++ [sg (nextGot row (A.drop p)).v])) ∧ ((nextGot row (A.drop p)).e ≠ 0 → x' = x ∧ r' = r) := by
  unfold vary_Row_Get
  by_cases hn : row.length < 2
  · obtain ⟨r', g1, g2, g3⟩ := getInt_eq hr
    rw [bifTd (by rw [h.n]; omega), g1, bind_some]
    dsimp only
    by_cases he : (getSmall (A.drop p)).e = 0
    · have hN : nextGot row (A.drop p) = ⟨(if row.length = 1 then toU64 (zag (getSmall (A.drop p)).v) + toU64 (row.getD 0 0) else toU64 (zag (getSmall (A.drop p)).v)), (getSmall (A.drop p)).n, 0⟩ := by
        unfold nextGot; rw [if_pos hn]; dsimp only; rw [if_pos he]
      rw [bifF (by rw [he]; rfl), lett_eq, flow_go, hN]
      dsimp only
      have hv : x.last + toU64 (zag (getSmall (A.drop p)).v) = if row.length = 1 then toU64 (zag (getSmall (A.drop p)).v) + toU64 (row.getD 0 0) else toU64 (zag (getSmall (A.drop p)).v) := by
        by_cases h1 : row.length = 1
        · rw [if_pos h1, h.last (by omega), getD_lt (by omega), UInt64.add_comm]
          congr 3; omega
        · rw [if_neg h1, h.last0 (by omega), UInt64.zero_add]
      rw [hv]
      generalize (if row.length = 1 then toU64 (zag (getSmall (A.drop p)).v) + toU64 (row.getD 0 0) else toU64 (zag (getSmall (A.drop p)).v)) = u
      obtain ⟨x', f1, f2⟩ := h.follow (sg_I64 u) hs
      rw [toU64_sg] at f1
      rw [f1, bind_some, lett_eq]
      exact ⟨x', r', by rw [if_pos rfl]; rfl, g2, fun _ => f2, fun h => absurd rfl h⟩
    · have hr' := g3 he
      subst hr'
      have hN : nextGot row (A.drop p) = ⟨0, 0, (getSmall (A.drop p)).e⟩ := by
        unfold nextGot; rw [if_pos hn]; dsimp only; rw [if_neg he]
      rw [bifT (by rw [decide_eq_false he]; rfl), hN]
      refine ⟨x, _, ?_, hr, fun h => absurd h he, fun _ => ⟨rfl, rfl⟩⟩
      dsimp only
      rw [if_neg he]; rfl
  · obtain ⟨r', g1, g2, g3⟩ := vstep_eq hr
    rw [bifFd (by rw [h.n]; omega), g1, bind_some]
    dsimp only
    by_cases he : (getStep (A.drop p)).e = 0
    · have hN : nextGot row (A.drop p) = ⟨UInt64.ofNat (getStep (A.drop p)).v + 2 * toU64 (row.getD (row.length - 1) 0) - toU64 (row.getD (row.length - 2) 0), (getStep (A.drop p)).n, 0⟩ := by
        unfold nextGot; rw [if_neg hn]; dsimp only; rw [if_pos he]
      rw [bifF (by rw [he]; rfl), lett_eq, flow_go, hN, if_pos he]
      dsimp only
      have hv : x.last + x.step + toU64 (sg (UInt64.ofNat (getStep (A.drop p)).v)) = UInt64.ofNat (getStep (A.drop p)).v + 2 * toU64 (row.getD (row.length - 1) 0) - toU64 (row.getD (row.length - 2) 0) := by
        rw [h.last (by omega), h.step (by omega), getD_lt (by omega), getD_lt (by omega), toU64_sg]
        grind
      rw [hv]
      generalize UInt64.ofNat (getStep (A.drop p)).v + 2 * toU64 (row.getD (row.length - 1) 0) - toU64 (row.getD (row.length - 2) 0) = u
      obtain ⟨x', f1, f2⟩ := h.follow (sg_I64 u) hs
      rw [toU64_sg] at f1
      rw [f1, bind_some, lett_eq]
      exact ⟨x', r', by rw [if_pos rfl]; rfl, g2, fun _ => f2, fun h => absurd rfl h⟩
    · have hr' := g3 he
      subst hr'
      have hN : nextGot row (A.drop p) = ⟨0, 0, (getStep (A.drop p)).e⟩ := by
        unfold nextGot; rw [if_neg hn]; dsimp only; rw [if_neg he]
      rw [bifT (by rw [decide_eq_false he]; rfl), hN]
      refine ⟨x, _, ?_, hr, fun h => absurd h he, fun _ => ⟨rfl, rfl⟩⟩
      dsimp only
      rw [if_neg he]; rfl
end Go.Lg
