/- Lemmas about the given model and about plain data, which the rows stand on: no statement of the program by itself. -/
import Derived.Test.YtdpokdaeekanjaaRkLgDraw
set_option linter.unusedVariables false
namespace Go.Lg
/-! ### loops, round by round -/
section
variable {σ β ρ : Type} {f : σ → Option (Rnd σ β ρ)}
theorem loop_next {s s' : σ} (h : f s = some (.next s')) : loop f s = loop f s' := by rw [loop_eq, h]; rfl
theorem loop_brk {s : σ} {b : β} (h : f s = some (.brk b)) : loop f s = some (.go b) := by rw [loop_eq, h]; rfl
theorem loop_out {s : σ} {r : ρ} (h : f s = some (.out r)) : loop f s = some (.out r) := by rw [loop_eq, h]; rfl
/-- .. and that goes on to its end -/
theorem loop_for (st : Nat → σ) (n : Nat) {b : β} (h : ∀ i, i < n → f (st i) = some (.next (st (i + 1)))) (he : f (st n) = some (.brk b)) : loop f (st 0) = some (.go b) := by
  have : ∀ k i, i + k = n → loop f (st i) = some (.go b) := by
    intro k
    induction k with
    | zero => intro i hi; obtain rfl : i = n := by omega
              exact loop_brk he
    | succ k ih => intro i hi; rw [loop_next (h i (by omega))]; exact ih (i + 1) (by omega)
  exact this n 0 (by omega)
end
/-! ### numbers -/
theorem w64_id {x : Int} (h : -9223372036854775808 ≤ x) (h' : x ≤ 9223372036854775807) : w64 x = x := by unfold w64; omega
theorem toU64_val {x : Int} (h : 0 ≤ x) (h' : x < 18446744073709551616) : (toU64 x).toNat = x.toNat := by
  unfold toU64; rw [UInt64.toNat_ofNat']; omega
theorem toU64_nat {x : Nat} (h' : x < 18446744073709551616) : (toU64 (x : Int)).toNat = x := by rw [toU64_val] <;> omega
theorem toU8_nat {x : Nat} (h' : x < 256) : (toU8 (x : Int)).toNat = x := by
  unfold toU8; rw [UInt8.toNat_ofNat']; omega
theorem w64_nat {a : Nat} (h : a < 9223372036854775808) : w64 (a : Int) = (a : Int) := w64_id (by omega) (by omega)
theorem w64_addN {a b : Nat} (h : a + b < 9223372036854775808) : w64 ((a : Int) + (b : Int)) = ((a + b : Nat) : Int) := by rw [w64_id] <;> omega
theorem w64_subN {a b : Nat} (h : b ≤ a) (ha : a < 9223372036854775808) : w64 ((a : Int) - (b : Int)) = ((a - b : Nat) : Int) := by rw [w64_id] <;> omega
theorem w64_succ {a : Nat} (h : a + 1 < 9223372036854775808) : w64 ((a : Int) + 1) = ((a + 1 : Nat) : Int) := by rw [w64_id] <;> omega
theorem tdivN (a b : Nat) : ((a : Int).tdiv (b : Int)) = ((a / b : Nat) : Int) := (Int.ofNat_tdiv a b).symm
theorem tmodN (a b : Nat) : ((a : Int).tmod (b : Int)) = ((a % b : Nat) : Int) := (Int.ofNat_tmod a b).symm
theorem idx_nat {α : Type} {xs : List α} {i : Nat} (h : i < xs.length) : idx xs (i : Int) = some xs[i] := by
  unfold idx; rw [if_pos (by omega)]; simp [h]
theorem idx_0 {α : Type} {xs : List α} (h : 0 < xs.length) : idx xs 0 = some xs[0] := idx_nat h
theorem bifTd {α : Type} {p : Prop} [Decidable p] {x y : α} (h : p) : (bif decide p then x else y) = x := by rw [decide_eq_true h]; rfl
theorem bifFd {α : Type} {p : Prop} [Decidable p] {x y : α} (h : ¬ p) : (bif decide p then x else y) = y := by rw [decide_eq_false h]; rfl
theorem idx_last {α : Type} {xs : List α} {x : α} : idx (xs ++ [x]) (xs.length : Int) = some x := by
  rw [idx_nat (by simp)]; simp
theorem app_ok {α : Type} {xs ys : List α} (h : xs.length + ys.length ≤ 17179869184) : app xs ys = some (xs ++ ys) := by
  unfold app LIM; rw [if_pos h]
theorem setI_nat {α : Type} {xs : List α} {i : Nat} {x : α} (h : i < xs.length) : setI xs (i : Int) x = some (xs.set i x) := by
  unfold setI; rw [if_pos (by constructor <;> omega)]; simp
theorem setI_last {α : Type} {xs : List α} {x y : α} : setI (xs ++ [x]) (xs.length : Int) y = some (xs ++ [y]) := by
  rw [setI_nat (by simp)]; simp
theorem slc_nat {α : Type} {xs : List α} {i j : Nat} (h : i ≤ j) (h' : j ≤ xs.length) : slc xs (i : Int) (j : Int) = some ((xs.take j).drop i) := by
  unfold slc; rw [if_pos (by omega)]; simp
theorem bind_some {α β : Type} (x : α) (f : α → Option β) : (some x).bind f = f x := rfl
theorem flow_go {α ρ : Type} (x : α) (F : α → Option ρ) : flow (some (.go x)) F = F x := rfl
theorem flow_out {α ρ : Type} (r : ρ) (F : α → Option ρ) : flow (some (.out r)) F = some r := rfl
theorem lett_eq {α β : Type} (e : α) (f : α → Option β) : lett e f = f e := rfl
theorem outs_some {α ρ : Type} (r : ρ) : outs (α := α) (some r) = some (.out r) := rfl
theorem bifT {α : Type} {c : Bool} {x y : α} (h : c = true) : (bif c then x else y) = x := by subst h; rfl
theorem bifF {α : Type} {c : Bool} {x y : α} (h : c = false) : (bif c then x else y) = y := by subst h; rfl
/-- two numbers, one put behind the other -/
theorem or_add {a b i : Nat} (h : b < 2 ^ i) : a * 2 ^ i ||| b = a * 2 ^ i + b := by
  rw [← Nat.shiftLeft_eq, Nat.shiftLeft_add_eq_or_of_lt h]
theorem div_mod_join (B e m k : Nat) : B / 2 ^ (e + k) % 2 ^ m * 2 ^ k + B / 2 ^ e % 2 ^ k = B / 2 ^ e % 2 ^ (m + k) := by
  rw [Nat.pow_add 2 e k, ← Nat.div_div_eq_div_mul, Nat.add_comm m k, Nat.pow_add 2 k m, Nat.mod_mul]
  rw [Nat.mul_comm]; omega
theorem mod_div_mod (B a b c : Nat) (h : b + c ≤ a) : B % 2 ^ a / 2 ^ b % 2 ^ c = B / 2 ^ b % 2 ^ c := by
  obtain ⟨d, rfl⟩ : ∃ d, a = b + (c + d) := ⟨a - b - c, by omega⟩
  rw [Nat.pow_add 2 b, Nat.mod_mul_right_div_self, Nat.pow_add 2 c d, Nat.mod_mul_right_mod]
/-! ### bytes as one number, the first the highest -/
def bv (l : List UInt8) : Nat := l.foldl (fun a x => a * 256 + x.toNat) 0
theorem bv_from (l : List UInt8) : ∀ a, l.foldl (fun a x => a * 256 + x.toNat) a = a * 256 ^ l.length + bv l := by
  induction l with
  | nil => intro a; simp [bv]
  | cons x l ih =>
    intro a
    simp only [List.foldl_cons, bv, List.length_cons]
    rw [ih, ih (0 * 256 + x.toNat)]; grind
theorem bv_append (l m : List UInt8) : bv (l ++ m) = bv l * 256 ^ m.length + bv m := by
  unfold bv; rw [List.foldl_append]; exact bv_from m _
theorem bv_one (x : UInt8) : bv [x] = x.toNat := by simp [bv]
theorem bv_snoc (l : List UInt8) (x : UInt8) : bv (l ++ [x]) = bv l * 256 + x.toNat := by rw [bv_append, bv_one]; simp
theorem u8_lt' (x : UInt8) : x.toNat < 256 := UInt8.toNat_lt x
theorem bv_lt (l : List UInt8) : bv l < 256 ^ l.length := by
  induction l with
  | nil => simp [bv]
  | cons x l ih =>
    rw [← List.singleton_append, bv_append, bv_one, List.length_append, List.length_singleton, Nat.pow_add, Nat.pow_one]
    have := u8_lt' x
    have h2 : x.toNat * 256 ^ l.length ≤ 255 * 256 ^ l.length := Nat.mul_le_mul_right _ (by omega)
    generalize 256 ^ l.length = L at *
    omega
theorem p256 (n : Nat) : 256 ^ n = 2 ^ (8 * n) := by rw [Nat.pow_mul]
theorem bv_at {l : List UInt8} {j : Nat} (h : j < l.length) : l[j].toNat = bv l / 256 ^ (l.length - 1 - j) % 256 := by
  have e : l = l.take j ++ ([l[j]] ++ l.drop (j + 1)) := by simp
  have e2 : (l.drop (j + 1)).length = l.length - 1 - j := by rw [List.length_drop]; omega
  have h3 := bv_lt (l.drop (j + 1))
  rw [e2] at h3
  have h1 : bv l = (bv (l.take j) * 256 + l[j].toNat) * 256 ^ (l.length - 1 - j) + bv (l.drop (j + 1)) := by
    conv => lhs; rw [e]
    rw [bv_append, bv_append, bv_one, List.length_append, List.length_singleton, e2, Nat.pow_add, Nat.pow_one, ← Nat.mul_assoc, Nat.add_mul]; omega
  rw [h1, Nat.add_comm, Nat.add_mul_div_right _ _ (Nat.pow_pos (by omega)), Nat.div_eq_of_lt h3]
  have := u8_lt' l[j]
  omega
theorem bv_inj {l m : List UInt8} (h : l.length = m.length) (hv : bv l = bv m) : l = m := by
  apply List.ext_getElem h
  intro i h1 h2
  apply UInt8.toNat_inj.1
  rw [bv_at h1, bv_at h2, h, hv]
/-! ### rows of noughts and ones -/
def dv (l : List Int) : Nat := l.foldl (fun a x => 2 * a + x.toNat) 0
def Bit (l : List Int) : Prop := ∀ x ∈ l, x = 0 ∨ x = 1
theorem Bit.app {l m : List Int} (h : Bit l) (k : Bit m) : Bit (l ++ m) := fun x hx => (List.mem_append.1 hx).elim (h x) (k x)
theorem Bit.take {l : List Int} (h : Bit l) (n : Nat) : Bit (l.take n) := fun x hx => h x (List.mem_of_mem_take hx)
theorem Bit.drop {l : List Int} (h : Bit l) (n : Nat) : Bit (l.drop n) := fun x hx => h x (List.mem_of_mem_drop hx)
theorem Bit.nil : Bit [] := fun x hx => by simp at hx
theorem dv_from (l : List Int) : ∀ a, l.foldl (fun a x => 2 * a + x.toNat) a = a * 2 ^ l.length + dv l := by
  induction l with
  | nil => intro a; simp [dv]
  | cons x l ih =>
    intro a
    simp only [List.foldl_cons, dv, List.length_cons]
    rw [ih, ih (2 * 0 + x.toNat)]; grind
theorem dv_append (l m : List Int) : dv (l ++ m) = dv l * 2 ^ m.length + dv m := by
  unfold dv; rw [List.foldl_append]; exact dv_from m _
theorem dv_nil : dv [] = 0 := rfl
theorem dv_one (x : Int) : dv [x] = x.toNat := by simp [dv]
theorem dv_snoc (l : List Int) (x : Int) : dv (l ++ [x]) = 2 * dv l + x.toNat := by rw [dv_append, dv_one]; simp; omega
theorem dv_cons (l : List Int) (x : Int) : dv (x :: l) = x.toNat * 2 ^ l.length + dv l := by rw [← List.singleton_append, dv_append, dv_one]
theorem dv_lt {l : List Int} (h : Bit l) : dv l < 2 ^ l.length := by
  induction l with
  | nil => simp [dv]
  | cons x l ih =>
    rw [dv_cons, List.length_cons, Nat.pow_succ]
    have h1 := ih fun y hy => h y (by simp [hy])
    have hx : x.toNat ≤ 1 := by rcases h x (by simp) with e | e <;> subst e <;> decide
    have : x.toNat * 2 ^ l.length ≤ 1 * 2 ^ l.length := Nat.mul_le_mul_right _ hx
    omega
/-- a part of a row -/
theorem dv_part {l : List Int} (h : Bit l) {a n : Nat} (hl : a + n ≤ l.length) : dv ((l.take (a + n)).drop a) = dv l / 2 ^ (l.length - a - n) % 2 ^ n := by
  have e : l = l.take a ++ ((l.take (a + n)).drop a ++ l.drop (a + n)) := by
    rw [← List.append_assoc]
    have : l.take a ++ (l.take (a + n)).drop a = l.take (a + n) := by
      have := List.take_append_drop a (l.take (a + n))
      rwa [List.take_take, Nat.min_eq_left (by omega)] at this
    rw [this, List.take_append_drop]
  have l1 : ((l.take (a + n)).drop a).length = n := by rw [List.length_drop, List.length_take]; omega
  have l2 : (l.drop (a + n)).length = l.length - a - n := by rw [List.length_drop]; omega
  have b1 : dv ((l.take (a + n)).drop a) < 2 ^ n := by have := dv_lt ((h.take (a + n)).drop a); rwa [l1] at this
  have b2 : dv (l.drop (a + n)) < 2 ^ (l.length - a - n) := by have := dv_lt (h.drop (a + n)); rwa [l2] at this
  have h1 : dv l = (dv (l.take a) * 2 ^ n + dv ((l.take (a + n)).drop a)) * 2 ^ (l.length - a - n) + dv (l.drop (a + n)) := by
    conv => lhs; rw [e]
    rw [dv_append, dv_append, List.length_append, l1, l2, Nat.pow_add, ← Nat.mul_assoc, Nat.add_mul]; omega
  generalize dv ((l.take (a + n)).drop a) = m at *
  generalize dv (l.drop (a + n)) = r at *
  rw [h1, Nat.add_comm _ r, Nat.add_mul_div_right _ _ (Nat.pow_pos (by omega)), Nat.div_eq_of_lt b2, Nat.zero_add, Nat.add_comm, Nat.add_mul_mod_self_right, Nat.mod_eq_of_lt b1]
end Go.Lg
