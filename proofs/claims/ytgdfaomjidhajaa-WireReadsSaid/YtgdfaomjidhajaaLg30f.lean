/- Lemmas about the given model and about plain data, which the rows stand on: no statement of the program by itself. -/
import Derived.Test.YtgdfaomjidhajaaLg30e
set_option linter.unusedVariables false
namespace Go.Lg
attribute [local irreducible] w64 toU64 toU8 shlU shrU shlB shrB

theorem awake30 : law30_awake = some true := by
  have f1 : FOk ⟨1, 0, 150, []⟩ := ⟨by decide, by decide, by decide, fun _ => rfl, fun h => absurd h (by decide)⟩
  have v8 : varL 8 = [8] := varL_lt (by decide)
  have v150 : varL 150 = [150, 1] := by rw [varL_ge (by decide), varL_lt (by decide)]; rfl
  have v300 : varL 300 = [172, 2] := by rw [varL_ge (by decide), varL_lt (by decide)]; rfl
  have e1 : encL [⟨1, 0, 150, []⟩] = [8, 150, 1] := by
    have : encL [⟨1, 0, 150, []⟩] = varL 8 ++ varL 150 := by simp [encL, encF]
    rw [this, v8, v150]; rfl
  have h1 := Encode_eq (l := [⟨1, 0, 150, []⟩]) (fun f hf => by rw [List.mem_singleton.1 hf]; exact f1) (by rw [e1]; decide) (by decide)
  rw [e1] at h1
  have h2 := WGet_eq (b := [128, 0]) (at_ := 0) (by decide) (by decide)
  have e2 : gv ([128, 0].drop 0) = (0, 0, 3) := by decide +kernel
  rw [e2] at h2
  have h2' : wire_GetVar [128, 0] 0 = some (0, 0, 3) := h2
  have s1 := Wdec_step (b := [8, 1, 13]) (at_ := 0) (by decide) (by decide) [] (by decide)
  have s2 := Wdec_step (b := [8, 1, 13]) (at_ := 2) (by decide) (by decide) [⟨1, 0, 1, []⟩] (by decide)
  have q1 : fieldS ([8, 1, 13].drop 0) = (0, ⟨1, 0, 1, []⟩, 2) := by decide +kernel
  have q2 : fieldS ([8, 1, 13].drop 2) = (14, F0, 0) := by decide +kernel
  rw [q1, if_pos rfl] at s1
  rw [q2, if_neg (by decide)] at s2
  have s1' : wire_Decode_lp1 [8, 1, 13] ([], 0) = some (.next ([⟨1, 0, 1, []⟩], ((2 : Nat) : Int))) := s1
  have h3 : wire_Decode [8, 1, 13] = some ([], 2, 14) := by
    unfold wire_Decode
    rw [loop_next s1', loop_out s2]; rfl
  have h4 := WVar_eq 300
  have h4' : wire_Var (300 : UInt64) = some [172, 2] := by rw [h4, ← v300]; rfl
  unfold law30_awake
  rw [h1, bind_some]
  dsimp only
  rw [h2', bind_some]
  dsimp only
  rw [h3, bind_some]
  dsimp only
  rw [h4', bind_some, lett_eq]; rfl
theorem wireReads (b : List UInt8) : law30_WireReads b = some true := by
  unfold law30_WireReads
  rw [awake30, bind_some, bifF (by rfl)]
  by_cases hl : 1000 < (b.length : Int)
  · rw [bifTd hl]
  rw [bifFd hl]
  rcases decode_both (b := b) (by omega) with ⟨L, h1, h2, h3, h4, h5⟩ | ⟨a, e, h0, h1, h2⟩
  · rw [h1, h2, bind_some]
    dsimp only
    rw [bind_some]
    dsimp only
    rw [Same30 (by omega), bind_some, bifF (by simp), bifF (by rfl), Encode_eq h3 (by rw [h4]; omega) (by omega), bind_some]
    dsimp only
    rw [lett_eq, h4]; simp
  · rw [h1, h2, bind_some]
    dsimp only
    rw [bind_some]
    dsimp only
    rw [Same30 (by simp), bind_some, bifF (by simp), bifT (by rw [Bool.not_eq_true', decide_eq_false_iff_not]; exact h0)]

/-! ### the fields with a number -/
structure FewP (l : List api_Fld) : Prop where
  n : l.length ≤ 60
  b : ∀ (i : Nat) (h : i < l.length), (l[i]).B.length ≤ 300
theorem Few_eq (l : List api_Fld) : ∃ q, ref30_Few l = some q ∧ (q = true → FewP l) := by
  unfold ref30_Few
  by_cases h : 60 < (l.length : Int)
  · exact ⟨false, by rw [bifTd h], fun h => by cases h⟩
  rw [bifFd h]
  have key : ∀ (m i : Nat), i + m = l.length → (∀ (j : Nat) (h : j < l.length), j < i → (l[j]).B.length ≤ 300) →
      loop (ref30_Few_lp1 l) (i : Int) = some (.out false) ∨ (loop (ref30_Few_lp1 l) (i : Int) = some (.go ()) ∧ ∀ (j : Nat) (h : j < l.length), (l[j]).B.length ≤ 300) := by
    intro m
    induction m with
    | zero =>
      intro i hi hb
      refine .inr ⟨loop_brk ?_, fun j h => hb j h (by omega)⟩
      unfold ref30_Few_lp1
      rw [bifFd (by omega)]
    | succ m ih =>
      intro i hi hb
      have hlt : i < l.length := by omega
      by_cases hB : 300 < ((l[i]).B.length : Int)
      · refine .inl (loop_out ?_)
        unfold ref30_Few_lp1
        rw [bifTd (by omega), idx_nat hlt, bind_some, bifTd hB]; rfl
      · have hn : ref30_Few_lp1 l (i : Int) = some (.next ((i + 1 : Nat) : Int)) := by
          unfold ref30_Few_lp1
          rw [bifTd (by omega), idx_nat hlt, bind_some, bifFd hB, lett_eq, w64_succ (by omega)]
        rw [loop_next hn]
        refine ih (i + 1) (by omega) fun j hj hji => ?_
        by_cases e : j = i
        · subst e; omega
        · exact hb j hj (by omega)
  rcases key l.length 0 (by omega) (fun j _ h => by omega) with k | ⟨k, hb⟩
  · have k' : loop (ref30_Few_lp1 l) 0 = _ := k
    exact ⟨false, by rw [k']; rfl, fun h => by cases h⟩
  · have k' : loop (ref30_Few_lp1 l) 0 = _ := k
    exact ⟨true, by rw [k']; rfl, fun _ => ⟨by omega, hb⟩⟩
def withN (l : List api_Fld) (n : Int) : List api_Fld := l.filter fun f => decide (f.Num = n)
theorem withN_snoc (l : List api_Fld) (f : api_Fld) (n : Int) : withN (l ++ [f]) n = withN l n ++ if f.Num = n then [f] else [] := by
  unfold withN
  rw [List.filter_append]
  congr 1
  by_cases h : f.Num = n
  · rw [if_pos h]; simp [h]
  · rw [if_neg h]; simp [h]
theorem withN_len (l : List api_Fld) (n : Int) : (withN l n).length ≤ l.length := List.length_filter_le _ _
theorem All_eq {l : List api_Fld} (h : FewP l) (n : Int) : ref30_All l n = some (withN l n) ∧ wire_All l n = some (withN l n) := by
  have hn := h.n
  have key : ∀ (m i : Nat), i + m = l.length → loop (ref30_All_lp1 l n) (withN (l.take i) n, (i : Int)) = some (.go (withN l n)) ∧ loop (wire_All_lp1 l n) (withN (l.take i) n, (i : Int)) = some (.go (withN l n)) := by
    intro m
    induction m with
    | zero =>
      intro i hi
      have ht : l.take i = l := List.take_of_length_le (by omega)
      constructor
      · refine loop_brk ?_
        unfold ref30_All_lp1
        dsimp only
        rw [bifFd (by omega), ht]
      · refine loop_brk ?_
        unfold wire_All_lp1
        dsimp only
        rw [bifFd (by omega), ht]
    | succ m ih =>
      intro i hi
      have hlt : i < l.length := by omega
      have ht : l.take (i + 1) = l.take i ++ [l[i]] := by rw [List.take_add_one, List.getElem?_eq_getElem hlt]; rfl
      have hlen := withN_len (l.take i) n
      rw [List.length_take] at hlen
      have hb := h.b i hlt
      obtain ⟨i1, i2⟩ := ih (i + 1) (by omega)
      rw [ht, withN_snoc] at i1 i2
      by_cases hN : (l[i]).Num = n
      · rw [if_pos hN] at i1 i2
        constructor
        · rw [← i1]
          refine loop_next ?_
          unfold ref30_All_lp1
          dsimp only
          rw [bifTd (by omega), idx_nat hlt, bind_some, bifTd hN, bind_some, app_ok (by simp only [List.length_singleton]; omega), bind_some, bind_some, lett_eq, w64_succ (by omega)]
        · rw [← i2]
          refine loop_next ?_
          unfold wire_All_lp1
          dsimp only
          rw [bifTd (by omega), idx_nat hlt, bind_some, bifTd hN, bclone_eq (by omega), bind_some, app_ok (by simp only [List.length_singleton]; omega), bind_some, bind_some, w64_succ (by omega)]
      · rw [if_neg hN, List.append_nil] at i1 i2
        constructor
        · rw [← i1]
          refine loop_next ?_
          unfold ref30_All_lp1
          dsimp only
          rw [bifTd (by omega), idx_nat hlt, bind_some, bifFd hN, bind_some, lett_eq, w64_succ (by omega)]
        · rw [← i2]
          refine loop_next ?_
          unfold wire_All_lp1
          dsimp only
          rw [bifTd (by omega), idx_nat hlt, bind_some, bifFd hN, bind_some, w64_succ (by omega)]
  obtain ⟨k1, k2⟩ := key l.length 0 (by omega)
  have k1' : loop (ref30_All_lp1 l n) ([], 0) = _ := k1
  have k2' : loop (wire_All_lp1 l n) ([], 0) = _ := k2
  unfold ref30_All wire_All
  rw [k1', k2']
  exact ⟨rfl, rfl⟩

/-! ### numbers one behind the other -/
def packL (l : List UInt64) : List UInt8 := l.flatMap fun v => varL v.toNat
theorem packL_snoc (l : List UInt64) (v : UInt64) : packL (l ++ [v]) = packL l ++ varL v.toNat := by simp [packL]
theorem Packed_eq {l : List UInt64} (hl : (packL l).length ≤ 1000000) (hn : l.length ≤ 1000000) : wire_Packed l = some (packL l) := by
  have key : ∀ (m i : Nat), i + m = l.length → loop (wire_Packed_lp1 l) (packL (l.take i), (i : Int)) = some (.go (packL l)) := by
    intro m
    induction m with
    | zero =>
      intro i hi
      refine loop_brk ?_
      unfold wire_Packed_lp1
      dsimp only
      rw [bifFd (by omega), List.take_of_length_le (by omega)]
    | succ m ih =>
      intro i hi
      have hlt : i < l.length := by omega
      have ht : l.take (i + 1) = l.take i ++ [l[i]] := by rw [List.take_add_one, List.getElem?_eq_getElem hlt]; rfl
      have hs : packL l = packL (l.take i) ++ varL l[i].toNat ++ packL (l.drop (i + 1)) := by
        rw [← packL_snoc, ← ht]
        unfold packL
        rw [← List.flatMap_append, List.take_append_drop]
      have hlen := congrArg List.length hs
      simp only [List.length_append] at hlen
      rw [← ih (i + 1) (by omega), ht, packL_snoc]
      refine loop_next ?_
      unfold wire_Packed_lp1
      dsimp only
      rw [bifTd (by omega), idx_nat hlt, bind_some, WVar_eq, bind_some, app_ok (by omega), bind_some, w64_succ (by omega)]
  have k0 : loop (wire_Packed_lp1 l) ([], 0) = _ := key l.length 0 (by omega)
  unfold wire_Packed
  rw [k0, flow_go]
theorem Unp_step {b : List UInt8} {at_ : Nat} (hl : b.length ≤ 1000000) (h : at_ < b.length) {l : List UInt64} (hn : l.length ≤ 1000000) :
    ((gv (b.drop at_)).2.2 ≠ 0 → wire_Unpacked_lp1 b (l, (at_ : Int)) = some (.out ([], (gv (b.drop at_)).2.2))) ∧
    (∀ n : Nat, (gv (b.drop at_)).2.2 = 0 → (gv (b.drop at_)).2.1 = n → at_ + n ≤ b.length → wire_Unpacked_lp1 b (l, (at_ : Int)) = some (.next (l ++ [(gv (b.drop at_)).1], ((at_ + n : Nat) : Int)))) := by
  constructor
  · intro h0
    unfold wire_Unpacked_lp1
    dsimp only
    rw [bifTd (by omega), WGet_eq hl (by omega), bind_some, bifT (by rw [Bool.not_eq_true', decide_eq_false_iff_not]; exact h0)]; rfl
  · intro n h0 h1 h2
    unfold wire_Unpacked_lp1
    dsimp only
    rw [bifTd (by omega), WGet_eq hl (by omega), bind_some, bifF (by rw [Bool.not_eq_false', decide_eq_true_eq]; exact h0), app_ok (by simp only [List.length_singleton]; omega), bind_some, h1, w64_addN (by omega), lett_eq]
theorem Unpacked_any {b : List UInt8} (hl : b.length ≤ 1000000) : (∃ w, wire_Unpacked b = some (w, 0) ∧ packL w = b ∧ w.length ≤ b.length) ∨ (∃ e, e ≠ 0 ∧ wire_Unpacked b = some ([], e)) := by
  have key : ∀ (m at_ : Nat) (l : List UInt64), at_ + m = b.length → packL l = b.take at_ → l.length ≤ at_ →
      (∃ w, loop (wire_Unpacked_lp1 b) (l, (at_ : Int)) = some (.go w) ∧ packL w = b ∧ w.length ≤ b.length) ∨ (∃ e, e ≠ 0 ∧ loop (wire_Unpacked_lp1 b) (l, (at_ : Int)) = some (.out ([], e))) := by
    intro m
    induction m using Nat.strongRecOn with
    | _ m ih =>
      intro at_ l hm he hn
      by_cases h : at_ < b.length
      · obtain ⟨s1, s2⟩ := Unp_step hl h (l := l) (by omega)
        by_cases h0 : (gv (b.drop at_)).2.2 = 0
        · obtain ⟨n, g1, g2, g3, g4⟩ := gv_ok h0
          have hd : (b.drop at_).length = b.length - at_ := List.length_drop
          rw [loop_next (s2 n h0 g1 (by omega))]
          refine ih (m - n) (by omega) _ _ (by omega) ?_ (by simp only [List.length_append, List.length_singleton]; omega)
          rw [packL_snoc, he, ← g4, ← List.take_add]
        · exact .inr ⟨_, h0, loop_out (s1 h0)⟩
      · refine .inl ⟨l, loop_brk ?_, by rw [he, List.take_of_length_le (by omega)], by omega⟩
        unfold wire_Unpacked_lp1
        dsimp only
        rw [bifFd (by omega)]
  unfold wire_Unpacked
  rcases key b.length 0 [] (by omega) (by simp [packL]) (by simp) with ⟨w, k1, k2⟩ | ⟨e, k0, k1⟩
  · have k1' : loop (wire_Unpacked_lp1 b) ([], 0) = _ := k1
    rw [k1']
    exact .inl ⟨w, rfl, k2⟩
  · have k1' : loop (wire_Unpacked_lp1 b) ([], 0) = _ := k1
    rw [k1']
    exact .inr ⟨e, k0, rfl⟩
theorem Unpacked_back {v : List UInt64} (hl : (packL v).length ≤ 1000000) (hn : v.length ≤ 1000000) : wire_Unpacked (packL v) = some (v, 0) := by
  have key : ∀ (m i : Nat), i + m = v.length → loop (wire_Unpacked_lp1 (packL v)) (v.take i, ((packL (v.take i)).length : Int)) = some (.go v) := by
    intro m
    induction m with
    | zero =>
      intro i hi
      have ht : v.take i = v := List.take_of_length_le (by omega)
      refine loop_brk ?_
      rw [ht]
      unfold wire_Unpacked_lp1
      dsimp only
      rw [bifFd (by omega)]
    | succ m ih =>
      intro i hi
      have hlt : i < v.length := by omega
      have ht : v.take (i + 1) = v.take i ++ [v[i]] := by rw [List.take_add_one, List.getElem?_eq_getElem hlt]; rfl
      have hs : packL v = packL (v.take i) ++ (varL v[i].toNat ++ packL (v.drop (i + 1))) := by
        rw [← List.append_assoc, ← packL_snoc, ← ht]
        unfold packL
        rw [← List.flatMap_append, List.take_append_drop]
      have hd : (packL v).drop (packL (v.take i)).length = varL v[i].toNat ++ packL (v.drop (i + 1)) := by
        rw [hs, List.drop_left]
      have hlen := congrArg List.length hs
      simp only [List.length_append] at hlen
      have hp := varL_pos v[i].toNat
      have hg := gv_var (UInt64.toNat_lt v[i]) (packL (v.drop (i + 1)))
      rw [← hd] at hg
      obtain ⟨_, s2⟩ := Unp_step hl (at_ := (packL (v.take i)).length) (by omega) (l := v.take i) (by rw [List.length_take]; omega)
      rw [hg] at s2
      have s3 := s2 (varL v[i].toNat).length rfl rfl (by omega)
      rw [loop_next s3, ← ih (i + 1) (by omega), ht, packL_snoc, List.length_append]
      have : UInt64.ofNat v[i].toNat = v[i] := UInt64.toNat_inj.1 (by rw [UInt64.toNat_ofNat']; have := UInt64.toNat_lt v[i]; omega)
      rw [this]
  have k0 : loop (wire_Unpacked_lp1 (packL v)) ([], 0) = _ := key v.length 0 (by omega)
  unfold wire_Unpacked
  rw [k0, flow_go]
theorem packL_len : ∀ l : List UInt64, (packL l).length ≤ 10 * l.length
  | [] => by simp [packL]
  | v :: l => by
    have := packL_len l
    have h := varL_len10 (UInt64.toNat_lt v)
    have e : packL (v :: l) = varL v.toNat ++ packL l := by simp [packL]
    rw [e, List.length_append, List.length_cons]; omega
theorem Finds_lp {v : List UInt64} (h : v.length ≤ 1000000) : loop (law30_WireFinds_lp1 v v) 0 = some (.go ()) := by
  have key : ∀ (m i : Nat), i + m = v.length → loop (law30_WireFinds_lp1 v v) (i : Int) = some (.go ()) := by
    intro m
    induction m with
    | zero =>
      intro i hi
      refine loop_brk ?_
      unfold law30_WireFinds_lp1
      rw [bifFd (by omega)]
    | succ m ih =>
      intro i hi
      rw [loop_next (s' := ((i + 1 : Nat) : Int)), ih (i + 1) (by omega)]
      unfold law30_WireFinds_lp1
      rw [bifTd (by omega), idx_nat (by omega), bind_some, bind_some, bifF (by simp), lett_eq, w64_succ (by omega)]
  exact key v.length 0 (by omega)
theorem wireFinds (l : List api_Fld) (n : Int) (v : List UInt64) (b : List UInt8) : law30_WireFinds l n v b = some true := by
  unfold law30_WireFinds
  obtain ⟨q, hq, hf⟩ := Few_eq l
  rw [awake30, bind_some, bifF (by rfl), hq, bind_some]
  by_cases hc : q = true ∧ ¬ (60 < (v.length : Int)) ∧ ¬ (300 < (b.length : Int))
  case neg =>
    rw [bifT]
    rw [Bool.or_eq_true, Bool.or_eq_true, decide_eq_true_eq, decide_eq_true_eq]
    by_cases h1 : q = true
    · by_cases h2 : 60 < (v.length : Int)
      · exact .inl (.inr h2)
      · exact .inr (Decidable.byContradiction fun h3 => hc ⟨h1, h2, h3⟩)
    · exact .inl (.inl (by rw [Bool.eq_false_iff.2 h1]; rfl))
  obtain ⟨h1, h2, h3⟩ := hc
  have few := hf h1
  have hn := few.n
  obtain ⟨a1, a2⟩ := All_eq few n
  have wl := withN_len l n
  rw [bifF (by rw [h1, decide_eq_false h2, decide_eq_false h3]; rfl), a1, bind_some]
  have pl := packL_len v
  have hP := Packed_eq (l := v) (by omega) (by omega)
  have hU := Unpacked_back (v := v) (by omega) (by omega)
  have rest : ((wire_Packed v).bind fun r255 =>
     (wire_Unpacked r255).bind fun (r267, r268) =>
     bif ((!decide (r268 = 0)) || (!decide ((r267.length : Int) = (v.length : Int)))) then
     some false
     else
     flow (flow (loop (law30_WireFinds_lp1 v r267) 0) fun (_ : Unit) =>
     some (.go ())) fun (_ : Unit) =>
     (wire_Unpacked b).bind fun (r350, r351) =>
     bif (!decide (r351 = 0)) then
     lett (decide ((r350.length : Int) = 0)) fun t364 =>
     some t364
     else
     (wire_Packed r350).bind fun r381 =>
     lett (decide (r381 = b)) fun t400 =>
     some t400) = some true := by
    rw [hP, bind_some, hU, bind_some]
    dsimp only
    rw [bifF (by simp), Finds_lp (by omega), flow_go, flow_go]
    rcases Unpacked_any (b := b) (by omega) with ⟨w, k1, k2, k3⟩ | ⟨e, k0, k1⟩
    · rw [k1, bind_some]
      dsimp only
      rw [bifF (by rfl), Packed_eq (by rw [k2]; omega) (by omega), bind_some, lett_eq, k2]; simp
    · rw [k1, bind_some]
      dsimp only
      rw [bifT (by rw [Bool.not_eq_true', decide_eq_false_iff_not]; exact k0), lett_eq]; rfl
  have hL : ∃ x, wire_Last l n = some (x, decide (0 < ((withN l n).length : Int))) ∧ (∀ h : 0 < (withN l n).length, x = (withN l n)[(withN l n).length - 1]) := by
    unfold wire_Last
    rw [a2, bind_some]
    by_cases hz : ((withN l n).length : Int) = 0
    · exact ⟨⟨0, 0, 0, []⟩, by rw [bifTd hz, decide_eq_false (by omega)], fun h => by omega⟩
    · refine ⟨(withN l n)[(withN l n).length - 1]'(by omega), ?_, fun _ => rfl⟩
      rw [bifFd hz, w64_id (by omega) (by omega), idx_of (n := (withN l n).length - 1) (by omega) (by omega), bind_some, decide_eq_true (by omega)]
  obtain ⟨x, l1, l2⟩ := hL
  rw [l1, bind_some]
  dsimp only
  rw [a2, bind_some, Same30 (by omega), bind_some, bifF (by simp)]
  by_cases hz : 0 < (withN l n).length
  · have hx := l2 hz
    have e1 : w64 (((withN l n).length : Int) - 1) = (((withN l n).length - 1 : Nat) : Int) := by rw [w64_id] <;> omega
    have e2 : ((withN l n).take (withN l n).length).drop ((withN l n).length - 1) = [x] := by
      rw [List.take_length, List.drop_eq_getElem_cons (by omega), List.drop_of_length_le (by omega), hx]
    rw [decide_eq_true (by omega : 0 < ((withN l n).length : Int)), bifT rfl, e1, slc_nat (by omega) (Nat.le_refl _), bind_some, e2, Same30 (by simp), bind_some, bind_some, bind_some, bifF (by rfl)]
    exact rest
  · rw [decide_eq_false (by omega : ¬ 0 < ((withN l n).length : Int)), bifF (by rfl), bind_some, bind_some, bifF (by rfl)]
    exact rest
end Go.Lg
