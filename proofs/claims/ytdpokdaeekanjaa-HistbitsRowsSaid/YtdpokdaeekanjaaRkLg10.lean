/- Law 10: what is put down of a histogram, by the document and by the program. -/
import Derived.Test.YtdpokdaeekanjaaRkLgHbP
import Derived.Test.YtdpokdaeekanjaaRkLg06d
import Derived.Test.YtdpokdaeekanjaaRkLg08e
set_option linter.unusedVariables false
namespace Go.Lg
attribute [local irreducible] w64 toU64 toU8 shlU shrU shlB shrB
def allC (h : api_Hist) : List UInt64 := h.Zero :: (h.Pos.Counts ++ h.Neg.Counts)
theorem allC_len (h : api_Hist) : (allC h).length = 1 + h.Pos.Counts.length + h.Neg.Counts.length := by simp [allC]; omega
theorem counts_eq {h : api_Hist} (hp : h.Pos.Counts.length ≤ 1000000) (hn : h.Neg.Counts.length ≤ 1000000) : histbits_counts h = some (allC h) := by
  unfold histbits_counts
  rw [app_ok (by simp; omega), bind_some, app_ok (by simp; omega), bind_some]; simp [allC]
theorem all_eq {h : api_Hist} (hp : h.Pos.Counts.length ≤ 1000000) (hn : h.Neg.Counts.length ≤ 1000000) : ref10_all h = some (allC h) := by
  unfold ref10_all
  rw [app_ok (by simp; omega), bind_some, app_ok (by simp; omega), bind_some]; simp [allC]
theorem clone_hist {h : api_Hist} (hp : h.Pos.Counts.length ≤ 1000000) (hn : h.Neg.Counts.length ≤ 1000000) : hist_Clone h = some h := by
  unfold hist_Clone slices_Clone_uint64_uint64
  rw [app_ok (by simp; omega), bind_some, app_ok (by simp; omega), bind_some]; rfl
/-- have two histograms one shape? -/
def alikeB (a b : api_Hist) : Bool := decide (a.Scale = b.Scale ∧ a.Pos.Offset = b.Pos.Offset ∧ a.Neg.Offset = b.Neg.Offset ∧ a.Pos.Counts.length = b.Pos.Counts.length ∧ a.Neg.Counts.length = b.Neg.Counts.length)
theorem alike_eq (a b : api_Hist) : ref10_Alike a b = some (alikeB a b) := by
  unfold ref10_Alike alikeB
  rw [lett_eq]
  congr 1
  rw [Bool.eq_iff_iff]
  simp only [Bool.and_eq_true, decide_eq_true_eq]
  omega
def lastH (row : List api_Hist) : api_Hist := row.getD (row.length - 1) H0
theorem lastH_snoc (row : List api_Hist) (h : api_Hist) : lastH (row ++ [h]) = h := by unfold lastH; simp [List.getD]
/-- what the counts came to, one by one -/
def diffB : List UInt64 → List UInt64 → List Int
  | c :: cs, w :: ws => smallBits (zz (sg (c - w))) ++ diffB cs ws
  | _, _ => []
def fullB (l : List UInt64) : List Int := l.flatMap fun c => smallBits c.toNat
def shapeB (s : api_Side) : List Int := rowN s.Counts.length 8 ++ (if 0 < s.Counts.length then smallBits (zz s.Offset) else [])
def alk (row : List api_Hist) (h : api_Hist) : Bool := decide (0 < row.length) && alikeB (lastH row) h
/-- a right histogram's bits -/
def hiB (row : List api_Hist) (h : api_Hist) : List Int :=
  if alk row h = true then 1 :: diffB (allC h) (allC (lastH row))
  else [0] ++ rowN (h.Scale + 10).toNat 5 ++ shapeB h.Pos ++ shapeB h.Neg ++ fullB (allC h)
theorem diffB_len : ∀ (a b : List UInt64), (diffB a b).length ≤ 66 * a.length
  | [], _ => by unfold diffB; simp
  | _ :: _, [] => by unfold diffB; simp
  | a :: as, b :: bs => by
    unfold diffB
    have := diffB_len as bs
    have := smallBits_le (zz (sg (a - b)))
    rw [List.length_append, List.length_cons]; omega
theorem fullB_len : ∀ (l : List UInt64), (fullB l).length ≤ 66 * l.length
  | [] => by simp [fullB]
  | a :: as => by
    have := fullB_len as
    have := smallBits_le a.toNat
    unfold fullB at *
    rw [List.flatMap_cons, List.length_append, List.length_cons]; omega
theorem shapeB_len (s : api_Side) : (shapeB s).length ≤ 74 := by
  unfold shapeB
  rw [List.length_append, rowN_len]
  split
  · have := smallBits_le (zz s.Offset); omega
  · simp
/-- right: what the document says of it -/
structure GoodH (h : api_Hist) : Prop where
  s : -10 ≤ h.Scale ∧ h.Scale ≤ 20
  pl : h.Pos.Counts.length ≤ 160
  nl : h.Neg.Counts.length ≤ 160
  po : I64 h.Pos.Offset
  no : I64 h.Neg.Offset
theorem sideE_len {s : api_Side} (h : sideE s = 0) : s.Counts.length ≤ 160 := by
  unfold sideE at h
  split at h
  · cases h
  · omega
theorem goodH_of {h : api_Hist} (o : OkH h) (e : histE h = 0) : GoodH h := by
  unfold histE at e
  split at e
  · cases e
  · rename_i h1
    split at e
    · rename_i h2; exact absurd e h2
    · rename_i h2
      split at e
      · rename_i h3; exact absurd e h3
      · rename_i h3
        exact ⟨by omega, sideE_len (by simpa using h2), sideE_len (by simpa using h3), o.po, o.no⟩
theorem hiB_len (row : List api_Hist) {h : api_Hist} (g : GoodH h) : (hiB row h).length ≤ 21500 := by
  have hl := allC_len h
  have := g.pl; have := g.nl
  unfold hiB
  split
  · have := diffB_len (allC h) (allC (lastH row))
    rw [List.length_cons]; omega
  · have := fullB_len (allC h)
    have := shapeB_len h.Pos
    have := shapeB_len h.Neg
    simp only [List.length_append, rowN_len, List.length_cons, List.length_nil]; omega
/-! ### the document's -/
theorem refDiff_loop {a b : List UInt64} (hab : a.length = b.length) (ha : a.length ≤ 1000) : ∀ (m i : Nat) (out : List Int), i + m = a.length → out.length ≤ 1 + 66 * i →
    loop (ref10_Put_lp1 a b) (out, (i : Int)) = some (.go (out ++ diffB (a.drop i) (b.drop i)))
  | 0, i, out, h, ho => by
    have hi : i = a.length := by omega
    rw [loop_brk (b := out)]
    · subst hi; rw [List.drop_length]; simp [diffB]
    · unfold ref10_Put_lp1
      dsimp only
      rw [bifFd (by omega)]
  | m + 1, i, out, h, ho => by
    have h1 : i < a.length := by omega
    have h2 : i < b.length := by omega
    have hs := smallBits_le (zz (sg (a[i] - b[i])))
    have ih := refDiff_loop hab ha m (i + 1) (out ++ smallBits (zz (sg (a[i] - b[i])))) (by omega) (by rw [List.length_append]; omega)
    rw [loop_next (s' := (out ++ smallBits (zz (sg (a[i] - b[i]))), ((i + 1 : Nat) : Int))), ih]
    · rw [List.append_assoc, List.drop_eq_getElem_cons h1, List.drop_eq_getElem_cons h2]; rfl
    · unfold ref10_Put_lp1
      dsimp only
      have hz : w64 (((a[i] - b[i]).toNat : Nat) : Int) = sg (a[i] - b[i]) := rfl
      rw [bifTd (by omega), idx_nat h1, bind_some, idx_nat h2, bind_some, hz, refZig_eq (sg_I64 _), bind_some, Small_eq, bind_some, u64_ofNat (zz_lt (sg_I64 _)), app_ok (by omega), bind_some, lett_eq, w64_succ (by omega)]
theorem refFull_loop {a : List UInt64} (ha : a.length ≤ 1000) : ∀ (m i : Nat) (out : List Int), i + m = a.length → out.length ≤ 1000 + 66 * i →
    loop (ref10_Put_lp2 a) (out, (i : Int)) = some (.go (out ++ fullB (a.drop i)))
  | 0, i, out, h, ho => by
    have hi : i = a.length := by omega
    rw [loop_brk (b := out)]
    · subst hi; rw [List.drop_length]; simp [fullB]
    · unfold ref10_Put_lp2
      dsimp only
      rw [bifFd (by omega)]
  | m + 1, i, out, h, ho => by
    have h1 : i < a.length := by omega
    have hs := smallBits_le (a[i]).toNat
    have ih := refFull_loop ha m (i + 1) (out ++ smallBits (a[i]).toNat) (by omega) (by rw [List.length_append]; omega)
    rw [loop_next (s' := (out ++ smallBits (a[i]).toNat, ((i + 1 : Nat) : Int))), ih]
    · rw [List.append_assoc, List.drop_eq_getElem_cons h1]; rfl
    · unfold ref10_Put_lp2
      dsimp only
      rw [bifTd (by omega), idx_nat h1, bind_some, Small_eq, bind_some, app_ok (by omega), bind_some, lett_eq, w64_succ (by omega)]
theorem refShape_eq {s : api_Side} (ho : I64 s.Offset) (hl : s.Counts.length ≤ 160) : ref10_shape s = some (shapeB s) := by
  unfold ref10_shape ref10_number shapeB
  rw [show (8 : Int) = ((8 : Nat) : Int) from rfl, row_eq (by omega), bind_some, bind_some, toU64_nat (by omega)]
  by_cases h : 0 < s.Counts.length
  · have := smallBits_le (zz s.Offset)
    rw [bifTd (by omega), refZig_eq ho, bind_some, Small_eq, bind_some, u64_ofNat (zz_lt ho), app_ok (by rw [rowN_len]; omega), bind_some, if_pos h]
  · rw [bifFd (by omega), if_neg h, List.append_nil]
theorem refPut10_eq {row : List api_Hist} {h : api_Hist} (g : GoodH h) (hr : row.length ≤ 1000) : ref10_Put row h = some (hiB row h) := by
  have hp := g.pl; have hn := g.nl
  have hl := allC_len h
  unfold ref10_Put
  rw [lett_eq]
  have hcond : ((bif decide (0 < (row.length : Int)) then (idx row (w64 ((row.length : Int) - 1))).bind fun e57 => (ref10_Alike e57 h).bind fun r90 => some r90 else some false)) = some (alk row h) := by
    by_cases h0 : 0 < row.length
    · rw [bifTd (by omega), show w64 ((row.length : Int) - 1) = ((row.length - 1 : Nat) : Int) by rw [w64_id] <;> omega, idx_nat (by omega), bind_some, alike_eq, bind_some]
      unfold alk lastH
      rw [decide_eq_true h0, Bool.true_and, getD_lt (by omega)]
    · rw [bifFd (by omega)]
      unfold alk
      rw [decide_eq_false h0, Bool.false_and]
  rw [hcond, bind_some]
  unfold hiB
  by_cases hk : alk row h = true
  · rw [bifT hk, if_pos hk]
    unfold alk at hk
    rw [Bool.and_eq_true, decide_eq_true_eq] at hk
    have hla : row[row.length - 1]'(by omega) = lastH row := by unfold lastH; rw [getD_lt (by omega)]
    have hal := hk.2
    unfold alikeB at hal
    rw [decide_eq_true_eq] at hal
    have hl2 := allC_len (lastH row)
    rw [show w64 ((row.length : Int) - 1) = ((row.length - 1 : Nat) : Int) by rw [w64_id] <;> omega, idx_nat (by omega), bind_some, hla, all_eq (by omega) (by omega), bind_some, all_eq (by omega) (by omega), bind_some]
    have := refDiff_loop (a := allC h) (b := allC (lastH row)) (by omega) (by omega) (allC h).length 0 [1] (by omega) (by simp)
    rw [show (0 : Int) = ((0 : Nat) : Int) from rfl, this, flow_go]; rfl
  · have hsc := g.s
    rw [bifF (by simpa using hk), if_neg hk]
    have s1 := shapeB_len h.Pos
    have s2 := shapeB_len h.Neg
    unfold ref10_number
    rw [show w64 (h.Scale + 10) = (((h.Scale + 10).toNat : Nat) : Int) by rw [w64_id] <;> omega, show (5 : Int) = ((5 : Nat) : Int) from rfl, row_eq (by omega), bind_some, bind_some, toU64_nat (by omega), app_ok (by rw [rowN_len]; simp), bind_some, refShape_eq g.po hp, bind_some,
      app_ok (by simp only [List.length_append, rowN_len, List.length_cons, List.length_nil]; omega), bind_some, refShape_eq g.no hn, bind_some, app_ok (by simp only [List.length_append, rowN_len, List.length_cons, List.length_nil]; omega), bind_some, all_eq (by omega) (by omega), bind_some]
    have := refFull_loop (a := allC h) (by omega) (allC h).length 0 ([0] ++ rowN (h.Scale + 10).toNat 5 ++ shapeB h.Pos ++ shapeB h.Neg) (by omega) (by simp only [List.length_append, rowN_len, List.length_cons, List.length_nil]; omega)
    rw [show (0 : Int) = ((0 : Nat) : Int) from rfl] 
    rw [show ([((0 : Nat) : Int)] : List Int) = [0] from rfl, this, flow_go]; rfl
/-! ### the program's -/
structure HS (x : histbits_Row) (row : List api_Hist) : Prop where
  n : x.n = (row.length : Int)
  last : x.last = lastH row
  good : ∀ h ∈ row, GoodH h
theorem HS.new : HS ⟨0, H0⟩ [] := ⟨rfl, rfl, fun h hm => by simp at hm⟩
theorem lastH_mem {row : List api_Hist} (h : 0 < row.length) : lastH row ∈ row := by
  unfold lastH; rw [getD_lt (by omega)]; exact List.getElem_mem _
theorem HS.lastGood {x : histbits_Row} {row : List api_Hist} (h : HS x row) : GoodH (lastH row) := by
  by_cases h0 : 0 < row.length
  · exact h.good _ (lastH_mem h0)
  · have : row = [] := List.eq_nil_of_length_eq_zero (by omega)
    subst this
    exact ⟨by decide, by decide, by decide, by show I64 0; unfold I64; omega, by show I64 0; unfold I64; omega⟩
theorem diff_loop {a b : List UInt64} (hab : a.length = b.length) (ha : a.length ≤ 1000) : ∀ (m i : Nat) (w : bitio_Writer) (L : List Int), i + m = a.length → WR w L → L.length + 66 * m ≤ 1000000 →
    ∃ w', loop (histbits_Row_Put_lp1 b a) (w.b, w.n, (i : Int)) = some (.go (w'.b, w'.n)) ∧ WR w' (L ++ diffB (a.drop i) (b.drop i))
  | 0, i, w, L, h, hw, hL => by
    have hi : i = a.length := by omega
    refine ⟨w, ?_, by subst hi; rw [List.drop_length]; simpa [diffB] using hw⟩
    rw [loop_brk (b := (w.b, w.n))]
    unfold histbits_Row_Put_lp1
    dsimp only
    rw [bifFd (by omega)]
  | m + 1, i, w, L, h, hw, hL => by
    have h1 : i < a.length := by omega
    have h2 : i < b.length := by omega
    have hs := smallBits_le (zz (sg (a[i] - b[i])))
    obtain ⟨w1, e1, hw1⟩ := hw.int (sg_I64 (a[i] - b[i])) (by omega)
    obtain ⟨w2, e2, hw2⟩ := diff_loop hab ha m (i + 1) w1 _ (by omega) hw1 (by rw [List.length_append]; omega)
    refine ⟨w2, ?_, ?_⟩
    · rw [loop_next (s' := (w1.b, w1.n, ((i + 1 : Nat) : Int)))]
      · exact e2
      · unfold histbits_Row_Put_lp1
        dsimp only
        have hz : w64 (((a[i] - b[i]).toNat : Nat) : Int) = sg (a[i] - b[i]) := rfl
        have e1' : vary_PutInt ⟨w.b, w.n⟩ (sg (a[i] - b[i])) = _ := e1
        rw [bifTd (by omega), idx_nat h1, bind_some, idx_nat h2, bind_some, hz, e1', bind_some, w64_succ (by omega)]
    · rw [List.drop_eq_getElem_cons h1, List.drop_eq_getElem_cons h2]
      unfold diffB
      rw [← List.append_assoc]; exact hw2
theorem full_loop {a : List UInt64} (ha : a.length ≤ 1000) : ∀ (m i : Nat) (w : bitio_Writer) (L : List Int), i + m = a.length → WR w L → L.length + 66 * m ≤ 1000000 →
    ∃ w', loop (histbits_Row_Put_lp3 a) (w.b, w.n, (i : Int)) = some (.go (w'.b, w'.n)) ∧ WR w' (L ++ fullB (a.drop i))
  | 0, i, w, L, h, hw, hL => by
    have hi : i = a.length := by omega
    refine ⟨w, ?_, by subst hi; rw [List.drop_length]; simpa [fullB] using hw⟩
    rw [loop_brk (b := (w.b, w.n))]
    unfold histbits_Row_Put_lp3
    dsimp only
    rw [bifFd (by omega)]
  | m + 1, i, w, L, h, hw, hL => by
    have h1 : i < a.length := by omega
    have hs := smallBits_le (a[i]).toNat
    obtain ⟨w1, e1, hw1⟩ := hw.small_ (a[i]) (by omega)
    obtain ⟨w2, e2, hw2⟩ := full_loop ha m (i + 1) w1 _ (by omega) hw1 (by rw [List.length_append]; omega)
    refine ⟨w2, ?_, ?_⟩
    · rw [loop_next (s' := (w1.b, w1.n, ((i + 1 : Nat) : Int)))]
      · exact e2
      · unfold histbits_Row_Put_lp3
        dsimp only
        have e1' : vary_Put ⟨w.b, w.n⟩ (a[i]) = _ := e1
        rw [bifTd (by omega), idx_nat h1, bind_some, e1', bind_some, w64_succ (by omega)]
    · rw [List.drop_eq_getElem_cons h1]
      unfold fullB at *
      rw [List.flatMap_cons, ← List.append_assoc]; exact hw2
theorem side_put {s : api_Side} (ho : I64 s.Offset) (hl : s.Counts.length ≤ 160) {w : bitio_Writer} {L : List Int} (hw : WR w L) (hL : L.length + 74 ≤ 1000000) :
    ∃ w', ((bitio_Writer_Put ⟨w.b, w.n⟩ (toU64 (s.Counts.length : Int)) 8).bind fun (r445, r446) =>
      bif decide (0 < (s.Counts.length : Int)) then (vary_PutInt r446 s.Offset).bind fun r463 => some (r463.b, r463.n)
      else some (r446.b, r446.n) : Option (List UInt8 × Int)) = some (w'.b, w'.n) ∧ WR w' (L ++ shapeB s) := by
  have e : (toU64 (s.Counts.length : Int)).toNat = s.Counts.length := toU64_nat (by omega)
  obtain ⟨w1, e1, hw1⟩ := hw.put (v := toU64 (s.Counts.length : Int)) (n := 8) (by omega) (by rw [e]; omega) (by omega)
  have e1' : bitio_Writer_Put ⟨w.b, w.n⟩ (toU64 (s.Counts.length : Int)) ((8 : Nat) : Int) = _ := e1
  rw [show (8 : Int) = ((8 : Nat) : Int) from rfl, e1', bind_some]
  dsimp only
  rw [e] at hw1
  unfold shapeB
  by_cases h : 0 < s.Counts.length
  · obtain ⟨w2, e2, hw2⟩ := hw1.int ho (by rw [List.length_append, rowN_len]; omega)
    rw [bifTd (by omega), e2, bind_some, if_pos h]
    exact ⟨w2, rfl, by rw [← List.append_assoc]; exact hw2⟩
  · rw [bifFd (by omega), if_neg h, List.append_nil]
    exact ⟨w1, rfl, hw1⟩
theorem of_eq (a b : api_Hist) : ((decide (a.Scale = b.Scale) && (decide (a.Pos.Offset = b.Pos.Offset) && (decide ((a.Pos.Counts.length : Int) = (b.Pos.Counts.length : Int)) && (decide (a.Neg.Offset = b.Neg.Offset) && (decide ((a.Neg.Counts.length : Int) = (b.Neg.Counts.length : Int)) && true)))))) = alikeB b a := by
  unfold alikeB
  rw [Bool.eq_iff_iff]
  simp only [Bool.and_eq_true, decide_eq_true_eq]
  constructor
  · rintro ⟨h1, h2, h3, h4, h5, _⟩; exact ⟨h1.symm, h2.symm, h4.symm, by omega, by omega⟩
  · rintro ⟨h1, h2, h4, h3, h5⟩; exact ⟨h1.symm, h2.symm, by omega, h4.symm, by omega, trivial⟩
theorem HS.put {x : histbits_Row} {row : List api_Hist} (hx : HS x row) (hr : row.length ≤ 1000) {h : api_Hist} (o : OkH h) (he : histE h = 0) {w : bitio_Writer} {L : List Int} (hw : WR w L) (hL : L.length + 21500 ≤ 1000000) :
    ∃ x' w', histbits_Row_Put x w h = some (0, x', w') ∧ HS x' (row ++ [h]) ∧ WR w' (L ++ hiB row h) := by
  have g := goodH_of o he
  have hp := g.pl; have hn := g.nl
  have hl := allC_len h
  have fin : ∀ w' : bitio_Writer, WR w' (L ++ hiB row h) → ∃ x' w'', (lett (w64 (x.n + 1)) fun t559 => (hist_Clone h).bind fun r572 => some ((0 : Int), (histbits_Row.mk t559 r572), (bitio_Writer.mk w'.b w'.n))) = some (0, x', w'') ∧ HS x' (row ++ [h]) ∧ WR w'' (L ++ hiB row h) := by
    intro w' hw'
    refine ⟨_, _, by rw [lett_eq, clone_hist (by omega) (by omega), bind_some], ⟨?_, ?_, ?_⟩, hw'⟩
    · dsimp only; rw [hx.n, w64_succ (by omega), List.length_append]; rfl
    · dsimp only; rw [lastH_snoc]
    · intro y hy
      rcases List.mem_append.1 hy with hm | hm
      · exact hx.good y hm
      · rw [List.mem_singleton.1 hm]; exact g
  unfold histbits_Row_Put
  rw [Check_eq o, he, bind_some, decide_eq_true rfl, Bool.not_true, cond_false]
  have hcond : (bif decide (0 < x.n) then (histbits_of h).bind fun r122 => (histbits_of x.last).bind fun r139 =>
      some (decide (r122.scale = r139.scale) && (decide (r122.posAt = r139.posAt) && (decide (r122.posSize = r139.posSize) && (decide (r122.negAt = r139.negAt) && (decide (r122.negSize = r139.negSize) && true))))) else some false) = some (alk row h) := by
    unfold alk
    by_cases h0 : 0 < row.length
    · rw [bifTd (by rw [hx.n]; omega), decide_eq_true h0, Bool.true_and]
      unfold histbits_of
      rw [bind_some, bind_some, hx.last, ← of_eq]
    · rw [bifFd (by rw [hx.n]; omega), decide_eq_false h0, Bool.false_and]
  rw [hcond, bind_some]
  by_cases hk : alk row h = true
  · have hkk := hk
    unfold alk at hk
    rw [Bool.and_eq_true, decide_eq_true_eq] at hk
    have hal := hk.2
    unfold alikeB at hal
    rw [decide_eq_true_eq] at hal
    have hl2 := allC_len (lastH row)
    obtain ⟨w1, e1, hw1⟩ := hw.put (v := 1) (n := 1) (by omega) (by decide) (by omega)
    obtain ⟨w2, e2, hw2⟩ := diff_loop (a := allC h) (b := allC (lastH row)) (by omega) (by omega) (allC h).length 0 w1 _ (by omega) hw1 (by rw [List.length_append, rowN_len]; omega)
    rw [bifT hkk, show (1 : Int) = ((1 : Nat) : Int) from rfl, e1, bind_some]
    dsimp only
    have e2' : loop (histbits_Row_Put_lp1 (allC (lastH row)) (allC h)) (w1.b, w1.n, 0) = _ := e2
    rw [hx.last, counts_eq (by omega) (by omega), bind_some, counts_eq (by omega) (by omega), bind_some, e2', flow_go, bind_some, bind_some]
    refine fin w2 ?_
    unfold hiB
    rw [if_pos hkk]
    rw [List.drop_zero, List.drop_zero, List.append_assoc] at hw2
    exact hw2
  · have hsc := g.s
    have s1 := shapeB_len h.Pos
    have s2 := shapeB_len h.Neg
    obtain ⟨w1, e1, hw1⟩ := hw.put (v := 0) (n := 1) (by omega) (by decide) (by omega)
    have e5 : (toU64 (w64 (h.Scale - (-10)))).toNat = (h.Scale + 10).toNat := by
      rw [show w64 (h.Scale - (-10)) = (((h.Scale + 10).toNat : Nat) : Int) by rw [w64_id] <;> omega, toU64_nat (by omega)]
    obtain ⟨w2, e2, hw2⟩ := hw1.put (v := toU64 (w64 (h.Scale - (-10)))) (n := 5) (by omega) (by rw [e5]; omega) (by rw [List.length_append, rowN_len]; omega)
    rw [e5] at hw2
    obtain ⟨w3, e3, hw3⟩ := side_put g.po hp hw2 (by simp only [List.length_append, rowN_len]; omega)
    obtain ⟨w4, e4, hw4⟩ := side_put g.no hn hw3 (by simp only [List.length_append, rowN_len]; omega)
    obtain ⟨w6, e6, hw6⟩ := full_loop (a := allC h) (by omega) (allC h).length 0 w4 _ (by omega) hw4 (by simp only [List.length_append, rowN_len]; omega)
    have hsides : loop (histbits_Row_Put_lp2 h) (w2.b, w2.n, 0) = some (.go (w4.b, w4.n)) := by
      rw [loop_next (s' := (w3.b, w3.n, 1)), loop_next (s' := (w4.b, w4.n, 2)), loop_brk (b := (w4.b, w4.n))]
      · rfl
      · unfold histbits_Row_Put_lp2
        dsimp only
        rw [bifTd (by simp), show idx [h.Pos, h.Neg] 1 = some h.Neg from rfl, bind_some, e4, bind_some]
        rw [show w64 (1 + 1) = 2 by rw [w64_id] <;> omega]
      · unfold histbits_Row_Put_lp2
        dsimp only
        rw [bifTd (by simp), show idx [h.Pos, h.Neg] 0 = some h.Pos from rfl, bind_some, e3, bind_some]
        rw [show w64 (0 + 1) = 1 by rw [w64_id] <;> omega]
    rw [bifF (by simpa using hk), show (1 : Int) = ((1 : Nat) : Int) from rfl, e1, bind_some]
    dsimp only
    rw [show (5 : Int) = ((5 : Nat) : Int) from rfl, e2, bind_some]
    dsimp only
    have e6' : loop (histbits_Row_Put_lp3 (allC h)) (w4.b, w4.n, 0) = _ := e6
    rw [hsides, flow_go, bind_some, counts_eq (by omega) (by omega), bind_some, e6', flow_go, bind_some, bind_some]
    refine fin w6 ?_
    unfold hiB
    rw [if_neg hk]
    rw [List.drop_zero] at hw6
    have : L ++ ([0] ++ rowN (h.Scale + 10).toNat 5 ++ shapeB h.Pos ++ shapeB h.Neg ++ fullB (allC h)) = L ++ rowN (0 : UInt64).toNat 1 ++ rowN (h.Scale + 10).toNat 5 ++ shapeB h.Pos ++ shapeB h.Neg ++ fullB (allC h) := by
      rw [show rowN (0 : UInt64).toNat 1 = [0] from rfl]; simp only [List.append_assoc]
    rw [this]; exact hw6
theorem HS.putNo {x : histbits_Row} {h : api_Hist} (o : OkH h) (he : histE h ≠ 0) (w : bitio_Writer) : histbits_Row_Put x w h = some (histE h, x, w) := by
  unfold histbits_Row_Put
  rw [Check_eq o, bind_some, decide_eq_false he, Bool.not_false, cond_true]
end Go.Lg
