/- Lemmas about the given model and about plain data, which the rows stand on: no statement of the program by itself. -/
import Derived.Test.YtihlealbhlgikaaGreatOwLgPart1
set_option linter.unusedVariables false
namespace Go.Lg
attribute [local irreducible] w64 toU64 toU8 shlU shrU shlB shrB
theorem map_szL {l : List api_Pair} (h : ∀ a ∈ l, a.Key.length ≤ 32 ∧ a.Val.length ≤ 32) : szL (l.map attrF) ≤ 124 * l.length := by
  induction l with
  | nil => simp [szL]
  | cons a l ih =>
    have h1 := ih fun b hb => h b (by simp [hb])
    have h2 := h a (by simp)
    have h3 : (attrF a).B.length ≤ 104 := sF_sz (attr_ok a) (attr_sz h2.1 h2.2) (by omega)
    rw [List.map_cons, szL_cons, List.length_cons]; omega
theorem map_ok (l : List api_Pair) : ∀ f ∈ l.map attrF, FOk f := fun f hf => by
  obtain ⟨a, _, rfl⟩ := List.mem_map.1 hf
  exact sF_ok ⟨by decide, by decide⟩ _
theorem attrs_lp {l : List api_Pair} (h : ∀ a ∈ l, a.Key.length ≤ 32 ∧ a.Val.length ≤ 32) (hl : l.length ≤ 1000) (l0 : List api_Fld) (h0 : l0.length ≤ 1000) :
    loop (otlp_fields_lp1 l) (l0, 0) = some (.go (l0 ++ l.map attrF)) ∧ loop (ref31_fields_lp1 l) (l0, 0) = some (.go (l0 ++ l.map attrF)) := by
  have key : ∀ (m i : Nat), i + m = l.length → loop (otlp_fields_lp1 l) (l0 ++ (l.take i).map attrF, (i : Int)) = some (.go (l0 ++ l.map attrF)) ∧ loop (ref31_fields_lp1 l) (l0 ++ (l.take i).map attrF, (i : Int)) = some (.go (l0 ++ l.map attrF)) := by
    intro m
    induction m with
    | zero =>
      intro i hi
      rw [List.take_of_length_le (by omega)]
      constructor
      · refine loop_brk ?_
        unfold otlp_fields_lp1
        dsimp only
        rw [bifFd (by omega)]
      · refine loop_brk ?_
        unfold ref31_fields_lp1
        dsimp only
        rw [bifFd (by omega)]
    | succ m ih =>
      intro i hi
      have hlt : i < l.length := by omega
      have ht : l.take (i + 1) = l.take i ++ [l[i]] := by rw [List.take_add_one, List.getElem?_eq_getElem hlt]; rfl
      have hb := h _ (List.getElem_mem hlt)
      have hs := attr_sz hb.1 hb.2
      obtain ⟨i1, i2⟩ := ih (i + 1) (by omega)
      rw [ht, List.map_append, ← List.append_assoc] at i1 i2
      have hlen : (l0 ++ (l.take i).map attrF).length ≤ 2000 := by rw [List.length_append, List.length_map, List.length_take]; omega
      constructor
      · rw [← i1]
        refine loop_next ?_
        unfold otlp_fields_lp1
        dsimp only
        have q : otlp_sub 7 (attrL l[i]) = some (attrF l[i]) := sub_eq (attr_ok _) (by omega)
        have q' : otlp_sub 7 [bF 1 l[i].Key, bF 2 l[i].Val] = _ := q
        rw [bifTd (by omega), idx_nat hlt, bind_some, text_eq31, bind_some, text_eq31, bind_some, q', bind_some, app_ok (by simp only [List.length_singleton]; omega), bind_some, w64_succ (by omega)]; rfl
      · rw [← i2]
        refine loop_next ?_
        unfold ref31_fields_lp1
        dsimp only
        have q : ref31_sub 7 (attrL l[i]) = some (attrF l[i]) := rsub_eq (attr_ok _) (by omega)
        have q' : ref31_sub 7 [api_Fld.mk 1 2 0 l[i].Key, api_Fld.mk 2 2 0 l[i].Val] = _ := q
        rw [bifTd (by omega), idx_nat hlt, bind_some, bind_some, bind_some]
        dsimp only
        rw [q', bind_some, app_ok (by simp only [List.length_singleton]; omega), bind_some, lett_eq, w64_succ (by omega)]; rfl
  have k := key l.length 0 (by omega)
  simpa using k
theorem EP.lens {p : api_Point} (e : EP p) : p.Name.length ≤ 32 ∧ p.Attrs.length ≤ 4 ∧ ∀ a ∈ p.Attrs, a.Key.length ≤ 32 ∧ a.Val.length ≤ 32 := label_lens (chk_label e.c)
theorem EP.srt {p : api_Point} (e : EP p) : (srt p.Attrs).length ≤ 4 ∧ ∀ a ∈ srt p.Attrs, a.Key.length ≤ 32 ∧ a.Val.length ≤ 32 := by
  obtain ⟨_, h2, h3⟩ := e.lens
  exact ⟨by rw [srt_length]; omega, fun a ha => h3 a (srt_mem ha)⟩
theorem val_ok (p : api_Point) : (∀ f ∈ valF p, FOk f) ∧ szL (valF p) ≤ 20 ∧ (valF p).length ≤ 1 := by
  unfold valF
  split
  · exact ⟨ok_cons (xF_ok ⟨by decide, by decide⟩ _) ok_nil, Nat.le_refl _, Nat.le_refl _⟩
  split
  · exact ⟨ok_cons (xF_ok ⟨by decide, by decide⟩ _) ok_nil, Nat.le_refl _, Nat.le_refl _⟩
  · exact ⟨ok_nil, Nat.zero_le _, Nat.zero_le _⟩
theorem sideF_len (n : Int) (s : api_Side) : (sideF n s).length ≤ 1 := by
  unfold sideF
  split
  · exact Nat.zero_le _
  · exact Nat.le_refl _
theorem tail_ok {p : api_Point} (e : EP p) : (∀ f ∈ tailF p, FOk f) ∧ szL (tailF p) ≤ 6160 := by
  unfold tailF
  split
  · exact ⟨ok_cons (xF_ok ⟨by decide, by decide⟩ _) ok_nil, by rw [szL_cons, szL_nil]; show 0 + 20 + 0 ≤ 6160; omega⟩
  split
  · refine ⟨ok_app (ok_app (ok_cons (vF_ok ⟨by decide, by decide⟩ _) (ok_cons (vF_ok ⟨by decide, by decide⟩ _) ok_nil)) (sideF_ok ⟨by decide, by decide⟩ _)) (sideF_ok ⟨by decide, by decide⟩ _), ?_⟩
    have h1 := sideF_sz (n := 10) e.pp
    have h2 := sideF_sz (n := 11) e.pn
    rw [szL_app, szL_app, szL_cons, szL_cons, szL_nil]
    have e1 : (vF 8 (zU p.Hist.Scale)).B.length = 0 := rfl
    have e2 : (vF 9 p.Hist.Zero).B.length = 0 := rfl
    omega
  · exact ⟨ok_nil, Nat.zero_le _⟩
theorem fields_ok {p : api_Point} (e : EP p) : (∀ f ∈ fieldsF p, FOk f) ∧ szL (fieldsF p) ≤ 6716 := by
  obtain ⟨t1, t2⟩ := tail_ok e
  obtain ⟨v1, v2, _⟩ := val_ok p
  obtain ⟨s1, s2⟩ := e.srt
  have hm := map_szL s2
  unfold fieldsF
  refine ⟨ok_app (ok_app (ok_app (ok_cons (xF_ok ⟨by decide, by decide⟩ _) (ok_cons (xF_ok ⟨by decide, by decide⟩ _) ok_nil)) v1) (map_ok _)) t1, ?_⟩
  rw [szL_app, szL_app, szL_app, szL_cons, szL_cons, szL_nil]
  have e1 : (xF 2 (toU64 p.Start)).B.length = 0 := rfl
  have e2 : (xF 3 (toU64 p.Time)).B.length = 0 := rfl
  omega
theorem EP.kind {p : api_Point} (e : EP p) : p.Kind = 1 ∨ p.Kind = 2 ∨ p.Kind = 3 ∨ p.Kind = 4 ∨ p.Kind = 5 := by
  have := (chk0 e.c).1
  unfold KindP at this
  omega
theorem EP.temp {p : api_Point} (e : EP p) : p.Temp = 0 ∨ p.Temp = 1 ∨ p.Temp = 2 := by
  have := (chk0 e.c).1
  unfold KindP at this
  omega
theorem appF {l m : List api_Fld} (hl : l.length ≤ 1000) (hm : m.length ≤ 1000) : app l m = some (l ++ m) := app_ok (by omega)
theorem otlp_fields_eq {p : api_Point} (e : EP p) : otlp_fields p = some (fieldsF p) := by
  obtain ⟨_, l2, _⟩ := e.lens
  obtain ⟨s1, s2⟩ := e.srt
  obtain ⟨_, _, v3⟩ := val_ok p
  have hA := (attrs_lp s2 (by omega) ([xF 2 (toU64 p.Start), xF 3 (toU64 p.Time)] ++ valF p) (by rw [List.length_append]; simp only [List.length_cons, List.length_nil]; omega)).1
  have hlen : ([xF 2 (toU64 p.Start), xF 3 (toU64 p.Time)] ++ valF p ++ (srt p.Attrs).map attrF).length ≤ 10 := by
    rw [List.length_append, List.length_append, List.length_map]; simp only [List.length_cons, List.length_nil]; omega
  unfold otlp_fields
  simp only [fix_eq31, num_eq31, bind_some, lett_eq, sorted_eq _ (show p.Attrs.length < 20 by omega)]
  have d1 := sideF_len 10 p.Hist.Pos
  have d2 := sideF_len 11 p.Hist.Neg
  rcases e.kind with h | h | h | h | h
  · have hv : valF p = [xF 6 (toU64 p.Int_)] := by unfold valF; rw [h]; rfl
    have ht : tailF p = [] := by unfold tailF; rw [h]; rfl
    rw [bifTd h, appF (by simp) (by simp), bind_some, bind_some, ← hv, hA, flow_go, bind_some, bifFd (by omega), bifFd (by omega)]
    unfold fieldsF; rw [ht, List.append_nil]
  · have hv : valF p = [xF 4 p.Re] := by unfold valF; rw [h]; rfl
    have ht : tailF p = [] := by unfold tailF; rw [h]; rfl
    rw [bifFd (by omega), bifTd h, bind_some, bifTd h, appF (by simp) (by simp), bind_some, bind_some, ← hv, hA, flow_go, bind_some, bifFd (by omega), bifFd (by omega)]
    unfold fieldsF; rw [ht, List.append_nil]
  · have hv : valF p = [xF 4 p.Re] := by unfold valF; rw [h]; rfl
    have ht : tailF p = [] := by unfold tailF; rw [h]; rfl
    rw [bifFd (by omega), bifFd (by omega), bifTd h, bind_some, bifTd h, appF (by simp) (by simp), bind_some, bind_some, ← hv, hA, flow_go, bind_some, bifFd (by omega), bifFd (by omega)]
    unfold fieldsF; rw [ht, List.append_nil]
  · have hv : valF p = [] := by unfold valF; rw [h]; rfl
    have ht : tailF p = [vF 8 (zU p.Hist.Scale), vF 9 p.Hist.Zero] ++ sideF 10 p.Hist.Pos ++ sideF 11 p.Hist.Neg := by unfold tailF; rw [if_neg (by omega), if_pos h]
    have hA' : loop (otlp_fields_lp1 (srt p.Attrs)) ([xF 2 (toU64 p.Start), xF 3 (toU64 p.Time)], 0) = some (.go ([xF 2 (toU64 p.Start), xF 3 (toU64 p.Time)] ++ valF p ++ (srt p.Attrs).map attrF)) := by rw [hv, List.append_nil] at hA ⊢; exact hA
    rw [bifFd (by omega), bifFd (by omega), bifFd (by omega), bind_some, bifFd (by omega), bind_some, hA', flow_go, bind_some, bifFd (by omega), bifTd h, zig_eq e.o.s, bind_some, appF (by omega) (by simp), bind_some, otlp_side_eq e.o.po e.pp, bind_some,
      appF (by rw [List.length_append]; simp only [List.length_cons, List.length_nil]; omega) (by omega), bind_some, otlp_side_eq e.o.no e.pn, bind_some, appF (by rw [List.length_append, List.length_append]; simp only [List.length_cons, List.length_nil]; omega) (by omega), bind_some]
    unfold fieldsF; rw [ht]; simp only [List.append_assoc]; rfl
  · have hv : valF p = [xF 4 p.Re] := by unfold valF; rw [h]; rfl
    have ht : tailF p = [xF 31 p.Im] := by unfold tailF; rw [h]; rfl
    rw [bifFd (by omega), bifFd (by omega), bifFd (by omega), bind_some, bifTd (by omega), appF (by simp) (by simp), bind_some, bind_some, ← hv, hA, flow_go, bind_some, bifTd h, appF (by omega) (by simp), bind_some]
    unfold fieldsF; rw [ht]
theorem rside_step {n : Int} {s : api_Side} (io : I64 s.Offset) (h : (packL s.Counts).length ≤ 3000) {l : List api_Fld} (hl : l.length ≤ 900) :
    (bif decide (0 < (s.Counts.length : Int)) then (ref31_side s).bind fun r => (ref31_sub n r).bind fun q => (app l [q]).bind fun xs => some xs else some l : Option (List api_Fld)) = some (l ++ sideF n s) := by
  have hz := side_sz h
  unfold sideF
  by_cases e : s.Counts = []
  · rw [if_pos e, bifFd (by rw [e]; decide), List.append_nil]
  · rw [if_neg e, bifTd (by have := List.length_pos_iff.2 e; omega), ref_side_eq io h, bind_some, rsub_eq (side_ok s) (by omega), bind_some, appF (by omega) (by simp), bind_some]
theorem ref_fields_eq {p : api_Point} (e : EP p) : ref31_fields p = some (fieldsF p) := by
  obtain ⟨_, l2, _⟩ := e.lens
  obtain ⟨s1, s2⟩ := e.srt
  obtain ⟨_, _, v3⟩ := val_ok p
  have hA := (attrs_lp s2 (by omega) ([xF 2 (toU64 p.Start), xF 3 (toU64 p.Time)] ++ valF p) (by rw [List.length_append]; simp only [List.length_cons, List.length_nil]; omega)).2
  have hlen : ([xF 2 (toU64 p.Start), xF 3 (toU64 p.Time)] ++ valF p ++ (srt p.Attrs).map attrF).length ≤ 10 := by
    rw [List.length_append, List.length_append, List.length_map]; simp only [List.length_cons, List.length_nil]; omega
  unfold ref31_fields
  rw [rsorted_eq _ (by omega)]
  have d1 := sideF_len 10 p.Hist.Pos
  have d2 := sideF_len 11 p.Hist.Neg
  have hl0 : [api_Fld.mk 2 1 (toU64 p.Start) [], api_Fld.mk 3 1 (toU64 p.Time) []] = [xF 2 (toU64 p.Start), xF 3 (toU64 p.Time)] := rfl
  rw [hl0]
  rcases e.kind with h | h | h | h | h
  · have hv : valF p = [api_Fld.mk 6 1 (toU64 p.Int_) []] := by unfold valF; rw [h]; rfl
    have ht : tailF p = [] := by unfold tailF; rw [h]; rfl
    rw [bifF (by rw [h]; rfl), bind_some, bifTd h, appF (by simp) (by simp), bind_some, bind_some, bind_some, ← hv, hA, flow_go, bind_some, bifFd (by omega), bind_some, bifFd (by omega)]
    unfold fieldsF; rw [ht, List.append_nil]
  · have hv : valF p = [api_Fld.mk 4 1 p.Re []] := by unfold valF; rw [h]; rfl
    have ht : tailF p = [] := by unfold tailF; rw [h]; rfl
    rw [bifT (by rw [h]; rfl), appF (by simp) (by simp), bind_some, bind_some, bifFd (by omega), bind_some, bind_some, ← hv, hA, flow_go, bind_some, bifFd (by omega), bind_some, bifFd (by omega)]
    unfold fieldsF; rw [ht, List.append_nil]
  · have hv : valF p = [api_Fld.mk 4 1 p.Re []] := by unfold valF; rw [h]; rfl
    have ht : tailF p = [] := by unfold tailF; rw [h]; rfl
    rw [bifT (by rw [h]; rfl), appF (by simp) (by simp), bind_some, bind_some, bifFd (by omega), bind_some, bind_some, ← hv, hA, flow_go, bind_some, bifFd (by omega), bind_some, bifFd (by omega)]
    unfold fieldsF; rw [ht, List.append_nil]
  · have hv : valF p = [] := by unfold valF; rw [h]; rfl
    have ht : tailF p = [vF 8 (zU p.Hist.Scale), vF 9 p.Hist.Zero] ++ sideF 10 p.Hist.Pos ++ sideF 11 p.Hist.Neg := by unfold tailF; rw [if_neg (by omega), if_pos h]
    have hA' : loop (ref31_fields_lp1 (srt p.Attrs)) ([xF 2 (toU64 p.Start), xF 3 (toU64 p.Time)], 0) = some (.go ([xF 2 (toU64 p.Start), xF 3 (toU64 p.Time)] ++ valF p ++ (srt p.Attrs).map attrF)) := by rw [hv, List.append_nil] at hA ⊢; exact hA
    rw [bifF (by rw [h]; rfl), bind_some, bifFd (by omega), bind_some, bind_some, hA', flow_go, bind_some, bifTd h, refZig_eq e.o.s, bind_some, appF (by omega) (by simp), bind_some, appF (by rw [List.length_append]; simp only [List.length_cons, List.length_nil]; omega) (by simp), bind_some]
    rw [rside_step e.o.po e.pp (by simp only [List.length_append, List.length_cons, List.length_nil] at hlen ⊢; omega), bind_some, rside_step e.o.no e.pn (by simp only [List.length_append, List.length_cons, List.length_nil] at hlen ⊢; omega), bind_some, bifFd (by omega)]
    unfold fieldsF; rw [ht]; simp only [List.append_assoc]; rfl
  · have hv : valF p = [api_Fld.mk 4 1 p.Re []] := by unfold valF; rw [h]; rfl
    have ht : tailF p = [xF 31 p.Im] := by unfold tailF; rw [h]; rfl
    rw [bifT (by rw [h]; rfl), appF (by simp) (by simp), bind_some, bind_some, bifFd (by omega), bind_some, bind_some, ← hv, hA, flow_go, bind_some, bifFd (by omega), bind_some, bifTd h, appF (by omega) (by simp), bind_some]
    unfold fieldsF; rw [ht]; rfl
/-! ### a metric -/
theorem kind_num (k : Int) : NumOk (kindN k) := by
  unfold kindN NumOk
  split
  · omega
  split
  · omega
  split <;> omega
theorem data_eq31 (k : Int) : otlp_data k = some (kindN k) := by
  unfold otlp_data kindN
  simp only [lett_eq]
  by_cases h3 : k = 3
  · rw [bifTd h3, if_pos h3]
  rw [bifFd h3, if_neg h3]
  by_cases h4 : k = 4
  · rw [bifTd h4, if_pos h4]
  rw [bifFd h4, if_neg h4]
  by_cases h5 : k = 5
  · rw [bifTd h5, if_pos h5]
  rw [bifFd h5, if_neg h5]
theorem rfield_eq31 {p : api_Point} (e : EP p) : ref31_field p.Kind = some (kindN p.Kind) := by
  unfold ref31_field
  rcases e.kind with h | h | h | h | h <;> rw [h] <;> rfl
theorem data_ok {p : api_Point} (e : EP p) : (∀ f ∈ dataF p, FOk f) ∧ szL (dataF p) ≤ 6800 := by
  obtain ⟨f1, f2⟩ := fields_ok e
  have h0 := sF_sz (n := 1) f1 f2 (by omega)
  have ht : (∀ f ∈ tempF p, FOk f) ∧ szL (tempF p) ≤ 20 := by
    unfold tempF
    split
    · exact ⟨ok_nil, Nat.zero_le _⟩
    · exact ⟨ok_cons (vF_ok ⟨by decide, by decide⟩ _) ok_nil, Nat.le_refl _⟩
  have hm : (∀ f ∈ monoF p, FOk f) ∧ szL (monoF p) ≤ 20 := by
    unfold monoF
    split
    · exact ⟨ok_cons (vF_ok ⟨by decide, by decide⟩ _) ok_nil, Nat.le_refl _⟩
    · exact ⟨ok_nil, Nat.zero_le _⟩
  unfold dataF
  refine ⟨ok_app (ok_app (ok_cons (sF_ok ⟨by decide, by decide⟩ _) ok_nil) ht.1) hm.1, ?_⟩
  rw [szL_app, szL_app, szL_cons, szL_nil]
  omega
theorem met_ok {p : api_Point} (e : EP p) : (∀ f ∈ metL p, FOk f) ∧ szL (metL p) ≤ 6900 := by
  obtain ⟨d1, d2⟩ := data_ok e
  obtain ⟨l1, _, _⟩ := e.lens
  have h0 := sF_sz (n := kindN p.Kind) d1 d2 (by omega)
  unfold metL
  refine ⟨ok_cons (bF_ok ⟨by decide, by decide⟩ _) (ok_cons (sF_ok (kind_num _) _) ok_nil), ?_⟩
  rw [szL_cons, szL_cons, szL_nil]
  have e1 : (bF 1 p.Name).B.length = p.Name.length := rfl
  omega
theorem metric_eq {p : api_Point} (e : EP p) : otlp_metric p = some (metF p) := by
  obtain ⟨f1, f2⟩ := fields_ok e
  obtain ⟨d1, d2⟩ := data_ok e
  obtain ⟨m1, m2⟩ := met_ok e
  have hb : (bif (!decide (p.Temp = 0)) then (otlp_num 2 (toU64 (w64 (3 - p.Temp)))).bind fun r93 => (app [sF 1 (fieldsF p)] [r93]).bind fun xs115 => some xs115 else some [sF 1 (fieldsF p)] : Option (List api_Fld)) = some ([sF 1 (fieldsF p)] ++ tempF p) := by
    unfold tempF
    by_cases h : p.Temp = 0
    · rw [if_pos h, bifF (by simp [h])]; rfl
    · rw [if_neg h, bifT (by simp [h]), num_eq31, bind_some, appF (by simp) (by simp), bind_some]
  have hl : ([sF 1 (fieldsF p)] ++ tempF p).length ≤ 2 := by
    unfold tempF
    split <;> simp
  have hm : (bif p.Mono then (otlp_num 3 (1 : UInt64)).bind fun r143 => (app ([sF 1 (fieldsF p)] ++ tempF p) [r143]).bind fun xs165 => some xs165 else some ([sF 1 (fieldsF p)] ++ tempF p) : Option (List api_Fld)) = some (dataF p) := by
    unfold dataF monoF
    cases h : p.Mono
    · rw [if_neg (by simp), List.append_nil]; rfl
    · rw [if_pos rfl, cond_true, num_eq31, bind_some, appF (by omega) (by simp), bind_some]
  unfold otlp_metric
  rw [otlp_fields_eq e, bind_some, sub_eq f1 (by omega), bind_some, hb, bind_some, hm, bind_some, text_eq31, bind_some, data_eq31, bind_some, sub_eq d1 (by omega), bind_some]
  have q : otlp_sub 2 (metL p) = some (metF p) := sub_eq m1 (by omega)
  have q' : otlp_sub 2 [bF 1 p.Name, sF (kindN p.Kind) (dataF p)] = _ := q
  rw [q', bind_some]
def badP (p : api_Point) : Int := if chkE p = 0 then (if p.Flags = 0 then 0 else 3) else chkE p
theorem bad_zero {p : api_Point} : badP p = 0 ↔ chkE p = 0 ∧ p.Flags = 0 := by
  unfold badP
  by_cases h : chkE p = 0
  · rw [if_pos h]
    by_cases f : p.Flags = 0
    · rw [if_pos f]; exact ⟨fun _ => ⟨h, f⟩, fun _ => rfl⟩
    · rw [if_neg f]; exact ⟨fun q => absurd q (by decide), fun q => absurd q.2 f⟩
  · rw [if_neg h]; exact ⟨fun q => absurd q h, fun q => absurd q.1 h⟩
theorem enc_step {ps : List api_Point} {i : Nat} (h : i < ps.length) (hn : ps.length ≤ 100000) (ho : OkH ps[i].Hist) (hp : (packL ps[i].Hist.Pos.Counts).length ≤ 3000) (hq : (packL ps[i].Hist.Neg.Counts).length ≤ 3000) {g : List api_Fld} (hg : g.length ≤ 100000) :
    otlp_Encode_lp1 ps (g, (i : Int)) = some (if badP ps[i] = 0 then .next (g ++ [metF ps[i]], ((i + 1 : Nat) : Int)) else .out (.out ([], badP ps[i]))) := by
  unfold otlp_Encode_lp1
  dsimp only
  rw [bifTd (by omega), idx_nat h, bind_some, chk_eq ho, bind_some]
  have e1 : (bif ((decide (chkE ps[i] = 0)) && (!decide (ps[i].Flags = 0))) then some 3 else some (chkE ps[i]) : Option Int) = some (badP ps[i]) := by
    unfold badP
    by_cases c : chkE ps[i] = 0
    · rw [if_pos c]
      by_cases f : ps[i].Flags = 0
      · rw [if_pos f, bifF (by simp [f]), c]
      · rw [if_neg f, bifT (by simp [c, f])]
    · rw [if_neg c, bifF (by simp [c])]
  rw [e1, bind_some]
  by_cases b : badP ps[i] = 0
  · have k := bad_zero.1 b
    rw [if_pos b, bifF (by simp [b]), metric_eq ⟨k.1, k.2, ho, hp, hq⟩, bind_some, app_ok (by simp only [List.length_singleton]; omega), bind_some, flow_go, w64_succ (by omega)]
  · rw [if_neg b, bifT (by simp [b])]; rfl
theorem renc_step {ps : List api_Point} {i : Nat} (h : i < ps.length) (hn : ps.length ≤ 100000) (ho : OkH ps[i].Hist) (hp : (packL ps[i].Hist.Pos.Counts).length ≤ 3000) (hq : (packL ps[i].Hist.Neg.Counts).length ≤ 3000) {g : List api_Fld} (hg : g.length ≤ 100000) :
    ref31_Encode_lp1 ps (g, (i : Int)) = some (if badP ps[i] = 0 then .next (g ++ [metF ps[i]], ((i + 1 : Nat) : Int)) else .out (.out ([], badP ps[i]))) := by
  unfold ref31_Encode_lp1
  dsimp only
  rw [bifTd (by omega), idx_nat h, bind_some, rchk_eq ho, bind_some]
  by_cases c : chkE ps[i] = 0
  case neg =>
    have b : badP ps[i] = chkE ps[i] := by unfold badP; rw [if_neg c]
    rw [b, if_neg c, bifT (by simp [c])]; rfl
  rw [bifF (by simp [c])]
  by_cases f : ps[i].Flags = 0
  case neg =>
    have b : badP ps[i] = 3 := by unfold badP; rw [if_pos c, if_neg f]
    rw [b, if_neg (by decide), bifT (by simp [f])]; rfl
  have e : EP ps[i] := ⟨c, f, ho, hp, hq⟩
  have b : badP ps[i] = 0 := bad_zero.2 ⟨c, f⟩
  obtain ⟨f1, f2⟩ := fields_ok e
  obtain ⟨d1, d2⟩ := data_ok e
  obtain ⟨m1, m2⟩ := met_ok e
  rw [b, if_pos rfl, bifF (by simp [f]), ref_fields_eq e, bind_some, rsub_eq f1 (by omega), bind_some]
  have t1 : ∃ d, (bif decide (ps[i].Temp = 1) then (app [sF 1 (fieldsF ps[i])] [(api_Fld.mk 2 0 2 [])]).bind fun xs161 => some xs161 else some [sF 1 (fieldsF ps[i])] : Option (List api_Fld)) = some d ∧
      (bif decide (ps[i].Temp = 2) then (app d [(api_Fld.mk 2 0 1 [])]).bind fun xs192 => some xs192 else some d : Option (List api_Fld)) = some ([sF 1 (fieldsF ps[i])] ++ tempF ps[i]) := by
    unfold tempF
    rcases e.temp with h | h | h
    · exact ⟨_, by rw [bifFd (by omega)], by rw [bifFd (by omega), if_pos h, List.append_nil]⟩
    · refine ⟨_, by rw [bifTd h, appF (by simp) (by simp), bind_some], ?_⟩
      rw [bifFd (by omega), if_neg (by omega), h, w64_id (by omega) (by omega)]
      have : toU64 (3 - 1) = 2 := by rw [show (3 : Int) - 1 = ((2 : Nat) : Int) from rfl, toU64_n (by omega)]; rfl
      rw [this]; rfl
    · refine ⟨_, by rw [bifFd (by omega)], ?_⟩
      rw [bifTd h, appF (by simp) (by simp), bind_some, if_neg (by omega), h, w64_id (by omega) (by omega)]
      have : toU64 (3 - 2) = 1 := by rw [show (3 : Int) - 2 = ((1 : Nat) : Int) from rfl, toU64_n (by omega)]; rfl
      rw [this]; rfl
  obtain ⟨d, t1, t2⟩ := t1
  have hl : ([sF 1 (fieldsF ps[i])] ++ tempF ps[i]).length ≤ 2 := by
    unfold tempF
    split <;> simp
  have hm : (bif ps[i].Mono then (app ([sF 1 (fieldsF ps[i])] ++ tempF ps[i]) [(api_Fld.mk 3 0 1 [])]).bind fun xs224 => some xs224 else some ([sF 1 (fieldsF ps[i])] ++ tempF ps[i]) : Option (List api_Fld)) = some (dataF ps[i]) := by
    unfold dataF monoF
    cases h : ps[i].Mono
    · rw [if_neg (by simp), List.append_nil]; rfl
    · rw [if_pos rfl, cond_true, appF (by omega) (by simp), bind_some]; rfl
  have q : ref31_sub 2 (metL ps[i]) = some (metF ps[i]) := rsub_eq m1 (by omega)
  rw [t1, bind_some, t2, bind_some, hm, bind_some, rfield_eq31 e, bind_some, rsub_eq d1 (by omega), bind_some, bind_some]
  dsimp only
  have q' : ref31_sub 2 [(api_Fld.mk 1 2 0 ps[i].Name), (api_Fld.mk (sF (kindN ps[i].Kind) (dataF ps[i])).Num (sF (kindN ps[i].Kind) (dataF ps[i])).Type_ (sF (kindN ps[i].Kind) (dataF ps[i])).V (sF (kindN ps[i].Kind) (dataF ps[i])).B)] = _ := q
  rw [q', bind_some, app_ok (by simp only [List.length_singleton]; omega), bind_some, flow_go, lett_eq, w64_succ (by omega)]
end Go.Lg
namespace Go.Lg
attribute [local irreducible] w64 toU64 toU8 shlU shrU shlB shrB
def outE (ps : List api_Point) : List UInt8 × Int := match ps.find? fun p => decide (badP p ≠ 0) with
  | some p => ([], badP p)
  | none => if ps = [] then ([], 0) else (encL [sF 1 (ps.map metF)], 0)
structure Wr (p : api_Point) : Prop where
  o : OkH p.Hist
  pp : (packL p.Hist.Pos.Counts).length ≤ 3000
  pn : (packL p.Hist.Neg.Counts).length ≤ 3000
def lpE (ps : List api_Point) (l : List api_Point) : Flow (List api_Fld) (Flow (List api_Fld) (List UInt8 × Int)) := match l.find? fun p => decide (badP p ≠ 0) with
  | some p => .out (.out ([], badP p))
  | none => .go (ps.map metF)
theorem enc_lp {ps : List api_Point} (hw : ∀ p ∈ ps, Wr p) (hn : ps.length ≤ 100) : loop (otlp_Encode_lp1 ps) ([], 0) = some (lpE ps ps) ∧ loop (ref31_Encode_lp1 ps) ([], 0) = some (lpE ps ps) := by
  have key : ∀ (m i : Nat), i + m = ps.length → loop (otlp_Encode_lp1 ps) ((ps.take i).map metF, (i : Int)) = some (lpE ps (ps.drop i)) ∧ loop (ref31_Encode_lp1 ps) ((ps.take i).map metF, (i : Int)) = some (lpE ps (ps.drop i)) := by
    intro m
    induction m with
    | zero =>
      intro i hi
      rw [List.take_of_length_le (by omega), List.drop_of_length_le (by omega)]
      constructor
      · refine loop_brk ?_
        unfold otlp_Encode_lp1
        dsimp only
        rw [bifFd (by omega)]
      · refine loop_brk ?_
        unfold ref31_Encode_lp1
        dsimp only
        rw [bifFd (by omega)]
    | succ m ih =>
      intro i hi
      have hlt : i < ps.length := by omega
      have ht : ps.take (i + 1) = ps.take i ++ [ps[i]] := by rw [List.take_add_one, List.getElem?_eq_getElem hlt]; rfl
      have w := hw _ (List.getElem_mem hlt)
      have hg : ((ps.take i).map metF).length ≤ 100000 := by rw [List.length_map, List.length_take]; omega
      have s1 := enc_step hlt (by omega) w.o w.pp w.pn hg
      have s2 := renc_step hlt (by omega) w.o w.pp w.pn hg
      obtain ⟨i1, i2⟩ := ih (i + 1) (by omega)
      rw [ht, List.map_append] at i1 i2
      have hd : ps.drop i = ps[i] :: ps.drop (i + 1) := List.drop_eq_getElem_cons hlt
      rw [hd]
      unfold lpE
      rw [List.find?_cons]
      by_cases b : badP ps[i] = 0
      · rw [if_pos b] at s1 s2
        rw [show decide (badP ps[i] ≠ 0) = false by simp [b]]
        exact ⟨(loop_next s1).trans i1, (loop_next s2).trans i2⟩
      · rw [if_neg b] at s1 s2
        rw [show decide (badP ps[i] ≠ 0) = true by simp [b]]
        exact ⟨loop_out s1, loop_out s2⟩
  have k := key ps.length 0 (by omega)
  simpa using k
theorem mets_ok {ps : List api_Point} (he : ∀ p ∈ ps, EP p) : (∀ f ∈ ps.map metF, FOk f) ∧ szL (ps.map metF) ≤ 6920 * ps.length := by
  refine ⟨fun f hf => ?_, ?_⟩
  · obtain ⟨p, _, rfl⟩ := List.mem_map.1 hf
    exact sF_ok ⟨by decide, by decide⟩ _
  · induction ps with
    | nil => simp [szL]
    | cons p ps ih =>
      have h1 := ih fun q hq => he q (by simp [hq])
      obtain ⟨m1, m2⟩ := met_ok (he p (by simp))
      have h3 : (metF p).B.length ≤ 6900 := sF_sz m1 m2 (by omega)
      rw [List.map_cons, szL_cons, List.length_cons]; omega
theorem Encode31 {ps : List api_Point} (hw : ∀ p ∈ ps, Wr p) (hn : ps.length ≤ 100) : otlp_Encode ps = some (outE ps) ∧ ref31_Encode ps = some (outE ps) := by
  obtain ⟨l1, l2⟩ := enc_lp hw hn
  unfold otlp_Encode ref31_Encode outE
  rw [l1, l2]
  unfold lpE
  cases hf : ps.find? fun p => decide (badP p ≠ 0) with
  | some p => exact ⟨rfl, rfl⟩
  | none =>
    have he : ∀ p ∈ ps, EP p := fun p hp => by
      have b := List.find?_eq_none.1 hf p hp
      have b0 : badP p = 0 := by simpa using b
      have k := bad_zero.1 b0
      have w := hw p hp
      exact ⟨k.1, k.2, w.o, w.pp, w.pn⟩
    obtain ⟨m1, m2⟩ := mets_ok he
    simp only [flow_go]
    by_cases h0 : ps = []
    · subst h0
      exact ⟨rfl, rfl⟩
    · have hl : ps.length ≠ 0 := fun e => h0 (List.eq_nil_of_length_eq_zero e)
      have hs : szL [sF 1 (ps.map metF)] ≤ 1000000 := by
        have := sF_sz (n := 1) m1 m2 (by omega)
        rw [szL_cons, szL_nil]; omega
      have ho : ∀ f ∈ [sF 1 (ps.map metF)], FOk f := ok_cons (sF_ok ⟨by decide, by decide⟩ _) ok_nil
      have hb := encL_le ho hs
      rw [if_neg h0, bifFd (by rw [List.length_map]; omega), bifFd (by rw [List.length_map]; omega), sub_eq m1 (by omega), rsub_eq m1 (by omega), bind_some, bind_some,
        Encode_eq ho (by omega) (by simp), REncode_eq ho (by omega) (by simp), bind_some]
      exact ⟨rfl, rfl⟩
/-! ### reading -/
theorem fail_eq (r : otlp_reader) (b : Bool) (n : Int) : otlp_reader_fail r b n = some (if b = true ∧ r.e = 0 then ⟨n, r.out⟩ else r) := by
  unfold otlp_reader_fail
  by_cases h : b = true ∧ r.e = 0
  · rw [if_pos h, bifT (by simp [h.1, h.2])]
  · rw [if_neg h, bifF (by
      cases b
      · rfl
      · have : r.e ≠ 0 := fun q => h ⟨rfl, q⟩
        simp [this])]
theorem fail_no (r : otlp_reader) (n : Int) : otlp_reader_fail r false n = some r := by rw [fail_eq, if_neg (by simp)]
/-- a field that is not of the kind that is looked for -/
def badW (want : List (Int × Int)) (f : api_Fld) : Bool := (mget want f.Num).isSome && !decide ((mget want f.Num).getD 0 = f.Type_)
theorem open_lp (r : otlp_reader) (want : List (Int × Int)) (l : List api_Fld) (hl : l.length ≤ 1000000) (hg : l.any (badW want) = false) : loop (otlp_reader_open_lp1 r want l) (0, 0) = some (.go 0) := by
  have L := loop_for (f := otlp_reader_open_lp1 r want l) (fun i => (0, (i : Int))) l.length (b := 0) (fun i hi => by
    have hb : badW want l[i] = false := by
      rw [List.any_eq_false] at hg
      have := hg _ (List.getElem_mem hi)
      simpa using this
    unfold otlp_reader_open_lp1
    dsimp only
    rw [bifTd (by omega), idx_nat hi, bind_some, lett_eq, lett_eq]
    unfold badW at hb
    rw [hb, fail_no, bind_some, w64_succ (by omega)]) (by
    unfold otlp_reader_open_lp1
    dsimp only
    rw [bifFd (by omega)])
  exact L
theorem open_good {b : List UInt8} {l : List api_Fld} {want : List (Int × Int)} {out : List api_Point} (hd : wire_Decode b = some (l, 0, 0)) (hl : l.length ≤ 1000000) (hg : l.any (badW want) = false) :
    otlp_reader_open ⟨0, out⟩ b want = some (l, ⟨0, out⟩) := by
  unfold otlp_reader_open
  dsimp only
  rw [bifF (by rfl), hd, bind_some]
  dsimp only
  rw [show (!decide ((0 : Int) = 0)) = false from rfl, fail_no, bind_some]
  dsimp only
  rw [open_lp _ _ _ hl hg, flow_go, bind_some]; rfl
theorem All31 {l : List api_Fld} (hl : l.length ≤ 100000) (hb : ∀ (i : Nat) (h : i < l.length), (l[i]).B.length ≤ 1000000) (n : Int) : wire_All l n = some (withN l n) := by
  have key : ∀ (m i : Nat), i + m = l.length → loop (wire_All_lp1 l n) (withN (l.take i) n, (i : Int)) = some (.go (withN l n)) := by
    intro m
    induction m with
    | zero =>
      intro i hi
      refine loop_brk ?_
      unfold wire_All_lp1
      dsimp only
      rw [bifFd (by omega), List.take_of_length_le (by omega)]
    | succ m ih =>
      intro i hi
      have hlt : i < l.length := by omega
      have ht : l.take (i + 1) = l.take i ++ [l[i]] := by rw [List.take_add_one, List.getElem?_eq_getElem hlt]; rfl
      have hlen := withN_len (l.take i) n
      rw [List.length_take] at hlen
      have hbi := hb i hlt
      have i2 := ih (i + 1) (by omega)
      rw [ht, withN_snoc] at i2
      by_cases hN : (l[i]).Num = n
      · rw [if_pos hN] at i2
        rw [← i2]
        refine loop_next ?_
        unfold wire_All_lp1
        dsimp only
        rw [bifTd (by omega), idx_nat hlt, bind_some, bifTd hN, bclone_eq (by omega), bind_some, app_ok (by simp only [List.length_singleton]; omega), bind_some, bind_some, w64_succ (by omega)]
      · rw [if_neg hN, List.append_nil] at i2
        rw [← i2]
        refine loop_next ?_
        unfold wire_All_lp1
        dsimp only
        rw [bifTd (by omega), idx_nat hlt, bind_some, bifFd hN, bind_some, w64_succ (by omega)]
  have k2' : loop (wire_All_lp1 l n) ([], 0) = _ := key l.length 0 (by omega)
  unfold wire_All
  rw [k2']; rfl
def lastN (l : List api_Fld) (n : Int) : api_Fld := (withN l n).getLast?.getD F0
theorem last_eq {l : List api_Fld} (hl : l.length ≤ 100000) (hb : ∀ (i : Nat) (h : i < l.length), (l[i]).B.length ≤ 1000000) (n : Int) : otlp_last l n = some (lastN l n) := by
  have h := withN_len l n
  unfold otlp_last wire_Last lastN
  rw [All31 hl hb, bind_some]
  by_cases e : withN l n = []
  · rw [e]; rfl
  · have hp := List.length_pos_iff.2 e
    rw [bifFd (by omega), w64_id (by omega) (by omega), show ((withN l n).length : Int) - 1 = (((withN l n).length - 1 : Nat) : Int) by omega, idx_nat (by omega), bind_some, bind_some, List.getLast?_eq_getElem?, List.getElem?_eq_getElem (by omega)]; rfl
/-- the fields of a text that was written, whatever its size -/
theorem field_back' {f : api_Fld} (h : FOk f) (hb : f.B.length ≤ 1000000) (r : List UInt8) : fieldS (encF f ++ r) = (0, f, (encF f).length) := by
  have a := h.n1; have b := h.n2; have t := h.t
  have ev : ∀ v : UInt64, UInt64.ofNat v.toNat = v := fun v => UInt64.toNat_inj.1 (by rw [UInt64.toNat_ofNat']; have := UInt64.toNat_lt v; omega)
  obtain ⟨tag, htag⟩ : ∃ tag, tag = (8 * f.Num + f.Type_).toNat := ⟨_, rfl⟩
  have hE : encF f = varL tag ++ (if f.Type_ = 0 then varL f.V.toNat else if f.Type_ = 1 then eightL f.V.toNat else varL f.B.length ++ f.B) := by rw [htag]; rfl
  have hm : tag % 8 = f.Type_.toNat := by omega
  have hd : ((tag / 8 : Nat) : Int) = f.Num := by omega
  have hg : ∀ q, gv (varL tag ++ q) = (UInt64.ofNat tag, ((varL tag).length : Int), 0) := fun q => gv_var (by omega) q
  have et : (UInt64.ofNat tag).toNat = tag := by rw [UInt64.toNat_ofNat']; omega
  have hn : (((varL tag).length : Nat) : Int).toNat = (varL tag).length := by omega
  rw [hE, List.append_assoc]
  generalize hq : (if f.Type_ = 0 then varL f.V.toNat else if f.Type_ = 1 then eightL f.V.toNat else varL f.B.length ++ f.B) = Q
  have hdr : (varL tag ++ (Q ++ r)).drop (varL tag).length = Q ++ r := List.drop_left
  unfold fieldS
  rw [hg]
  dsimp only
  rw [if_neg (by decide), et, hm, if_neg (by omega), if_neg (by omega), hn, hdr]
  by_cases t1 : f.Type_ = 1
  · rw [if_neg (by omega), if_pos t1] at hq
    have l8 : Q.length = 8 := by rw [← hq]; exact eight_len _
    have tk : (Q ++ r).take 8 = Q := by rw [← l8]; exact List.take_left
    rw [if_pos (by omega), if_neg (by rw [List.length_append, List.length_append]; omega), tk, ← hq, le8_eight (UInt64.toNat_lt _), ev, List.length_append, eight_len, hd]
    have := h.b (by omega)
    obtain ⟨fn, ft, fv, fb⟩ := f
    dsimp only at *
    rw [this, t1]
  rw [if_neg (by omega)]
  by_cases t0 : f.Type_ = 0
  · rw [if_pos t0] at hq
    rw [← hq, gv_var (UInt64.toNat_lt _)]
    dsimp only
    rw [if_neg (by decide), if_pos (by omega), ev, hd, List.length_append]
    have := h.b (by omega)
    obtain ⟨fn, ft, fv, fb⟩ := f
    dsimp only at *
    rw [this, t0]; rfl
  · have t2 : f.Type_ = 2 := by omega
    rw [if_neg t0, if_neg t1] at hq
    have hg2 : gv (Q ++ r) = (UInt64.ofNat f.B.length, ((varL f.B.length).length : Int), 0) := by rw [← hq, List.append_assoc]; exact gv_var (by omega) _
    have el : (UInt64.ofNat f.B.length).toNat = f.B.length := by rw [UInt64.toNat_ofNat']; omega
    have hn2 : (((varL f.B.length).length : Nat) : Int).toNat = (varL f.B.length).length := by omega
    have tk : ((varL tag ++ (Q ++ r)).drop ((varL tag).length + (varL f.B.length).length)).take f.B.length = f.B := by
      rw [← List.drop_drop, hdr, ← hq, List.append_assoc, List.drop_left, List.take_left]
    have lQ : Q.length = (varL f.B.length).length + f.B.length := by rw [← hq, List.length_append]
    rw [hg2]
    dsimp only
    rw [if_neg (by decide), if_neg (by omega), el, hn2, if_neg (by rw [List.length_append, List.length_append]; omega), tk, hd, List.length_append, lQ, Nat.add_assoc]
    have := h.v t2
    obtain ⟨fn, ft, fv, fb⟩ := f
    dsimp only at *
    rw [this, t2]
theorem encF_pos (f : api_Fld) : 1 ≤ (encF f).length := by
  unfold encF
  rw [List.length_append]
  have := varL_pos (8 * f.Num + f.Type_).toNat
  omega
theorem encF_ge {f : api_Fld} (h : FOk f) : f.B.length + 1 ≤ (encF f).length := by
  unfold encF
  rw [List.length_append]
  have h1 := varL_pos (8 * f.Num + f.Type_).toNat
  have t := h.t
  by_cases h2 : f.Type_ = 2
  · rw [if_neg (by omega), if_neg (by omega), List.length_append]; omega
  · rw [h.b h2, List.length_nil]; omega
theorem encL_ge {l : List api_Fld} (h : ∀ f ∈ l, FOk f) : l.length ≤ (encL l).length ∧ ∀ f ∈ l, f.B.length < (encL l).length := by
  induction l with
  | nil => exact ⟨Nat.zero_le _, fun _ q => by cases q⟩
  | cons f l ih =>
    obtain ⟨i1, i2⟩ := ih fun g hg => h g (by simp [hg])
    have hf := encF_ge (h f (by simp))
    have hp := encF_pos f
    rw [encL_cons, List.length_append, List.length_cons]
    refine ⟨by omega, fun g hg => ?_⟩
    rcases List.mem_cons.1 hg with rfl | hg
    · omega
    · have := i2 g hg; omega
theorem Decode31 {l : List api_Fld} (hf : ∀ f ∈ l, FOk f) (hl : (encL l).length ≤ 1000000) : wire_Decode (encL l) = some (l, 0, 0) := by
  obtain ⟨hn, hB⟩ := encL_ge hf
  have hb : ∀ f ∈ l, FOk f ∧ f.B.length ≤ 1000000 := fun f hm => ⟨hf f hm, by have := hB f hm; omega⟩
  have key : ∀ (m i : Nat), i + m = l.length → loop (wire_Decode_lp1 (encL l)) (l.take i, (((encL (l.take i)).length : Nat) : Int)) = some (.go l) := by
    intro m
    induction m with
    | zero =>
      intro i hi
      rw [List.take_of_length_le (by omega)]
      refine loop_brk ?_
      unfold wire_Decode_lp1
      dsimp only
      rw [bifFd (by omega)]
    | succ m ih =>
      intro i hi
      have hlt : i < l.length := by omega
      have ht : l.take (i + 1) = l.take i ++ [l[i]] := by rw [List.take_add_one, List.getElem?_eq_getElem hlt]; rfl
      have hs : encL l = encL (l.take i) ++ (encF l[i] ++ encL (l.drop (i + 1))) := by
        rw [← List.append_assoc, ← encL_snoc, ← ht]
        unfold encL
        rw [← List.flatMap_append, List.take_append_drop]
      have okf := hb _ (List.getElem_mem hlt)
      have hdr : (encL l).drop (encL (l.take i)).length = encF l[i] ++ encL (l.drop (i + 1)) := by
        conv => lhs; rw [hs]
        exact List.drop_left
      have hpos := encF_pos l[i]
      have hlen := congrArg List.length hs
      simp only [List.length_append] at hlen
      have st := Wdec_step (b := encL l) (at_ := (encL (l.take i)).length) (by omega) (by omega) (l.take i) (by rw [List.length_take]; omega)
      rw [hdr, field_back' okf.1 okf.2] at st
      rw [if_pos rfl] at st
      dsimp only at st
      rw [loop_next st, ← ht]
      have e2 : (encL (l.take i)).length + (encF l[i]).length = (encL (l.take (i + 1))).length := by rw [ht, encL_snoc, List.length_append]
      rw [e2]
      exact ih (i + 1) (by omega)
  have k0 : loop (wire_Decode_lp1 (encL l)) ([], 0) = _ := key l.length 0 (by omega)
  unfold wire_Decode
  rw [k0, flow_go]
/-- a row that was written, opened -/
theorem open31 {l : List api_Fld} {want : List (Int × Int)} {out : List api_Point} (hf : ∀ f ∈ l, FOk f) (hs : szL l ≤ 1000000) (hg : l.any (badW want) = false) : otlp_reader_open ⟨0, out⟩ (encL l) want = some (l, ⟨0, out⟩) := by
  have h1 := encL_le hf hs
  obtain ⟨h2, _⟩ := encL_ge hf
  exact open_good (Decode31 hf (by omega)) (by omega) hg
theorem bsz {l : List api_Fld} {k : Nat} (hs : szL l ≤ k) : l.length ≤ k ∧ ∀ (i : Nat) (h : i < l.length), (l[i]).B.length ≤ k := by
  induction l generalizing k with
  | nil => exact ⟨Nat.zero_le _, fun i h => by cases h⟩
  | cons f l ih =>
    rw [szL_cons] at hs
    obtain ⟨h1, h2⟩ := ih (k := k - 20 - f.B.length) (by omega)
    refine ⟨by rw [List.length_cons]; omega, fun i h => ?_⟩
    cases i with
    | zero => show f.B.length ≤ k; omega
    | succ i =>
      have hi : i < l.length := by rw [List.length_cons] at h; omega
      have := h2 i hi
      show (l[i]).B.length ≤ k; omega
theorem all31 {l : List api_Fld} (hs : szL l ≤ 100000) (n : Int) : wire_All l n = some (withN l n) := by
  obtain ⟨h1, h2⟩ := bsz hs
  exact All31 (by omega) (fun i h => by have := h2 i h; omega) n
theorem last31 {l : List api_Fld} (hs : szL l ≤ 100000) (n : Int) : otlp_last l n = some (lastN l n) := by
  obtain ⟨h1, h2⟩ := bsz hs
  exact last_eq (by omega) (fun i h => by have := h2 i h; omega) n
end Go.Lg
namespace Go.Lg
attribute [local irreducible] w64 toU64 toU8 shlU shrU shlB shrB
theorem attrs_loop {r : otlp_reader} {l : List api_Pair} (h : ∀ a ∈ l, a.Key.length ≤ 32 ∧ a.Val.length ≤ 32) (hl : l.length ≤ 1000) :
    loop (otlp_reader_attrs_lp1 r (l.map attrF)) (0, [], 0) = some (.go (0, l)) := by
  have L := loop_for (f := otlp_reader_attrs_lp1 r (l.map attrF)) (fun i => (0, l.take i, (i : Int))) l.length (b := (0, l)) (fun i hi => by
    have hm : i < (l.map attrF).length := by rw [List.length_map]; exact hi
    have hb := h _ (List.getElem_mem hi)
    have hs := attr_sz hb.1 hb.2
    have ht : l.take (i + 1) = l.take i ++ [l[i]] := by rw [List.take_add_one, List.getElem?_eq_getElem hi]; rfl
    have hB : (attrF l[i]).B = encL (attrL l[i]) := rfl
    have w1 : lastN (attrL l[i]) 1 = bF 1 l[i].Key := rfl
    have w2 : lastN (attrL l[i]) 2 = bF 2 l[i].Val := rfl
    unfold otlp_reader_attrs_lp1
    dsimp only
    rw [bifTd (by omega), idx_nat hm, bind_some, List.getElem_map, hB, open31 (attr_ok _) (by omega) rfl, bind_some]
    dsimp only
    rw [last31 (by omega), bind_some, last31 (by omega), bind_some, bind_some, w1, w2, app_ok (by rw [List.length_take]; simp only [List.length_singleton]; omega), bind_some, w64_succ (by omega), ht]; rfl) (by
    unfold otlp_reader_attrs_lp1
    dsimp only
    rw [bifFd (by rw [List.length_map]; omega), List.take_of_length_le (by omega)])
  exact L
theorem attrs31 {out : List api_Point} {l : List api_Pair} (h : ∀ a ∈ l, a.Key.length ≤ 32 ∧ a.Val.length ≤ 32) (hl : l.length ≤ 1000) :
    otlp_reader_attrs ⟨0, out⟩ (l.map attrF) = some (l, ⟨0, out⟩) := by
  unfold otlp_reader_attrs
  dsimp only
  rw [attrs_loop h hl, flow_go]
theorem grow31 {n : Int} (h : 0 ≤ n) (h2 : n ≤ 17179869184) : slices_Grow_api_Pair_api_Pair n = some [] := by
  unfold slices_Grow_api_Pair_api_Pair
  rw [bifT (by simp [h, h2])]
theorem concat31 {a b : List api_Pair} (ha : a.length ≤ 100000) (hb : b.length ≤ 100000) : slices_Concat_api_Pair_api_Pair [a, b] = some (a ++ b) := by
  have e2 : (([a, b] : List (List api_Pair)).length : Int) = 2 := rfl
  have i0 : idx [a, b] 0 = some a := rfl
  have i1 : idx [a, b] 1 = some b := rfl
  have L1 : loop (slices_Concat_api_Pair_api_Pair_lp1 [a, b]) (0, 0) = some (.go ((a.length + b.length : Nat) : Int)) := by
    refine (loop_next (s' := (((a.length : Nat) : Int), 1)) ?_).trans ((loop_next (s' := (((a.length + b.length : Nat) : Int), 2)) ?_).trans (loop_brk ?_))
    · unfold slices_Concat_api_Pair_api_Pair_lp1
      dsimp only
      rw [bifTd (by omega), i0, bind_some, lett_eq, w64_id (by omega) (by omega), bifFd (by omega), bind_some, Int.zero_add, w64_id (by omega) (by omega)]; rfl
    · unfold slices_Concat_api_Pair_api_Pair_lp1
      dsimp only
      rw [bifTd (by omega), i1, bind_some, lett_eq, w64_id (by omega) (by omega), bifFd (by omega), bind_some, w64_id (by omega) (by omega)]
      congr 3
    · unfold slices_Concat_api_Pair_api_Pair_lp1
      dsimp only
      rw [bifFd (by omega)]
  have L2 : loop (slices_Concat_api_Pair_api_Pair_lp2 [a, b]) ([], 0) = some (.go (a ++ b)) := by
    refine (loop_next (s' := (a, 1)) ?_).trans ((loop_next (s' := (a ++ b, 2)) ?_).trans (loop_brk ?_))
    · unfold slices_Concat_api_Pair_api_Pair_lp2
      dsimp only
      rw [bifTd (by omega), i0, bind_some, app_ok (by rw [List.length_nil]; omega), bind_some, w64_id (by omega) (by omega)]; rfl
    · unfold slices_Concat_api_Pair_api_Pair_lp2
      dsimp only
      rw [bifTd (by omega), i1, bind_some, app_ok (by omega), bind_some, w64_id (by omega) (by omega)]; rfl
    · unfold slices_Concat_api_Pair_api_Pair_lp2
      dsimp only
      rw [bifFd (by omega)]
  unfold slices_Concat_api_Pair_api_Pair
  rw [L1, flow_go, bind_some, grow31 (by omega) (by omega), bind_some, L2, flow_go]
theorem contains31 {l : List Int} (hl : l.length ≤ 1000) (n : Int) : slices_Contains_int_int l n = some (l.any fun x => decide (x = n)) := by
  have key : ∀ (m i : Nat), i + m = l.length → ∃ q, loop (slices_Index_int_int_lp1 l n) (i : Int) = some q ∧ (((l.drop i).any fun x => decide (x = n)) = false ∧ q = .go () ∨ ((l.drop i).any fun x => decide (x = n)) = true ∧ ∃ k : Nat, q = .out (k : Int)) := by
    intro m
    induction m with
    | zero =>
      intro i hi
      refine ⟨.go (), loop_brk ?_, .inl ⟨by rw [List.drop_of_length_le (by omega)]; rfl, rfl⟩⟩
      unfold slices_Index_int_int_lp1
      try dsimp only
      rw [bifFd (by omega)]
    | succ m ih =>
      intro i hi
      have hlt : i < l.length := by omega
      rw [List.drop_eq_getElem_cons hlt, List.any_cons]
      by_cases e : n = l[i]
      · refine ⟨.out (i : Int), loop_out ?_, .inr ⟨by simp [e], i, rfl⟩⟩
        unfold slices_Index_int_int_lp1
        try dsimp only
        rw [bifTd (by omega), idx_nat hlt, bind_some, bifTd e]; rfl
      · obtain ⟨q, h1, h2⟩ := ih (i + 1) (by omega)
        rw [decide_eq_false (p := l[i] = n) (fun z => e z.symm), Bool.false_or]
        refine ⟨q, (loop_next ?_).trans h1, h2⟩
        unfold slices_Index_int_int_lp1
        try dsimp only
        rw [bifTd (by omega), idx_nat hlt, bind_some, bifFd e, w64_succ (by omega)]
  obtain ⟨q, h1, h2⟩ := key l.length 0 (by omega)
  rw [List.drop_zero] at h2
  have h1' : loop (slices_Index_int_int_lp1 l n) 0 = _ := h1
  unfold slices_Contains_int_int slices_Index_int_int
  rw [h1']
  rcases h2 with ⟨h2, rfl⟩ | ⟨h2, k, rfl⟩
  · rw [h2, flow_go, bind_some, lett_eq]; rfl
  · rw [h2, flow_out, bind_some, lett_eq, decide_eq_true (by omega)]
theorem has31 {l : List api_Fld} (hl : l.length ≤ 1000000) {ns : List Int} (hn : ns.length ≤ 1000) : otlp_has l ns = some (l.any fun f => ns.any fun x => decide (x = f.Num)) := by
  have key : ∀ (m i : Nat), i + m = l.length → ∃ q, loop (otlp_has_lp1 l ns) (i : Int) = some q ∧ (((l.drop i).any fun f => ns.any fun x => decide (x = f.Num)) = false ∧ q = .go () ∨ ((l.drop i).any fun f => ns.any fun x => decide (x = f.Num)) = true ∧ ∃ k : Nat, q = .out (k : Int)) := by
    intro m
    induction m with
    | zero =>
      intro i hi
      refine ⟨.go (), loop_brk ?_, .inl ⟨by rw [List.drop_of_length_le (by omega)]; rfl, rfl⟩⟩
      unfold otlp_has_lp1
      try dsimp only
      rw [bifFd (by omega)]
    | succ m ih =>
      intro i hi
      have hlt : i < l.length := by omega
      rw [List.drop_eq_getElem_cons hlt, List.any_cons]
      cases e : ns.any fun x => decide (x = l[i].Num)
      · obtain ⟨q, h1, h2⟩ := ih (i + 1) (by omega)
        rw [Bool.false_or]
        refine ⟨q, (loop_next ?_).trans h1, h2⟩
        unfold otlp_has_lp1
        try dsimp only
        rw [bifTd (by omega), idx_nat hlt, bind_some, contains31 hn, bind_some, e, bind_some, bifF rfl, w64_succ (by omega)]
      · refine ⟨.out (i : Int), loop_out ?_, .inr ⟨rfl, i, rfl⟩⟩
        unfold otlp_has_lp1
        try dsimp only
        rw [bifTd (by omega), idx_nat hlt, bind_some, contains31 hn, bind_some, e, bind_some, bifT rfl]; rfl
  obtain ⟨q, h1, h2⟩ := key l.length 0 (by omega)
  rw [List.drop_zero] at h2
  have h1' : loop (otlp_has_lp1 l ns) 0 = _ := h1
  unfold otlp_has
  rw [h1']
  rcases h2 with ⟨h2, rfl⟩ | ⟨h2, k, rfl⟩
  · rw [h2, flow_go, bind_some, lett_eq, bind_some]; rfl
  · rw [h2, flow_out, bind_some, lett_eq, decide_eq_true (by omega), bind_some]
end Go.Lg
namespace Go.Lg
attribute [local irreducible] w64 toU64 toU8 shlU shrU shlB shrB
def p31 (fl : Int) : api_Point := ⟨[120], [⟨[97], [49]⟩], 1, 2, false, 0, 10, -5, 0, 0, H0, fl⟩
theorem p31_chk {fl : Int} (h : 0 ≤ fl ∧ fl ≤ 31) : chkE (p31 fl) = 0 := by
  refine chk_of (show labelE [120] [⟨[97], [49]⟩] = 0 by decide) ?_ (fun e => by cases e) ?_ ?_ (fun e => by cases e) (fun e => by cases e) (fun e => by cases e)
  · unfold KindP p31; dsimp only; omega
  · unfold TimeP p31; dsimp only; omega
  · unfold OwnP p31; dsimp only; exact ⟨.inl rfl, .inr rfl, .inr rfl, .inr rfl, h⟩
theorem p31_wr (fl : Int) : Wr (p31 fl) := ⟨H0_ok, Nat.zero_le _, Nat.zero_le _⟩
theorem p31_ep : EP (p31 0) := ⟨p31_chk (by omega), rfl, H0_ok, Nat.zero_le _, Nat.zero_le _⟩
def f31 : List api_Fld := [xF 2 (toU64 0), xF 3 (toU64 10), xF 6 (toU64 (-5)), attrF ⟨[97], [49]⟩]
theorem f31_eq : fieldsF (p31 0) = f31 := rfl
theorem t31 : toU64 (w64 (3 - 2)) = 2 - 1 := by
  rw [w64_id (by omega) (by omega), show (3 : Int) - 2 = ((1 : Nat) : Int) from rfl, toU64_n (by omega)]; rfl
theorem u0 : (toU64 0).toNat = 0 := toU64_nat (x := 0) (by omega)
theorem u10 : (toU64 10).toNat = 10 := toU64_nat (x := 10) (by omega)
theorem um5 : w64 ((toU64 (-5)).toNat : Int) = -5 := sg_toU64 (x := -5) (by unfold I64; omega)
theorem lp4_31 {out : List api_Point} (ho : out.length ≤ 1000) : loop (otlp_Decode_lp4 [] 2 F0 (bF 1 [120]) 2 [sF 1 f31]) (0, out, 0) = some (.go (0, out ++ [p31 0])) := by
  have e := p31_ep
  obtain ⟨f1, f2⟩ := fields_ok e
  rw [f31_eq] at f1 f2
  have hl : f31.length = 4 := rfl
  have w2 : lastN f31 2 = xF 2 (toU64 0) := rfl
  have w3 : lastN f31 3 = xF 3 (toU64 10) := rfl
  have w4 : lastN f31 4 = F0 := rfl
  have w6 : lastN f31 6 = xF 6 (toU64 (-5)) := rfl
  have w31 : lastN f31 31 = F0 := rfl
  have a4 : withN f31 4 = [] := rfl
  have a6 : withN f31 6 = [xF 6 (toU64 (-5))] := rfl
  have a7 : withN f31 7 = [⟨[97], [49]⟩].map attrF := rfl
  have hform : otlp_form f31 2 = some true := by
    unfold otlp_form
    rw [all31 (by omega), bind_some, all31 (by omega), bind_some, a4, a6, lett_eq, lett_eq, lett_eq, w64_id (by decide) (by decide), bifF (by decide), lett_eq, bifF (by decide), bifT (by decide), has31 (by omega) (by decide), bind_some, bind_some, bifF (by decide), bifT (by decide), has31 (by omega) (by decide), bind_some, bind_some, bifF (by decide), lett_eq, bifF (by decide)]
  have hp : api_Point.mk [120] [⟨[97], [49]⟩] 1 2 (decide (F0.V = 1)) (w64 ((toU64 0).toNat : Int)) (w64 ((toU64 10).toNat : Int)) (-5) F0.V F0.V (api_Hist.mk 0 0 (api_Side.mk 0 []) (api_Side.mk 0 [])) 0 = p31 0 := by
    rw [u0, u10, w64_id (by omega) (by omega), w64_id (by omega) (by omega)]; rfl
  refine (loop_next (s' := (0, out ++ [p31 0], 1)) ?_).trans (loop_brk ?_)
  · unfold otlp_Decode_lp4
    dsimp only
    have hB : (sF 1 f31).B = encL f31 := rfl
    rw [bifTd (by decide), show idx [sF 1 f31] 0 = some (sF 1 f31) from rfl, bind_some, hB, open31 f1 (by omega) (by rfl), bind_some]
    dsimp only
    rw [hform, bind_some, show (!true) = false from rfl, fail_no, bind_some, last31 (by omega), bind_some, last31 (by omega), bind_some, w2, w3]
    have hv2 : (xF 2 (toU64 0)).V = toU64 0 := rfl
    have hv3 : (xF 3 (toU64 10)).V = toU64 10 := rfl
    have hv6 : (xF 6 (toU64 (-5))).V = toU64 (-5) := rfl
    have n53 : (9007199254740992 : UInt64).toNat = 9007199254740992 := rfl
    have hc : ((decide (9007199254740992 < (xF 2 (toU64 0)).V)) || (decide (9007199254740992 < (xF 3 (toU64 10)).V))) = false := by
      rw [hv2, hv3, decide_eq_false, decide_eq_false]; rfl
      · rw [UInt64.lt_iff_toNat_lt, u10, n53]; omega
      · rw [UInt64.lt_iff_toNat_lt, u0, n53]; omega
    rw [hc, fail_no, bind_some]
    dsimp only
    rw [bifF (by rfl), lett_eq, lett_eq, all31 (by omega), bind_some, a7, attrs31 (by decide) (by decide), bind_some]
    dsimp only
    rw [concat31 (by decide) (by decide), bind_some, List.nil_append, sorted_eq _ (by decide), bind_some, has31 (by omega) (by decide), bind_some, bifT (by rfl), last31 (by omega), bind_some, w6, hv6, um5, lett_eq, bind_some]
    dsimp only
    rw [last31 (by omega), bind_some, last31 (by omega), bind_some, w4, w31, bifFd (by decide), bind_some]
    dsimp only
    rw [bifTd rfl, hv2, hv3, show (bF 1 [120]).B = [120] from rfl, show srt [⟨[97], [49]⟩] = [⟨[97], [49]⟩] from rfl, hp, chk_eq e.o, e.c, bind_some, show (!decide ((0 : Int) = 0)) = false from rfl, fail_no, bind_some, bind_some, bifTd rfl, app_ok (by simp only [List.length_singleton]; omega), bind_some, bind_some]
    dsimp only
    rw [w64_id (by omega) (by omega)]; rfl
  · unfold otlp_Decode_lp4
    dsimp only
    rw [bifFd (by decide)]
def m31 : api_Fld := metF (p31 0)
theorem d31 : dataF (p31 0) = [sF 1 f31, vF 2 (toU64 (w64 (3 - 2)))] := rfl
theorem lp3_31 {l : List api_Fld} (hs : szL l ≤ 10000) : loop (otlp_Decode_lp3 l) ([], 0) = some (.go (withN l 5 ++ withN l 7 ++ withN l 10 ++ withN l 30)) := by
  have hl := (bsz hs).1
  have q5 := withN_len l 5; have q7 := withN_len l 7; have q10 := withN_len l 10; have q30 := withN_len l 30
  refine (loop_next (s' := (withN l 5, 1)) ?_).trans ((loop_next (s' := (withN l 5 ++ withN l 7, 2)) ?_).trans ((loop_next (s' := (withN l 5 ++ withN l 7 ++ withN l 10, 3)) ?_).trans ((loop_next (s' := (withN l 5 ++ withN l 7 ++ withN l 10 ++ withN l 30, 4)) ?_).trans (loop_brk ?_))))
  · unfold otlp_Decode_lp3
    dsimp only
    rw [bifTd (by decide), show idx ([5, 7, 10, 30] : List Int) 0 = some 5 from rfl, bind_some, all31 (by omega), bind_some, app_ok (by simp only [List.length_nil]; omega), bind_some, w64_id (by omega) (by omega)]; rfl
  · unfold otlp_Decode_lp3
    dsimp only
    rw [bifTd (by decide), show idx ([5, 7, 10, 30] : List Int) 1 = some 7 from rfl, bind_some, all31 (by omega), bind_some, app_ok (by omega), bind_some, w64_id (by omega) (by omega)]; rfl
  · unfold otlp_Decode_lp3
    dsimp only
    rw [bifTd (by decide), show idx ([5, 7, 10, 30] : List Int) 2 = some 10 from rfl, bind_some, all31 (by omega), bind_some, app_ok (by rw [List.length_append]; omega), bind_some, w64_id (by omega) (by omega)]; rfl
  · unfold otlp_Decode_lp3
    dsimp only
    rw [bifTd (by decide), show idx ([5, 7, 10, 30] : List Int) 3 = some 30 from rfl, bind_some, all31 (by omega), bind_some, app_ok (by rw [List.length_append, List.length_append]; omega), bind_some, w64_id (by omega) (by omega)]; rfl
  · unfold otlp_Decode_lp3
    dsimp only
    rw [bifFd (by decide)]
theorem lp2_31 {r : List api_Fld} {i : Nat} (hi : i < r.length) (hr : r.length ≤ 1000) (he : r[i] = m31) {out : List api_Point} (ho : out.length ≤ 1000) :
    otlp_Decode_lp2 r (0, out, [], (i : Int)) = some (.next (0, out ++ [p31 0], [], ((i + 1 : Nat) : Int))) := by
  have e := p31_ep
  obtain ⟨m1, m2⟩ := met_ok e
  obtain ⟨d1, d2⟩ := data_ok e
  have hm : metL (p31 0) = [bF 1 [120], sF 7 (dataF (p31 0))] := rfl
  rw [hm] at m1 m2
  have hB : m31.B = encL [bF 1 [120], sF 7 (dataF (p31 0))] := rfl
  have hB2 : (sF 7 (dataF (p31 0))).B = encL (dataF (p31 0)) := rfl
  generalize hD : dataF (p31 0) = D at *
  have hd : D = [sF 1 f31, vF 2 (toU64 (w64 (3 - 2)))] := hD.symm.trans d31
  have n1' : ((2 : UInt64) - 1).toNat = 1 := rfl
  have w2 : lastN D 2 = vF 2 (2 - 1) := by rw [hd, t31]; rfl
  have w3 : lastN D 3 = F0 := by rw [hd]; rfl
  have wa : withN D 1 = [sF 1 f31] := by rw [hd]; rfl
  have wn : lastN [bF 1 [120], sF 7 D] 1 = bF 1 [120] := rfl
  have hw : D.any (badW [(1, 2), (2, 0), (3, 0)]) = false := by rw [hd]; rfl
  unfold otlp_Decode_lp2
  dsimp only
  rw [bifTd (by omega), idx_nat hi, bind_some, he, hB, open31 m1 (by omega) (by rfl), bind_some]
  dsimp only
  rw [lp3_31 (by omega), flow_go, bind_some]
  rw [show withN [bF 1 [120], sF 7 D] 5 ++ withN [bF 1 [120], sF 7 D] 7 ++ withN [bF 1 [120], sF 7 D] 10 ++ withN [bF 1 [120], sF 7 D] 30 = [sF 7 D] from rfl,
    show (!decide ((([sF 7 D] : List api_Fld).length : Int) = 1)) = false from rfl, fail_no, bind_some]
  dsimp only
  rw [bifF (by rfl), show idx [sF 7 D] 0 = some (sF 7 D) from rfl, bind_some, lett_eq, bind_some, hB2, open31 d1 (by omega) hw, bind_some]
  dsimp only
  rw [last31 (by omega), bind_some, last31 (by omega), bind_some, w2, w3, show ((decide (2 < (vF 2 (2 - 1)).V)) || (decide (1 < F0.V))) = false from rfl, fail_no, bind_some]
  dsimp only
  rw [last31 (by omega), bind_some, wn, bifT (by rfl), lett_eq, bind_some, all31 (by omega), bind_some, wa]
  have ht : w64 ((((3 : UInt64) - (minU (vF 2 (2 - 1)).V (2 : UInt64))).toNat : Nat) : Int) = 2 := by
    rw [show ((3 : UInt64) - (minU (vF 2 (2 - 1)).V (2 : UInt64))).toNat = 2 from rfl, w64_id (by omega) (by omega)]; rfl
  have hk : (mget [(5, 3), (7, 2), (10, 4), (30, 5)] (sF 7 D).Num).getD 0 = 2 := rfl
  rw [ht, hk, lp4_31 ho, flow_go, bind_some]
  dsimp only
  rw [w64_succ (by omega)]
theorem lp1_31 : loop (otlp_Decode_lp1 [sF 1 [m31, m31]]) (0, [], 0) = some (.go (0, [p31 0, p31 0])) := by
  have e := p31_ep
  obtain ⟨m1, m2⟩ := mets_ok (ps := [p31 0, p31 0]) (fun p hp => by
    rcases List.mem_cons.1 hp with rfl | hp
    · exact e
    · rw [List.mem_singleton.1 hp]; exact e)
  have hm : [p31 0, p31 0].map metF = [m31, m31] := rfl
  rw [hm] at m1 m2
  have hl : ([p31 0, p31 0] : List api_Point).length = 2 := rfl
  have hB : (sF 1 [m31, m31]).B = encL [m31, m31] := rfl
  refine (loop_next (s' := (0, [p31 0, p31 0], 1)) ?_).trans (loop_brk ?_)
  · unfold otlp_Decode_lp1
    dsimp only
    rw [bifTd (by decide), show idx [sF 1 [m31, m31]] 0 = some (sF 1 [m31, m31]) from rfl, bind_some, hB, open31 m1 (by omega) (by rfl), bind_some]
    dsimp only
    rw [all31 (by omega), bind_some, show withN [m31, m31] 1 = [].map attrF from rfl, attrs31 (by decide) (by decide), bind_some]
    dsimp only
    rw [all31 (by omega), bind_some, show withN [m31, m31] 2 = [m31, m31] from rfl]
    have s0 := lp2_31 (r := [m31, m31]) (i := 0) (by decide) (by decide) rfl (out := []) (by decide)
    have s1 := lp2_31 (r := [m31, m31]) (i := 1) (by decide) (by decide) rfl (out := [p31 0]) (by decide)
    have L : loop (otlp_Decode_lp2 [m31, m31]) (0, [], [], 0) = some (.go (0, [p31 0, p31 0])) := by
      refine (loop_next s0).trans ((loop_next s1).trans (loop_brk ?_))
      unfold otlp_Decode_lp2
      dsimp only
      rw [bifFd (by decide)]; rfl
    rw [L, flow_go, bind_some]
    dsimp only
    rw [w64_id (by omega) (by omega)]; rfl
  · unfold otlp_Decode_lp1
    dsimp only
    rw [bifFd (by decide)]
theorem decode_31 : otlp_Decode (encL [sF 1 [m31, m31]]) = some ([p31 0, p31 0], 0) := by
  have e := p31_ep
  obtain ⟨m1, m2⟩ := mets_ok (ps := [p31 0, p31 0]) (fun p hp => by
    rcases List.mem_cons.1 hp with rfl | hp
    · exact e
    · rw [List.mem_singleton.1 hp]; exact e)
  have hm : [p31 0, p31 0].map metF = [m31, m31] := rfl
  rw [hm] at m1 m2
  have hl : ([p31 0, p31 0] : List api_Point).length = 2 := rfl
  have hz := sF_sz (n := 1) m1 m2 (by omega)
  have hs : szL [sF 1 [m31, m31]] ≤ 20000 := by rw [szL_cons, szL_nil]; omega
  unfold otlp_Decode
  rw [open31 (ok_cons (sF_ok ⟨by decide, by decide⟩ _) ok_nil) (by omega) (by rfl), bind_some]
  dsimp only
  rw [all31 (by omega), bind_some, show withN [sF 1 [m31, m31]] 1 = [sF 1 [m31, m31]] from rfl, lp1_31, flow_go, bind_some]
  dsimp only
  rw [bifF (by rfl)]
theorem decode_0 : otlp_Decode [] = some ([], 0) := by
  have h : otlp_reader_open ⟨0, []⟩ [] [(1, 2)] = some ([], ⟨0, []⟩) := open31 (l := []) ok_nil (by decide) rfl
  have L : loop (otlp_Decode_lp1 []) (0, [], 0) = some (.go (0, [])) := loop_brk (by
    unfold otlp_Decode_lp1
    dsimp only
    rw [bifFd (by decide)])
  unfold otlp_Decode
  rw [h, bind_some]
  dsimp only
  rw [all31 (by decide), bind_some, show withN [] 1 = [] from rfl, L, flow_go, bind_some]
  dsimp only
  rw [bifF (by rfl)]
theorem awake31 : law31_awake = some true := by
  have b0 : badP (p31 0) = 0 := bad_zero.2 ⟨p31_ep.c, rfl⟩
  have b1 : badP (p31 1) = 3 := by unfold badP; rw [if_pos (p31_chk (by omega)), if_neg (show (p31 1).Flags ≠ 0 by decide)]
  have e2 := (Encode31 (ps := [p31 0, p31 0]) (fun p hp => by
    rcases List.mem_cons.1 hp with rfl | hp
    · exact p31_wr 0
    · rw [List.mem_singleton.1 hp]; exact p31_wr 0) (by decide)).1
  have o2 : outE [p31 0, p31 0] = (encL [sF 1 [m31, m31]], 0) := by
    unfold outE
    rw [List.find?_cons, b0, show decide ((0 : Int) ≠ 0) = false from rfl, List.find?_cons, b0]; rfl
  have e1 := (Encode31 (ps := [p31 1]) (fun p hp => by rw [List.mem_singleton.1 hp]; exact p31_wr 1) (by decide)).1
  have o1 : outE [p31 1] = ([], 3) := by
    unfold outE
    rw [List.find?_cons, b1]; rfl
  rw [o2] at e2
  rw [o1] at e1
  have c2 : otlp_Encode [(api_Point.mk [120] [(api_Pair.mk [97] [49])] 1 2 false 0 10 (-5) 0 0 (api_Hist.mk 0 0 (api_Side.mk 0 []) (api_Side.mk 0 [])) 0), (api_Point.mk [120] [(api_Pair.mk [97] [49])] 1 2 false 0 10 (-5) 0 0 (api_Hist.mk 0 0 (api_Side.mk 0 []) (api_Side.mk 0 [])) 0)] = _ := e2
  have c1 : otlp_Encode [(api_Point.mk [120] [(api_Pair.mk [97] [49])] 1 2 false 0 10 (-5) 0 0 (api_Hist.mk 0 0 (api_Side.mk 0 []) (api_Side.mk 0 [])) 1)] = _ := e1
  unfold law31_awake
  rw [c2, bind_some]
  dsimp only
  rw [decode_31, bind_some]
  dsimp only
  rw [decode_0, bind_some]
  dsimp only
  rw [c1, bind_some]
  rfl
/-- what is written is as by the document -/
theorem otlpWrites (ps : List api_Point) (hi : ∀ p ∈ ps, IsP p) : law31_OtlpWrites ps = some true := by
  unfold law31_OtlpWrites
  rw [awake31, bind_some, bifF (by rfl), rsome_eq 20 (by omega), bind_some]
  by_cases h : (decide ((ps.length : Int) ≤ 20) && ps.all lightP) = true
  case neg => rw [bifT (by rw [Bool.eq_false_iff.2 h]; rfl)]
  have h' := h
  simp only [Bool.and_eq_true, decide_eq_true_eq, List.all_eq_true] at h'
  obtain ⟨e1, e2⟩ := Encode31 (ps := ps) (fun p hp => by
    have l := lightP_of (h'.2 p hp)
    have h1 := packL_len p.Hist.Pos.Counts
    have h2 := packL_len p.Hist.Neg.Counts
    have := l.lp; have := l.ln
    exact ⟨l.ok (hi p hp), by omega, by omega⟩) (by omega)
  rw [bifF (by rw [h]; rfl), e1, bind_some]
  dsimp only
  rw [e2, bind_some]
  try dsimp only
  rw [lett_eq, decide_eq_true rfl, decide_eq_true rfl]; rfl
end Go.Lg
