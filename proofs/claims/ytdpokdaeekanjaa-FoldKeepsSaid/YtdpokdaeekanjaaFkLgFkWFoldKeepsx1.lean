/- The walks of FoldKeeps and of what it calls, printed by gen.py. -/
import Derived.Test.YtdpokdaeekanjaaFkLgFkWFoldKeepsx0
set_option linter.unusedVariables false
namespace Go.Lg
open Go Go.Proofs
set_option maxRecDepth 100000
set_option maxHeartbeats 4000000
theorem c_fold_Sub {A : Nat → Prop} {v0_3 : Value} {v0_5 : Value} {a0 : api_Hist} {v1_3 : Value} {v1_5 : Value} {a1 : api_Hist} {w : World} (hs0_3 : Sl Rep.u w A v0_3 a0.Pos.Counts) (hs0_5 : Sl Rep.u w A v0_5 a0.Neg.Counts) (hs1_3 : Sl Rep.u w A v1_3 a1.Pos.Counts) (hs1_5 : Sl Rep.u w A v1_5 a1.Neg.Counts) {r0 : api_Hist} {r1 : Int} (h : fold_Sub a0 a1 = some (r0, r1)) : Rets Try.prog 42 [Value.agg (List.toArray [vi a0.Scale, vu a0.Zero, vi a0.Pos.Offset, v0_3, vi a0.Neg.Offset, v0_5]), Value.agg (List.toArray [vi a1.Scale, vu a1.Zero, vi a1.Pos.Offset, v1_3, vi a1.Neg.Offset, v1_5])] w (fun v w' => ∃ (u0_3 : Value) (u0_5 : Value), v = Value.tuple (List.toArray [Value.agg (List.toArray [vi r0.Scale, vu r0.Zero, vi r0.Pos.Offset, u0_3, vi r0.Neg.Offset, u0_5]), vi r1]) ∧ Ext w w' ∧ RowF Rep.u 22 w w' u0_3 r0.Pos.Counts ∧ RowF Rep.u 22 w w' u0_5 r0.Neg.Counts ∧ (∀ k, Value.ownBlock u0_3 = some k → Value.ownBlock u0_5 ≠ some k)) := by
 unfold fold_Sub at h
 refine Rets.enter Try.func42 rfl rfl ?_
 have hf11 : Sl Rep.u w (imm (Lg.O0 A)) v0_3 a0.Pos.Counts := (Sl.start hs0_3)
 have hf12 : Sl Rep.u w (imm (Lg.O0 A)) v0_5 a0.Neg.Counts := (Sl.start hs0_5)
 have hf13 : Sl Rep.u w (imm (Lg.O0 A)) v1_3 a1.Pos.Counts := (Sl.start hs1_3)
 have hf14 : Sl Rep.u w (imm (Lg.O0 A)) v1_5 a1.Neg.Counts := (Sl.start hs1_5)
 refine (show WC _ _ _ _ [(0, Value.agg (List.toArray [vi a0.Scale, vu a0.Zero, vi a0.Pos.Offset, v0_3, vi a0.Neg.Offset, v0_5])), (1, Value.agg (List.toArray [vi a1.Scale, vu a1.Zero, vi a1.Pos.Offset, v1_3, vi a1.Neg.Offset, v1_5]))] _ from ?_)
 refine WC.seq ?_
 refine WC.region ?_
 have hh18 := h
 obtain ⟨p15, m16, c17, rfl⟩ := hf11.shape
 have h := hh18
 have hh22 := h
 obtain ⟨p19, m20, c21, rfl⟩ := hf12.shape
 have h := hh22
 refine WL.box (O := (Lg.O0 A)) 11 [vi a0.Scale, vu a0.Zero, vi a0.Pos.Offset, (Value.slice p15 m16 c17), vi a0.Neg.Offset, (Value.slice p19 m20 c21)] rfl rfl rfl ?_
 intro p24 O25 wd26 hst27 hb23
 have hf28 := hf13.mono (imm_st hst27 rfl rfl)
 have hh32 := h
 obtain ⟨p29, m30, c31, rfl⟩ := hf28.shape
 have h := hh32
 have hf33 := hf14.mono (imm_st hst27 rfl rfl)
 have hh37 := h
 obtain ⟨p34, m35, c36, rfl⟩ := hf33.shape
 have h := hh37
 refine WL.box (O := O25) 12 [vi a1.Scale, vu a1.Zero, vi a1.Pos.Offset, (Value.slice p29 m30 c31), vi a1.Neg.Offset, (Value.slice p34 m35 c36)] rfl rfl rfl ?_
 intro p39 O40 wd41 hst42 hb38
 refine WL.alloc (O := O40) 13 [vi 0, vu 0, vi 0, Value.slice none 0 0, vi 0, Value.slice none 0 0] ty27 rfl rfl ?_
 intro p44 O45 wd46 hst47 hb43
 refine WL.y (Y.assign rfl) rfl ?_
 refine WL.nil ?_
 refine At.then ?_
 refine WC.seq ?_
 refine WC.region ?_
 have hf48 := hb23.st hst42 rfl
 have hf49 := hf48.st hst47 rfl
 refine WL.y (Y.loadAg ty27 rfl rfl (hf49.cells 0 [vi a0.Scale, vu a0.Zero, vi a0.Pos.Offset, (Value.slice p15 m16 c17), vi a0.Neg.Offset, (Value.slice p19 m20 c21)] rfl) rfl) rfl ?_
 have hf50 := hb38.st hst47 rfl
 refine WL.y (Y.loadAg ty27 rfl rfl (hf50.cells 0 [vi a1.Scale, vu a1.Zero, vi a1.Pos.Offset, (Value.slice p29 m30 c31), vi a1.Neg.Offset, (Value.slice p34 m35 c36)] rfl) rfl) rfl ?_
 have hf51 := hf11.mono (imm_st hst27 rfl rfl)
 have hf52 := hf51.mono (imm_st hst42 rfl rfl)
 have hf53 := hf52.mono (imm_st hst47 rfl rfl)
 have hf54 := hf12.mono (imm_st hst27 rfl rfl)
 have hf55 := hf54.mono (imm_st hst42 rfl rfl)
 have hf56 := hf55.mono (imm_st hst47 rfl rfl)
 have hf57 := hf28.mono (imm_st hst42 rfl rfl)
 have hf58 := hf57.mono (imm_st hst47 rfl rfl)
 have hf59 := hf33.mono (imm_st hst42 rfl rfl)
 have hf60 := hf59.mono (imm_st hst47 rfl rfl)
 obtain ⟨⟨r61, r62, r63⟩, hp64, h⟩ := bnd h
 refine WL.call (vals := [Value.agg (List.toArray [vi a0.Scale, vu a0.Zero, vi a0.Pos.Offset, (Value.slice p15 m16 c17), vi a0.Neg.Offset, (Value.slice p19 m20 c21)]), Value.agg (List.toArray [vi a1.Scale, vu a1.Zero, vi a1.Pos.Offset, (Value.slice p29 m30 c31), vi a1.Neg.Offset, (Value.slice p34 m35 c36)])]) kok38 rfl rfl (c_fold_Level (A := fun _ => True) (a0 := a0) (a1 := a1) (Sl.all hf53) (Sl.all hf56) (Sl.all hf58) (Sl.all hf60) hp64) ?_
 rintro vr81 wd80 ⟨u65, u66, u67, u68, rfl, hm79, f69, f70, f71, f72, f73, f74, f75, f76, f77, f78⟩
 obtain ⟨O82, hold83, hnew84, hst85⟩ := adoptE O45 (fun k => if Value.ownBlock u65 = some k then 14 else if Value.ownBlock u66 = some k then 15 else if Value.ownBlock u67 = some k then 16 else if Value.ownBlock u68 = some k then 17 else 1) hm79
 have hf86 : OwnSl 14 Rep.u 22 O82 wd80 u65 r61.Pos.Counts := RowF.adopt 14 Flat.u f69 hnew84 (fun k hk => if_pos hk)
 have hf87 : OwnSl 15 Rep.u 22 O82 wd80 u66 r61.Neg.Counts := RowF.adopt 15 Flat.u f70 hnew84 (fun k hk => (if_neg (fun (e : Value.ownBlock u65 = some k) => f73 k e hk)).trans (if_pos hk))
 have hf88 : OwnSl 16 Rep.u 22 O82 wd80 u67 r62.Pos.Counts := RowF.adopt 16 Flat.u f71 hnew84 (fun k hk => (if_neg (fun (e : Value.ownBlock u65 = some k) => f74 k e hk)).trans ((if_neg (fun (e : Value.ownBlock u66 = some k) => f75 k e hk)).trans (if_pos hk)))
 have hf89 : OwnSl 17 Rep.u 22 O82 wd80 u68 r62.Neg.Counts := RowF.adopt 17 Flat.u f72 hnew84 (fun k hk => (if_neg (fun (e : Value.ownBlock u65 = some k) => f76 k e hk)).trans ((if_neg (fun (e : Value.ownBlock u66 = some k) => f77 k e hk)).trans ((if_neg (fun (e : Value.ownBlock u67 = some k) => f78 k e hk)).trans (if_pos hk))))
 refine WL.y (Y.move rfl) rfl ?_
 refine WL.y (Y.extract rfl rfl) rfl ?_
 refine WL.y (Y.extract rfl rfl) rfl ?_
 refine WL.y (Y.extract rfl rfl) rfl ?_
 refine WL.alloc (O := O82) 18 [vi 0, vu 0, vi 0, Value.slice none 0 0, vi 0, Value.slice none 0 0] ty27 rfl rfl ?_
 intro p91 O92 wd93 hst94 hb90
 refine WL.alloc (O := O92) 19 [vi 0, vu 0, vi 0, Value.slice none 0 0, vi 0, Value.slice none 0 0] ty27 rfl rfl ?_
 intro p96 O97 wd98 hst99 hb95
 have hf100 := hf86.st hst94 rfl rfl rfl
 have hf101 := hf100.st hst99 rfl rfl rfl
 have hh105 := h
 obtain ⟨p102, m103, c104, rfl⟩ := hf101.shape
 have h := hh105
 have hf106 := hf87.st hst94 rfl rfl rfl
 have hf107 := hf106.st hst99 rfl rfl rfl
 have hh111 := h
 obtain ⟨p108, m109, c110, rfl⟩ := hf107.shape
 have h := hh111
 have hf112 := hb90.st hst99 rfl
 refine WL.store (v := Value.agg (List.toArray [vi r61.Scale, vu r61.Zero, vi r61.Pos.Offset, (Value.slice p102 m103 c104), vi r61.Neg.Offset, (Value.slice p108 m109 c110)])) (cells' := [vi r61.Scale, vu r61.Zero, vi r61.Pos.Offset, (Value.slice p102 m103 c104), vi r61.Neg.Offset, (Value.slice p108 m109 c110)]) ty27 rfl rfl hf112 rfl (Nat.le_of_ble_eq_true rfl) rfl rfl ?_
 intro wd113 hst114 hb115
 have hf116 := hf88.st hst94 rfl rfl rfl
 have hf117 := hf116.st hst99 rfl rfl rfl
 have hf118 := hf117.st hst114 rfl rfl rfl
 have hh122 := h
 obtain ⟨p119, m120, c121, rfl⟩ := hf118.shape
 have h := hh122
 have hf123 := hf89.st hst94 rfl rfl rfl
 have hf124 := hf123.st hst99 rfl rfl rfl
 have hf125 := hf124.st hst114 rfl rfl rfl
 have hh129 := h
 obtain ⟨p126, m127, c128, rfl⟩ := hf125.shape
 have h := hh129
 have hf130 := hb95.st hst114 rfl
 refine WL.store (v := Value.agg (List.toArray [vi r62.Scale, vu r62.Zero, vi r62.Pos.Offset, (Value.slice p119 m120 c121), vi r62.Neg.Offset, (Value.slice p126 m127 c128)])) (cells' := [vi r62.Scale, vu r62.Zero, vi r62.Pos.Offset, (Value.slice p119 m120 c121), vi r62.Neg.Offset, (Value.slice p126 m127 c128)]) ty27 rfl rfl hf130 rfl (Nat.le_of_ble_eq_true rfl) rfl rfl ?_
 intro wd131 hst132 hb133
 refine WL.y (Y.assign rfl) rfl ?_
 refine WL.nil ?_
 refine At.then ?_
 refine WC.seq ?_
 refine WC.seq ?_
 refine WC.region ?_
 refine WL.y (Y.move rfl) rfl ?_
 refine WL.y (Y.neq_i rfl rfl) rfl ?_
 refine WL.nil ?_
 refine At.then ?_
 rcases cnd h with ⟨hc134, h⟩ | ⟨hc134, h⟩
 ·refine WC.condT' rfl hc134 ?_
  refine WC.seq ?_
  refine WC.region ?_
  refine WL.y (Y.build (vals := []) (cells := [vi 0, vu 0, vi 0, Value.slice none 0 0, vi 0, Value.slice none 0 0]) (Fits.evalp rfl) (by kernel_rfl)) rfl ?_
  refine WL.y (Y.move rfl) rfl ?_
  have hf135 := hb43.st hst85 rfl
  have hf136 := hf135.st hst94 rfl
  have hf137 := hf136.st hst99 rfl
  have hf138 := hf137.st hst114 rfl
  have hf139 := hf138.st hst132 rfl
  refine WL.store (v := Value.agg (List.toArray [vi 0, vu 0, vi 0, Value.slice none 0 0, vi 0, Value.slice none 0 0])) (cells' := [vi 0, vu 0, vi 0, Value.slice none 0 0, vi 0, Value.slice none 0 0]) ty27 rfl rfl hf139 rfl (Nat.le_of_ble_eq_true rfl) rfl rfl ?_
  intro wd140 hst141 hb142
  refine WL.y (Y.assign rfl) rfl ?_
  refine WL.nil ?_
  refine At.then ?_
  refine WC.ret ?_
  refine At.thenR ?_
  obtain ⟨rfl, rfl⟩ := tup2 h
  have hs143 : Stp [13, 18, 19] (Lg.O0 A) w O97 wd140 := (Stp.trans (Stp.up hst27 rfl) (Stp.trans (Stp.up hst42 rfl) (Stp.trans (Stp.up hst47 rfl) (Stp.trans (Stp.up hst85 rfl) (Stp.trans (Stp.up hst94 rfl) (Stp.trans (Stp.up hst99 rfl) (Stp.trans (Stp.up hst114 rfl) (Stp.trans (Stp.up hst132 rfl) (Stp.up hst141 rfl)))))))))
  exact At.res (.inl rfl) rfl (.cell rfl (hb142.runAg 0 [vi 0, vu 0, vi 0, Value.slice none 0 0, vi 0, Value.slice none 0 0] ty27 rfl rfl rfl) (.tmp rfl .nil)) ⟨Value.slice none 0 0, Value.slice none 0 0, rfl, (Stp.ext hs143 rfl rfl), RowF.nil, RowF.nil, (fun _ e => absurd e not_nil)⟩
 ·refine WC.condF' rfl hc134 ?_
  refine WC.skip ?_
  refine At.then ?_
  refine WC.seq ?_
  refine WC.region ?_
  refine WL.y (Y.fieldAddr fo27_2 rfl) rfl ?_
  have hf144 := hb115.st hst132 rfl
  refine WL.y (Y.loadAg ty25 rfl rfl (hf144.cells 2 [vi r61.Pos.Offset, (Value.slice p102 m103 c104)] rfl) rfl) rfl ?_
  refine WL.y (Y.fieldAddr fo27_2 rfl) rfl ?_
  refine WL.y (Y.loadAg ty25 rfl rfl (hb133.cells 2 [vi r62.Pos.Offset, (Value.slice p119 m120 c121)] rfl) rfl) rfl ?_
  have hf145 := hf101.st hst114 rfl rfl rfl
  have hf146 := hf145.st hst132 rfl rfl rfl
  have hf147 := hf118.st hst132 rfl rfl rfl
  obtain ⟨⟨r148, r149⟩, hp150, h⟩ := bnd h
  refine WL.call (vals := [Value.agg (List.toArray [vi r61.Pos.Offset, (Value.slice p102 m103 c104)]), Value.agg (List.toArray [vi r62.Pos.Offset, (Value.slice p119 m120 c121)])]) kok73 rfl rfl (c_fold_left (A := fun _ => True) (a0 := r61.Pos) (a1 := r62.Pos) (hf146.src.sl) (hf147.src.sl) hp150) ?_
  rintro vr155 wd154 ⟨u151, rfl, hm153, f152⟩
  obtain ⟨O156, hold157, hnew158, hst159⟩ := adoptE O97 (fun k => if Value.ownBlock u151 = some k then 20 else 1) hm153
  have hf160 : OwnSl 20 Rep.u 22 O156 wd154 u151 r148.Counts := RowF.adopt 20 Flat.u f152 hnew158 (fun k hk => if_pos hk)
  refine WL.y (Y.move rfl) rfl ?_
  refine WL.y (Y.extract rfl rfl) rfl ?_
  refine WL.y (Y.extract rfl rfl) rfl ?_
  refine WL.alloc (O := O156) 21 [vi 0, Value.slice none 0 0] ty25 rfl rfl ?_
  intro p162 O163 wd164 hst165 hb161
  have hf166 := hf160.st hst165 rfl rfl rfl
  have hh170 := h
  obtain ⟨p167, m168, c169, rfl⟩ := hf166.shape
  have h := hh170
  refine WL.store (v := Value.agg (List.toArray [vi r148.Offset, (Value.slice p167 m168 c169)])) (cells' := [vi r148.Offset, (Value.slice p167 m168 c169)]) ty25 rfl rfl hb161 rfl (Nat.le_of_ble_eq_true rfl) rfl rfl ?_
  intro wd171 hst172 hb173
  refine WL.y (Y.assign rfl) rfl ?_
  refine WL.nil ?_
  refine At.then ?_
  refine WC.seq ?_
  refine WC.region ?_
  refine WL.y (Y.fieldAddr fo27_3 rfl) rfl ?_
  have hf174 := hf144.st hst159 rfl
  have hf175 := hf174.st hst165 rfl
  have hf176 := hf175.st hst172 rfl
  refine WL.y (Y.loadAg ty25 rfl rfl (hf176.cells 4 [vi r61.Neg.Offset, (Value.slice p108 m109 c110)] rfl) rfl) rfl ?_
  refine WL.y (Y.fieldAddr fo27_3 rfl) rfl ?_
  have hf177 := hb133.st hst159 rfl
  have hf178 := hf177.st hst165 rfl
  have hf179 := hf178.st hst172 rfl
  refine WL.y (Y.loadAg ty25 rfl rfl (hf179.cells 4 [vi r62.Neg.Offset, (Value.slice p126 m127 c128)] rfl) rfl) rfl ?_
  have hf180 := hf107.st hst114 rfl rfl rfl
  have hf181 := hf180.st hst132 rfl rfl rfl
  have hf182 := hf181.st hst159 rfl rfl rfl
  have hf183 := hf182.st hst165 rfl rfl rfl
  have hf184 := hf183.st hst172 rfl rfl rfl
  have hf185 := hf125.st hst132 rfl rfl rfl
  have hf186 := hf185.st hst159 rfl rfl rfl
  have hf187 := hf186.st hst165 rfl rfl rfl
  have hf188 := hf187.st hst172 rfl rfl rfl
  obtain ⟨⟨r189, r190⟩, hp191, h⟩ := bnd h
  refine WL.call (vals := [Value.agg (List.toArray [vi r61.Neg.Offset, (Value.slice p108 m109 c110)]), Value.agg (List.toArray [vi r62.Neg.Offset, (Value.slice p126 m127 c128)])]) kok73 rfl rfl (c_fold_left (A := fun _ => True) (a0 := r61.Neg) (a1 := r62.Neg) (hf184.src.sl) (hf188.src.sl) hp191) ?_
  rintro vr196 wd195 ⟨u192, rfl, hm194, f193⟩
  obtain ⟨O197, hold198, hnew199, hst200⟩ := adoptE O163 (fun k => if Value.ownBlock u192 = some k then 22 else 1) hm194
  have hf201 : OwnSl 22 Rep.u 22 O197 wd195 u192 r189.Counts := RowF.adopt 22 Flat.u f193 hnew199 (fun k hk => if_pos hk)
  refine WL.y (Y.move rfl) rfl ?_
  refine WL.y (Y.extract rfl rfl) rfl ?_
  refine WL.y (Y.extract rfl rfl) rfl ?_
  refine WL.alloc (O := O197) 23 [vi 0, Value.slice none 0 0] ty25 rfl rfl ?_
  intro p203 O204 wd205 hst206 hb202
  have hf207 := hf201.st hst206 rfl rfl rfl
  have hh211 := h
  obtain ⟨p208, m209, c210, rfl⟩ := hf207.shape
  have h := hh211
  refine WL.store (v := Value.agg (List.toArray [vi r189.Offset, (Value.slice p208 m209 c210)])) (cells' := [vi r189.Offset, (Value.slice p208 m209 c210)]) ty25 rfl rfl hb202 rfl (Nat.le_of_ble_eq_true rfl) rfl rfl ?_
  intro wd212 hst213 hb214
  refine WL.y (Y.assign rfl) rfl ?_
  refine WL.nil ?_
  refine At.then ?_
  refine WC.seq ?_
  refine WC.seq ?_
  refine WC.region ?_
  refine WL.y (Y.fieldAddr fo27_1 rfl) rfl ?_
  have hf215 := hf179.st hst200 rfl
  have hf216 := hf215.st hst206 rfl
  have hf217 := hf216.st hst213 rfl
  refine WL.y (Y.loadSc ty22 rfl rfl (hf217.cell 1 _ rfl)) rfl ?_
  refine WL.y (Y.fieldAddr fo27_1 rfl) rfl ?_
  have hf218 := hf176.st hst200 rfl
  have hf219 := hf218.st hst206 rfl
  have hf220 := hf219.st hst213 rfl
  refine WL.y (Y.loadSc ty22 rfl rfl (hf220.cell 1 _ rfl)) rfl ?_
  refine WL.y (Y.gtr_u rfl rfl) rfl ?_
  refine WL.y (Y.move rfl) rfl ?_
  refine WL.cut 3 (σ := Unit) (fun _ w' => wd212 = w') (fun _ => [(4, Value.pointer (some ⟨p44, 0, none⟩)), (6, Value.pointer (some ⟨p91, 0, none⟩)), (7, Value.pointer (some ⟨p96, 0, none⟩)), (9, Value.pointer (some ⟨p162, 0, none⟩)), (11, Value.pointer (some ⟨p203, 0, none⟩)), (12, Value.bool r190), (48, Value.bool ((decide (r61.Zero < r62.Zero)) || (!r149)))]) ?_ ?_
  ·refine WL.part 45 rfl (fun hE221 => ?_) (fun hE221 => ?_)
   ·refine WL.gS rfl rfl rfl rfl ?_
    refine WL.gS rfl rfl rfl rfl ?_
    refine WL.y (Y.pick (b := true) rfl rfl) rfl ?_
    refine WL.ren (v' := Value.bool ((decide (r61.Zero < r62.Zero)) || (!r149))) 48 rfl (congrArg Value.bool (orT hE221)) ?_
    exact WL.nil (At.join () rfl (.cons rfl (.cons rfl (.cons rfl (.cons rfl (.cons rfl (.cons rfl (.cons rfl .nil))))))))
   ·refine WL.ung rfl rfl ?_
    refine WL.y (Y.move rfl) rfl ?_
    refine WL.ung rfl rfl ?_
    refine WL.y (Y.not rfl) rfl ?_
    refine WL.y (Y.pick (b := false) rfl rfl) rfl ?_
    refine WL.ren (v' := Value.bool ((decide (r61.Zero < r62.Zero)) || (!r149))) 48 rfl (congrArg Value.bool (orF hE221)) ?_
    exact WL.nil (At.join () rfl (.cons rfl (.cons rfl (.cons rfl (.cons rfl (.cons rfl (.cons rfl (.cons rfl .nil))))))))
  ·rintro _ _ rfl
   refine (show WL _ _ _ _ _ [(4, Value.pointer (some ⟨p44, 0, none⟩)), (6, Value.pointer (some ⟨p91, 0, none⟩)), (7, Value.pointer (some ⟨p96, 0, none⟩)), (9, Value.pointer (some ⟨p162, 0, none⟩)), (11, Value.pointer (some ⟨p203, 0, none⟩)), (12, Value.bool r190), (48, Value.bool ((decide (r61.Zero < r62.Zero)) || (!r149)))] _ from ?_)
   refine WL.y (Y.move rfl) rfl ?_
   refine WL.cut 3 (σ := Unit) (fun _ w' => wd212 = w') (fun _ => [(4, Value.pointer (some ⟨p44, 0, none⟩)), (6, Value.pointer (some ⟨p91, 0, none⟩)), (7, Value.pointer (some ⟨p96, 0, none⟩)), (9, Value.pointer (some ⟨p162, 0, none⟩)), (11, Value.pointer (some ⟨p203, 0, none⟩)), (52, Value.bool (((decide (r61.Zero < r62.Zero)) || (!r149)) || (!r190)))]) ?_ ?_
   ·refine WL.part 49 rfl (fun hE222 => ?_) (fun hE222 => ?_)
    ·refine WL.gS rfl rfl rfl rfl ?_
     refine WL.gS rfl rfl rfl rfl ?_
     refine WL.y (Y.pick (b := true) rfl rfl) rfl ?_
     refine WL.ren (v' := Value.bool (((decide (r61.Zero < r62.Zero)) || (!r149)) || (!r190))) 52 rfl (congrArg Value.bool (orT hE222)) ?_
     exact WL.nil (At.join () rfl (.cons rfl (.cons rfl (.cons rfl (.cons rfl (.cons rfl (.cons rfl .nil)))))))
    ·refine WL.ung rfl rfl ?_
     refine WL.y (Y.move rfl) rfl ?_
     refine WL.ung rfl rfl ?_
     refine WL.y (Y.not rfl) rfl ?_
     refine WL.y (Y.pick (b := false) rfl rfl) rfl ?_
     refine WL.ren (v' := Value.bool (((decide (r61.Zero < r62.Zero)) || (!r149)) || (!r190))) 52 rfl (congrArg Value.bool (orF hE222)) ?_
     exact WL.nil (At.join () rfl (.cons rfl (.cons rfl (.cons rfl (.cons rfl (.cons rfl (.cons rfl .nil)))))))
   ·rintro _ _ rfl
    refine (show WL _ _ _ _ _ [(4, Value.pointer (some ⟨p44, 0, none⟩)), (6, Value.pointer (some ⟨p91, 0, none⟩)), (7, Value.pointer (some ⟨p96, 0, none⟩)), (9, Value.pointer (some ⟨p162, 0, none⟩)), (11, Value.pointer (some ⟨p203, 0, none⟩)), (52, Value.bool (((decide (r61.Zero < r62.Zero)) || (!r149)) || (!r190)))] _ from ?_)
    refine WL.nil ?_
    refine At.then ?_
    rcases cnd h with ⟨hc223, h⟩ | ⟨hc223, h⟩
    ·refine WC.condT' rfl hc223 ?_
     refine WC.seq ?_
     refine WC.region ?_
     refine WL.y (Y.build (vals := []) (cells := [vi 0, vu 0, vi 0, Value.slice none 0 0, vi 0, Value.slice none 0 0]) (Fits.evalp rfl) (by kernel_rfl)) rfl ?_
     have hf224 := hb43.st hst85 rfl
     have hf225 := hf224.st hst94 rfl
     have hf226 := hf225.st hst99 rfl
     have hf227 := hf226.st hst114 rfl
     have hf228 := hf227.st hst132 rfl
     have hf229 := hf228.st hst159 rfl
     have hf230 := hf229.st hst165 rfl
     have hf231 := hf230.st hst172 rfl
     have hf232 := hf231.st hst200 rfl
     have hf233 := hf232.st hst206 rfl
     have hf234 := hf233.st hst213 rfl
     refine WL.store (v := Value.agg (List.toArray [vi 0, vu 0, vi 0, Value.slice none 0 0, vi 0, Value.slice none 0 0])) (cells' := [vi 0, vu 0, vi 0, Value.slice none 0 0, vi 0, Value.slice none 0 0]) ty27 rfl rfl hf234 rfl (Nat.le_of_ble_eq_true rfl) rfl rfl ?_
     intro wd235 hst236 hb237
     refine WL.y (Y.assign rfl) rfl ?_
     refine WL.nil ?_
     refine At.then ?_
     refine WC.ret ?_
     refine At.thenR ?_
     obtain ⟨rfl, rfl⟩ := tup2 h
     have hs238 : Stp [13, 18, 19, 21, 23] (Lg.O0 A) w O204 wd235 := (Stp.trans (Stp.up hst27 rfl) (Stp.trans (Stp.up hst42 rfl) (Stp.trans (Stp.up hst47 rfl) (Stp.trans (Stp.up hst85 rfl) (Stp.trans (Stp.up hst94 rfl) (Stp.trans (Stp.up hst99 rfl) (Stp.trans (Stp.up hst114 rfl) (Stp.trans (Stp.up hst132 rfl) (Stp.trans (Stp.up hst159 rfl) (Stp.trans (Stp.up hst165 rfl) (Stp.trans (Stp.up hst172 rfl) (Stp.trans (Stp.up hst200 rfl) (Stp.trans (Stp.up hst206 rfl) (Stp.trans (Stp.up hst213 rfl) (Stp.up hst236 rfl)))))))))))))))
     exact At.res (.inl rfl) rfl (.cell rfl (hb237.runAg 0 [vi 0, vu 0, vi 0, Value.slice none 0 0, vi 0, Value.slice none 0 0] ty27 rfl rfl rfl) (.tmp rfl .nil)) ⟨Value.slice none 0 0, Value.slice none 0 0, rfl, (Stp.ext hs238 rfl rfl), RowF.nil, RowF.nil, (fun _ e => absurd e not_nil)⟩
    ·refine WC.condF' rfl hc223 ?_
     refine WC.skip ?_
     refine At.then ?_
     refine WC.seq ?_
     refine WC.region ?_
     refine WL.y (Y.fieldAddr fo27_0 rfl) rfl ?_
     refine WL.y (Y.loadSc ty3 rfl rfl (hf220.cell 0 _ rfl)) rfl ?_
     refine WL.y (Y.fieldAddr fo27_1 rfl) rfl ?_
     refine WL.y (Y.loadSc ty22 rfl rfl (hf220.cell 1 _ rfl)) rfl ?_
     refine WL.y (Y.fieldAddr fo27_1 rfl) rfl ?_
     refine WL.y (Y.loadSc ty22 rfl rfl (hf217.cell 1 _ rfl)) rfl ?_
     refine WL.y (Y.sub_u rfl rfl) rfl ?_
     have hf239 := hb173.st hst200 rfl
     have hf240 := hf239.st hst206 rfl
     have hf241 := hf240.st hst213 rfl
     refine WL.y (Y.loadAg ty25 rfl rfl (hf241.cells 0 [vi r148.Offset, (Value.slice p167 m168 c169)] rfl) rfl) rfl ?_
     refine WL.y (Y.loadAg ty25 rfl rfl (hb214.cells 0 [vi r189.Offset, (Value.slice p208 m209 c210)] rfl) rfl) rfl ?_
     refine WL.y (Y.build (vals := [(0, vi r61.Scale), (1, vu (r61.Zero - r62.Zero)), (2, Value.agg (List.toArray [vi r148.Offset, (Value.slice p167 m168 c169)])), (3, Value.agg (List.toArray [vi r189.Offset, (Value.slice p208 m209 c210)]))]) (cells := [vi r61.Scale, vu (r61.Zero - r62.Zero), vi r148.Offset, (Value.slice p167 m168 c169), vi r189.Offset, (Value.slice p208 m209 c210)]) (Fits.evalp rfl) (by kernel_rfl)) rfl ?_
     have hf242 := hb43.st hst85 rfl
     have hf243 := hf242.st hst94 rfl
     have hf244 := hf243.st hst99 rfl
     have hf245 := hf244.st hst114 rfl
     have hf246 := hf245.st hst132 rfl
     have hf247 := hf246.st hst159 rfl
     have hf248 := hf247.st hst165 rfl
     have hf249 := hf248.st hst172 rfl
     have hf250 := hf249.st hst200 rfl
     have hf251 := hf250.st hst206 rfl
     have hf252 := hf251.st hst213 rfl
     refine WL.store (v := Value.agg (List.toArray [vi r61.Scale, vu (r61.Zero - r62.Zero), vi r148.Offset, (Value.slice p167 m168 c169), vi r189.Offset, (Value.slice p208 m209 c210)])) (cells' := [vi r61.Scale, vu (r61.Zero - r62.Zero), vi r148.Offset, (Value.slice p167 m168 c169), vi r189.Offset, (Value.slice p208 m209 c210)]) ty27 rfl rfl hf252 rfl (Nat.le_of_ble_eq_true rfl) rfl rfl ?_
     intro wd253 hst254 hb255
     refine WL.y (Y.assign rfl) rfl ?_
     refine WL.nil ?_
     refine At.then ?_
     refine WC.ret ?_
     obtain ⟨rfl, rfl⟩ := tup2 h
     have hs256 : Stp [13, 18, 19, 21, 23] (Lg.O0 A) w O204 wd253 := (Stp.trans (Stp.up hst27 rfl) (Stp.trans (Stp.up hst42 rfl) (Stp.trans (Stp.up hst47 rfl) (Stp.trans (Stp.up hst85 rfl) (Stp.trans (Stp.up hst94 rfl) (Stp.trans (Stp.up hst99 rfl) (Stp.trans (Stp.up hst114 rfl) (Stp.trans (Stp.up hst132 rfl) (Stp.trans (Stp.up hst159 rfl) (Stp.trans (Stp.up hst165 rfl) (Stp.trans (Stp.up hst172 rfl) (Stp.trans (Stp.up hst200 rfl) (Stp.trans (Stp.up hst206 rfl) (Stp.trans (Stp.up hst213 rfl) (Stp.up hst254 rfl)))))))))))))))
     have hf257 := hf166.st hst172 rfl rfl rfl
     have hf258 := hf257.st hst200 rfl rfl rfl
     have hf259 := hf258.st hst206 rfl rfl rfl
     have hf260 := hf259.st hst213 rfl rfl rfl
     have hf261 := hf260.st hst254 rfl rfl rfl
     have hf262 := hf207.st hst213 rfl rfl rfl
     have hf263 := hf262.st hst254 rfl rfl rfl
     exact At.res (.inl rfl) rfl (.cell rfl (hb255.runAg 0 [vi r61.Scale, vu (r61.Zero - r62.Zero), vi r148.Offset, (Value.slice p167 m168 c169), vi r189.Offset, (Value.slice p208 m209 c210)] ty27 rfl rfl rfl) (.tmp rfl .nil)) ⟨(Value.slice p167 m168 c169), (Value.slice p208 m209 c210), rfl, (Stp.ext hs256 rfl rfl), (OwnSl.outF hf261 hs256 low0 rfl), (OwnSl.outF hf263 hs256 low0 rfl), (ne_own hf261 hf263 rfl)⟩
theorem c_fold_Empty {A : Nat → Prop} {v0_3 : Value} {v0_5 : Value} {a0 : api_Hist} {w : World} (hs0_3 : Sl Rep.u w A v0_3 a0.Pos.Counts) (hs0_5 : Sl Rep.u w A v0_5 a0.Neg.Counts) {r0 : Bool} (h : fold_Empty a0 = some r0) : Rets Try.prog 44 [Value.agg (List.toArray [vi a0.Scale, vu a0.Zero, vi a0.Pos.Offset, v0_3, vi a0.Neg.Offset, v0_5])] w (fun v w' => v = Value.bool r0 ∧ Ext w w') := by
 unfold fold_Empty at h
 refine Rets.enter Try.func44 rfl rfl ?_
 have hf11 : Sl Rep.u w (imm (Lg.O0 A)) v0_3 a0.Pos.Counts := (Sl.start hs0_3)
 have hf12 : Sl Rep.u w (imm (Lg.O0 A)) v0_5 a0.Neg.Counts := (Sl.start hs0_5)
 refine (show WC _ _ _ _ [(0, Value.agg (List.toArray [vi a0.Scale, vu a0.Zero, vi a0.Pos.Offset, v0_3, vi a0.Neg.Offset, v0_5]))] _ from ?_)
 refine WC.seq ?_
 refine WC.region ?_
 have hh16 := h
 obtain ⟨p13, m14, c15, rfl⟩ := hf11.shape
 have h := hh16
 have hh20 := h
 obtain ⟨p17, m18, c19, rfl⟩ := hf12.shape
 have h := hh20
 refine WL.box (O := (Lg.O0 A)) 11 [vi a0.Scale, vu a0.Zero, vi a0.Pos.Offset, (Value.slice p13 m14 c15), vi a0.Neg.Offset, (Value.slice p17 m18 c19)] rfl rfl rfl ?_
 intro p22 O23 wd24 hst25 hb21
 refine WL.y (Y.assign rfl) rfl ?_
 refine WL.nil ?_
 refine At.then ?_
 refine WC.seq ?_
 refine WC.region ?_
 refine WL.y (Y.fieldAddr fo27_1 rfl) rfl ?_
 refine WL.y (Y.loadSc ty22 rfl rfl (hb21.cell 1 _ rfl)) rfl ?_
 refine WL.y (Y.eql_u (b := 0) rfl rfl) rfl ?_
 refine WL.y (Y.move rfl) rfl ?_
 refine WL.cut 6 (σ := Unit) (fun _ w' => wd24 = w') (fun _ => [(1, Value.pointer (some ⟨p22, 0, none⟩)), (12, Value.bool ((decide (a0.Zero = 0)) && (decide ((a0.Pos.Counts.length : Int) = 0))))]) ?_ ?_
 ·refine WL.part 6 rfl (fun hE26 => ?_) (fun hE26 => ?_)
  ·refine WL.ung rfl rfl ?_
   refine WL.y (Y.fieldAddr fo27_2 rfl) rfl ?_
   refine WL.ung rfl rfl ?_
   refine WL.y (Y.fieldAddr fo25_1 rfl) rfl ?_
   refine WL.ung rfl rfl ?_
   refine WL.y (Y.loadSc ty23 rfl rfl (hb21.cell 3 _ rfl)) rfl ?_
   refine WL.ung rfl rfl ?_
   have hf27 := hf11.mono (imm_st hst25 rfl rfl)
   refine WL.y (Y.len ty23 rfl hf27) rfl ?_
   refine WL.ung rfl rfl ?_
   refine WL.y (Y.eql_i rfl rfl) rfl ?_
   refine WL.y (Y.pick (b := true) rfl rfl) rfl ?_
   refine WL.ren (v' := Value.bool ((decide (a0.Zero = 0)) && (decide ((a0.Pos.Counts.length : Int) = 0)))) 12 rfl (congrArg Value.bool (andT hE26)) ?_
   exact WL.nil (At.join () rfl (.cons rfl (.cons rfl .nil)))
  ·refine WL.gS rfl rfl rfl rfl ?_
   refine WL.gS rfl rfl rfl rfl ?_
   refine WL.gS rfl rfl rfl rfl ?_
   refine WL.gS rfl rfl rfl rfl ?_
   refine WL.gS rfl rfl rfl rfl ?_
   refine WL.y (Y.pick (b := false) rfl rfl) rfl ?_
   refine WL.ren (v' := Value.bool ((decide (a0.Zero = 0)) && (decide ((a0.Pos.Counts.length : Int) = 0)))) 12 rfl (congrArg Value.bool (andF hE26)) ?_
   exact WL.nil (At.join () rfl (.cons rfl (.cons rfl .nil)))
 ·rintro _ _ rfl
  refine (show WL _ _ _ _ _ [(1, Value.pointer (some ⟨p22, 0, none⟩)), (12, Value.bool ((decide (a0.Zero = 0)) && (decide ((a0.Pos.Counts.length : Int) = 0))))] _ from ?_)
  refine WL.y (Y.move rfl) rfl ?_
  refine WL.cut 6 (σ := Unit) (fun _ w' => wd24 = w') (fun _ => [(19, Value.bool (((decide (a0.Zero = 0)) && (decide ((a0.Pos.Counts.length : Int) = 0))) && (decide ((a0.Neg.Counts.length : Int) = 0))))]) ?_ ?_
  ·refine WL.part 13 rfl (fun hE28 => ?_) (fun hE28 => ?_)
   ·refine WL.ung rfl rfl ?_
    refine WL.y (Y.fieldAddr fo27_3 rfl) rfl ?_
    refine WL.ung rfl rfl ?_
    refine WL.y (Y.fieldAddr fo25_1 rfl) rfl ?_
    refine WL.ung rfl rfl ?_
    refine WL.y (Y.loadSc ty23 rfl rfl (hb21.cell 5 _ rfl)) rfl ?_
    refine WL.ung rfl rfl ?_
    have hf29 := hf12.mono (imm_st hst25 rfl rfl)
    refine WL.y (Y.len ty23 rfl hf29) rfl ?_
    refine WL.ung rfl rfl ?_
    refine WL.y (Y.eql_i rfl rfl) rfl ?_
    refine WL.y (Y.pick (b := true) rfl rfl) rfl ?_
    refine WL.ren (v' := Value.bool (((decide (a0.Zero = 0)) && (decide ((a0.Pos.Counts.length : Int) = 0))) && (decide ((a0.Neg.Counts.length : Int) = 0)))) 19 rfl (congrArg Value.bool (andT hE28)) ?_
    exact WL.nil (At.join () rfl (.cons rfl .nil))
   ·refine WL.gS rfl rfl rfl rfl ?_
    refine WL.gS rfl rfl rfl rfl ?_
    refine WL.gS rfl rfl rfl rfl ?_
    refine WL.gS rfl rfl rfl rfl ?_
    refine WL.gS rfl rfl rfl rfl ?_
    refine WL.y (Y.pick (b := false) rfl rfl) rfl ?_
    refine WL.ren (v' := Value.bool (((decide (a0.Zero = 0)) && (decide ((a0.Pos.Counts.length : Int) = 0))) && (decide ((a0.Neg.Counts.length : Int) = 0)))) 19 rfl (congrArg Value.bool (andF hE28)) ?_
    exact WL.nil (At.join () rfl (.cons rfl .nil))
  ·rintro _ _ rfl
   refine (show WL _ _ _ _ _ [(19, Value.bool (((decide (a0.Zero = 0)) && (decide ((a0.Pos.Counts.length : Int) = 0))) && (decide ((a0.Neg.Counts.length : Int) = 0))))] _ from ?_)
   obtain ⟨t30, ht30, h⟩ := lt1 h
   refine WL.yE (Y.assign rfl) (congrArg Value.bool ht30.symm) rfl ?_
   refine WL.nil ?_
   refine At.then ?_
   refine WC.ret ?_
   obtain rfl := some1 h
   have hs31 : Stp [] (Lg.O0 A) w O23 wd24 := (Stp.up hst25 rfl)
   exact At.res (.inl rfl) rfl (.tmp rfl .nil) ⟨rfl, (Stp.ext hs31 rfl rfl)⟩
theorem c_law09_awake {w : World} {r0 : Bool} (h : law09_awake = some r0) : Rets Try.prog 37 [] w (fun v w' => v = Value.bool r0 ∧ Ext w w') := by
 unfold law09_awake at h
 refine Rets.enter Try.func37 rfl rfl ?_
 refine (show WC _ _ _ _ [] _ from ?_)
 refine WC.seq ?_
 refine WC.region ?_
 refine WL.y (Y.assign rfl) rfl ?_
 refine WL.nil ?_
 refine At.then ?_
 refine WC.seq ?_
 refine WC.region ?_
 refine WL.buildSlice (O := (Lg.O0 (fun _ => False))) (R := Rep.u) (vals := [(0, vu 1)]) 11 [vu 1] (xs := [1]) (by decide) ty23 ty22 (by decide) (by decide) (Fits.evalp rfl) (by kernel_rfl) rfl ⟨[vu 1], [], rfl, rfl, rfl⟩ rfl ?_
 intro v11 O13 wd14 hst15 ho12
 have hh19 := h
 obtain ⟨p16, m17, c18, rfl⟩ := ho12.shape
 have h := hh19
 refine WL.y (Y.build (vals := [(0, vi 2), (1, (Value.slice p16 m17 c18))]) (cells := [vi 2, (Value.slice p16 m17 c18)]) (Fits.evalp rfl) (by kernel_rfl)) rfl ?_
 refine WL.y (Y.build (vals := [(0, vi 1), (2, Value.agg (List.toArray [vi 2, (Value.slice p16 m17 c18)]))]) (cells := [vi 1, vu 0, vi 2, (Value.slice p16 m17 c18), vi 0, Value.slice none 0 0]) (Fits.evalp rfl) (by kernel_rfl)) rfl ?_
 refine WL.alloc (O := O13) 12 [vi 0, vu 0, vi 0, Value.slice none 0 0, vi 0, Value.slice none 0 0] ty27 rfl rfl ?_
 intro p21 O22 wd23 hst24 hb20
 refine WL.store (v := Value.agg (List.toArray [vi 1, vu 0, vi 2, (Value.slice p16 m17 c18), vi 0, Value.slice none 0 0])) (cells' := [vi 1, vu 0, vi 2, (Value.slice p16 m17 c18), vi 0, Value.slice none 0 0]) ty27 rfl rfl hb20 rfl (Nat.le_of_ble_eq_true rfl) rfl rfl ?_
 intro wd25 hst26 hb27
 refine WL.nil ?_
 refine At.then ?_
 refine WC.seq ?_
 refine WC.region ?_
 refine WL.buildSlice (O := O22) (R := Rep.u) (vals := [(0, vu 1)]) 13 [vu 1] (xs := [1]) (by decide) ty23 ty22 (by decide) (by decide) (Fits.evalp rfl) (by kernel_rfl) rfl ⟨[vu 1], [], rfl, rfl, rfl⟩ rfl ?_
 intro v28 O30 wd31 hst32 ho29
 have hh36 := h
 obtain ⟨p33, m34, c35, rfl⟩ := ho29.shape
 have h := hh36
 refine WL.y (Y.build (vals := [(0, vi 1), (1, (Value.slice p33 m34 c35))]) (cells := [vi 1, (Value.slice p33 m34 c35)]) (Fits.evalp rfl) (by kernel_rfl)) rfl ?_
 refine WL.y (Y.build (vals := [(0, vi 0), (2, Value.agg (List.toArray [vi 1, (Value.slice p33 m34 c35)]))]) (cells := [vi 0, vu 0, vi 1, (Value.slice p33 m34 c35), vi 0, Value.slice none 0 0]) (Fits.evalp rfl) (by kernel_rfl)) rfl ?_
 refine WL.alloc (O := O30) 14 [vi 0, vu 0, vi 0, Value.slice none 0 0, vi 0, Value.slice none 0 0] ty27 rfl rfl ?_
 intro p38 O39 wd40 hst41 hb37
 refine WL.store (v := Value.agg (List.toArray [vi 0, vu 0, vi 1, (Value.slice p33 m34 c35), vi 0, Value.slice none 0 0])) (cells' := [vi 0, vu 0, vi 1, (Value.slice p33 m34 c35), vi 0, Value.slice none 0 0]) ty27 rfl rfl hb37 rfl (Nat.le_of_ble_eq_true rfl) rfl rfl ?_
 intro wd42 hst43 hb44
 refine WL.nil ?_
 refine At.then ?_
 refine WC.seq ?_
 refine WC.region ?_
 have hf45 := hb27.st hst32 rfl
 have hf46 := hf45.st hst41 rfl
 have hf47 := hf46.st hst43 rfl
 refine WL.y (Y.loadAg ty27 rfl rfl (hf47.cells 0 [vi 1, vu 0, vi 2, (Value.slice p16 m17 c18), vi 0, Value.slice none 0 0] rfl) rfl) rfl ?_
 refine WL.y (Y.loadAg ty27 rfl rfl (hb44.cells 0 [vi 0, vu 0, vi 1, (Value.slice p33 m34 c35), vi 0, Value.slice none 0 0] rfl) rfl) rfl ?_
 have hf48 := ho12.st hst24 rfl rfl rfl
 have hf49 := hf48.st hst26 rfl rfl rfl
 have hf50 := hf49.st hst32 rfl rfl rfl
 have hf51 := hf50.st hst41 rfl rfl rfl
 have hf52 := hf51.st hst43 rfl rfl rfl
 have hf53 := ho29.st hst41 rfl rfl rfl
 have hf54 := hf53.st hst43 rfl rfl rfl
 obtain ⟨⟨r55, r56⟩, hp57, h⟩ := bnd h
 refine WL.call (vals := [Value.agg (List.toArray [vi 1, vu 0, vi 2, (Value.slice p16 m17 c18), vi 0, Value.slice none 0 0]), Value.agg (List.toArray [vi 0, vu 0, vi 1, (Value.slice p33 m34 c35), vi 0, Value.slice none 0 0])]) kok40 rfl rfl (c_fold_Merge (A := fun _ => True) (a0 := (api_Hist.mk 1 0 (api_Side.mk 2 [1]) (api_Side.mk 0 []))) (a1 := (api_Hist.mk 0 0 (api_Side.mk 1 [1]) (api_Side.mk 0 []))) (hf52.src.sl) (Or.inl ⟨rfl, rfl⟩) (hf54.src.sl) (Or.inl ⟨rfl, rfl⟩) hp57) ?_
 rintro vr65 wd64 ⟨u58, u59, rfl, hm63, f60, f61, f62⟩
 obtain ⟨O66, hold67, hnew68, hst69⟩ := adoptE O39 (fun k => if Value.ownBlock u58 = some k then 15 else if Value.ownBlock u59 = some k then 16 else 1) hm63
 have hf70 : OwnSl 15 Rep.u 22 O66 wd64 u58 r55.Pos.Counts := RowF.adopt 15 Flat.u f60 hnew68 (fun k hk => if_pos hk)
 have hf71 : OwnSl 16 Rep.u 22 O66 wd64 u59 r55.Neg.Counts := RowF.adopt 16 Flat.u f61 hnew68 (fun k hk => (if_neg (fun (e : Value.ownBlock u58 = some k) => f62 k e hk)).trans (if_pos hk))
 refine WL.y (Y.move rfl) rfl ?_
 refine WL.y (Y.extract rfl rfl) rfl ?_
 refine WL.y (Y.extract rfl rfl) rfl ?_
 refine WL.alloc (O := O66) 17 [vi 0, vu 0, vi 0, Value.slice none 0 0, vi 0, Value.slice none 0 0] ty27 rfl rfl ?_
 intro p73 O74 wd75 hst76 hb72
 have hf77 := hf70.st hst76 rfl rfl rfl
 have hh81 := h
 obtain ⟨p78, m79, c80, rfl⟩ := hf77.shape
 have h := hh81
 have hf82 := hf71.st hst76 rfl rfl rfl
 have hh86 := h
 obtain ⟨p83, m84, c85, rfl⟩ := hf82.shape
 have h := hh86
 refine WL.store (v := Value.agg (List.toArray [vi r55.Scale, vu r55.Zero, vi r55.Pos.Offset, (Value.slice p78 m79 c80), vi r55.Neg.Offset, (Value.slice p83 m84 c85)])) (cells' := [vi r55.Scale, vu r55.Zero, vi r55.Pos.Offset, (Value.slice p78 m79 c80), vi r55.Neg.Offset, (Value.slice p83 m84 c85)]) ty27 rfl rfl hb72 rfl (Nat.le_of_ble_eq_true rfl) rfl rfl ?_
 intro wd87 hst88 hb89
 refine WL.y (Y.assign rfl) rfl ?_
 refine WL.nil ?_
 refine At.then ?_
 refine WC.seq ?_
 refine WC.region ?_
 refine WL.y (Y.loadAg ty27 rfl rfl (hb89.cells 0 [vi r55.Scale, vu r55.Zero, vi r55.Pos.Offset, (Value.slice p78 m79 c80), vi r55.Neg.Offset, (Value.slice p83 m84 c85)] rfl) rfl) rfl ?_
 have hf90 := hb44.st hst69 rfl
 have hf91 := hf90.st hst76 rfl
 have hf92 := hf91.st hst88 rfl
 refine WL.y (Y.loadAg ty27 rfl rfl (hf92.cells 0 [vi 0, vu 0, vi 1, (Value.slice p33 m34 c35), vi 0, Value.slice none 0 0] rfl) rfl) rfl ?_
 have hf93 := hf77.st hst88 rfl rfl rfl
 have hf94 := hf82.st hst88 rfl rfl rfl
 have hf95 := hf54.st hst69 rfl rfl rfl
 have hf96 := hf95.st hst76 rfl rfl rfl
 have hf97 := hf96.st hst88 rfl rfl rfl
 obtain ⟨⟨r98, r99⟩, hp100, h⟩ := bnd h
 refine WL.call (vals := [Value.agg (List.toArray [vi r55.Scale, vu r55.Zero, vi r55.Pos.Offset, (Value.slice p78 m79 c80), vi r55.Neg.Offset, (Value.slice p83 m84 c85)]), Value.agg (List.toArray [vi 0, vu 0, vi 1, (Value.slice p33 m34 c35), vi 0, Value.slice none 0 0])]) kok42 rfl rfl (c_fold_Sub (A := fun _ => True) (a0 := r55) (a1 := (api_Hist.mk 0 0 (api_Side.mk 1 [1]) (api_Side.mk 0 []))) (hf93.src.sl) (hf94.src.sl) (hf97.src.sl) (Or.inl ⟨rfl, rfl⟩) hp100) ?_
 rintro vr108 wd107 ⟨u101, u102, rfl, hm106, f103, f104, f105⟩
 obtain ⟨O109, hold110, hnew111, hst112⟩ := adoptE O74 (fun k => if Value.ownBlock u101 = some k then 18 else if Value.ownBlock u102 = some k then 19 else 1) hm106
 have hf113 : OwnSl 18 Rep.u 22 O109 wd107 u101 r98.Pos.Counts := RowF.adopt 18 Flat.u f103 hnew111 (fun k hk => if_pos hk)
 have hf114 : OwnSl 19 Rep.u 22 O109 wd107 u102 r98.Neg.Counts := RowF.adopt 19 Flat.u f104 hnew111 (fun k hk => (if_neg (fun (e : Value.ownBlock u101 = some k) => f105 k e hk)).trans (if_pos hk))
 refine WL.y (Y.move rfl) rfl ?_
 refine WL.y (Y.extract rfl rfl) rfl ?_
 refine WL.y (Y.extract rfl rfl) rfl ?_
 refine WL.alloc (O := O109) 20 [vi 0, vu 0, vi 0, Value.slice none 0 0, vi 0, Value.slice none 0 0] ty27 rfl rfl ?_
 intro p116 O117 wd118 hst119 hb115
 have hf120 := hf113.st hst119 rfl rfl rfl
 have hh124 := h
 obtain ⟨p121, m122, c123, rfl⟩ := hf120.shape
 have h := hh124
 have hf125 := hf114.st hst119 rfl rfl rfl
 have hh129 := h
 obtain ⟨p126, m127, c128, rfl⟩ := hf125.shape
 have h := hh129
 refine WL.store (v := Value.agg (List.toArray [vi r98.Scale, vu r98.Zero, vi r98.Pos.Offset, (Value.slice p121 m122 c123), vi r98.Neg.Offset, (Value.slice p126 m127 c128)])) (cells' := [vi r98.Scale, vu r98.Zero, vi r98.Pos.Offset, (Value.slice p121 m122 c123), vi r98.Neg.Offset, (Value.slice p126 m127 c128)]) ty27 rfl rfl hb115 rfl (Nat.le_of_ble_eq_true rfl) rfl rfl ?_
 intro wd130 hst131 hb132
 refine WL.y (Y.assign rfl) rfl ?_
 refine WL.nil ?_
 refine At.then ?_
 refine WC.seq ?_
 refine WC.region ?_
 refine WL.y (Y.move rfl) rfl ?_
 refine WL.y (Y.eql_i rfl rfl) rfl ?_
 refine WL.y (Y.move rfl) rfl ?_
 refine WL.cut 3 (σ := Unit) (fun _ w' => wd130 = w') (fun _ => [(3, Value.pointer (some ⟨p73, 0, none⟩)), (5, Value.pointer (some ⟨p116, 0, none⟩)), (30, Value.bool ((decide (r56 = 0)) && (decide (r99 = 0))))]) ?_ ?_
 ·refine WL.part 27 rfl (fun hE133 => ?_) (fun hE133 => ?_)
  ·refine WL.ung rfl rfl ?_
   refine WL.y (Y.move rfl) rfl ?_
   refine WL.ung rfl rfl ?_
   refine WL.y (Y.eql_i rfl rfl) rfl ?_
   refine WL.y (Y.pick (b := true) rfl rfl) rfl ?_
   refine WL.ren (v' := Value.bool ((decide (r56 = 0)) && (decide (r99 = 0)))) 30 rfl (congrArg Value.bool (andT hE133)) ?_
   exact WL.nil (At.join () rfl (.cons rfl (.cons rfl (.cons rfl .nil))))
  ·refine WL.gS rfl rfl rfl rfl ?_
   refine WL.gS rfl rfl rfl rfl ?_
   refine WL.y (Y.pick (b := false) rfl rfl) rfl ?_
   refine WL.ren (v' := Value.bool ((decide (r56 = 0)) && (decide (r99 = 0)))) 30 rfl (congrArg Value.bool (andF hE133)) ?_
   exact WL.nil (At.join () rfl (.cons rfl (.cons rfl (.cons rfl .nil))))
 ·rintro _ _ rfl
  refine (show WL _ _ _ _ _ [(3, Value.pointer (some ⟨p73, 0, none⟩)), (5, Value.pointer (some ⟨p116, 0, none⟩)), (30, Value.bool ((decide (r56 = 0)) && (decide (r99 = 0))))] _ from ?_)
  refine WL.y (Y.move rfl) rfl ?_
  refine WL.cut 4 (σ := Unit) (fun _ w' => wd130 = w') (fun _ => [(3, Value.pointer (some ⟨p73, 0, none⟩)), (5, Value.pointer (some ⟨p116, 0, none⟩)), (35, Value.bool (((decide (r56 = 0)) && (decide (r99 = 0))) && (decide (r55.Scale = 0))))]) ?_ ?_
  ·refine WL.part 31 rfl (fun hE134 => ?_) (fun hE134 => ?_)
   ·refine WL.ung rfl rfl ?_
    refine WL.y (Y.fieldAddr fo27_0 rfl) rfl ?_
    refine WL.ung rfl rfl ?_
    have hf135 := hb89.st hst112 rfl
    have hf136 := hf135.st hst119 rfl
    have hf137 := hf136.st hst131 rfl
    refine WL.y (Y.loadSc ty3 rfl rfl (hf137.cell 0 _ rfl)) rfl ?_
    refine WL.ung rfl rfl ?_
    refine WL.y (Y.eql_i rfl rfl) rfl ?_
    refine WL.y (Y.pick (b := true) rfl rfl) rfl ?_
    refine WL.ren (v' := Value.bool (((decide (r56 = 0)) && (decide (r99 = 0))) && (decide (r55.Scale = 0)))) 35 rfl (congrArg Value.bool (andT hE134)) ?_
    exact WL.nil (At.join () rfl (.cons rfl (.cons rfl (.cons rfl .nil))))
   ·refine WL.gS rfl rfl rfl rfl ?_
    refine WL.gS rfl rfl rfl rfl ?_
    refine WL.gS rfl rfl rfl rfl ?_
    refine WL.y (Y.pick (b := false) rfl rfl) rfl ?_
    refine WL.ren (v' := Value.bool (((decide (r56 = 0)) && (decide (r99 = 0))) && (decide (r55.Scale = 0)))) 35 rfl (congrArg Value.bool (andF hE134)) ?_
    exact WL.nil (At.join () rfl (.cons rfl (.cons rfl (.cons rfl .nil))))
  ·rintro _ _ rfl
   refine (show WL _ _ _ _ _ [(3, Value.pointer (some ⟨p73, 0, none⟩)), (5, Value.pointer (some ⟨p116, 0, none⟩)), (35, Value.bool (((decide (r56 = 0)) && (decide (r99 = 0))) && (decide (r55.Scale = 0))))] _ from ?_)
   refine WL.y (Y.move rfl) rfl ?_
   obtain ⟨p142, h, hk143⟩ := bnd h
   refine WL.cut 5 (σ := (Bool × Own)) (fun x w' => x.1 = p142 ∧ Stp [] O117 wd130 x.2 w') (fun x => [(5, Value.pointer (some ⟨p116, 0, none⟩)), (41, Value.bool x.1)]) ?_ ?_
   ·rcases cnd h with ⟨hE144, h⟩ | ⟨hE144, h⟩
    ·refine WL.ren 36 rfl (congrArg Value.bool hE144) ?_
     refine WL.ung rfl rfl ?_
     refine WL.y (Y.fieldAddr fo27_2 rfl) rfl ?_
     refine WL.ung rfl rfl ?_
     have hf145 := hb89.st hst112 rfl
     have hf146 := hf145.st hst119 rfl
     have hf147 := hf146.st hst131 rfl
     refine WL.y (Y.loadAg ty25 rfl rfl (hf147.cells 2 [vi r55.Pos.Offset, (Value.slice p78 m79 c80)] rfl) rfl) rfl ?_
     refine WL.ung rfl rfl ?_
     have hf148 := hf93.st hst112 rfl rfl rfl
     have hf149 := hf148.st hst119 rfl rfl rfl
     have hf150 := hf149.st hst131 rfl rfl rfl
     obtain ⟨r151, hp152, h⟩ := bnd h
     refine WL.call (vals := [Value.agg (List.toArray [vi r55.Pos.Offset, (Value.slice p78 m79 c80)]), vi 1]) kok23 rfl rfl (c_hist_At (A := fun _ => True) (a0 := r55.Pos) (hf150.src.sl) hp152) ?_
     rintro vr155 wd154 ⟨rfl, hm153⟩
     obtain ⟨O156, hold157, hnew158, hst159⟩ := adoptE O117 (fun k => 1) hm153
     refine WL.ung rfl rfl ?_
     refine WL.y (Y.eql_u (b := 2) rfl rfl) rfl ?_
     refine WL.y (Y.pick (b := true) rfl rfl) rfl ?_
     exact WL.nil (At.join (σ := (Bool × Own)) (decide (r151 = 2), O156) ⟨some1 h, (Stp.up hst159 rfl)⟩ (.cons rfl (.cons rfl .nil)))
    ·refine WL.ren 36 rfl (congrArg Value.bool hE144) ?_
     refine WL.gS rfl rfl rfl rfl ?_
     refine WL.gS rfl rfl rfl rfl ?_
     refine WL.gS rfl rfl rfl rfl ?_
     refine WL.gS rfl rfl rfl rfl ?_
     refine WL.y (Y.pick (b := false) rfl rfl) rfl ?_
     exact WL.nil (At.join (σ := (Bool × Own)) (false, O117) ⟨some1 h, (Stp.refl _ _ _)⟩ (.cons rfl (.cons rfl .nil)))
   ·rintro ⟨x138, O139⟩ wd140 ⟨rfl, hst141⟩
    replace h := hk143
    try dsimp only at h hst141
    refine (show WL _ _ _ _ _ [(5, Value.pointer (some ⟨p116, 0, none⟩)), (41, Value.bool x138)] _ from ?_)
    refine WL.y (Y.move rfl) rfl ?_
    obtain ⟨p164, h, hk165⟩ := bnd h
    refine WL.cut 5 (σ := (Bool × Own)) (fun x w' => x.1 = p164 ∧ Stp [] O139 wd140 x.2 w') (fun x => [(5, Value.pointer (some ⟨p116, 0, none⟩)), (47, Value.bool x.1)]) ?_ ?_
    ·rcases cnd h with ⟨hE166, h⟩ | ⟨hE166, h⟩
     ·refine WL.ren 42 rfl (congrArg Value.bool hE166) ?_
      refine WL.ung rfl rfl ?_
      refine WL.y (Y.fieldAddr fo27_2 rfl) rfl ?_
      refine WL.ung rfl rfl ?_
      have hf167 := hb132.st hst141 rfl
      refine WL.y (Y.loadAg ty25 rfl rfl (hf167.cells 2 [vi r98.Pos.Offset, (Value.slice p121 m122 c123)] rfl) rfl) rfl ?_
      refine WL.ung rfl rfl ?_
      have hf168 := hf120.st hst131 rfl rfl rfl
      have hf169 := hf168.st hst141 rfl rfl rfl
      obtain ⟨r170, hp171, h⟩ := bnd h
      refine WL.call (vals := [Value.agg (List.toArray [vi r98.Pos.Offset, (Value.slice p121 m122 c123)]), vi 1]) kok23 rfl rfl (c_hist_At (A := fun _ => True) (a0 := r98.Pos) (hf169.src.sl) hp171) ?_
      rintro vr174 wd173 ⟨rfl, hm172⟩
      obtain ⟨O175, hold176, hnew177, hst178⟩ := adoptE O139 (fun k => 1) hm172
      refine WL.ung rfl rfl ?_
      refine WL.y (Y.eql_u (b := 1) rfl rfl) rfl ?_
      refine WL.y (Y.pick (b := true) rfl rfl) rfl ?_
      exact WL.nil (At.join (σ := (Bool × Own)) (decide (r170 = 1), O175) ⟨some1 h, (Stp.up hst178 rfl)⟩ (.cons rfl (.cons rfl .nil)))
     ·refine WL.ren 42 rfl (congrArg Value.bool hE166) ?_
      refine WL.gS rfl rfl rfl rfl ?_
      refine WL.gS rfl rfl rfl rfl ?_
      refine WL.gS rfl rfl rfl rfl ?_
      refine WL.gS rfl rfl rfl rfl ?_
      refine WL.y (Y.pick (b := false) rfl rfl) rfl ?_
      exact WL.nil (At.join (σ := (Bool × Own)) (false, O139) ⟨some1 h, (Stp.refl _ _ _)⟩ (.cons rfl (.cons rfl .nil)))
    ·rintro ⟨x160, O161⟩ wd162 ⟨rfl, hst163⟩
     replace h := hk165
     try dsimp only at h hst163
     refine (show WL _ _ _ _ _ [(5, Value.pointer (some ⟨p116, 0, none⟩)), (47, Value.bool x160)] _ from ?_)
     refine WL.y (Y.move rfl) rfl ?_
     obtain ⟨p183, h, hk184⟩ := bnd h
     refine WL.cut 4 (σ := (Bool × Own)) (fun x w' => x.1 = p183 ∧ Stp [] O161 wd162 x.2 w') (fun x => [(52, Value.bool x.1)]) ?_ ?_
     ·rcases cnd h with ⟨hE185, h⟩ | ⟨hE185, h⟩
      ·refine WL.ren 48 rfl (congrArg Value.bool hE185) ?_
       refine WL.ung rfl rfl ?_
       have hf186 := hb132.st hst141 rfl
       have hf187 := hf186.st hst163 rfl
       refine WL.y (Y.loadAg ty27 rfl rfl (hf187.cells 0 [vi r98.Scale, vu r98.Zero, vi r98.Pos.Offset, (Value.slice p121 m122 c123), vi r98.Neg.Offset, (Value.slice p126 m127 c128)] rfl) rfl) rfl ?_
       refine WL.ung rfl rfl ?_
       have hf188 := hf120.st hst131 rfl rfl rfl
       have hf189 := hf188.st hst141 rfl rfl rfl
       have hf190 := hf189.st hst163 rfl rfl rfl
       have hf191 := hf125.st hst131 rfl rfl rfl
       have hf192 := hf191.st hst141 rfl rfl rfl
       have hf193 := hf192.st hst163 rfl rfl rfl
       obtain ⟨r194, hp195, h⟩ := bnd h
       refine WL.call (vals := [Value.agg (List.toArray [vi r98.Scale, vu r98.Zero, vi r98.Pos.Offset, (Value.slice p121 m122 c123), vi r98.Neg.Offset, (Value.slice p126 m127 c128)])]) kok44 rfl rfl (c_fold_Empty (A := fun _ => True) (a0 := r98) (hf190.src.sl) (hf193.src.sl) hp195) ?_
       rintro vr198 wd197 ⟨rfl, hm196⟩
       obtain ⟨O199, hold200, hnew201, hst202⟩ := adoptE O161 (fun k => 1) hm196
       refine WL.ung rfl rfl ?_
       refine WL.y (Y.not rfl) rfl ?_
       refine WL.y (Y.pick (b := true) rfl rfl) rfl ?_
       exact WL.nil (At.join (σ := (Bool × Own)) ((!r194), O199) ⟨some1 h, (Stp.up hst202 rfl)⟩ (.cons rfl .nil))
      ·refine WL.ren 48 rfl (congrArg Value.bool hE185) ?_
       refine WL.gS rfl rfl rfl rfl ?_
       refine WL.gS rfl rfl rfl rfl ?_
       refine WL.gS rfl rfl rfl rfl ?_
       refine WL.y (Y.pick (b := false) rfl rfl) rfl ?_
       exact WL.nil (At.join (σ := (Bool × Own)) (false, O161) ⟨some1 h, (Stp.refl _ _ _)⟩ (.cons rfl .nil))
     ·rintro ⟨x179, O180⟩ wd181 ⟨rfl, hst182⟩
      replace h := hk184
      try dsimp only at h hst182
      refine (show WL _ _ _ _ _ [(52, Value.bool x179)] _ from ?_)
      refine WL.y (Y.move rfl) rfl ?_
      obtain ⟨p207, h, hk208⟩ := bnd h
      refine WL.cut 3 (σ := (Bool × Own)) (fun x w' => x.1 = p207 ∧ Stp [] O180 wd181 x.2 w') (fun x => [(56, Value.bool x.1)]) ?_ ?_
      ·rcases cnd h with ⟨hE209, h⟩ | ⟨hE209, h⟩
       ·refine WL.ren 53 rfl (congrArg Value.bool hE209) ?_
        refine WL.ung rfl rfl ?_
        refine WL.y (Y.build (vals := []) (cells := [vi 0, vu 0, vi 0, Value.slice none 0 0, vi 0, Value.slice none 0 0]) (Fits.evalp rfl) (by kernel_rfl)) rfl ?_
        refine WL.ung rfl rfl ?_
        obtain ⟨r210, hp211, h⟩ := bnd h
        refine WL.call (vals := [Value.agg (List.toArray [vi 0, vu 0, vi 0, Value.slice none 0 0, vi 0, Value.slice none 0 0])]) kok44 rfl rfl (c_fold_Empty (A := fun _ => True) (a0 := (api_Hist.mk 0 0 (api_Side.mk 0 []) (api_Side.mk 0 []))) (Or.inl ⟨rfl, rfl⟩) (Or.inl ⟨rfl, rfl⟩) hp211) ?_
        rintro vr214 wd213 ⟨rfl, hm212⟩
        obtain ⟨O215, hold216, hnew217, hst218⟩ := adoptE O180 (fun k => 1) hm212
        refine WL.y (Y.pick (b := true) rfl rfl) rfl ?_
        exact WL.nil (At.join (σ := (Bool × Own)) (r210, O215) ⟨some1 h, (Stp.up hst218 rfl)⟩ (.cons rfl .nil))
       ·refine WL.ren 53 rfl (congrArg Value.bool hE209) ?_
        refine WL.gS rfl rfl rfl rfl ?_
        refine WL.gS rfl rfl rfl rfl ?_
        refine WL.y (Y.pick (b := false) rfl rfl) rfl ?_
        exact WL.nil (At.join (σ := (Bool × Own)) (false, O180) ⟨some1 h, (Stp.refl _ _ _)⟩ (.cons rfl .nil))
      ·rintro ⟨x203, O204⟩ wd205 ⟨rfl, hst206⟩
       replace h := hk208
       try dsimp only at h hst206
       refine (show WL _ _ _ _ _ [(56, Value.bool x203)] _ from ?_)
       refine WL.y (Y.assign rfl) rfl ?_
       refine WL.nil ?_
       refine At.then ?_
       refine WC.ret ?_
       obtain rfl := some1 h
       have hs219 : Stp [12, 14, 17, 20] (Lg.O0 (fun _ => False)) w O204 wd205 := (Stp.trans (Stp.up hst15 rfl) (Stp.trans (Stp.up hst24 rfl) (Stp.trans (Stp.up hst26 rfl) (Stp.trans (Stp.up hst32 rfl) (Stp.trans (Stp.up hst41 rfl) (Stp.trans (Stp.up hst43 rfl) (Stp.trans (Stp.up hst69 rfl) (Stp.trans (Stp.up hst76 rfl) (Stp.trans (Stp.up hst88 rfl) (Stp.trans (Stp.up hst112 rfl) (Stp.trans (Stp.up hst119 rfl) (Stp.trans (Stp.up hst131 rfl) (Stp.trans (Stp.up hst141 rfl) (Stp.trans (Stp.up hst163 rfl) (Stp.trans (Stp.up hst182 rfl) (Stp.up hst206 rfl))))))))))))))))
       exact At.res (.inl rfl) rfl (.tmp rfl .nil) ⟨rfl, (Stp.ext hs219 rfl rfl)⟩
theorem c_hist_Clone {A : Nat → Prop} {v0_3 : Value} {v0_5 : Value} {a0 : api_Hist} {w : World} (hs0_3 : Sl Rep.u w A v0_3 a0.Pos.Counts) (hs0_5 : Sl Rep.u w A v0_5 a0.Neg.Counts) {r0 : api_Hist} (h : hist_Clone a0 = some r0) : Rets Try.prog 45 [Value.agg (List.toArray [vi a0.Scale, vu a0.Zero, vi a0.Pos.Offset, v0_3, vi a0.Neg.Offset, v0_5])] w (fun v w' => ∃ (u0_3 : Value) (u0_5 : Value), v = Value.agg (List.toArray [vi r0.Scale, vu r0.Zero, vi r0.Pos.Offset, u0_3, vi r0.Neg.Offset, u0_5]) ∧ Ext w w' ∧ RowF Rep.u 22 w w' u0_3 r0.Pos.Counts ∧ RowF Rep.u 22 w w' u0_5 r0.Neg.Counts ∧ (∀ k, Value.ownBlock u0_3 = some k → Value.ownBlock u0_5 ≠ some k)) := by
 unfold hist_Clone at h
 refine Rets.enter Try.func45 rfl rfl ?_
 have hf11 : Sl Rep.u w (imm (Lg.O0 A)) v0_3 a0.Pos.Counts := (Sl.start hs0_3)
 have hf12 : Sl Rep.u w (imm (Lg.O0 A)) v0_5 a0.Neg.Counts := (Sl.start hs0_5)
 refine (show WC _ _ _ _ [(0, Value.agg (List.toArray [vi a0.Scale, vu a0.Zero, vi a0.Pos.Offset, v0_3, vi a0.Neg.Offset, v0_5]))] _ from ?_)
 refine WC.seq ?_
 refine WC.region ?_
 have hh16 := h
 obtain ⟨p13, m14, c15, rfl⟩ := hf11.shape
 have h := hh16
 have hh20 := h
 obtain ⟨p17, m18, c19, rfl⟩ := hf12.shape
 have h := hh20
 refine WL.box (O := (Lg.O0 A)) 11 [vi a0.Scale, vu a0.Zero, vi a0.Pos.Offset, (Value.slice p13 m14 c15), vi a0.Neg.Offset, (Value.slice p17 m18 c19)] rfl rfl rfl ?_
 intro p22 O23 wd24 hst25 hb21
 refine WL.alloc (O := O23) 12 [vi 0, vu 0, vi 0, Value.slice none 0 0, vi 0, Value.slice none 0 0] ty27 rfl rfl ?_
 intro p27 O28 wd29 hst30 hb26
 refine WL.nil ?_
 refine At.then ?_
 refine WC.seq ?_
 refine WC.drawH [] [0, 1, 2, 3, 4, 5, 6, 7, 8, 9] O28 14 fmix rfl (by kernel_rfl) ?_
 intro wd31 hst32
 refine WD.y 0 rfl (by kernel_rfl) (fun _ _ _ => Y.fieldAddr fo27_2 rfl) rfl ?_
 refine WD.y 1 rfl (by kernel_rfl) (fun _ _ _ => Y.fieldAddr fo25_1 rfl) rfl ?_
 refine WD.y 2 rfl (by kernel_rfl) (fun wd40 O39 hst41 => have hf42 := hb21.st hst30 rfl; have hf43 := hf42.st hst32 rfl; have hf44 := hf43.st hst41 rfl; Y.loadSc ty23 rfl rfl (hf44.cell 3 _ rfl)) rfl ?_
 refine WD.y 4 rfl (by kernel_rfl) (fun _ _ _ => Y.fieldAddr fo27_3 rfl) rfl ?_
 refine WD.y 5 rfl (by kernel_rfl) (fun _ _ _ => Y.fieldAddr fo25_1 rfl) rfl ?_
 refine WD.y 6 rfl (by kernel_rfl) (fun wd52 O51 hst53 => have hf54 := hb21.st hst30 rfl; have hf55 := hf54.st hst32 rfl; have hf56 := hf55.st hst53 rfl; Y.loadSc ty23 rfl rfl (hf56.cell 5 _ rfl)) rfl ?_
 refine WD.heavy 3 rfl (by kernel_rfl) ?_
 have hf57 := hf11.mono (imm_st hst25 rfl rfl)
 have hf58 := hf57.mono (imm_st hst30 rfl rfl)
 have hf59 := hf58.mono (imm_st hst32 rfl rfl)
 obtain ⟨r60, hp61, h⟩ := bnd h
 refine WL.call (vals := [(Value.slice p13 m14 c15)]) kok65 rfl rfl (c_slices_Clone_uint64_uint64 (A := fun _ => True) (Sl.all hf59) hp61) ?_
 rintro vr66 wd65 ⟨_, rfl, hm64, f63⟩
 obtain ⟨O67, hold68, hnew69, hst70⟩ := adoptE O28 (fun k => if Value.ownBlock vr66 = some k then 13 else 1) hm64
 have hf71 : OwnSl 13 Rep.u 22 O67 wd65 vr66 r60 := RowF.adopt 13 Flat.u f63 hnew69 (fun k hk => if_pos hk)
 refine WL.nil ?_
 refine At.dq (Stp.up hst70 rfl) ?_
 refine WD.y 8 rfl (by kernel_rfl) (fun _ _ _ => Y.fieldAddr fo27_2 rfl) rfl ?_
 refine WD.y 9 rfl (by kernel_rfl) (fun _ _ _ => Y.fieldAddr fo25_1 rfl) rfl ?_
 refine WD.heavy 7 rfl (by kernel_rfl) ?_
 have hf78 := hf12.mono (imm_st hst25 rfl rfl)
 have hf79 := hf78.mono (imm_st hst30 rfl rfl)
 have hf80 := hf79.mono (imm_st hst32 rfl rfl)
 have hf81 := hf80.mono (imm_st hst70 rfl rfl)
 obtain ⟨r82, hp83, h⟩ := bnd h
 refine WL.call (vals := [(Value.slice p17 m18 c19)]) kok65 rfl rfl (c_slices_Clone_uint64_uint64 (A := fun _ => True) (Sl.all hf81) hp83) ?_
 rintro vr88 wd87 ⟨_, rfl, hm86, f85⟩
 obtain ⟨O89, hold90, hnew91, hst92⟩ := adoptE O67 (fun k => if Value.ownBlock vr88 = some k then 14 else 1) hm86
 have hf93 : OwnSl 14 Rep.u 22 O89 wd87 vr88 r82 := RowF.adopt 14 Flat.u f85 hnew91 (fun k hk => if_pos hk)
 refine WL.nil ?_
 refine At.dq (Stp.up hst92 rfl) ?_
 refine WD.phase [11] [0, 1, 2, 3, 4, 5, 6, 7, 8, 9, 10, 11, 12] (by kernel_rfl) (by kernel_rfl) ?_
 refine WD.heavy 10 rfl (by kernel_rfl) ?_
 have hf94 := hf71.st hst92 rfl rfl rfl
 have hh98 := h
 obtain ⟨p95, m96, c97, rfl⟩ := hf94.shape
 have h := hh98
 have hf99 := hb21.st hst30 rfl
 have hf100 := hf99.st hst32 rfl
 have hf101 := hf100.st hst70 rfl
 have hf102 := hf101.st hst92 rfl
 refine WL.store (v := (Value.slice p95 m96 c97)) (cells' := [vi a0.Scale, vu a0.Zero, vi a0.Pos.Offset, (Value.slice p95 m96 c97), vi a0.Neg.Offset, (Value.slice p17 m18 c19)]) ty23 rfl rfl hf102 rfl (Nat.le_of_ble_eq_true rfl) rfl rfl ?_
 intro wd103 hst104 hb105
 refine WL.nil ?_
 refine At.dq (Stp.up hst104 rfl) ?_
 refine WD.y 11 rfl (by kernel_rfl) (fun _ _ _ => Y.fieldAddr fo27_3 rfl) rfl ?_
 refine WD.y 12 rfl (by kernel_rfl) (fun _ _ _ => Y.fieldAddr fo25_1 rfl) rfl ?_
 refine WD.phase [11] [0, 1, 2, 3, 4, 5, 6, 7, 8, 9, 10, 11, 12, 13] (by kernel_rfl) (by kernel_rfl) ?_
 refine WD.heavy 13 rfl (by kernel_rfl) ?_
 have hf112 := hf93.st hst104 rfl rfl rfl
 have hh116 := h
 obtain ⟨p113, m114, c115, rfl⟩ := hf112.shape
 have h := hh116
 refine WL.store (v := (Value.slice p113 m114 c115)) (cells' := [vi a0.Scale, vu a0.Zero, vi a0.Pos.Offset, (Value.slice p95 m96 c97), vi a0.Neg.Offset, (Value.slice p113 m114 c115)]) ty23 rfl rfl hb105 rfl (Nat.le_of_ble_eq_true rfl) rfl rfl ?_
 intro wd117 hst118 hb119
 refine WL.nil ?_
 refine At.dq (Stp.up hst118 rfl) ?_
 refine WD.done_ (by kernel_rfl) ?_
 refine At.then ?_
 refine WC.seq ?_
 refine WC.region ?_
 refine WL.y (Y.loadAg ty27 rfl rfl (hb119.cells 0 [vi a0.Scale, vu a0.Zero, vi a0.Pos.Offset, (Value.slice p95 m96 c97), vi a0.Neg.Offset, (Value.slice p113 m114 c115)] rfl) rfl) rfl ?_
 have hf120 := hb26.st hst32 rfl
 have hf121 := hf120.st hst70 rfl
 have hf122 := hf121.st hst92 rfl
 have hf123 := hf122.st hst104 rfl
 have hf124 := hf123.st hst118 rfl
 refine WL.store (v := Value.agg (List.toArray [vi a0.Scale, vu a0.Zero, vi a0.Pos.Offset, (Value.slice p95 m96 c97), vi a0.Neg.Offset, (Value.slice p113 m114 c115)])) (cells' := [vi a0.Scale, vu a0.Zero, vi a0.Pos.Offset, (Value.slice p95 m96 c97), vi a0.Neg.Offset, (Value.slice p113 m114 c115)]) ty27 rfl rfl hf124 rfl (Nat.le_of_ble_eq_true rfl) rfl rfl ?_
 intro wd125 hst126 hb127
 refine WL.nil ?_
 refine At.then ?_
 refine WC.ret ?_
 obtain rfl := some1 h
 have hs128 : Stp [11, 12] (Lg.O0 A) w O89 wd125 := (Stp.trans (Stp.up hst25 rfl) (Stp.trans (Stp.up hst30 rfl) (Stp.trans (Stp.up hst32 rfl) (Stp.trans (Stp.up hst70 rfl) (Stp.trans (Stp.up hst92 rfl) (Stp.trans (Stp.up hst104 rfl) (Stp.trans (Stp.up hst118 rfl) (Stp.up hst126 rfl))))))))
 have hf129 := hf94.st hst104 rfl rfl rfl
 have hf130 := hf129.st hst118 rfl rfl rfl
 have hf131 := hf130.st hst126 rfl rfl rfl
 have hf132 := hf112.st hst118 rfl rfl rfl
 have hf133 := hf132.st hst126 rfl rfl rfl
 exact At.res (.inl rfl) rfl (.cell rfl (hb127.runAg 0 [vi a0.Scale, vu a0.Zero, vi a0.Pos.Offset, (Value.slice p95 m96 c97), vi a0.Neg.Offset, (Value.slice p113 m114 c115)] ty27 rfl rfl rfl) .nil) ⟨(Value.slice p95 m96 c97), (Value.slice p113 m114 c115), rfl, (Stp.ext hs128 rfl rfl), (OwnSl.outF hf131 hs128 low0 rfl), (OwnSl.outF hf133 hs128 low0 rfl), (ne_own hf131 hf133 rfl)⟩
theorem c_fold_Sum {A : Nat → Prop} {a0 : List api_Hist} {v0 : Value} {w : World} (hs0 : Sl rep_api_Hist w A v0 a0) {r0 : api_Hist} {r1 : Int} (h : fold_Sum a0 = some (r0, r1)) : Rets Try.prog 46 [v0] w (fun v w' => ∃ (u0_3 : Value) (u0_5 : Value), v = Value.tuple (List.toArray [Value.agg (List.toArray [vi r0.Scale, vu r0.Zero, vi r0.Pos.Offset, u0_3, vi r0.Neg.Offset, u0_5]), vi r1]) ∧ Ext w w' ∧ RowF Rep.u 22 w w' u0_3 r0.Pos.Counts ∧ RowF Rep.u 22 w w' u0_5 r0.Neg.Counts ∧ (∀ k, Value.ownBlock u0_3 = some k → Value.ownBlock u0_5 ≠ some k)) := by
 unfold fold_Sum at h
 refine Rets.enter Try.func46 rfl rfl ?_
 have hf11 : Sl rep_api_Hist w (imm (Lg.O0 A)) v0 a0 := (Sl.start hs0)
 refine (show WC _ _ _ _ [(0, v0)] _ from ?_)
 refine WC.seq ?_
 refine WC.region ?_
 refine WL.alloc (O := (Lg.O0 A)) 11 [vi 0, vu 0, vi 0, Value.slice none 0 0, vi 0, Value.slice none 0 0] ty27 rfl rfl ?_
 intro p13 O14 wd15 hst16 hb12
 refine WL.y (Y.assign rfl) rfl ?_
 refine WL.nil ?_
 refine At.then ?_
 refine WC.seq ?_
 refine WC.region ?_
 refine WL.y (Y.build (vals := [(0, vi 20)]) (cells := [vi 20, vu 0, vi 0, Value.slice none 0 0, vi 0, Value.slice none 0 0]) (Fits.evalp rfl) (by kernel_rfl)) rfl ?_
 refine WL.alloc (O := O14) 12 [vi 0, vu 0, vi 0, Value.slice none 0 0, vi 0, Value.slice none 0 0] ty27 rfl rfl ?_
 intro p18 O19 wd20 hst21 hb17
 refine WL.store (v := Value.agg (List.toArray [vi 20, vu 0, vi 0, Value.slice none 0 0, vi 0, Value.slice none 0 0])) (cells' := [vi 20, vu 0, vi 0, Value.slice none 0 0, vi 0, Value.slice none 0 0]) ty27 rfl rfl hb17 rfl (Nat.le_of_ble_eq_true rfl) rfl rfl ?_
 intro wd22 hst23 hb24
 refine WL.nil ?_
 refine At.then ?_
 refine WC.seq ?_
 refine WC.seq ?_
 refine WC.region ?_
 refine WL.y (Y.move rfl) rfl ?_
 have hf25 := hf11.mono (imm_st hst16 rfl rfl)
 have hf26 := hf25.mono (imm_st hst21 rfl rfl)
 have hf27 := hf26.mono (imm_st hst23 rfl rfl)
 refine WL.y (Y.len ty45 rfl hf27) rfl ?_
 refine WL.y (Y.move rfl) rfl ?_
 refine WL.nil ?_
 refine At.then ?_
 refine WC.block ?_
 obtain ⟨p57, h, hk59⟩ := flow1 h
 obtain ⟨k58, h⟩ := loop_some h
 refine WC.joinB 0 (σ := (Int × UInt64 × Int × List UInt64 × Int × List UInt64 × Own × Value × Value)) (fun x w' => p57 = .go (x.1, x.2.1, x.2.2.1, x.2.2.2.1, x.2.2.2.2.1, x.2.2.2.2.2.1) ∧ Stp [12, 13, 14, 15, 1001, 1002] O19 wd22 x.2.2.2.2.2.2.1 w' ∧ OwnSl 1003 Rep.u 22 x.2.2.2.2.2.2.1 w' x.2.2.2.2.2.2.2.1 x.2.2.2.1 ∧ OwnSl 1004 Rep.u 22 x.2.2.2.2.2.2.1 w' x.2.2.2.2.2.2.2.2 x.2.2.2.2.2.1 ∧ Blk 12 x.2.2.2.2.2.2.1 w' p18 27 [vi x.1, vu x.2.1, vi x.2.2.1, x.2.2.2.2.2.2.2.1, vi x.2.2.2.2.1, x.2.2.2.2.2.2.2.2]) (fun x => [(2, Value.pointer (some ⟨p13, 0, none⟩)), (4, Value.pointer (some ⟨p18, 0, none⟩))]) ?_ ?_
 ·refine WC.loop (σ := (Int × UInt64 × Int × List UInt64 × Int × List UInt64 × Int × Own × Value × Value)) (fun x k w' => loopN k (fold_Sum_lp1 a0) (x.1, x.2.1, x.2.2.1, x.2.2.2.1, x.2.2.2.2.1, x.2.2.2.2.2.1, x.2.2.2.2.2.2.1) = some p57 ∧ Stp [12, 13, 14, 15] O19 wd22 x.2.2.2.2.2.2.2.1 w' ∧ OwnSl 1001 Rep.u 22 x.2.2.2.2.2.2.2.1 w' x.2.2.2.2.2.2.2.2.1 x.2.2.2.1 ∧ OwnSl 1002 Rep.u 22 x.2.2.2.2.2.2.2.1 w' x.2.2.2.2.2.2.2.2.2 x.2.2.2.2.2.1 ∧ Blk 12 x.2.2.2.2.2.2.2.1 w' p18 27 [vi x.1, vu x.2.1, vi x.2.2.1, x.2.2.2.2.2.2.2.2.1, vi x.2.2.2.2.1, x.2.2.2.2.2.2.2.2.2]) (fun x => [(2, Value.pointer (some ⟨p13, 0, none⟩)), (4, Value.pointer (some ⟨p18, 0, none⟩)), (9, v0), (10, vi (a0.length : Int)), (11, vi x.2.2.2.2.2.2.1)]) (20, 0, 0, [], 0, [], 0, O19, Value.slice none 0 0, Value.slice none 0 0) k58 (.cons rfl (.cons rfl (.cons rfl (.cons rfl (.cons rfl .nil))))) ⟨h, (Stp.refl _ _ _), (OwnSl.nil 1001 Rep.u 22), (OwnSl.nil 1002 Rep.u 22), hb24⟩ ?_
  rintro ⟨c29, c30, c31, c32, c35, c36, x39, O40, v33, v37⟩ k58 wd41 ⟨h, hst42, hf34, hf38, hb28⟩
  obtain ⟨j60, q61, rfl, h, hn62⟩ := rnd1 h
  unfold fold_Sum_lp1 at h
  try dsimp only at h hst42 hf34 hf38 hb28
  refine (show WC _ _ _ _ [(2, Value.pointer (some ⟨p13, 0, none⟩)), (4, Value.pointer (some ⟨p18, 0, none⟩)), (9, v0), (10, vi (a0.length : Int)), (11, vi x39)] _ from ?_)
  refine WC.seq ?_
  refine WC.region ?_
  refine WL.y (Y.lss_i rfl rfl) rfl ?_
  refine WL.nil ?_
  refine At.then ?_
  refine WC.seq ?_
  rcases cnd h with ⟨hc63, h⟩ | ⟨hc63, h⟩
  ·refine WC.condT' rfl hc63 ?_
   refine WC.skip ?_
   refine At.then ?_
   refine WC.seq ?_
   refine WC.block ?_
   refine WC.seq ?_
   refine WC.region ?_
   obtain ⟨e64, he64, h⟩ := bnd h
   have hf73 := hf27.mono (imm_st hst42 rfl rfl)
   obtain ⟨b65, off78, cap72, cs71, hv66, hi67, hl68, hc69, hok70, hA79⟩ := Sl.at2 hf73 he64
   obtain ⟨_, _, rfl, rfl, ⟨_, _, rfl, rfl, ⟨_, _, rfl, ⟨_, _, rfl, rfl, ⟨v74, rfl, hf75⟩⟩, ⟨_, _, rfl, rfl, ⟨v76, rfl, hf77⟩⟩⟩⟩⟩ := hok70
   replace hc69 : CellsAt _ _ _ [vi e64.Scale, vu e64.Zero, vi e64.Pos.Offset, v74, vi e64.Neg.Offset, v76] := hc69
   have hca80 := CAt.imm hc69 hA79
   refine WL.y (Y.indexAddr ty45 ty27 rfl hv66 rfl hi67 hl68) rfl ?_
   refine WL.y (Y.loadAg ty27 rfl rfl hca80.at_ rfl) rfl ?_
   refine WL.alloc (O := O40) 13 [vi 0, vu 0, vi 0, Value.slice none 0 0, vi 0, Value.slice none 0 0] ty27 rfl rfl ?_
   intro p82 O83 wd84 hst85 hb81
   have hf86 := hf75.mono (imm_st hst85 rfl rfl)
   have hh90 := h
   obtain ⟨p87, m88, c89, rfl⟩ := hf86.shape
   have h := hh90
   have hf91 := hf77.mono (imm_st hst85 rfl rfl)
   have hh95 := h
   obtain ⟨p92, m93, c94, rfl⟩ := hf91.shape
   have h := hh95
   refine WL.store (v := Value.agg (List.toArray [vi e64.Scale, vu e64.Zero, vi e64.Pos.Offset, (Value.slice p87 m88 c89), vi e64.Neg.Offset, (Value.slice p92 m93 c94)])) (cells' := [vi e64.Scale, vu e64.Zero, vi e64.Pos.Offset, (Value.slice p87 m88 c89), vi e64.Neg.Offset, (Value.slice p92 m93 c94)]) ty27 rfl rfl hb81 rfl (Nat.le_of_ble_eq_true rfl) rfl rfl ?_
   intro wd96 hst97 hb98
   refine WL.nil ?_
   refine At.then ?_
   refine WC.seq ?_
   refine WC.region ?_
   refine WL.y (Y.assign rfl) rfl ?_
   refine WL.nil ?_
   refine At.then ?_
   refine WC.seq ?_
   refine WC.region ?_
   have hf99 := hb28.st hst85 rfl
   have hf100 := hf99.st hst97 rfl
   refine WL.y (Y.loadAg ty27 rfl rfl (hf100.cells 0 [vi c29, vu c30, vi c31, v33, vi c35, v37] rfl) rfl) rfl ?_
   refine WL.y (Y.loadAg ty27 rfl rfl (hb98.cells 0 [vi e64.Scale, vu e64.Zero, vi e64.Pos.Offset, (Value.slice p87 m88 c89), vi e64.Neg.Offset, (Value.slice p92 m93 c94)] rfl) rfl) rfl ?_
   have hf101 := hf34.st hst85 rfl rfl rfl
   have hf102 := hf101.st hst97 rfl rfl rfl
   have hf103 := hf38.st hst85 rfl rfl rfl
   have hf104 := hf103.st hst97 rfl rfl rfl
   have hf105 := hf86.mono (imm_st hst97 rfl rfl)
   have hf106 := hf91.mono (imm_st hst97 rfl rfl)
   obtain ⟨⟨r107, r108⟩, hp109, h⟩ := bnd h
   refine WL.call (vals := [Value.agg (List.toArray [vi c29, vu c30, vi c31, v33, vi c35, v37]), Value.agg (List.toArray [vi e64.Scale, vu e64.Zero, vi e64.Pos.Offset, (Value.slice p87 m88 c89), vi e64.Neg.Offset, (Value.slice p92 m93 c94)])]) kok40 rfl rfl (c_fold_Merge (A := fun _ => True) (a0 := (api_Hist.mk c29 c30 (api_Side.mk c31 c32) (api_Side.mk c35 c36))) (a1 := e64) (hf102.src.sl) (hf104.src.sl) (Sl.all hf105) (Sl.all hf106) hp109) ?_
   rintro vr117 wd116 ⟨u110, u111, rfl, hm115, f112, f113, f114⟩
   obtain ⟨O118, hold119, hnew120, hst121⟩ := adoptE O83 (fun k => if Value.ownBlock u110 = some k then 14 else if Value.ownBlock u111 = some k then 15 else 1) hm115
   have hf122 : OwnSl 14 Rep.u 22 O118 wd116 u110 r107.Pos.Counts := RowF.adopt 14 Flat.u f112 hnew120 (fun k hk => if_pos hk)
   have hf123 : OwnSl 15 Rep.u 22 O118 wd116 u111 r107.Neg.Counts := RowF.adopt 15 Flat.u f113 hnew120 (fun k hk => (if_neg (fun (e : Value.ownBlock u110 = some k) => f114 k e hk)).trans (if_pos hk))
   refine WL.y (Y.move rfl) rfl ?_
   refine WL.y (Y.extract rfl rfl) rfl ?_
   refine WL.y (Y.extract rfl rfl) rfl ?_
   have hh127 := h
   obtain ⟨p124, m125, c126, rfl⟩ := hf122.shape
   have h := hh127
   have hh131 := h
   obtain ⟨p128, m129, c130, rfl⟩ := hf123.shape
   have h := hh131
   have hf132 := hf100.st hst121 rfl
   refine WL.store (v := Value.agg (List.toArray [vi r107.Scale, vu r107.Zero, vi r107.Pos.Offset, (Value.slice p124 m125 c126), vi r107.Neg.Offset, (Value.slice p128 m129 c130)])) (cells' := [vi r107.Scale, vu r107.Zero, vi r107.Pos.Offset, (Value.slice p124 m125 c126), vi r107.Neg.Offset, (Value.slice p128 m129 c130)]) ty27 rfl rfl hf132 rfl (Nat.le_of_ble_eq_true rfl) rfl rfl ?_
   intro wd133 hst134 hb135
   refine WL.y (Y.assign rfl) rfl ?_
   refine WL.nil ?_
   refine At.then ?_
   refine WC.seq ?_
   refine WC.region ?_
   refine WL.y (Y.move rfl) rfl ?_
   refine WL.y (Y.neq_i rfl rfl) rfl ?_
   refine WL.nil ?_
   refine At.then ?_
   rcases cnd h with ⟨hc136, h⟩ | ⟨hc136, h⟩
   ·refine WC.condT' rfl hc136 ?_
    refine WC.seq ?_
    refine WC.region ?_
    refine WL.y (Y.build (vals := []) (cells := [vi 0, vu 0, vi 0, Value.slice none 0 0, vi 0, Value.slice none 0 0]) (Fits.evalp rfl) (by kernel_rfl)) rfl ?_
    refine WL.y (Y.move rfl) rfl ?_
    have hf137 := hb12.st hst21 rfl
    have hf138 := hf137.st hst23 rfl
    have hf139 := hf138.st hst42 rfl
    have hf140 := hf139.st hst85 rfl
    have hf141 := hf140.st hst97 rfl
    have hf142 := hf141.st hst121 rfl
    have hf143 := hf142.st hst134 rfl
    refine WL.store (v := Value.agg (List.toArray [vi 0, vu 0, vi 0, Value.slice none 0 0, vi 0, Value.slice none 0 0])) (cells' := [vi 0, vu 0, vi 0, Value.slice none 0 0, vi 0, Value.slice none 0 0]) ty27 rfl rfl hf143 rfl (Nat.le_of_ble_eq_true rfl) rfl rfl ?_
    intro wd144 hst145 hb146
    refine WL.y (Y.assign rfl) rfl ?_
    refine WL.nil ?_
    refine At.then ?_
    refine WC.ret ?_
    refine At.inBlockR ?_
    refine At.thenR ?_
    refine At.loopR ?_
    have h := outr1 h hn62 hk59
    refine At.joinBR ?_
    refine At.inBlockR ?_
    refine At.thenR ?_
    obtain ⟨rfl, rfl⟩ := tup2 h
    have hs147 : Stp [11, 12, 13, 14, 15] (Lg.O0 A) w O118 wd144 := (Stp.trans (Stp.up hst16 rfl) (Stp.trans (Stp.up hst21 rfl) (Stp.trans (Stp.up hst23 rfl) (Stp.trans (Stp.up hst42 rfl) (Stp.trans (Stp.up hst85 rfl) (Stp.trans (Stp.up hst97 rfl) (Stp.trans (Stp.up hst121 rfl) (Stp.trans (Stp.up hst134 rfl) (Stp.up hst145 rfl)))))))))
    exact At.res (.inl rfl) rfl (.cell rfl (hb146.runAg 0 [vi 0, vu 0, vi 0, Value.slice none 0 0, vi 0, Value.slice none 0 0] ty27 rfl rfl rfl) (.tmp rfl .nil)) ⟨Value.slice none 0 0, Value.slice none 0 0, rfl, (Stp.ext hs147 rfl rfl), RowF.nil, RowF.nil, (fun _ e => absurd e not_nil)⟩
   ·refine WC.condF' rfl hc136 ?_
    refine WC.skip ?_
    refine At.inBlock ?_
    refine At.then ?_
    refine WC.region ?_
    refine WL.y (Y.add_i rfl rfl) rfl ?_
    refine WL.y (Y.move rfl) rfl ?_
    refine WL.nil ?_
    have hf148 := hf122.st hst134 rfl rfl rfl
    obtain ⟨O149, hst150, ho151⟩ := OwnSl.rlb 1001 rfl hf148
    have hf152 := hf123.st hst134 rfl rfl rfl
    have hf153 := hf152.st hst150 rfl rfl rfl
    obtain ⟨O154, hst155, ho156⟩ := OwnSl.rlb 1002 rfl hf153
    have hf157 := ho151.st hst155 rfl rfl rfl
    have hf158 := hb135.st hst150 rfl
    have hf159 := hf158.st hst155 rfl
    exact At.round (r107.Scale, r107.Zero, r107.Pos.Offset, r107.Pos.Counts, r107.Neg.Offset, r107.Neg.Counts, w64 (x39 + 1), O154, (Value.slice p124 m125 c126), (Value.slice p128 m129 c130)) j60 (Nat.lt_succ_self _) ⟨next1 h hn62, (Stp.trans (Stp.up hst42 rfl) (Stp.trans (Stp.up hst85 rfl) (Stp.trans (Stp.up hst97 rfl) (Stp.trans (Stp.up hst121 rfl) (Stp.trans (Stp.up hst134 rfl) (Stp.trans (Stp.up hst150 rfl) (Stp.up hst155 rfl))))))), hf157, ho156, hf159⟩ (.cons rfl (.cons rfl (.cons rfl (.cons rfl (.cons rfl .nil)))))
  ·refine WC.condF' rfl hc63 ?_
   refine WC.exit ?_
   refine At.thenX ?_
   refine At.loopX ?_
   obtain ⟨O160, hst161, ho162⟩ := OwnSl.rlb 1003 rfl hf34
   have hf163 := hf38.st hst161 rfl rfl rfl
   obtain ⟨O164, hst165, ho166⟩ := OwnSl.rlb 1004 rfl hf163
   have hf167 := ho162.st hst165 rfl rfl rfl
   have hf168 := hb28.st hst161 rfl
   have hf169 := hf168.st hst165 rfl
   exact At.hitB (σ := (Int × UInt64 × Int × List UInt64 × Int × List UInt64 × Own × Value × Value)) (c29, c30, c31, c32, c35, c36, O164, v33, v37) ⟨brk1 h hn62, (Stp.trans (Stp.up hst42 rfl) (Stp.trans (Stp.up hst161 rfl) (Stp.up hst165 rfl))), hf167, ho166, hf169⟩ (.cons rfl (.cons rfl .nil))
 ·rintro ⟨c44, c45, c46, c47, c50, c51, O54, v48, v52⟩ wd55 ⟨rfl, hst56, hf49, hf53, hb43⟩
  replace h := flowK_go hk59
  try dsimp only at h hst56 hf49 hf53 hb43
  refine (show At _ _ _ [(2, Value.pointer (some ⟨p13, 0, none⟩)), (4, Value.pointer (some ⟨p18, 0, none⟩))] _ from ?_)
  refine At.inBlockHit ?_
  refine At.then ?_
  refine WC.seq ?_
  refine WC.region ?_
  refine WL.y (Y.loadAg ty27 rfl rfl (hb43.cells 0 [vi c44, vu c45, vi c46, v48, vi c50, v52] rfl) rfl) rfl ?_
  have hh173 := h
  obtain ⟨p170, m171, c172, rfl⟩ := hf49.shape
  have h := hh173
  have hh177 := h
  obtain ⟨p174, m175, c176, rfl⟩ := hf53.shape
  have h := hh177
  have hf178 := hb12.st hst21 rfl
  have hf179 := hf178.st hst23 rfl
  have hf180 := hf179.st hst56 rfl
  refine WL.store (v := Value.agg (List.toArray [vi c44, vu c45, vi c46, (Value.slice p170 m171 c172), vi c50, (Value.slice p174 m175 c176)])) (cells' := [vi c44, vu c45, vi c46, (Value.slice p170 m171 c172), vi c50, (Value.slice p174 m175 c176)]) ty27 rfl rfl hf180 rfl (Nat.le_of_ble_eq_true rfl) rfl rfl ?_
  intro wd181 hst182 hb183
  refine WL.y (Y.assign rfl) rfl ?_
  refine WL.nil ?_
  refine At.then ?_
  refine WC.ret ?_
  obtain ⟨rfl, rfl⟩ := tup2 h
  have hs184 : Stp [11, 12, 13, 14, 15, 1001, 1002] (Lg.O0 A) w O54 wd181 := (Stp.trans (Stp.up hst16 rfl) (Stp.trans (Stp.up hst21 rfl) (Stp.trans (Stp.up hst23 rfl) (Stp.trans (Stp.up hst56 rfl) (Stp.up hst182 rfl)))))
  have hf185 := hf49.st hst182 rfl rfl rfl
  have hf186 := hf53.st hst182 rfl rfl rfl
  exact At.res (.inl rfl) rfl (.cell rfl (hb183.runAg 0 [vi c44, vu c45, vi c46, (Value.slice p170 m171 c172), vi c50, (Value.slice p174 m175 c176)] ty27 rfl rfl rfl) (.tmp rfl .nil)) ⟨(Value.slice p170 m171 c172), (Value.slice p174 m175 c176), rfl, (Stp.ext hs184 rfl rfl), (OwnSl.outF hf185 hs184 low0 rfl), (OwnSl.outF hf186 hs184 low0 rfl), (ne_own hf185 hf186 rfl)⟩
end Go.Lg
