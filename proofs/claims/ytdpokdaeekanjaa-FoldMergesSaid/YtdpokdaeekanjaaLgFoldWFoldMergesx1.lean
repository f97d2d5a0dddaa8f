/- The walks of FoldMerges and of what it calls, printed by gen.py. -/
import Derived.Test.YtdpokdaeekanjaaLgFoldWFoldMergesx0
set_option linter.unusedVariables false
namespace Go.Lg
open Go Go.Proofs
set_option maxRecDepth 100000
theorem c_fold_Sub {A : Nat → Prop} {v0_3 : Value} {v0_5 : Value} {a0 : api_Hist} {v1_3 : Value} {v1_5 : Value} {a1 : api_Hist} {w : World} (hs0_3 : Sl Rep.u w A v0_3 a0.Pos.Counts) (hs0_5 : Sl Rep.u w A v0_5 a0.Neg.Counts) (hs1_3 : Sl Rep.u w A v1_3 a1.Pos.Counts) (hs1_5 : Sl Rep.u w A v1_5 a1.Neg.Counts) {r0 : api_Hist} {r1 : Int} (h : fold_Sub a0 a1 = some (r0, r1)) : Rets Try.prog 42 [.agg [vi a0.Scale, vu a0.Zero, vi a0.Pos.Offset, v0_3, vi a0.Neg.Offset, v0_5].toArray, .agg [vi a1.Scale, vu a1.Zero, vi a1.Pos.Offset, v1_3, vi a1.Neg.Offset, v1_5].toArray] w (fun v w' => ∃ (u0_3 : Value) (u0_5 : Value), v = .tuple (List.toArray [.agg (List.toArray [vi r0.Scale, vu r0.Zero, vi r0.Pos.Offset, u0_3, vi r0.Neg.Offset, u0_5]), vi r1]) ∧ Ext w w' ∧ Sl Rep.u w' (fun k => w.heap.size ≤ k) u0_3 r0.Pos.Counts ∧ Sl Rep.u w' (fun k => w.heap.size ≤ k) u0_5 r0.Neg.Counts) := by
  unfold fold_Sub at h
  refine Rets.enter Try.func42 rfl rfl ?_
  have hf11 : Sl Rep.u w (imm (Lg.O0 A)) v0_3 a0.Pos.Counts := (Sl.start hs0_3)
  have hf12 : Sl Rep.u w (imm (Lg.O0 A)) v0_5 a0.Neg.Counts := (Sl.start hs0_5)
  have hf13 : Sl Rep.u w (imm (Lg.O0 A)) v1_3 a1.Pos.Counts := (Sl.start hs1_3)
  have hf14 : Sl Rep.u w (imm (Lg.O0 A)) v1_5 a1.Neg.Counts := (Sl.start hs1_5)
  refine (show WC _ _ _ _ [(0, .agg [vi a0.Scale, vu a0.Zero, vi a0.Pos.Offset, v0_3, vi a0.Neg.Offset, v0_5].toArray), (1, .agg [vi a1.Scale, vu a1.Zero, vi a1.Pos.Offset, v1_3, vi a1.Neg.Offset, v1_5].toArray)] _ from ?_)
  refine WC.seq ?_
  refine WC.region ?_
  have hh18 := h
  obtain ⟨p15, m16, c17, rfl⟩ := hf11.shape
  have h := hh18
  have hh22 := h
  obtain ⟨p19, m20, c21, rfl⟩ := hf12.shape
  have h := hh22
  refine WL.box (O := (Lg.O0 A)) 11 [vi a0.Scale, vu a0.Zero, vi a0.Pos.Offset, (.slice p15 m16 c17), vi a0.Neg.Offset, (.slice p19 m20 c21)] rfl rfl rfl ?_
  intro p24 O25 wd26 hst27 hb23
  have hf28 := hf13.mono (imm_st hst27 rfl rfl)
  have hh32 := h
  obtain ⟨p29, m30, c31, rfl⟩ := hf28.shape
  have h := hh32
  have hf33 := hf14.mono (imm_st hst27 rfl rfl)
  have hh37 := h
  obtain ⟨p34, m35, c36, rfl⟩ := hf33.shape
  have h := hh37
  refine WL.box (O := O25) 12 [vi a1.Scale, vu a1.Zero, vi a1.Pos.Offset, (.slice p29 m30 c31), vi a1.Neg.Offset, (.slice p34 m35 c36)] rfl rfl rfl ?_
  intro p39 O40 wd41 hst42 hb38
  refine WL.alloc (O := O40) 13 [vi 0, vu 0, vi 0, .slice none 0 0, vi 0, .slice none 0 0] ty27 rfl rfl ?_
  intro p44 O45 wd46 hst47 hb43
  refine WL.y (Y.assign rfl) rfl ?_
  refine WL.nil ?_
  refine At.then ?_
  refine WC.seq ?_
  refine WC.region ?_
  have hf48 := hb23.st hst42 rfl
  have hf49 := hf48.st hst47 rfl
  refine WL.y (Y.loadAg ty27 rfl rfl (hf49.cells 0 [vi a0.Scale, vu a0.Zero, vi a0.Pos.Offset, (.slice p15 m16 c17), vi a0.Neg.Offset, (.slice p19 m20 c21)] rfl) rfl) rfl ?_
  have hf50 := hb38.st hst47 rfl
  refine WL.y (Y.loadAg ty27 rfl rfl (hf50.cells 0 [vi a1.Scale, vu a1.Zero, vi a1.Pos.Offset, (.slice p29 m30 c31), vi a1.Neg.Offset, (.slice p34 m35 c36)] rfl) rfl) rfl ?_
  have hf51 := hf11.mono (imm_st hst27 rfl rfl)
  have hf52 := hf51.mono (imm_st hst42 rfl rfl)
  have hf53 := hf52.mono (imm_st hst47 rfl rfl)
  have hf54 := hf12.mono (imm_st hst27 rfl rfl)
  have hf55 := hf54.mono (imm_st hst42 rfl rfl)
  have hf56 := hf55.mono (imm_st hst47 rfl rfl)
  have hf57 := hf28.mono (imm_st hst42 rfl rfl)
  have hf58 := hf57.mono (imm_st hst47 rfl rfl)
  have hf59 := hf33.mono (imm_st hst42 rfl rfl)
  have hf60 := hf59.mono (imm_st hst47 rfl rfl)
  obtain ⟨⟨r61, r62, r63⟩, hp64, h⟩ := bnd h
  refine WL.call (vals := [.agg [vi a0.Scale, vu a0.Zero, vi a0.Pos.Offset, (.slice p15 m16 c17), vi a0.Neg.Offset, (.slice p19 m20 c21)].toArray, .agg [vi a1.Scale, vu a1.Zero, vi a1.Pos.Offset, (.slice p29 m30 c31), vi a1.Neg.Offset, (.slice p34 m35 c36)].toArray]) kok38 rfl rfl (c_fold_Level (A := fun _ => True) (a0 := a0) (a1 := a1) (Sl.all hf53) (Sl.all hf56) (Sl.all hf58) (Sl.all hf60) hp64) ?_
  rintro vr75 wd74 ⟨u65, u66, u67, u68, rfl, hm73, f69, f70, f71, f72⟩
  obtain ⟨O76, hold77, hnew78, hst79⟩ := adoptE O45 (fun k => 1) hm73
  have hf80 : Sl Rep.u wd74 (frs O76) u65 r61.Pos.Counts := Sl.adoptF f69 (fun k hk => ⟨hk, rfl⟩) hnew78
  have hf81 : Sl Rep.u wd74 (frs O76) u66 r61.Neg.Counts := Sl.adoptF f70 (fun k hk => ⟨hk, rfl⟩) hnew78
  have hf82 : Sl Rep.u wd74 (frs O76) u67 r62.Pos.Counts := Sl.adoptF f71 (fun k hk => ⟨hk, rfl⟩) hnew78
  have hf83 : Sl Rep.u wd74 (frs O76) u68 r62.Neg.Counts := Sl.adoptF f72 (fun k hk => ⟨hk, rfl⟩) hnew78
  refine WL.y (Y.move rfl) rfl ?_
  refine WL.y (Y.extract rfl rfl) rfl ?_
  refine WL.y (Y.extract rfl rfl) rfl ?_
  refine WL.y (Y.extract rfl rfl) rfl ?_
  refine WL.alloc (O := O76) 14 [vi 0, vu 0, vi 0, .slice none 0 0, vi 0, .slice none 0 0] ty27 rfl rfl ?_
  intro p85 O86 wd87 hst88 hb84
  refine WL.alloc (O := O86) 15 [vi 0, vu 0, vi 0, .slice none 0 0, vi 0, .slice none 0 0] ty27 rfl rfl ?_
  intro p90 O91 wd92 hst93 hb89
  have hf94 := hf80.mono (frs_st hst88 rfl)
  have hf95 := hf94.mono (frs_st hst93 rfl)
  have hh99 := h
  obtain ⟨p96, m97, c98, rfl⟩ := hf95.shape
  have h := hh99
  have hf100 := hf81.mono (frs_st hst88 rfl)
  have hf101 := hf100.mono (frs_st hst93 rfl)
  have hh105 := h
  obtain ⟨p102, m103, c104, rfl⟩ := hf101.shape
  have h := hh105
  have hf106 := hb84.st hst93 rfl
  refine WL.store (v := .agg [vi r61.Scale, vu r61.Zero, vi r61.Pos.Offset, (.slice p96 m97 c98), vi r61.Neg.Offset, (.slice p102 m103 c104)].toArray) (cells' := [vi r61.Scale, vu r61.Zero, vi r61.Pos.Offset, (.slice p96 m97 c98), vi r61.Neg.Offset, (.slice p102 m103 c104)]) ty27 rfl rfl hf106 rfl (Nat.le_of_ble_eq_true rfl) rfl rfl ?_
  intro wd107 hst108 hb109
  have hf110 := hf82.mono (frs_st hst88 rfl)
  have hf111 := hf110.mono (frs_st hst93 rfl)
  have hf112 := hf111.mono (frs_st hst108 rfl)
  have hh116 := h
  obtain ⟨p113, m114, c115, rfl⟩ := hf112.shape
  have h := hh116
  have hf117 := hf83.mono (frs_st hst88 rfl)
  have hf118 := hf117.mono (frs_st hst93 rfl)
  have hf119 := hf118.mono (frs_st hst108 rfl)
  have hh123 := h
  obtain ⟨p120, m121, c122, rfl⟩ := hf119.shape
  have h := hh123
  have hf124 := hb89.st hst108 rfl
  refine WL.store (v := .agg [vi r62.Scale, vu r62.Zero, vi r62.Pos.Offset, (.slice p113 m114 c115), vi r62.Neg.Offset, (.slice p120 m121 c122)].toArray) (cells' := [vi r62.Scale, vu r62.Zero, vi r62.Pos.Offset, (.slice p113 m114 c115), vi r62.Neg.Offset, (.slice p120 m121 c122)]) ty27 rfl rfl hf124 rfl (Nat.le_of_ble_eq_true rfl) rfl rfl ?_
  intro wd125 hst126 hb127
  refine WL.y (Y.assign rfl) rfl ?_
  refine WL.nil ?_
  refine At.then ?_
  refine WC.seq ?_
  refine WC.seq ?_
  refine WC.region ?_
  refine WL.y (Y.move rfl) rfl ?_
  refine WL.y (Y.neq_i rfl rfl) rfl ?_
  refine WL.nil ?_
  refine At.then ?_
  rcases cnd h with ⟨hc128, h⟩ | ⟨hc128, h⟩
  · refine WC.condT' rfl hc128 ?_
    refine WC.seq ?_
    refine WC.region ?_
    refine WL.y (Y.build (vals := []) (cells := [vi 0, vu 0, vi 0, .slice none 0 0, vi 0, .slice none 0 0]) (Fits.evalp rfl) (by kernel_rfl)) rfl ?_
    refine WL.y (Y.move rfl) rfl ?_
    have hf129 := hb43.st hst79 rfl
    have hf130 := hf129.st hst88 rfl
    have hf131 := hf130.st hst93 rfl
    have hf132 := hf131.st hst108 rfl
    have hf133 := hf132.st hst126 rfl
    refine WL.store (v := .agg [vi 0, vu 0, vi 0, .slice none 0 0, vi 0, .slice none 0 0].toArray) (cells' := [vi 0, vu 0, vi 0, .slice none 0 0, vi 0, .slice none 0 0]) ty27 rfl rfl hf133 rfl (Nat.le_of_ble_eq_true rfl) rfl rfl ?_
    intro wd134 hst135 hb136
    refine WL.y (Y.assign rfl) rfl ?_
    refine WL.nil ?_
    refine At.then ?_
    refine WC.ret ?_
    refine At.thenR ?_
    obtain ⟨rfl, rfl⟩ := tup2 h
    have hs137 : Stp [13, 14, 15] (Lg.O0 A) w O91 wd134 := (Stp.trans (Stp.up hst27 rfl) (Stp.trans (Stp.up hst42 rfl) (Stp.trans (Stp.up hst47 rfl) (Stp.trans (Stp.up hst79 rfl) (Stp.trans (Stp.up hst88 rfl) (Stp.trans (Stp.up hst93 rfl) (Stp.trans (Stp.up hst108 rfl) (Stp.trans (Stp.up hst126 rfl) (Stp.up hst135 rfl)))))))))
    exact At.res (.inl rfl) rfl (.cell rfl (hb136.runAg 0 [vi 0, vu 0, vi 0, .slice none 0 0, vi 0, .slice none 0 0] ty27 rfl rfl rfl) (.tmp rfl .nil)) ⟨.slice none 0 0, .slice none 0 0, rfl, (Stp.ext hs137 rfl rfl), (Or.inl ⟨rfl, rfl⟩), (Or.inl ⟨rfl, rfl⟩)⟩
  · refine WC.condF' rfl hc128 ?_
    refine WC.skip ?_
    refine At.then ?_
    refine WC.seq ?_
    refine WC.region ?_
    refine WL.y (Y.fieldAddr fo27_2 rfl) rfl ?_
    have hf138 := hb109.st hst126 rfl
    refine WL.y (Y.loadAg ty25 rfl rfl (hf138.cells 2 [vi r61.Pos.Offset, (.slice p96 m97 c98)] rfl) rfl) rfl ?_
    refine WL.y (Y.fieldAddr fo27_2 rfl) rfl ?_
    refine WL.y (Y.loadAg ty25 rfl rfl (hb127.cells 2 [vi r62.Pos.Offset, (.slice p113 m114 c115)] rfl) rfl) rfl ?_
    have hf139 := hf95.mono (frs_st hst108 rfl)
    have hf140 := hf139.mono (frs_st hst126 rfl)
    have hf141 := hf112.mono (frs_st hst126 rfl)
    obtain ⟨⟨r142, r143⟩, hp144, h⟩ := bnd h
    refine WL.call (vals := [.agg [vi r61.Pos.Offset, (.slice p96 m97 c98)].toArray, .agg [vi r62.Pos.Offset, (.slice p113 m114 c115)].toArray]) kok73 rfl rfl (c_fold_left (A := fun _ => True) (a0 := r61.Pos) (a1 := r62.Pos) (Sl.all hf140) (Sl.all hf141) hp144) ?_
    rintro vr149 wd148 ⟨u145, rfl, hm147, f146⟩
    obtain ⟨O150, hold151, hnew152, hst153⟩ := adoptE O91 (fun k => 1) hm147
    have hf154 : Sl Rep.u wd148 (frs O150) u145 r142.Counts := Sl.adoptF f146 (fun k hk => ⟨hk, rfl⟩) hnew152
    refine WL.y (Y.move rfl) rfl ?_
    refine WL.y (Y.extract rfl rfl) rfl ?_
    refine WL.y (Y.extract rfl rfl) rfl ?_
    refine WL.alloc (O := O150) 16 [vi 0, .slice none 0 0] ty25 rfl rfl ?_
    intro p156 O157 wd158 hst159 hb155
    have hf160 := hf154.mono (frs_st hst159 rfl)
    have hh164 := h
    obtain ⟨p161, m162, c163, rfl⟩ := hf160.shape
    have h := hh164
    refine WL.store (v := .agg [vi r142.Offset, (.slice p161 m162 c163)].toArray) (cells' := [vi r142.Offset, (.slice p161 m162 c163)]) ty25 rfl rfl hb155 rfl (Nat.le_of_ble_eq_true rfl) rfl rfl ?_
    intro wd165 hst166 hb167
    refine WL.y (Y.assign rfl) rfl ?_
    refine WL.nil ?_
    refine At.then ?_
    refine WC.seq ?_
    refine WC.region ?_
    refine WL.y (Y.fieldAddr fo27_3 rfl) rfl ?_
    have hf168 := hf138.st hst153 rfl
    have hf169 := hf168.st hst159 rfl
    have hf170 := hf169.st hst166 rfl
    refine WL.y (Y.loadAg ty25 rfl rfl (hf170.cells 4 [vi r61.Neg.Offset, (.slice p102 m103 c104)] rfl) rfl) rfl ?_
    refine WL.y (Y.fieldAddr fo27_3 rfl) rfl ?_
    have hf171 := hb127.st hst153 rfl
    have hf172 := hf171.st hst159 rfl
    have hf173 := hf172.st hst166 rfl
    refine WL.y (Y.loadAg ty25 rfl rfl (hf173.cells 4 [vi r62.Neg.Offset, (.slice p120 m121 c122)] rfl) rfl) rfl ?_
    have hf174 := hf101.mono (frs_st hst108 rfl)
    have hf175 := hf174.mono (frs_st hst126 rfl)
    have hf176 := hf175.mono (frs_st hst153 rfl)
    have hf177 := hf176.mono (frs_st hst159 rfl)
    have hf178 := hf177.mono (frs_st hst166 rfl)
    have hf179 := hf119.mono (frs_st hst126 rfl)
    have hf180 := hf179.mono (frs_st hst153 rfl)
    have hf181 := hf180.mono (frs_st hst159 rfl)
    have hf182 := hf181.mono (frs_st hst166 rfl)
    obtain ⟨⟨r183, r184⟩, hp185, h⟩ := bnd h
    refine WL.call (vals := [.agg [vi r61.Neg.Offset, (.slice p102 m103 c104)].toArray, .agg [vi r62.Neg.Offset, (.slice p120 m121 c122)].toArray]) kok73 rfl rfl (c_fold_left (A := fun _ => True) (a0 := r61.Neg) (a1 := r62.Neg) (Sl.all hf178) (Sl.all hf182) hp185) ?_
    rintro vr190 wd189 ⟨u186, rfl, hm188, f187⟩
    obtain ⟨O191, hold192, hnew193, hst194⟩ := adoptE O157 (fun k => 1) hm188
    have hf195 : Sl Rep.u wd189 (frs O191) u186 r183.Counts := Sl.adoptF f187 (fun k hk => ⟨hk, rfl⟩) hnew193
    refine WL.y (Y.move rfl) rfl ?_
    refine WL.y (Y.extract rfl rfl) rfl ?_
    refine WL.y (Y.extract rfl rfl) rfl ?_
    refine WL.alloc (O := O191) 17 [vi 0, .slice none 0 0] ty25 rfl rfl ?_
    intro p197 O198 wd199 hst200 hb196
    have hf201 := hf195.mono (frs_st hst200 rfl)
    have hh205 := h
    obtain ⟨p202, m203, c204, rfl⟩ := hf201.shape
    have h := hh205
    refine WL.store (v := .agg [vi r183.Offset, (.slice p202 m203 c204)].toArray) (cells' := [vi r183.Offset, (.slice p202 m203 c204)]) ty25 rfl rfl hb196 rfl (Nat.le_of_ble_eq_true rfl) rfl rfl ?_
    intro wd206 hst207 hb208
    refine WL.y (Y.assign rfl) rfl ?_
    refine WL.nil ?_
    refine At.then ?_
    refine WC.seq ?_
    refine WC.seq ?_
    refine WC.region ?_
    refine WL.y (Y.fieldAddr fo27_1 rfl) rfl ?_
    have hf209 := hf173.st hst194 rfl
    have hf210 := hf209.st hst200 rfl
    have hf211 := hf210.st hst207 rfl
    refine WL.y (Y.loadSc ty22 rfl rfl (hf211.cell 1 _ rfl)) rfl ?_
    refine WL.y (Y.fieldAddr fo27_1 rfl) rfl ?_
    have hf212 := hf170.st hst194 rfl
    have hf213 := hf212.st hst200 rfl
    have hf214 := hf213.st hst207 rfl
    refine WL.y (Y.loadSc ty22 rfl rfl (hf214.cell 1 _ rfl)) rfl ?_
    refine WL.y (Y.gtr_u rfl rfl) rfl ?_
    refine WL.y (Y.move rfl) rfl ?_
    refine WL.cut 3 (σ := Unit) (fun _ w' => wd206 = w') (fun _ => [(4, .pointer (some ⟨p44, 0, none⟩)), (6, .pointer (some ⟨p85, 0, none⟩)), (7, .pointer (some ⟨p90, 0, none⟩)), (9, .pointer (some ⟨p156, 0, none⟩)), (11, .pointer (some ⟨p197, 0, none⟩)), (12, .bool r184), (48, .bool ((decide (r61.Zero < r62.Zero)) || (!r143)))]) ?_ ?_
    · refine WL.part 45 rfl (fun hE215 => ?_) (fun hE215 => ?_)
      · refine WL.gS rfl rfl rfl rfl ?_
        refine WL.gS rfl rfl rfl rfl ?_
        refine WL.y (Y.pick (b := true) rfl rfl) rfl ?_
        refine WL.ren (v' := .bool ((decide (r61.Zero < r62.Zero)) || (!r143))) 48 rfl (congrArg Value.bool (orT hE215)) ?_
        exact WL.nil (At.join () rfl (.cons rfl (.cons rfl (.cons rfl (.cons rfl (.cons rfl (.cons rfl (.cons rfl .nil))))))))
      · refine WL.ung rfl rfl ?_
        refine WL.y (Y.move rfl) rfl ?_
        refine WL.ung rfl rfl ?_
        refine WL.y (Y.not rfl) rfl ?_
        refine WL.y (Y.pick (b := false) rfl rfl) rfl ?_
        refine WL.ren (v' := .bool ((decide (r61.Zero < r62.Zero)) || (!r143))) 48 rfl (congrArg Value.bool (orF hE215)) ?_
        exact WL.nil (At.join () rfl (.cons rfl (.cons rfl (.cons rfl (.cons rfl (.cons rfl (.cons rfl (.cons rfl .nil))))))))
    · rintro _ _ rfl
      refine (show WL _ _ _ _ _ [(4, .pointer (some ⟨p44, 0, none⟩)), (6, .pointer (some ⟨p85, 0, none⟩)), (7, .pointer (some ⟨p90, 0, none⟩)), (9, .pointer (some ⟨p156, 0, none⟩)), (11, .pointer (some ⟨p197, 0, none⟩)), (12, .bool r184), (48, .bool ((decide (r61.Zero < r62.Zero)) || (!r143)))] _ from ?_)
      refine WL.y (Y.move rfl) rfl ?_
      refine WL.cut 3 (σ := Unit) (fun _ w' => wd206 = w') (fun _ => [(4, .pointer (some ⟨p44, 0, none⟩)), (6, .pointer (some ⟨p85, 0, none⟩)), (7, .pointer (some ⟨p90, 0, none⟩)), (9, .pointer (some ⟨p156, 0, none⟩)), (11, .pointer (some ⟨p197, 0, none⟩)), (52, .bool (((decide (r61.Zero < r62.Zero)) || (!r143)) || (!r184)))]) ?_ ?_
      · refine WL.part 49 rfl (fun hE216 => ?_) (fun hE216 => ?_)
        · refine WL.gS rfl rfl rfl rfl ?_
          refine WL.gS rfl rfl rfl rfl ?_
          refine WL.y (Y.pick (b := true) rfl rfl) rfl ?_
          refine WL.ren (v' := .bool (((decide (r61.Zero < r62.Zero)) || (!r143)) || (!r184))) 52 rfl (congrArg Value.bool (orT hE216)) ?_
          exact WL.nil (At.join () rfl (.cons rfl (.cons rfl (.cons rfl (.cons rfl (.cons rfl (.cons rfl .nil)))))))
        · refine WL.ung rfl rfl ?_
          refine WL.y (Y.move rfl) rfl ?_
          refine WL.ung rfl rfl ?_
          refine WL.y (Y.not rfl) rfl ?_
          refine WL.y (Y.pick (b := false) rfl rfl) rfl ?_
          refine WL.ren (v' := .bool (((decide (r61.Zero < r62.Zero)) || (!r143)) || (!r184))) 52 rfl (congrArg Value.bool (orF hE216)) ?_
          exact WL.nil (At.join () rfl (.cons rfl (.cons rfl (.cons rfl (.cons rfl (.cons rfl (.cons rfl .nil)))))))
      · rintro _ _ rfl
        refine (show WL _ _ _ _ _ [(4, .pointer (some ⟨p44, 0, none⟩)), (6, .pointer (some ⟨p85, 0, none⟩)), (7, .pointer (some ⟨p90, 0, none⟩)), (9, .pointer (some ⟨p156, 0, none⟩)), (11, .pointer (some ⟨p197, 0, none⟩)), (52, .bool (((decide (r61.Zero < r62.Zero)) || (!r143)) || (!r184)))] _ from ?_)
        refine WL.nil ?_
        refine At.then ?_
        rcases cnd h with ⟨hc217, h⟩ | ⟨hc217, h⟩
        · refine WC.condT' rfl hc217 ?_
          refine WC.seq ?_
          refine WC.region ?_
          refine WL.y (Y.build (vals := []) (cells := [vi 0, vu 0, vi 0, .slice none 0 0, vi 0, .slice none 0 0]) (Fits.evalp rfl) (by kernel_rfl)) rfl ?_
          have hf218 := hb43.st hst79 rfl
          have hf219 := hf218.st hst88 rfl
          have hf220 := hf219.st hst93 rfl
          have hf221 := hf220.st hst108 rfl
          have hf222 := hf221.st hst126 rfl
          have hf223 := hf222.st hst153 rfl
          have hf224 := hf223.st hst159 rfl
          have hf225 := hf224.st hst166 rfl
          have hf226 := hf225.st hst194 rfl
          have hf227 := hf226.st hst200 rfl
          have hf228 := hf227.st hst207 rfl
          refine WL.store (v := .agg [vi 0, vu 0, vi 0, .slice none 0 0, vi 0, .slice none 0 0].toArray) (cells' := [vi 0, vu 0, vi 0, .slice none 0 0, vi 0, .slice none 0 0]) ty27 rfl rfl hf228 rfl (Nat.le_of_ble_eq_true rfl) rfl rfl ?_
          intro wd229 hst230 hb231
          refine WL.y (Y.assign rfl) rfl ?_
          refine WL.nil ?_
          refine At.then ?_
          refine WC.ret ?_
          refine At.thenR ?_
          obtain ⟨rfl, rfl⟩ := tup2 h
          have hs232 : Stp [13, 14, 15, 16, 17] (Lg.O0 A) w O198 wd229 := (Stp.trans (Stp.up hst27 rfl) (Stp.trans (Stp.up hst42 rfl) (Stp.trans (Stp.up hst47 rfl) (Stp.trans (Stp.up hst79 rfl) (Stp.trans (Stp.up hst88 rfl) (Stp.trans (Stp.up hst93 rfl) (Stp.trans (Stp.up hst108 rfl) (Stp.trans (Stp.up hst126 rfl) (Stp.trans (Stp.up hst153 rfl) (Stp.trans (Stp.up hst159 rfl) (Stp.trans (Stp.up hst166 rfl) (Stp.trans (Stp.up hst194 rfl) (Stp.trans (Stp.up hst200 rfl) (Stp.trans (Stp.up hst207 rfl) (Stp.up hst230 rfl)))))))))))))))
          exact At.res (.inl rfl) rfl (.cell rfl (hb231.runAg 0 [vi 0, vu 0, vi 0, .slice none 0 0, vi 0, .slice none 0 0] ty27 rfl rfl rfl) (.tmp rfl .nil)) ⟨.slice none 0 0, .slice none 0 0, rfl, (Stp.ext hs232 rfl rfl), (Or.inl ⟨rfl, rfl⟩), (Or.inl ⟨rfl, rfl⟩)⟩
        · refine WC.condF' rfl hc217 ?_
          refine WC.skip ?_
          refine At.then ?_
          refine WC.seq ?_
          refine WC.region ?_
          refine WL.y (Y.fieldAddr fo27_0 rfl) rfl ?_
          refine WL.y (Y.loadSc ty3 rfl rfl (hf214.cell 0 _ rfl)) rfl ?_
          refine WL.y (Y.fieldAddr fo27_1 rfl) rfl ?_
          refine WL.y (Y.loadSc ty22 rfl rfl (hf214.cell 1 _ rfl)) rfl ?_
          refine WL.y (Y.fieldAddr fo27_1 rfl) rfl ?_
          refine WL.y (Y.loadSc ty22 rfl rfl (hf211.cell 1 _ rfl)) rfl ?_
          refine WL.y (Y.sub_u rfl rfl) rfl ?_
          have hf233 := hb167.st hst194 rfl
          have hf234 := hf233.st hst200 rfl
          have hf235 := hf234.st hst207 rfl
          refine WL.y (Y.loadAg ty25 rfl rfl (hf235.cells 0 [vi r142.Offset, (.slice p161 m162 c163)] rfl) rfl) rfl ?_
          refine WL.y (Y.loadAg ty25 rfl rfl (hb208.cells 0 [vi r183.Offset, (.slice p202 m203 c204)] rfl) rfl) rfl ?_
          refine WL.y (Y.build (vals := [(0, vi r61.Scale), (1, vu (r61.Zero - r62.Zero)), (2, .agg [vi r142.Offset, (.slice p161 m162 c163)].toArray), (3, .agg [vi r183.Offset, (.slice p202 m203 c204)].toArray)]) (cells := [vi r61.Scale, vu (r61.Zero - r62.Zero), vi r142.Offset, (.slice p161 m162 c163), vi r183.Offset, (.slice p202 m203 c204)]) (Fits.evalp rfl) (by kernel_rfl)) rfl ?_
          have hf236 := hb43.st hst79 rfl
          have hf237 := hf236.st hst88 rfl
          have hf238 := hf237.st hst93 rfl
          have hf239 := hf238.st hst108 rfl
          have hf240 := hf239.st hst126 rfl
          have hf241 := hf240.st hst153 rfl
          have hf242 := hf241.st hst159 rfl
          have hf243 := hf242.st hst166 rfl
          have hf244 := hf243.st hst194 rfl
          have hf245 := hf244.st hst200 rfl
          have hf246 := hf245.st hst207 rfl
          refine WL.store (v := .agg [vi r61.Scale, vu (r61.Zero - r62.Zero), vi r142.Offset, (.slice p161 m162 c163), vi r183.Offset, (.slice p202 m203 c204)].toArray) (cells' := [vi r61.Scale, vu (r61.Zero - r62.Zero), vi r142.Offset, (.slice p161 m162 c163), vi r183.Offset, (.slice p202 m203 c204)]) ty27 rfl rfl hf246 rfl (Nat.le_of_ble_eq_true rfl) rfl rfl ?_
          intro wd247 hst248 hb249
          refine WL.y (Y.assign rfl) rfl ?_
          refine WL.nil ?_
          refine At.then ?_
          refine WC.ret ?_
          obtain ⟨rfl, rfl⟩ := tup2 h
          have hs250 : Stp [13, 14, 15, 16, 17] (Lg.O0 A) w O198 wd247 := (Stp.trans (Stp.up hst27 rfl) (Stp.trans (Stp.up hst42 rfl) (Stp.trans (Stp.up hst47 rfl) (Stp.trans (Stp.up hst79 rfl) (Stp.trans (Stp.up hst88 rfl) (Stp.trans (Stp.up hst93 rfl) (Stp.trans (Stp.up hst108 rfl) (Stp.trans (Stp.up hst126 rfl) (Stp.trans (Stp.up hst153 rfl) (Stp.trans (Stp.up hst159 rfl) (Stp.trans (Stp.up hst166 rfl) (Stp.trans (Stp.up hst194 rfl) (Stp.trans (Stp.up hst200 rfl) (Stp.trans (Stp.up hst207 rfl) (Stp.up hst248 rfl)))))))))))))))
          have hf251 := hf160.mono (frs_st hst166 rfl)
          have hf252 := hf251.mono (frs_st hst194 rfl)
          have hf253 := hf252.mono (frs_st hst200 rfl)
          have hf254 := hf253.mono (frs_st hst207 rfl)
          have hf255 := hf254.mono (frs_st hst248 rfl)
          have hf256 := hf201.mono (frs_st hst207 rfl)
          have hf257 := hf256.mono (frs_st hst248 rfl)
          exact At.res (.inl rfl) rfl (.cell rfl (hb249.runAg 0 [vi r61.Scale, vu (r61.Zero - r62.Zero), vi r142.Offset, (.slice p161 m162 c163), vi r183.Offset, (.slice p202 m203 c204)] ty27 rfl rfl rfl) (.tmp rfl .nil)) ⟨(.slice p161 m162 c163), (.slice p202 m203 c204), rfl, (Stp.ext hs250 rfl rfl), (Sl.outF hf255 hs250 low0), (Sl.outF hf257 hs250 low0)⟩

theorem c_fold_Empty {A : Nat → Prop} {v0_3 : Value} {v0_5 : Value} {a0 : api_Hist} {w : World} (hs0_3 : Sl Rep.u w A v0_3 a0.Pos.Counts) (hs0_5 : Sl Rep.u w A v0_5 a0.Neg.Counts) {r0 : Bool} (h : fold_Empty a0 = some r0) : Rets Try.prog 44 [.agg [vi a0.Scale, vu a0.Zero, vi a0.Pos.Offset, v0_3, vi a0.Neg.Offset, v0_5].toArray] w (fun v w' => v = .bool r0 ∧ Ext w w') := by
  unfold fold_Empty at h
  refine Rets.enter Try.func44 rfl rfl ?_
  have hf11 : Sl Rep.u w (imm (Lg.O0 A)) v0_3 a0.Pos.Counts := (Sl.start hs0_3)
  have hf12 : Sl Rep.u w (imm (Lg.O0 A)) v0_5 a0.Neg.Counts := (Sl.start hs0_5)
  refine (show WC _ _ _ _ [(0, .agg [vi a0.Scale, vu a0.Zero, vi a0.Pos.Offset, v0_3, vi a0.Neg.Offset, v0_5].toArray)] _ from ?_)
  refine WC.seq ?_
  refine WC.region ?_
  have hh16 := h
  obtain ⟨p13, m14, c15, rfl⟩ := hf11.shape
  have h := hh16
  have hh20 := h
  obtain ⟨p17, m18, c19, rfl⟩ := hf12.shape
  have h := hh20
  refine WL.box (O := (Lg.O0 A)) 11 [vi a0.Scale, vu a0.Zero, vi a0.Pos.Offset, (.slice p13 m14 c15), vi a0.Neg.Offset, (.slice p17 m18 c19)] rfl rfl rfl ?_
  intro p22 O23 wd24 hst25 hb21
  refine WL.y (Y.assign rfl) rfl ?_
  refine WL.nil ?_
  refine At.then ?_
  refine WC.seq ?_
  refine WC.region ?_
  refine WL.y (Y.fieldAddr fo27_1 rfl) rfl ?_
  refine WL.y (Y.loadSc ty22 rfl rfl (hb21.cell 1 _ rfl)) rfl ?_
  refine WL.y (Y.eql_u (b := 0) rfl rfl) rfl ?_
  refine WL.y (Y.move rfl) rfl ?_
  refine WL.cut 6 (σ := Unit) (fun _ w' => wd24 = w') (fun _ => [(1, .pointer (some ⟨p22, 0, none⟩)), (12, .bool ((decide (a0.Zero = 0)) && (decide ((a0.Pos.Counts.length : Int) = 0))))]) ?_ ?_
  · refine WL.part 6 rfl (fun hE26 => ?_) (fun hE26 => ?_)
    · refine WL.ung rfl rfl ?_
      refine WL.y (Y.fieldAddr fo27_2 rfl) rfl ?_
      refine WL.ung rfl rfl ?_
      refine WL.y (Y.fieldAddr fo25_1 rfl) rfl ?_
      refine WL.ung rfl rfl ?_
      refine WL.y (Y.loadSc ty23 rfl rfl (hb21.cell 3 _ rfl)) rfl ?_
      refine WL.ung rfl rfl ?_
      have hf27 := hf11.mono (imm_st hst25 rfl rfl)
      refine WL.y (Y.len ty23 rfl hf27) rfl ?_
      refine WL.ung rfl rfl ?_
      refine WL.y (Y.eql_i rfl rfl) rfl ?_
      refine WL.y (Y.pick (b := true) rfl rfl) rfl ?_
      refine WL.ren (v' := .bool ((decide (a0.Zero = 0)) && (decide ((a0.Pos.Counts.length : Int) = 0)))) 12 rfl (congrArg Value.bool (andT hE26)) ?_
      exact WL.nil (At.join () rfl (.cons rfl (.cons rfl .nil)))
    · refine WL.gS rfl rfl rfl rfl ?_
      refine WL.gS rfl rfl rfl rfl ?_
      refine WL.gS rfl rfl rfl rfl ?_
      refine WL.gS rfl rfl rfl rfl ?_
      refine WL.gS rfl rfl rfl rfl ?_
      refine WL.y (Y.pick (b := false) rfl rfl) rfl ?_
      refine WL.ren (v' := .bool ((decide (a0.Zero = 0)) && (decide ((a0.Pos.Counts.length : Int) = 0)))) 12 rfl (congrArg Value.bool (andF hE26)) ?_
      exact WL.nil (At.join () rfl (.cons rfl (.cons rfl .nil)))
  · rintro _ _ rfl
    refine (show WL _ _ _ _ _ [(1, .pointer (some ⟨p22, 0, none⟩)), (12, .bool ((decide (a0.Zero = 0)) && (decide ((a0.Pos.Counts.length : Int) = 0))))] _ from ?_)
    refine WL.y (Y.move rfl) rfl ?_
    refine WL.cut 6 (σ := Unit) (fun _ w' => wd24 = w') (fun _ => [(19, .bool (((decide (a0.Zero = 0)) && (decide ((a0.Pos.Counts.length : Int) = 0))) && (decide ((a0.Neg.Counts.length : Int) = 0))))]) ?_ ?_
    · refine WL.part 13 rfl (fun hE28 => ?_) (fun hE28 => ?_)
      · refine WL.ung rfl rfl ?_
        refine WL.y (Y.fieldAddr fo27_3 rfl) rfl ?_
        refine WL.ung rfl rfl ?_
        refine WL.y (Y.fieldAddr fo25_1 rfl) rfl ?_
        refine WL.ung rfl rfl ?_
        refine WL.y (Y.loadSc ty23 rfl rfl (hb21.cell 5 _ rfl)) rfl ?_
        refine WL.ung rfl rfl ?_
        have hf29 := hf12.mono (imm_st hst25 rfl rfl)
        refine WL.y (Y.len ty23 rfl hf29) rfl ?_
        refine WL.ung rfl rfl ?_
        refine WL.y (Y.eql_i rfl rfl) rfl ?_
        refine WL.y (Y.pick (b := true) rfl rfl) rfl ?_
        refine WL.ren (v' := .bool (((decide (a0.Zero = 0)) && (decide ((a0.Pos.Counts.length : Int) = 0))) && (decide ((a0.Neg.Counts.length : Int) = 0)))) 19 rfl (congrArg Value.bool (andT hE28)) ?_
        exact WL.nil (At.join () rfl (.cons rfl .nil))
      · refine WL.gS rfl rfl rfl rfl ?_
        refine WL.gS rfl rfl rfl rfl ?_
        refine WL.gS rfl rfl rfl rfl ?_
        refine WL.gS rfl rfl rfl rfl ?_
        refine WL.gS rfl rfl rfl rfl ?_
        refine WL.y (Y.pick (b := false) rfl rfl) rfl ?_
        refine WL.ren (v' := .bool (((decide (a0.Zero = 0)) && (decide ((a0.Pos.Counts.length : Int) = 0))) && (decide ((a0.Neg.Counts.length : Int) = 0)))) 19 rfl (congrArg Value.bool (andF hE28)) ?_
        exact WL.nil (At.join () rfl (.cons rfl .nil))
    · rintro _ _ rfl
      refine (show WL _ _ _ _ _ [(19, .bool (((decide (a0.Zero = 0)) && (decide ((a0.Pos.Counts.length : Int) = 0))) && (decide ((a0.Neg.Counts.length : Int) = 0))))] _ from ?_)
      obtain ⟨t30, ht30, h⟩ := lt1 h
      refine WL.yE (Y.assign rfl) (congrArg Value.bool ht30.symm) rfl ?_
      refine WL.nil ?_
      refine At.then ?_
      refine WC.ret ?_
      obtain rfl := some1 h
      have hs31 : Stp [] (Lg.O0 A) w O23 wd24 := (Stp.up hst25 rfl)
      exact At.res (.inl rfl) rfl (.tmp rfl .nil) ⟨rfl, (Stp.ext hs31 rfl rfl)⟩

theorem c_law09_awake {w : World} {r0 : Bool} (h : law09_awake = some r0) : Rets Try.prog 37 [] w (fun v w' => v = .bool r0 ∧ Ext w w') := by
  unfold law09_awake at h
  refine Rets.enter Try.func37 rfl rfl ?_
  refine (show WC _ _ _ _ [] _ from ?_)
  refine WC.seq ?_
  refine WC.region ?_
  refine WL.y (Y.assign rfl) rfl ?_
  refine WL.nil ?_
  refine At.then ?_
  refine WC.seq ?_
  refine WC.region ?_
  refine WL.buildSlice (O := (Lg.O0 (fun _ => False))) (R := Rep.u) (vals := [(0, vu 1)]) 11 [vu 1] (xs := [1]) (by decide) ty23 ty22 (by decide) (by decide) (Fits.evalp rfl) (by kernel_rfl) rfl ⟨[vu 1], [], rfl, rfl, rfl⟩ rfl ?_
  intro v11 O13 wd14 hst15 ho12
  have hh19 := h
  obtain ⟨p16, m17, c18, rfl⟩ := ho12.shape
  have h := hh19
  refine WL.y (Y.build (vals := [(0, vi 2), (1, (.slice p16 m17 c18))]) (cells := [vi 2, (.slice p16 m17 c18)]) (Fits.evalp rfl) (by kernel_rfl)) rfl ?_
  refine WL.y (Y.build (vals := [(0, vi 1), (2, .agg [vi 2, (.slice p16 m17 c18)].toArray)]) (cells := [vi 1, vu 0, vi 2, (.slice p16 m17 c18), vi 0, .slice none 0 0]) (Fits.evalp rfl) (by kernel_rfl)) rfl ?_
  refine WL.alloc (O := O13) 12 [vi 0, vu 0, vi 0, .slice none 0 0, vi 0, .slice none 0 0] ty27 rfl rfl ?_
  intro p21 O22 wd23 hst24 hb20
  refine WL.store (v := .agg [vi 1, vu 0, vi 2, (.slice p16 m17 c18), vi 0, .slice none 0 0].toArray) (cells' := [vi 1, vu 0, vi 2, (.slice p16 m17 c18), vi 0, .slice none 0 0]) ty27 rfl rfl hb20 rfl (Nat.le_of_ble_eq_true rfl) rfl rfl ?_
  intro wd25 hst26 hb27
  refine WL.nil ?_
  refine At.then ?_
  refine WC.seq ?_
  refine WC.region ?_
  refine WL.buildSlice (O := O22) (R := Rep.u) (vals := [(0, vu 1)]) 13 [vu 1] (xs := [1]) (by decide) ty23 ty22 (by decide) (by decide) (Fits.evalp rfl) (by kernel_rfl) rfl ⟨[vu 1], [], rfl, rfl, rfl⟩ rfl ?_
  intro v28 O30 wd31 hst32 ho29
  have hh36 := h
  obtain ⟨p33, m34, c35, rfl⟩ := ho29.shape
  have h := hh36
  refine WL.y (Y.build (vals := [(0, vi 1), (1, (.slice p33 m34 c35))]) (cells := [vi 1, (.slice p33 m34 c35)]) (Fits.evalp rfl) (by kernel_rfl)) rfl ?_
  refine WL.y (Y.build (vals := [(0, vi 0), (2, .agg [vi 1, (.slice p33 m34 c35)].toArray)]) (cells := [vi 0, vu 0, vi 1, (.slice p33 m34 c35), vi 0, .slice none 0 0]) (Fits.evalp rfl) (by kernel_rfl)) rfl ?_
  refine WL.alloc (O := O30) 14 [vi 0, vu 0, vi 0, .slice none 0 0, vi 0, .slice none 0 0] ty27 rfl rfl ?_
  intro p38 O39 wd40 hst41 hb37
  refine WL.store (v := .agg [vi 0, vu 0, vi 1, (.slice p33 m34 c35), vi 0, .slice none 0 0].toArray) (cells' := [vi 0, vu 0, vi 1, (.slice p33 m34 c35), vi 0, .slice none 0 0]) ty27 rfl rfl hb37 rfl (Nat.le_of_ble_eq_true rfl) rfl rfl ?_
  intro wd42 hst43 hb44
  refine WL.nil ?_
  refine At.then ?_
  refine WC.seq ?_
  refine WC.region ?_
  have hf45 := hb27.st hst32 rfl
  have hf46 := hf45.st hst41 rfl
  have hf47 := hf46.st hst43 rfl
  refine WL.y (Y.loadAg ty27 rfl rfl (hf47.cells 0 [vi 1, vu 0, vi 2, (.slice p16 m17 c18), vi 0, .slice none 0 0] rfl) rfl) rfl ?_
  refine WL.y (Y.loadAg ty27 rfl rfl (hb44.cells 0 [vi 0, vu 0, vi 1, (.slice p33 m34 c35), vi 0, .slice none 0 0] rfl) rfl) rfl ?_
  have hf48 := ho12.st hst24 rfl rfl rfl
  have hf49 := hf48.st hst26 rfl rfl rfl
  have hf50 := hf49.st hst32 rfl rfl rfl
  have hf51 := hf50.st hst41 rfl rfl rfl
  have hf52 := hf51.st hst43 rfl rfl rfl
  have hf53 := ho29.st hst41 rfl rfl rfl
  have hf54 := hf53.st hst43 rfl rfl rfl
  obtain ⟨⟨r55, r56⟩, hp57, h⟩ := bnd h
  refine WL.call (vals := [.agg [vi 1, vu 0, vi 2, (.slice p16 m17 c18), vi 0, .slice none 0 0].toArray, .agg [vi 0, vu 0, vi 1, (.slice p33 m34 c35), vi 0, .slice none 0 0].toArray]) kok40 rfl rfl (c_fold_Merge (A := fun _ => True) (a0 := (api_Hist.mk 1 0 (api_Side.mk 2 [1]) (api_Side.mk 0 []))) (a1 := (api_Hist.mk 0 0 (api_Side.mk 1 [1]) (api_Side.mk 0 []))) (hf52.src.sl) (Or.inl ⟨rfl, rfl⟩) (hf54.src.sl) (Or.inl ⟨rfl, rfl⟩) hp57) ?_
  rintro vr64 wd63 ⟨u58, u59, rfl, hm62, f60, f61⟩
  obtain ⟨O65, hold66, hnew67, hst68⟩ := adoptE O39 (fun k => 1) hm62
  have hf69 : Sl Rep.u wd63 (frs O65) u58 r55.Pos.Counts := Sl.adoptF f60 (fun k hk => ⟨hk, rfl⟩) hnew67
  have hf70 : Sl Rep.u wd63 (frs O65) u59 r55.Neg.Counts := Sl.adoptF f61 (fun k hk => ⟨hk, rfl⟩) hnew67
  refine WL.y (Y.move rfl) rfl ?_
  refine WL.y (Y.extract rfl rfl) rfl ?_
  refine WL.y (Y.extract rfl rfl) rfl ?_
  refine WL.alloc (O := O65) 15 [vi 0, vu 0, vi 0, .slice none 0 0, vi 0, .slice none 0 0] ty27 rfl rfl ?_
  intro p72 O73 wd74 hst75 hb71
  have hf76 := hf69.mono (frs_st hst75 rfl)
  have hh80 := h
  obtain ⟨p77, m78, c79, rfl⟩ := hf76.shape
  have h := hh80
  have hf81 := hf70.mono (frs_st hst75 rfl)
  have hh85 := h
  obtain ⟨p82, m83, c84, rfl⟩ := hf81.shape
  have h := hh85
  refine WL.store (v := .agg [vi r55.Scale, vu r55.Zero, vi r55.Pos.Offset, (.slice p77 m78 c79), vi r55.Neg.Offset, (.slice p82 m83 c84)].toArray) (cells' := [vi r55.Scale, vu r55.Zero, vi r55.Pos.Offset, (.slice p77 m78 c79), vi r55.Neg.Offset, (.slice p82 m83 c84)]) ty27 rfl rfl hb71 rfl (Nat.le_of_ble_eq_true rfl) rfl rfl ?_
  intro wd86 hst87 hb88
  refine WL.y (Y.assign rfl) rfl ?_
  refine WL.nil ?_
  refine At.then ?_
  refine WC.seq ?_
  refine WC.region ?_
  refine WL.y (Y.loadAg ty27 rfl rfl (hb88.cells 0 [vi r55.Scale, vu r55.Zero, vi r55.Pos.Offset, (.slice p77 m78 c79), vi r55.Neg.Offset, (.slice p82 m83 c84)] rfl) rfl) rfl ?_
  have hf89 := hb44.st hst68 rfl
  have hf90 := hf89.st hst75 rfl
  have hf91 := hf90.st hst87 rfl
  refine WL.y (Y.loadAg ty27 rfl rfl (hf91.cells 0 [vi 0, vu 0, vi 1, (.slice p33 m34 c35), vi 0, .slice none 0 0] rfl) rfl) rfl ?_
  have hf92 := hf76.mono (frs_st hst87 rfl)
  have hf93 := hf81.mono (frs_st hst87 rfl)
  have hf94 := hf54.st hst68 rfl rfl rfl
  have hf95 := hf94.st hst75 rfl rfl rfl
  have hf96 := hf95.st hst87 rfl rfl rfl
  obtain ⟨⟨r97, r98⟩, hp99, h⟩ := bnd h
  refine WL.call (vals := [.agg [vi r55.Scale, vu r55.Zero, vi r55.Pos.Offset, (.slice p77 m78 c79), vi r55.Neg.Offset, (.slice p82 m83 c84)].toArray, .agg [vi 0, vu 0, vi 1, (.slice p33 m34 c35), vi 0, .slice none 0 0].toArray]) kok42 rfl rfl (c_fold_Sub (A := fun _ => True) (a0 := r55) (a1 := (api_Hist.mk 0 0 (api_Side.mk 1 [1]) (api_Side.mk 0 []))) (Sl.all hf92) (Sl.all hf93) (hf96.src.sl) (Or.inl ⟨rfl, rfl⟩) hp99) ?_
  rintro vr106 wd105 ⟨u100, u101, rfl, hm104, f102, f103⟩
  obtain ⟨O107, hold108, hnew109, hst110⟩ := adoptE O73 (fun k => 1) hm104
  have hf111 : Sl Rep.u wd105 (frs O107) u100 r97.Pos.Counts := Sl.adoptF f102 (fun k hk => ⟨hk, rfl⟩) hnew109
  have hf112 : Sl Rep.u wd105 (frs O107) u101 r97.Neg.Counts := Sl.adoptF f103 (fun k hk => ⟨hk, rfl⟩) hnew109
  refine WL.y (Y.move rfl) rfl ?_
  refine WL.y (Y.extract rfl rfl) rfl ?_
  refine WL.y (Y.extract rfl rfl) rfl ?_
  refine WL.alloc (O := O107) 16 [vi 0, vu 0, vi 0, .slice none 0 0, vi 0, .slice none 0 0] ty27 rfl rfl ?_
  intro p114 O115 wd116 hst117 hb113
  have hf118 := hf111.mono (frs_st hst117 rfl)
  have hh122 := h
  obtain ⟨p119, m120, c121, rfl⟩ := hf118.shape
  have h := hh122
  have hf123 := hf112.mono (frs_st hst117 rfl)
  have hh127 := h
  obtain ⟨p124, m125, c126, rfl⟩ := hf123.shape
  have h := hh127
  refine WL.store (v := .agg [vi r97.Scale, vu r97.Zero, vi r97.Pos.Offset, (.slice p119 m120 c121), vi r97.Neg.Offset, (.slice p124 m125 c126)].toArray) (cells' := [vi r97.Scale, vu r97.Zero, vi r97.Pos.Offset, (.slice p119 m120 c121), vi r97.Neg.Offset, (.slice p124 m125 c126)]) ty27 rfl rfl hb113 rfl (Nat.le_of_ble_eq_true rfl) rfl rfl ?_
  intro wd128 hst129 hb130
  refine WL.y (Y.assign rfl) rfl ?_
  refine WL.nil ?_
  refine At.then ?_
  refine WC.seq ?_
  refine WC.region ?_
  refine WL.y (Y.move rfl) rfl ?_
  refine WL.y (Y.eql_i rfl rfl) rfl ?_
  refine WL.y (Y.move rfl) rfl ?_
  refine WL.cut 3 (σ := Unit) (fun _ w' => wd128 = w') (fun _ => [(3, .pointer (some ⟨p72, 0, none⟩)), (5, .pointer (some ⟨p114, 0, none⟩)), (30, .bool ((decide (r56 = 0)) && (decide (r98 = 0))))]) ?_ ?_
  · refine WL.part 27 rfl (fun hE131 => ?_) (fun hE131 => ?_)
    · refine WL.ung rfl rfl ?_
      refine WL.y (Y.move rfl) rfl ?_
      refine WL.ung rfl rfl ?_
      refine WL.y (Y.eql_i rfl rfl) rfl ?_
      refine WL.y (Y.pick (b := true) rfl rfl) rfl ?_
      refine WL.ren (v' := .bool ((decide (r56 = 0)) && (decide (r98 = 0)))) 30 rfl (congrArg Value.bool (andT hE131)) ?_
      exact WL.nil (At.join () rfl (.cons rfl (.cons rfl (.cons rfl .nil))))
    · refine WL.gS rfl rfl rfl rfl ?_
      refine WL.gS rfl rfl rfl rfl ?_
      refine WL.y (Y.pick (b := false) rfl rfl) rfl ?_
      refine WL.ren (v' := .bool ((decide (r56 = 0)) && (decide (r98 = 0)))) 30 rfl (congrArg Value.bool (andF hE131)) ?_
      exact WL.nil (At.join () rfl (.cons rfl (.cons rfl (.cons rfl .nil))))
  · rintro _ _ rfl
    refine (show WL _ _ _ _ _ [(3, .pointer (some ⟨p72, 0, none⟩)), (5, .pointer (some ⟨p114, 0, none⟩)), (30, .bool ((decide (r56 = 0)) && (decide (r98 = 0))))] _ from ?_)
    refine WL.y (Y.move rfl) rfl ?_
    refine WL.cut 4 (σ := Unit) (fun _ w' => wd128 = w') (fun _ => [(3, .pointer (some ⟨p72, 0, none⟩)), (5, .pointer (some ⟨p114, 0, none⟩)), (35, .bool (((decide (r56 = 0)) && (decide (r98 = 0))) && (decide (r55.Scale = 0))))]) ?_ ?_
    · refine WL.part 31 rfl (fun hE132 => ?_) (fun hE132 => ?_)
      · refine WL.ung rfl rfl ?_
        refine WL.y (Y.fieldAddr fo27_0 rfl) rfl ?_
        refine WL.ung rfl rfl ?_
        have hf133 := hb88.st hst110 rfl
        have hf134 := hf133.st hst117 rfl
        have hf135 := hf134.st hst129 rfl
        refine WL.y (Y.loadSc ty3 rfl rfl (hf135.cell 0 _ rfl)) rfl ?_
        refine WL.ung rfl rfl ?_
        refine WL.y (Y.eql_i rfl rfl) rfl ?_
        refine WL.y (Y.pick (b := true) rfl rfl) rfl ?_
        refine WL.ren (v' := .bool (((decide (r56 = 0)) && (decide (r98 = 0))) && (decide (r55.Scale = 0)))) 35 rfl (congrArg Value.bool (andT hE132)) ?_
        exact WL.nil (At.join () rfl (.cons rfl (.cons rfl (.cons rfl .nil))))
      · refine WL.gS rfl rfl rfl rfl ?_
        refine WL.gS rfl rfl rfl rfl ?_
        refine WL.gS rfl rfl rfl rfl ?_
        refine WL.y (Y.pick (b := false) rfl rfl) rfl ?_
        refine WL.ren (v' := .bool (((decide (r56 = 0)) && (decide (r98 = 0))) && (decide (r55.Scale = 0)))) 35 rfl (congrArg Value.bool (andF hE132)) ?_
        exact WL.nil (At.join () rfl (.cons rfl (.cons rfl (.cons rfl .nil))))
    · rintro _ _ rfl
      refine (show WL _ _ _ _ _ [(3, .pointer (some ⟨p72, 0, none⟩)), (5, .pointer (some ⟨p114, 0, none⟩)), (35, .bool (((decide (r56 = 0)) && (decide (r98 = 0))) && (decide (r55.Scale = 0))))] _ from ?_)
      refine WL.y (Y.move rfl) rfl ?_
      obtain ⟨p140, h, hk141⟩ := bnd h
      refine WL.cut 5 (σ := (Bool × Own)) (fun x w' => x.1 = p140 ∧ Stp [] O115 wd128 x.2 w') (fun x => [(5, .pointer (some ⟨p114, 0, none⟩)), (41, .bool x.1)]) ?_ ?_
      · rcases cnd h with ⟨hE142, h⟩ | ⟨hE142, h⟩
        · refine WL.ren 36 rfl (congrArg Value.bool hE142) ?_
          refine WL.ung rfl rfl ?_
          refine WL.y (Y.fieldAddr fo27_2 rfl) rfl ?_
          refine WL.ung rfl rfl ?_
          have hf143 := hb88.st hst110 rfl
          have hf144 := hf143.st hst117 rfl
          have hf145 := hf144.st hst129 rfl
          refine WL.y (Y.loadAg ty25 rfl rfl (hf145.cells 2 [vi r55.Pos.Offset, (.slice p77 m78 c79)] rfl) rfl) rfl ?_
          refine WL.ung rfl rfl ?_
          have hf146 := hf92.mono (frs_st hst110 rfl)
          have hf147 := hf146.mono (frs_st hst117 rfl)
          have hf148 := hf147.mono (frs_st hst129 rfl)
          obtain ⟨r149, hp150, h⟩ := bnd h
          refine WL.call (vals := [.agg [vi r55.Pos.Offset, (.slice p77 m78 c79)].toArray, vi 1]) kok23 rfl rfl (c_hist_At (A := fun _ => True) (a0 := r55.Pos) (Sl.all hf148) hp150) ?_
          rintro vr153 wd152 ⟨rfl, hm151⟩
          obtain ⟨O154, hold155, hnew156, hst157⟩ := adoptE O115 (fun k => 1) hm151
          refine WL.ung rfl rfl ?_
          refine WL.y (Y.eql_u (b := 2) rfl rfl) rfl ?_
          refine WL.y (Y.pick (b := true) rfl rfl) rfl ?_
          exact WL.nil (At.join (σ := (Bool × Own)) (decide (r149 = 2), O154) ⟨some1 h, (Stp.up hst157 rfl)⟩ (.cons rfl (.cons rfl .nil)))
        · refine WL.ren 36 rfl (congrArg Value.bool hE142) ?_
          refine WL.gS rfl rfl rfl rfl ?_
          refine WL.gS rfl rfl rfl rfl ?_
          refine WL.gS rfl rfl rfl rfl ?_
          refine WL.gS rfl rfl rfl rfl ?_
          refine WL.y (Y.pick (b := false) rfl rfl) rfl ?_
          exact WL.nil (At.join (σ := (Bool × Own)) (false, O115) ⟨some1 h, (Stp.refl _ _ _)⟩ (.cons rfl (.cons rfl .nil)))
      · rintro ⟨x136, O137⟩ wd138 ⟨rfl, hst139⟩
        replace h := hk141
        try dsimp only at h hst139
        refine (show WL _ _ _ _ _ [(5, .pointer (some ⟨p114, 0, none⟩)), (41, .bool x136)] _ from ?_)
        refine WL.y (Y.move rfl) rfl ?_
        obtain ⟨p162, h, hk163⟩ := bnd h
        refine WL.cut 5 (σ := (Bool × Own)) (fun x w' => x.1 = p162 ∧ Stp [] O137 wd138 x.2 w') (fun x => [(5, .pointer (some ⟨p114, 0, none⟩)), (47, .bool x.1)]) ?_ ?_
        · rcases cnd h with ⟨hE164, h⟩ | ⟨hE164, h⟩
          · refine WL.ren 42 rfl (congrArg Value.bool hE164) ?_
            refine WL.ung rfl rfl ?_
            refine WL.y (Y.fieldAddr fo27_2 rfl) rfl ?_
            refine WL.ung rfl rfl ?_
            have hf165 := hb130.st hst139 rfl
            refine WL.y (Y.loadAg ty25 rfl rfl (hf165.cells 2 [vi r97.Pos.Offset, (.slice p119 m120 c121)] rfl) rfl) rfl ?_
            refine WL.ung rfl rfl ?_
            have hf166 := hf118.mono (frs_st hst129 rfl)
            have hf167 := hf166.mono (frs_st hst139 rfl)
            obtain ⟨r168, hp169, h⟩ := bnd h
            refine WL.call (vals := [.agg [vi r97.Pos.Offset, (.slice p119 m120 c121)].toArray, vi 1]) kok23 rfl rfl (c_hist_At (A := fun _ => True) (a0 := r97.Pos) (Sl.all hf167) hp169) ?_
            rintro vr172 wd171 ⟨rfl, hm170⟩
            obtain ⟨O173, hold174, hnew175, hst176⟩ := adoptE O137 (fun k => 1) hm170
            refine WL.ung rfl rfl ?_
            refine WL.y (Y.eql_u (b := 1) rfl rfl) rfl ?_
            refine WL.y (Y.pick (b := true) rfl rfl) rfl ?_
            exact WL.nil (At.join (σ := (Bool × Own)) (decide (r168 = 1), O173) ⟨some1 h, (Stp.up hst176 rfl)⟩ (.cons rfl (.cons rfl .nil)))
          · refine WL.ren 42 rfl (congrArg Value.bool hE164) ?_
            refine WL.gS rfl rfl rfl rfl ?_
            refine WL.gS rfl rfl rfl rfl ?_
            refine WL.gS rfl rfl rfl rfl ?_
            refine WL.gS rfl rfl rfl rfl ?_
            refine WL.y (Y.pick (b := false) rfl rfl) rfl ?_
            exact WL.nil (At.join (σ := (Bool × Own)) (false, O137) ⟨some1 h, (Stp.refl _ _ _)⟩ (.cons rfl (.cons rfl .nil)))
        · rintro ⟨x158, O159⟩ wd160 ⟨rfl, hst161⟩
          replace h := hk163
          try dsimp only at h hst161
          refine (show WL _ _ _ _ _ [(5, .pointer (some ⟨p114, 0, none⟩)), (47, .bool x158)] _ from ?_)
          refine WL.y (Y.move rfl) rfl ?_
          obtain ⟨p181, h, hk182⟩ := bnd h
          refine WL.cut 4 (σ := (Bool × Own)) (fun x w' => x.1 = p181 ∧ Stp [] O159 wd160 x.2 w') (fun x => [(52, .bool x.1)]) ?_ ?_
          · rcases cnd h with ⟨hE183, h⟩ | ⟨hE183, h⟩
            · refine WL.ren 48 rfl (congrArg Value.bool hE183) ?_
              refine WL.ung rfl rfl ?_
              have hf184 := hb130.st hst139 rfl
              have hf185 := hf184.st hst161 rfl
              refine WL.y (Y.loadAg ty27 rfl rfl (hf185.cells 0 [vi r97.Scale, vu r97.Zero, vi r97.Pos.Offset, (.slice p119 m120 c121), vi r97.Neg.Offset, (.slice p124 m125 c126)] rfl) rfl) rfl ?_
              refine WL.ung rfl rfl ?_
              have hf186 := hf118.mono (frs_st hst129 rfl)
              have hf187 := hf186.mono (frs_st hst139 rfl)
              have hf188 := hf187.mono (frs_st hst161 rfl)
              have hf189 := hf123.mono (frs_st hst129 rfl)
              have hf190 := hf189.mono (frs_st hst139 rfl)
              have hf191 := hf190.mono (frs_st hst161 rfl)
              obtain ⟨r192, hp193, h⟩ := bnd h
              refine WL.call (vals := [.agg [vi r97.Scale, vu r97.Zero, vi r97.Pos.Offset, (.slice p119 m120 c121), vi r97.Neg.Offset, (.slice p124 m125 c126)].toArray]) kok44 rfl rfl (c_fold_Empty (A := fun _ => True) (a0 := r97) (Sl.all hf188) (Sl.all hf191) hp193) ?_
              rintro vr196 wd195 ⟨rfl, hm194⟩
              obtain ⟨O197, hold198, hnew199, hst200⟩ := adoptE O159 (fun k => 1) hm194
              refine WL.ung rfl rfl ?_
              refine WL.y (Y.not rfl) rfl ?_
              refine WL.y (Y.pick (b := true) rfl rfl) rfl ?_
              exact WL.nil (At.join (σ := (Bool × Own)) ((!r192), O197) ⟨some1 h, (Stp.up hst200 rfl)⟩ (.cons rfl .nil))
            · refine WL.ren 48 rfl (congrArg Value.bool hE183) ?_
              refine WL.gS rfl rfl rfl rfl ?_
              refine WL.gS rfl rfl rfl rfl ?_
              refine WL.gS rfl rfl rfl rfl ?_
              refine WL.y (Y.pick (b := false) rfl rfl) rfl ?_
              exact WL.nil (At.join (σ := (Bool × Own)) (false, O159) ⟨some1 h, (Stp.refl _ _ _)⟩ (.cons rfl .nil))
          · rintro ⟨x177, O178⟩ wd179 ⟨rfl, hst180⟩
            replace h := hk182
            try dsimp only at h hst180
            refine (show WL _ _ _ _ _ [(52, .bool x177)] _ from ?_)
            refine WL.y (Y.move rfl) rfl ?_
            obtain ⟨p205, h, hk206⟩ := bnd h
            refine WL.cut 3 (σ := (Bool × Own)) (fun x w' => x.1 = p205 ∧ Stp [] O178 wd179 x.2 w') (fun x => [(56, .bool x.1)]) ?_ ?_
            · rcases cnd h with ⟨hE207, h⟩ | ⟨hE207, h⟩
              · refine WL.ren 53 rfl (congrArg Value.bool hE207) ?_
                refine WL.ung rfl rfl ?_
                refine WL.y (Y.build (vals := []) (cells := [vi 0, vu 0, vi 0, .slice none 0 0, vi 0, .slice none 0 0]) (Fits.evalp rfl) (by kernel_rfl)) rfl ?_
                refine WL.ung rfl rfl ?_
                obtain ⟨r208, hp209, h⟩ := bnd h
                refine WL.call (vals := [.agg [vi 0, vu 0, vi 0, .slice none 0 0, vi 0, .slice none 0 0].toArray]) kok44 rfl rfl (c_fold_Empty (A := fun _ => True) (a0 := (api_Hist.mk 0 0 (api_Side.mk 0 []) (api_Side.mk 0 []))) (Or.inl ⟨rfl, rfl⟩) (Or.inl ⟨rfl, rfl⟩) hp209) ?_
                rintro vr212 wd211 ⟨rfl, hm210⟩
                obtain ⟨O213, hold214, hnew215, hst216⟩ := adoptE O178 (fun k => 1) hm210
                refine WL.y (Y.pick (b := true) rfl rfl) rfl ?_
                exact WL.nil (At.join (σ := (Bool × Own)) (r208, O213) ⟨some1 h, (Stp.up hst216 rfl)⟩ (.cons rfl .nil))
              · refine WL.ren 53 rfl (congrArg Value.bool hE207) ?_
                refine WL.gS rfl rfl rfl rfl ?_
                refine WL.gS rfl rfl rfl rfl ?_
                refine WL.y (Y.pick (b := false) rfl rfl) rfl ?_
                exact WL.nil (At.join (σ := (Bool × Own)) (false, O178) ⟨some1 h, (Stp.refl _ _ _)⟩ (.cons rfl .nil))
            · rintro ⟨x201, O202⟩ wd203 ⟨rfl, hst204⟩
              replace h := hk206
              try dsimp only at h hst204
              refine (show WL _ _ _ _ _ [(56, .bool x201)] _ from ?_)
              refine WL.y (Y.assign rfl) rfl ?_
              refine WL.nil ?_
              refine At.then ?_
              refine WC.ret ?_
              obtain rfl := some1 h
              have hs217 : Stp [12, 14, 15, 16] (Lg.O0 (fun _ => False)) w O202 wd203 := (Stp.trans (Stp.up hst15 rfl) (Stp.trans (Stp.up hst24 rfl) (Stp.trans (Stp.up hst26 rfl) (Stp.trans (Stp.up hst32 rfl) (Stp.trans (Stp.up hst41 rfl) (Stp.trans (Stp.up hst43 rfl) (Stp.trans (Stp.up hst68 rfl) (Stp.trans (Stp.up hst75 rfl) (Stp.trans (Stp.up hst87 rfl) (Stp.trans (Stp.up hst110 rfl) (Stp.trans (Stp.up hst117 rfl) (Stp.trans (Stp.up hst129 rfl) (Stp.trans (Stp.up hst139 rfl) (Stp.trans (Stp.up hst161 rfl) (Stp.trans (Stp.up hst180 rfl) (Stp.up hst204 rfl))))))))))))))))
              exact At.res (.inl rfl) rfl (.tmp rfl .nil) ⟨rfl, (Stp.ext hs217 rfl rfl)⟩

theorem c_ref08_sum {A : Nat → Prop} {a0 : UInt64} {a1 : List UInt64} {v1 : Value} {w : World} (hs1 : Sl Rep.u w A v1 a1) {r0 : UInt64} {r1 : Bool} (h : ref08_sum a0 a1 = some (r0, r1)) : Rets Try.prog 59 [vu a0, v1] w (fun v w' => v = .tuple (List.toArray [vu r0, .bool r1]) ∧ Ext w w') := by
  unfold ref08_sum at h
  refine Rets.enter Try.func59 rfl rfl ?_
  have hf11 : Sl Rep.u w (imm (Lg.O0 A)) v1 a1 := (Sl.start hs1)
  refine (show WC _ _ _ _ [(0, vu a0), (1, v1)] _ from ?_)
  refine WC.seq ?_
  refine WC.region ?_
  refine WL.y (Y.assign (v := vu 0) rfl) rfl ?_
  refine WL.y (Y.assign rfl) rfl ?_
  refine WL.nil ?_
  refine At.then ?_
  refine WC.seq ?_
  refine WC.seq ?_
  refine WC.region ?_
  refine WL.y (Y.assign rfl) rfl ?_
  refine WL.nil ?_
  refine At.then ?_
  refine WC.block ?_
  obtain ⟨p15, h, hk17⟩ := flow1 h
  obtain ⟨k16, h⟩ := loop_some h
  refine WC.joinB 0 (σ := UInt64) (fun x w' => p15 = .go x ∧ w = w') (fun x => [(0, vu x)]) ?_ ?_
  · refine WC.loop (σ := (UInt64 × Int)) (fun x k w' => loopN k (ref08_sum_lp1 a1) (x.1, x.2) = some p15 ∧ w = w') (fun x => [(0, vu x.1), (1, v1), (6, vi x.2)]) (a0, 0) k16 (.cons rfl (.cons rfl (.cons rfl .nil))) ⟨h, rfl⟩ ?_
    rintro ⟨a12, i13⟩ k16 _ ⟨h, rfl⟩
    obtain ⟨j18, q19, rfl, h, hn20⟩ := rnd1 h
    unfold ref08_sum_lp1 at h
    try dsimp only at h
    refine (show WC _ _ _ _ [(0, vu a12), (1, v1), (6, vi i13)] _ from ?_)
    refine WC.seq ?_
    refine WC.seq ?_
    refine WC.region ?_
    refine WL.y (Y.move rfl) rfl ?_
    refine WL.y (Y.move rfl) rfl ?_
    refine WL.y (Y.len ty23 rfl hf11) rfl ?_
    refine WL.y (Y.lss_i rfl rfl) rfl ?_
    refine WL.nil ?_
    refine At.then ?_
    rcases cnd h with ⟨hc21, h⟩ | ⟨hc21, h⟩
    · refine WC.condT' rfl hc21 ?_
      refine WC.skip ?_
      refine At.then ?_
      refine WC.seq ?_
      refine WC.block ?_
      refine WC.seq ?_
      refine WC.seq ?_
      refine WC.region ?_
      refine WL.y (Y.move rfl) rfl ?_
      refine WL.y (Y.move rfl) rfl ?_
      obtain ⟨e22, he22, h⟩ := bnd h
      obtain ⟨b23, off31, cap30, cs29, hv24, hi25, hl26, hc27, hok28, hA32⟩ := Sl.at2 hf11 he22
      obtain rfl := hok28
      replace hc27 : CellsAt _ _ _ [vu e22] := hc27
      have hca33 := CAt.imm hc27 hA32
      refine WL.y (Y.indexAddr ty23 ty22 rfl hv24 rfl hi25 hl26) rfl ?_
      refine WL.y (Y.loadSc ty22 rfl rfl hca33.at_) rfl ?_
      refine WL.y (Y.move rfl) rfl ?_
      refine WL.y (Y.sub_u (a := 18446744073709551615) rfl rfl) rfl ?_
      refine WL.y (Y.gtr_u rfl rfl) rfl ?_
      refine WL.nil ?_
      refine At.then ?_
      rcases cnd h with ⟨hc34, h⟩ | ⟨hc34, h⟩
      · refine WC.condT' rfl hc34 ?_
        refine WC.seq ?_
        refine WC.region ?_
        refine WL.y (Y.assign (v := vu 0) rfl) rfl ?_
        refine WL.y (Y.assign rfl) rfl ?_
        refine WL.nil ?_
        refine At.then ?_
        refine WC.ret ?_
        refine At.thenR ?_
        refine At.inBlockR ?_
        refine At.thenR ?_
        refine At.loopR ?_
        have h := outr1 h hn20 hk17
        refine At.joinBR ?_
        refine At.inBlockR ?_
        refine At.thenR ?_
        obtain ⟨rfl, rfl⟩ := tup2 h
        have hs35 : Stp [] (Lg.O0 A) w (Lg.O0 A) w := (Stp.refl _ _ _)
        exact At.res (.inl rfl) rfl (.tmp rfl (.tmp rfl .nil)) ⟨rfl, (Stp.ext hs35 rfl rfl)⟩
      · refine WC.condF' rfl hc34 ?_
        refine WC.skip ?_
        refine At.then ?_
        refine WC.region ?_
        refine WL.y (Y.move rfl) rfl ?_
        refine WL.y (Y.move rfl) rfl ?_
        refine WL.y (Y.move rfl) rfl ?_
        obtain ⟨e36, he36, h⟩ := bnd h
        obtain ⟨b37, off45, cap44, cs43, hv38, hi39, hl40, hc41, hok42, hA46⟩ := Sl.at2 hf11 he36
        obtain rfl := hok42
        replace hc41 : CellsAt _ _ _ [vu e36] := hc41
        have hca47 := CAt.imm hc41 hA46
        refine WL.y (Y.indexAddr ty23 ty22 rfl hv38 rfl hi39 hl40) rfl ?_
        refine WL.y (Y.loadSc ty22 rfl rfl hca47.at_) rfl ?_
        refine WL.y (Y.add_u rfl rfl) rfl ?_
        obtain ⟨a48, ha48, h⟩ := lt1 h
        refine WL.yE (Y.assign rfl) (congrArg vu ha48.symm) rfl ?_
        refine WL.nil ?_
        refine At.inBlock ?_
        refine At.then ?_
        refine WC.region ?_
        refine WL.y (Y.move rfl) rfl ?_
        refine WL.y (Y.add_i rfl rfl) rfl ?_
        obtain ⟨i49, hi49, h⟩ := lt1 h
        refine WL.yE (Y.assign rfl) (congrArg vi hi49.symm) rfl ?_
        refine WL.nil ?_
        exact At.round (a48, i49) j18 (Nat.lt_succ_self _) ⟨next1 h hn20, rfl⟩ (.cons rfl (.cons rfl (.cons rfl .nil)))
    · refine WC.condF' rfl hc21 ?_
      refine WC.exit ?_
      refine At.thenX ?_
      refine At.loopX ?_
      exact At.hitB (σ := UInt64) a12 ⟨brk1 h hn20, rfl⟩ (.cons rfl .nil)
  · rintro a14 _ ⟨rfl, rfl⟩
    replace h := flowK_go hk17
    try dsimp only at h
    refine (show At _ _ _ [(0, vu a14)] _ from ?_)
    refine At.inBlockHit ?_
    refine At.then ?_
    refine WC.seq ?_
    refine WC.region ?_
    refine WL.y (Y.move rfl) rfl ?_
    refine WL.y (Y.assign rfl) rfl ?_
    refine WL.y (Y.assign rfl) rfl ?_
    refine WL.nil ?_
    refine At.then ?_
    refine WC.ret ?_
    obtain ⟨rfl, rfl⟩ := tup2 h
    have hs50 : Stp [] (Lg.O0 A) w (Lg.O0 A) w := (Stp.refl _ _ _)
    exact At.res (.inl rfl) rfl (.tmp rfl (.tmp rfl .nil)) ⟨rfl, (Stp.ext hs50 rfl rfl)⟩

theorem c_ref08_Total {A : Nat → Prop} {v0_3 : Value} {v0_5 : Value} {a0 : api_Hist} {w : World} (hs0_3 : Sl Rep.u w A v0_3 a0.Pos.Counts) (hs0_5 : Sl Rep.u w A v0_5 a0.Neg.Counts) {r0 : UInt64} {r1 : Bool} (h : ref08_Total a0 = some (r0, r1)) : Rets Try.prog 18 [.agg [vi a0.Scale, vu a0.Zero, vi a0.Pos.Offset, v0_3, vi a0.Neg.Offset, v0_5].toArray] w (fun v w' => v = .tuple (List.toArray [vu r0, .bool r1]) ∧ Ext w w') := by
  unfold ref08_Total at h
  refine Rets.enter Try.func18 rfl rfl ?_
  have hf11 : Sl Rep.u w (imm (Lg.O0 A)) v0_3 a0.Pos.Counts := (Sl.start hs0_3)
  have hf12 : Sl Rep.u w (imm (Lg.O0 A)) v0_5 a0.Neg.Counts := (Sl.start hs0_5)
  refine (show WC _ _ _ _ [(0, .agg [vi a0.Scale, vu a0.Zero, vi a0.Pos.Offset, v0_3, vi a0.Neg.Offset, v0_5].toArray)] _ from ?_)
  refine WC.seq ?_
  refine WC.region ?_
  have hh16 := h
  obtain ⟨p13, m14, c15, rfl⟩ := hf11.shape
  have h := hh16
  have hh20 := h
  obtain ⟨p17, m18, c19, rfl⟩ := hf12.shape
  have h := hh20
  refine WL.box (O := (Lg.O0 A)) 11 [vi a0.Scale, vu a0.Zero, vi a0.Pos.Offset, (.slice p13 m14 c15), vi a0.Neg.Offset, (.slice p17 m18 c19)] rfl rfl rfl ?_
  intro p22 O23 wd24 hst25 hb21
  refine WL.y (Y.assign (v := vu 0) rfl) rfl ?_
  refine WL.y (Y.assign rfl) rfl ?_
  refine WL.nil ?_
  refine At.then ?_
  refine WC.seq ?_
  refine WC.region ?_
  refine WL.y (Y.fieldAddr fo27_1 rfl) rfl ?_
  refine WL.y (Y.loadSc ty22 rfl rfl (hb21.cell 1 _ rfl)) rfl ?_
  refine WL.y (Y.fieldAddr fo27_2 rfl) rfl ?_
  refine WL.y (Y.fieldAddr fo25_1 rfl) rfl ?_
  refine WL.y (Y.loadSc ty23 rfl rfl (hb21.cell 3 _ rfl)) rfl ?_
  have hf26 := hf11.mono (imm_st hst25 rfl rfl)
  obtain ⟨⟨r27, r28⟩, hp29, h⟩ := bnd h
  refine WL.call (vals := [vu a0.Zero, (.slice p13 m14 c15)]) kok59 rfl rfl (c_ref08_sum (A := fun _ => True) (Sl.all hf26) hp29) ?_
  rintro vr32 wd31 ⟨rfl, hm30⟩
  obtain ⟨O33, hold34, hnew35, hst36⟩ := adoptE O23 (fun k => 1) hm30
  refine WL.y (Y.move rfl) rfl ?_
  refine WL.y (Y.extract rfl rfl) rfl ?_
  refine WL.y (Y.extract rfl rfl) rfl ?_
  refine WL.y (Y.assign rfl) rfl ?_
  refine WL.y (Y.assign rfl) rfl ?_
  refine WL.nil ?_
  refine At.then ?_
  refine WC.seq ?_
  refine WC.seq ?_
  refine WC.region ?_
  refine WL.y (Y.move rfl) rfl ?_
  refine WL.y (Y.not rfl) rfl ?_
  refine WL.nil ?_
  refine At.then ?_
  rcases cnd h with ⟨hc37, h⟩ | ⟨hc37, h⟩
  · refine WC.condT' rfl hc37 ?_
    refine WC.seq ?_
    refine WC.region ?_
    refine WL.y (Y.assign (v := vu 0) rfl) rfl ?_
    refine WL.y (Y.assign rfl) rfl ?_
    refine WL.nil ?_
    refine At.then ?_
    refine WC.ret ?_
    refine At.thenR ?_
    obtain ⟨rfl, rfl⟩ := tup2 h
    have hs38 : Stp [] (Lg.O0 A) w O33 wd31 := (Stp.trans (Stp.up hst25 rfl) (Stp.up hst36 rfl))
    exact At.res (.inl rfl) rfl (.tmp rfl (.tmp rfl .nil)) ⟨rfl, (Stp.ext hs38 rfl rfl)⟩
  · refine WC.condF' rfl hc37 ?_
    refine WC.skip ?_
    refine At.then ?_
    refine WC.seq ?_
    refine WC.region ?_
    refine WL.y (Y.move rfl) rfl ?_
    refine WL.y (Y.fieldAddr fo27_3 rfl) rfl ?_
    refine WL.y (Y.fieldAddr fo25_1 rfl) rfl ?_
    have hf39 := hb21.st hst36 rfl
    refine WL.y (Y.loadSc ty23 rfl rfl (hf39.cell 5 _ rfl)) rfl ?_
    have hf40 := hf12.mono (imm_st hst25 rfl rfl)
    have hf41 := hf40.mono (imm_st hst36 rfl rfl)
    obtain ⟨⟨r42, r43⟩, hp44, h⟩ := bnd h
    refine WL.call (vals := [vu r27, (.slice p17 m18 c19)]) kok59 rfl rfl (c_ref08_sum (A := fun _ => True) (Sl.all hf41) hp44) ?_
    rintro vr47 wd46 ⟨rfl, hm45⟩
    obtain ⟨O48, hold49, hnew50, hst51⟩ := adoptE O33 (fun k => 1) hm45
    refine WL.y (Y.extract rfl rfl) rfl ?_
    refine WL.y (Y.extract rfl rfl) rfl ?_
    refine WL.y (Y.assign rfl) rfl ?_
    refine WL.y (Y.assign rfl) rfl ?_
    refine WL.nil ?_
    refine At.then ?_
    refine WC.ret ?_
    obtain ⟨rfl, rfl⟩ := tup2 h
    have hs52 : Stp [] (Lg.O0 A) w O48 wd46 := (Stp.trans (Stp.up hst25 rfl) (Stp.trans (Stp.up hst36 rfl) (Stp.up hst51 rfl)))
    exact At.res (.inl rfl) rfl (.tmp rfl (.tmp rfl .nil)) ⟨rfl, (Stp.ext hs52 rfl rfl)⟩

theorem c_ref08_side {A : Nat → Prop} {v0_1 : Value} {a0 : api_Side} {w : World} (hs0_1 : Sl Rep.u w A v0_1 a0.Counts) {r0 : Int} (h : ref08_side a0 = some r0) : Rets Try.prog 61 [.agg [vi a0.Offset, v0_1].toArray] w (fun v w' => v = vi r0 ∧ Ext w w') := by
  unfold ref08_side at h
  refine Rets.enter Try.func61 rfl rfl ?_
  have hf11 : Sl Rep.u w (imm (Lg.O0 A)) v0_1 a0.Counts := (Sl.start hs0_1)
  refine (show WC _ _ _ _ [(0, .agg [vi a0.Offset, v0_1].toArray)] _ from ?_)
  refine WC.seq ?_
  refine WC.region ?_
  have hh15 := h
  obtain ⟨p12, m13, c14, rfl⟩ := hf11.shape
  have h := hh15
  refine WL.box (O := (Lg.O0 A)) 11 [vi a0.Offset, (.slice p12 m13 c14)] rfl rfl rfl ?_
  intro p17 O18 wd19 hst20 hb16
  refine WL.y (Y.assign rfl) rfl ?_
  refine WL.nil ?_
  refine At.then ?_
  refine WC.seq ?_
  refine WC.region ?_
  refine WL.y (Y.fieldAddr fo25_1 rfl) rfl ?_
  refine WL.y (Y.loadSc ty23 rfl rfl (hb16.cell 1 _ rfl)) rfl ?_
  have hf21 := hf11.mono (imm_st hst20 rfl rfl)
  refine WL.y (Y.len ty23 rfl hf21) rfl ?_
  obtain ⟨nv22, hnv22, h⟩ := lt1 h
  refine WL.yE (Y.assign rfl) (congrArg vi hnv22.symm) rfl ?_
  refine WL.nil ?_
  refine At.then ?_
  refine WC.seq ?_
  refine WC.seq ?_
  refine WC.region ?_
  refine WL.y (Y.move rfl) rfl ?_
  refine WL.y (Y.gtr_i rfl rfl) rfl ?_
  refine WL.nil ?_
  refine At.then ?_
  rcases cnd h with ⟨hc23, h⟩ | ⟨hc23, h⟩
  · refine WC.condT' rfl hc23 ?_
    refine WC.seq ?_
    refine WC.region ?_
    refine WL.y (Y.assign rfl) rfl ?_
    refine WL.nil ?_
    refine At.then ?_
    refine WC.ret ?_
    refine At.thenR ?_
    obtain rfl := some1 h
    have hs24 : Stp [] (Lg.O0 A) w O18 wd19 := (Stp.up hst20 rfl)
    exact At.res (.inl rfl) rfl (.tmp rfl .nil) ⟨rfl, (Stp.ext hs24 rfl rfl)⟩
  · refine WC.condF' rfl hc23 ?_
    refine WC.skip ?_
    refine At.then ?_
    refine WC.seq ?_
    refine WC.seq ?_
    refine WC.region ?_
    refine WL.y (Y.move rfl) rfl ?_
    refine WL.y (Y.eql_i rfl rfl) rfl ?_
    refine WL.nil ?_
    refine At.then ?_
    rcases cnd h with ⟨hc25, h⟩ | ⟨hc25, h⟩
    · refine WC.condT' rfl hc25 ?_
      refine WC.seq ?_
      refine WC.seq ?_
      refine WC.region ?_
      refine WL.y (Y.fieldAddr fo25_0 rfl) rfl ?_
      refine WL.y (Y.loadSc ty3 rfl rfl (hb16.cell 0 _ rfl)) rfl ?_
      refine WL.y (Y.neq_i rfl rfl) rfl ?_
      refine WL.nil ?_
      refine At.then ?_
      rcases cnd h with ⟨hc26, h⟩ | ⟨hc26, h⟩
      · refine WC.condT' rfl hc26 ?_
        refine WC.seq ?_
        refine WC.region ?_
        refine WL.y (Y.assign rfl) rfl ?_
        refine WL.nil ?_
        refine At.then ?_
        refine WC.ret ?_
        refine At.thenR ?_
        refine At.thenR ?_
        obtain rfl := some1 h
        have hs27 : Stp [] (Lg.O0 A) w O18 wd19 := (Stp.up hst20 rfl)
        exact At.res (.inl rfl) rfl (.tmp rfl .nil) ⟨rfl, (Stp.ext hs27 rfl rfl)⟩
      · refine WC.condF' rfl hc26 ?_
        refine WC.skip ?_
        refine At.then ?_
        refine WC.seq ?_
        refine WC.region ?_
        refine WL.y (Y.assign rfl) rfl ?_
        refine WL.nil ?_
        refine At.then ?_
        refine WC.ret ?_
        refine At.thenR ?_
        obtain rfl := some1 h
        have hs28 : Stp [] (Lg.O0 A) w O18 wd19 := (Stp.up hst20 rfl)
        exact At.res (.inl rfl) rfl (.tmp rfl .nil) ⟨rfl, (Stp.ext hs28 rfl rfl)⟩
    · refine WC.condF' rfl hc25 ?_
      refine WC.skip ?_
      refine At.then ?_
      refine WC.seq ?_
      refine WC.seq ?_
      refine WC.region ?_
      refine WL.y (Y.fieldAddr fo25_1 rfl) rfl ?_
      refine WL.y (Y.loadSc ty23 rfl rfl (hb16.cell 1 _ rfl)) rfl ?_
      obtain ⟨e29, he29, h⟩ := bnd h
      obtain ⟨b30, off38, cap37, cs36, hv31, hi32, hl33, hc34, hok35, hA39⟩ := Sl.at2 hf21 he29
      obtain rfl := hok35
      replace hc34 : CellsAt _ _ _ [vu e29] := hc34
      have hca40 := CAt.imm hc34 hA39
      refine WL.y (Y.indexAddr ty23 ty22 rfl hv31 rfl hi32 hl33) rfl ?_
      refine WL.y (Y.loadSc ty22 rfl rfl hca40.at_) rfl ?_
      refine WL.y (Y.eql_u (b := 0) rfl rfl) rfl ?_
      refine WL.y (Y.move rfl) rfl ?_
      obtain ⟨p42, h, hk43⟩ := bnd h
      refine WL.cut 8 (σ := Bool) (fun x w' => x = p42 ∧ wd19 = w') (fun x => [(1, .pointer (some ⟨p17, 0, none⟩)), (3, vi nv22), (27, .bool x)]) ?_ ?_
      · rcases cnd h with ⟨hE44, h⟩ | ⟨hE44, h⟩
        · refine WL.ren 19 rfl (congrArg Value.bool hE44) ?_
          refine WL.gS rfl rfl rfl rfl ?_
          refine WL.gS rfl rfl rfl rfl ?_
          refine WL.gS rfl rfl rfl rfl ?_
          refine WL.gS rfl rfl rfl rfl ?_
          refine WL.gS rfl rfl rfl rfl ?_
          refine WL.gS rfl rfl rfl rfl ?_
          refine WL.gS rfl rfl rfl rfl ?_
          refine WL.y (Y.pick (b := true) rfl rfl) rfl ?_
          exact WL.nil (At.join (σ := Bool) true ⟨some1 h, rfl⟩ (.cons rfl (.cons rfl (.cons rfl .nil))))
        · refine WL.ren 19 rfl (congrArg Value.bool hE44) ?_
          refine WL.ung rfl rfl ?_
          refine WL.y (Y.fieldAddr fo25_1 rfl) rfl ?_
          refine WL.ung rfl rfl ?_
          refine WL.y (Y.loadSc ty23 rfl rfl (hb16.cell 1 _ rfl)) rfl ?_
          refine WL.ung rfl rfl ?_
          refine WL.y (Y.move rfl) rfl ?_
          refine WL.ung rfl rfl ?_
          refine WL.y (Y.sub_i rfl rfl) rfl ?_
          refine WL.ung rfl rfl ?_
          obtain ⟨e45, he45, h⟩ := bnd h
          obtain ⟨b46, off54, cap53, cs52, hv47, hi48, hl49, hc50, hok51, hA55⟩ := Sl.at2 hf21 he45
          obtain rfl := hok51
          replace hc50 : CellsAt _ _ _ [vu e45] := hc50
          have hca56 := CAt.imm hc50 hA55
          refine WL.y (Y.indexAddr ty23 ty22 rfl hv47 rfl hi48 hl49) rfl ?_
          refine WL.ung rfl rfl ?_
          refine WL.y (Y.loadSc ty22 rfl rfl hca56.at_) rfl ?_
          refine WL.ung rfl rfl ?_
          refine WL.y (Y.eql_u (b := 0) rfl rfl) rfl ?_
          refine WL.y (Y.pick (b := false) rfl rfl) rfl ?_
          exact WL.nil (At.join (σ := Bool) (decide (e45 = 0)) ⟨some1 h, rfl⟩ (.cons rfl (.cons rfl (.cons rfl .nil))))
      · rintro x41 _ ⟨rfl, rfl⟩
        replace h := hk43
        try dsimp only at h
        refine (show WL _ _ _ _ _ [(1, .pointer (some ⟨p17, 0, none⟩)), (3, vi nv22), (27, .bool x41)] _ from ?_)
        refine WL.nil ?_
        refine At.then ?_
        rcases cnd h with ⟨hc57, h⟩ | ⟨hc57, h⟩
        · refine WC.condT' rfl hc57 ?_
          refine WC.seq ?_
          refine WC.region ?_
          refine WL.y (Y.assign rfl) rfl ?_
          refine WL.nil ?_
          refine At.then ?_
          refine WC.ret ?_
          refine At.thenR ?_
          obtain rfl := some1 h
          have hs58 : Stp [] (Lg.O0 A) w O18 wd19 := (Stp.up hst20 rfl)
          exact At.res (.inl rfl) rfl (.tmp rfl .nil) ⟨rfl, (Stp.ext hs58 rfl rfl)⟩
        · refine WC.condF' rfl hc57 ?_
          refine WC.skip ?_
          refine At.then ?_
          refine WC.seq ?_
          refine WC.seq ?_
          refine WC.region ?_
          refine WL.y (Y.fieldAddr fo25_0 rfl) rfl ?_
          refine WL.y (Y.loadSc ty3 rfl rfl (hb16.cell 0 _ rfl)) rfl ?_
          refine WL.y (Y.lss_i rfl rfl) rfl ?_
          refine WL.y (Y.move rfl) rfl ?_
          refine WL.cut 4 (σ := Unit) (fun _ w' => wd19 = w') (fun _ => [(1, .pointer (some ⟨p17, 0, none⟩)), (3, vi nv22), (35, .bool ((decide (a0.Offset < (-1073741824))) || (decide (1073741824 < a0.Offset))))]) ?_ ?_
          · refine WL.part 31 rfl (fun hE59 => ?_) (fun hE59 => ?_)
            · refine WL.gS rfl rfl rfl rfl ?_
              refine WL.gS rfl rfl rfl rfl ?_
              refine WL.gS rfl rfl rfl rfl ?_
              refine WL.y (Y.pick (b := true) rfl rfl) rfl ?_
              refine WL.ren (v' := .bool ((decide (a0.Offset < (-1073741824))) || (decide (1073741824 < a0.Offset)))) 35 rfl (congrArg Value.bool (orT hE59)) ?_
              exact WL.nil (At.join () rfl (.cons rfl (.cons rfl (.cons rfl .nil))))
            · refine WL.ung rfl rfl ?_
              refine WL.y (Y.fieldAddr fo25_0 rfl) rfl ?_
              refine WL.ung rfl rfl ?_
              refine WL.y (Y.loadSc ty3 rfl rfl (hb16.cell 0 _ rfl)) rfl ?_
              refine WL.ung rfl rfl ?_
              refine WL.y (Y.gtr_i rfl rfl) rfl ?_
              refine WL.y (Y.pick (b := false) rfl rfl) rfl ?_
              refine WL.ren (v' := .bool ((decide (a0.Offset < (-1073741824))) || (decide (1073741824 < a0.Offset)))) 35 rfl (congrArg Value.bool (orF hE59)) ?_
              exact WL.nil (At.join () rfl (.cons rfl (.cons rfl (.cons rfl .nil))))
          · rintro _ _ rfl
            refine (show WL _ _ _ _ _ [(1, .pointer (some ⟨p17, 0, none⟩)), (3, vi nv22), (35, .bool ((decide (a0.Offset < (-1073741824))) || (decide (1073741824 < a0.Offset))))] _ from ?_)
            refine WL.y (Y.move rfl) rfl ?_
            refine WL.cut 7 (σ := Unit) (fun _ w' => wd19 = w') (fun _ => [(43, .bool (((decide (a0.Offset < (-1073741824))) || (decide (1073741824 < a0.Offset))) || (decide (1073741824 < w64 ((w64 (a0.Offset + nv22)) - 1)))))]) ?_ ?_
            · refine WL.part 36 rfl (fun hE60 => ?_) (fun hE60 => ?_)
              · refine WL.gS rfl rfl rfl rfl ?_
                refine WL.gS rfl rfl rfl rfl ?_
                refine WL.gS rfl rfl rfl rfl ?_
                refine WL.gS rfl rfl rfl rfl ?_
                refine WL.gS rfl rfl rfl rfl ?_
                refine WL.gS rfl rfl rfl rfl ?_
                refine WL.y (Y.pick (b := true) rfl rfl) rfl ?_
                refine WL.ren (v' := .bool (((decide (a0.Offset < (-1073741824))) || (decide (1073741824 < a0.Offset))) || (decide (1073741824 < w64 ((w64 (a0.Offset + nv22)) - 1))))) 43 rfl (congrArg Value.bool (orT hE60)) ?_
                exact WL.nil (At.join () rfl (.cons rfl .nil))
              · refine WL.ung rfl rfl ?_
                refine WL.y (Y.fieldAddr fo25_0 rfl) rfl ?_
                refine WL.ung rfl rfl ?_
                refine WL.y (Y.loadSc ty3 rfl rfl (hb16.cell 0 _ rfl)) rfl ?_
                refine WL.ung rfl rfl ?_
                refine WL.y (Y.move rfl) rfl ?_
                refine WL.ung rfl rfl ?_
                refine WL.y (Y.add_i rfl rfl) rfl ?_
                refine WL.ung rfl rfl ?_
                refine WL.y (Y.sub_i rfl rfl) rfl ?_
                refine WL.ung rfl rfl ?_
                refine WL.y (Y.gtr_i rfl rfl) rfl ?_
                refine WL.y (Y.pick (b := false) rfl rfl) rfl ?_
                refine WL.ren (v' := .bool (((decide (a0.Offset < (-1073741824))) || (decide (1073741824 < a0.Offset))) || (decide (1073741824 < w64 ((w64 (a0.Offset + nv22)) - 1))))) 43 rfl (congrArg Value.bool (orF hE60)) ?_
                exact WL.nil (At.join () rfl (.cons rfl .nil))
            · rintro _ _ rfl
              refine (show WL _ _ _ _ _ [(43, .bool (((decide (a0.Offset < (-1073741824))) || (decide (1073741824 < a0.Offset))) || (decide (1073741824 < w64 ((w64 (a0.Offset + nv22)) - 1)))))] _ from ?_)
              refine WL.nil ?_
              refine At.then ?_
              rcases cnd h with ⟨hc61, h⟩ | ⟨hc61, h⟩
              · refine WC.condT' rfl hc61 ?_
                refine WC.seq ?_
                refine WC.region ?_
                refine WL.y (Y.assign rfl) rfl ?_
                refine WL.nil ?_
                refine At.then ?_
                refine WC.ret ?_
                refine At.thenR ?_
                obtain rfl := some1 h
                have hs62 : Stp [] (Lg.O0 A) w O18 wd19 := (Stp.up hst20 rfl)
                exact At.res (.inl rfl) rfl (.tmp rfl .nil) ⟨rfl, (Stp.ext hs62 rfl rfl)⟩
              · refine WC.condF' rfl hc61 ?_
                refine WC.skip ?_
                refine At.then ?_
                refine WC.seq ?_
                refine WC.region ?_
                refine WL.y (Y.assign rfl) rfl ?_
                refine WL.nil ?_
                refine At.then ?_
                refine WC.ret ?_
                obtain rfl := some1 h
                have hs63 : Stp [] (Lg.O0 A) w O18 wd19 := (Stp.up hst20 rfl)
                exact At.res (.inl rfl) rfl (.tmp rfl .nil) ⟨rfl, (Stp.ext hs63 rfl rfl)⟩

theorem c_ref08_Check {A : Nat → Prop} {v0_3 : Value} {v0_5 : Value} {a0 : api_Hist} {w : World} (hs0_3 : Sl Rep.u w A v0_3 a0.Pos.Counts) (hs0_5 : Sl Rep.u w A v0_5 a0.Neg.Counts) {r0 : Int} (h : ref08_Check a0 = some r0) : Rets Try.prog 20 [.agg [vi a0.Scale, vu a0.Zero, vi a0.Pos.Offset, v0_3, vi a0.Neg.Offset, v0_5].toArray] w (fun v w' => v = vi r0 ∧ Ext w w') := by
  unfold ref08_Check at h
  refine Rets.enter Try.func20 rfl rfl ?_
  have hf11 : Sl Rep.u w (imm (Lg.O0 A)) v0_3 a0.Pos.Counts := (Sl.start hs0_3)
  have hf12 : Sl Rep.u w (imm (Lg.O0 A)) v0_5 a0.Neg.Counts := (Sl.start hs0_5)
  refine (show WC _ _ _ _ [(0, .agg [vi a0.Scale, vu a0.Zero, vi a0.Pos.Offset, v0_3, vi a0.Neg.Offset, v0_5].toArray)] _ from ?_)
  refine WC.seq ?_
  refine WC.region ?_
  have hh16 := h
  obtain ⟨p13, m14, c15, rfl⟩ := hf11.shape
  have h := hh16
  have hh20 := h
  obtain ⟨p17, m18, c19, rfl⟩ := hf12.shape
  have h := hh20
  refine WL.box (O := (Lg.O0 A)) 11 [vi a0.Scale, vu a0.Zero, vi a0.Pos.Offset, (.slice p13 m14 c15), vi a0.Neg.Offset, (.slice p17 m18 c19)] rfl rfl rfl ?_
  intro p22 O23 wd24 hst25 hb21
  refine WL.y (Y.assign rfl) rfl ?_
  refine WL.nil ?_
  refine At.then ?_
  refine WC.seq ?_
  refine WC.seq ?_
  refine WC.region ?_
  refine WL.y (Y.fieldAddr fo27_0 rfl) rfl ?_
  refine WL.y (Y.loadSc ty3 rfl rfl (hb21.cell 0 _ rfl)) rfl ?_
  refine WL.y (Y.lss_i rfl rfl) rfl ?_
  refine WL.y (Y.move rfl) rfl ?_
  refine WL.cut 4 (σ := Unit) (fun _ w' => wd24 = w') (fun _ => [(1, .pointer (some ⟨p22, 0, none⟩)), (14, .bool ((decide (a0.Scale < (-10))) || (decide (20 < a0.Scale))))]) ?_ ?_
  · refine WL.part 10 rfl (fun hE26 => ?_) (fun hE26 => ?_)
    · refine WL.gS rfl rfl rfl rfl ?_
      refine WL.gS rfl rfl rfl rfl ?_
      refine WL.gS rfl rfl rfl rfl ?_
      refine WL.y (Y.pick (b := true) rfl rfl) rfl ?_
      refine WL.ren (v' := .bool ((decide (a0.Scale < (-10))) || (decide (20 < a0.Scale)))) 14 rfl (congrArg Value.bool (orT hE26)) ?_
      exact WL.nil (At.join () rfl (.cons rfl (.cons rfl .nil)))
    · refine WL.ung rfl rfl ?_
      refine WL.y (Y.fieldAddr fo27_0 rfl) rfl ?_
      refine WL.ung rfl rfl ?_
      refine WL.y (Y.loadSc ty3 rfl rfl (hb21.cell 0 _ rfl)) rfl ?_
      refine WL.ung rfl rfl ?_
      refine WL.y (Y.gtr_i rfl rfl) rfl ?_
      refine WL.y (Y.pick (b := false) rfl rfl) rfl ?_
      refine WL.ren (v' := .bool ((decide (a0.Scale < (-10))) || (decide (20 < a0.Scale)))) 14 rfl (congrArg Value.bool (orF hE26)) ?_
      exact WL.nil (At.join () rfl (.cons rfl (.cons rfl .nil)))
  · rintro _ _ rfl
    refine (show WL _ _ _ _ _ [(1, .pointer (some ⟨p22, 0, none⟩)), (14, .bool ((decide (a0.Scale < (-10))) || (decide (20 < a0.Scale))))] _ from ?_)
    refine WL.nil ?_
    refine At.then ?_
    rcases cnd h with ⟨hc27, h⟩ | ⟨hc27, h⟩
    · refine WC.condT' rfl hc27 ?_
      refine WC.seq ?_
      refine WC.region ?_
      refine WL.y (Y.assign rfl) rfl ?_
      refine WL.nil ?_
      refine At.then ?_
      refine WC.ret ?_
      refine At.thenR ?_
      obtain rfl := some1 h
      have hs28 : Stp [] (Lg.O0 A) w O23 wd24 := (Stp.up hst25 rfl)
      exact At.res (.inl rfl) rfl (.tmp rfl .nil) ⟨rfl, (Stp.ext hs28 rfl rfl)⟩
    · refine WC.condF' rfl hc27 ?_
      refine WC.skip ?_
      refine At.then ?_
      refine WC.seq ?_
      refine WC.seq ?_
      refine WC.region ?_
      refine WL.y (Y.fieldAddr fo27_2 rfl) rfl ?_
      refine WL.y (Y.loadAg ty25 rfl rfl (hb21.cells 2 [vi a0.Pos.Offset, (.slice p13 m14 c15)] rfl) rfl) rfl ?_
      have hf29 := hf11.mono (imm_st hst25 rfl rfl)
      obtain ⟨r30, hp31, h⟩ := bnd h
      refine WL.call (vals := [.agg [vi a0.Pos.Offset, (.slice p13 m14 c15)].toArray]) kok61 rfl rfl (c_ref08_side (A := fun _ => True) (a0 := a0.Pos) (Sl.all hf29) hp31) ?_
      rintro vr34 wd33 ⟨rfl, hm32⟩
      obtain ⟨O35, hold36, hnew37, hst38⟩ := adoptE O23 (fun k => 1) hm32
      refine WL.y (Y.assign rfl) rfl ?_
      refine WL.nil ?_
      refine At.then ?_
      refine WC.seq ?_
      refine WC.region ?_
      refine WL.y (Y.move rfl) rfl ?_
      refine WL.y (Y.neq_i rfl rfl) rfl ?_
      refine WL.nil ?_
      refine At.then ?_
      rcases cnd h with ⟨hc39, h⟩ | ⟨hc39, h⟩
      · refine WC.condT' rfl hc39 ?_
        refine WC.seq ?_
        refine WC.region ?_
        refine WL.y (Y.move rfl) rfl ?_
        refine WL.y (Y.assign rfl) rfl ?_
        refine WL.nil ?_
        refine At.then ?_
        refine WC.ret ?_
        refine At.thenR ?_
        obtain rfl := some1 h
        have hs40 : Stp [] (Lg.O0 A) w O35 wd33 := (Stp.trans (Stp.up hst25 rfl) (Stp.up hst38 rfl))
        exact At.res (.inl rfl) rfl (.tmp rfl .nil) ⟨rfl, (Stp.ext hs40 rfl rfl)⟩
      · refine WC.condF' rfl hc39 ?_
        refine WC.skip ?_
        refine At.then ?_
        refine WC.seq ?_
        refine WC.seq ?_
        refine WC.region ?_
        refine WL.y (Y.fieldAddr fo27_3 rfl) rfl ?_
        have hf41 := hb21.st hst38 rfl
        refine WL.y (Y.loadAg ty25 rfl rfl (hf41.cells 4 [vi a0.Neg.Offset, (.slice p17 m18 c19)] rfl) rfl) rfl ?_
        have hf42 := hf12.mono (imm_st hst25 rfl rfl)
        have hf43 := hf42.mono (imm_st hst38 rfl rfl)
        obtain ⟨r44, hp45, h⟩ := bnd h
        refine WL.call (vals := [.agg [vi a0.Neg.Offset, (.slice p17 m18 c19)].toArray]) kok61 rfl rfl (c_ref08_side (A := fun _ => True) (a0 := a0.Neg) (Sl.all hf43) hp45) ?_
        rintro vr48 wd47 ⟨rfl, hm46⟩
        obtain ⟨O49, hold50, hnew51, hst52⟩ := adoptE O35 (fun k => 1) hm46
        refine WL.y (Y.assign rfl) rfl ?_
        refine WL.nil ?_
        refine At.then ?_
        refine WC.seq ?_
        refine WC.region ?_
        refine WL.y (Y.move rfl) rfl ?_
        refine WL.y (Y.neq_i rfl rfl) rfl ?_
        refine WL.nil ?_
        refine At.then ?_
        rcases cnd h with ⟨hc53, h⟩ | ⟨hc53, h⟩
        · refine WC.condT' rfl hc53 ?_
          refine WC.seq ?_
          refine WC.region ?_
          refine WL.y (Y.move rfl) rfl ?_
          refine WL.y (Y.assign rfl) rfl ?_
          refine WL.nil ?_
          refine At.then ?_
          refine WC.ret ?_
          refine At.thenR ?_
          obtain rfl := some1 h
          have hs54 : Stp [] (Lg.O0 A) w O49 wd47 := (Stp.trans (Stp.up hst25 rfl) (Stp.trans (Stp.up hst38 rfl) (Stp.up hst52 rfl)))
          exact At.res (.inl rfl) rfl (.tmp rfl .nil) ⟨rfl, (Stp.ext hs54 rfl rfl)⟩
        · refine WC.condF' rfl hc53 ?_
          refine WC.skip ?_
          refine At.then ?_
          refine WC.seq ?_
          refine WC.seq ?_
          refine WC.region ?_
          have hf55 := hf41.st hst52 rfl
          refine WL.y (Y.loadAg ty27 rfl rfl (hf55.cells 0 [vi a0.Scale, vu a0.Zero, vi a0.Pos.Offset, (.slice p13 m14 c15), vi a0.Neg.Offset, (.slice p17 m18 c19)] rfl) rfl) rfl ?_
          have hf56 := hf29.mono (imm_st hst38 rfl rfl)
          have hf57 := hf56.mono (imm_st hst52 rfl rfl)
          have hf58 := hf43.mono (imm_st hst52 rfl rfl)
          obtain ⟨⟨r59, r60⟩, hp61, h⟩ := bnd h
          refine WL.call (vals := [.agg [vi a0.Scale, vu a0.Zero, vi a0.Pos.Offset, (.slice p13 m14 c15), vi a0.Neg.Offset, (.slice p17 m18 c19)].toArray]) kok18 rfl rfl (c_ref08_Total (A := fun _ => True) (a0 := a0) (Sl.all hf57) (Sl.all hf58) hp61) ?_
          rintro vr64 wd63 ⟨rfl, hm62⟩
          obtain ⟨O65, hold66, hnew67, hst68⟩ := adoptE O49 (fun k => 1) hm62
          refine WL.y (Y.move rfl) rfl ?_
          refine WL.y (Y.extract rfl rfl) rfl ?_
          refine WL.y (Y.extract rfl rfl) rfl ?_
          refine WL.y (Y.assign rfl) rfl ?_
          refine WL.y (Y.assign rfl) rfl ?_
          refine WL.nil ?_
          refine At.then ?_
          refine WC.seq ?_
          refine WC.region ?_
          refine WL.y (Y.move rfl) rfl ?_
          refine WL.y (Y.not rfl) rfl ?_
          refine WL.nil ?_
          refine At.then ?_
          rcases cnd h with ⟨hc69, h⟩ | ⟨hc69, h⟩
          · refine WC.condT' rfl hc69 ?_
            refine WC.seq ?_
            refine WC.region ?_
            refine WL.y (Y.assign rfl) rfl ?_
            refine WL.nil ?_
            refine At.then ?_
            refine WC.ret ?_
            refine At.thenR ?_
            obtain rfl := some1 h
            have hs70 : Stp [] (Lg.O0 A) w O65 wd63 := (Stp.trans (Stp.up hst25 rfl) (Stp.trans (Stp.up hst38 rfl) (Stp.trans (Stp.up hst52 rfl) (Stp.up hst68 rfl))))
            exact At.res (.inl rfl) rfl (.tmp rfl .nil) ⟨rfl, (Stp.ext hs70 rfl rfl)⟩
          · refine WC.condF' rfl hc69 ?_
            refine WC.skip ?_
            refine At.then ?_
            refine WC.seq ?_
            refine WC.region ?_
            refine WL.y (Y.assign rfl) rfl ?_
            refine WL.nil ?_
            refine At.then ?_
            refine WC.ret ?_
            obtain rfl := some1 h
            have hs71 : Stp [] (Lg.O0 A) w O65 wd63 := (Stp.trans (Stp.up hst25 rfl) (Stp.trans (Stp.up hst38 rfl) (Stp.trans (Stp.up hst52 rfl) (Stp.up hst68 rfl))))
            exact At.res (.inl rfl) rfl (.tmp rfl .nil) ⟨rfl, (Stp.ext hs71 rfl rfl)⟩

theorem c_ref08_Trim {A : Nat → Prop} {v0_1 : Value} {a0 : api_Side} {w : World} (hs0_1 : Sl Rep.u w A v0_1 a0.Counts) {r0 : api_Side} (h : ref08_Trim a0 = some r0) : Rets Try.prog 29 [.agg [vi a0.Offset, v0_1].toArray] w (fun v w' => ∃ (u0_1 : Value), v = .agg (List.toArray [vi r0.Offset, u0_1]) ∧ Ext w w' ∧ Sl Rep.u w' (fun k => w.heap.size ≤ k) u0_1 r0.Counts) := by
  unfold ref08_Trim at h
  refine Rets.enter Try.func29 rfl rfl ?_
  have hf11 : Sl Rep.u w (imm (Lg.O0 A)) v0_1 a0.Counts := (Sl.start hs0_1)
  refine (show WC _ _ _ _ [(0, .agg [vi a0.Offset, v0_1].toArray)] _ from ?_)
  refine WC.seq ?_
  refine WC.region ?_
  have hh15 := h
  obtain ⟨p12, m13, c14, rfl⟩ := hf11.shape
  have h := hh15
  refine WL.box (O := (Lg.O0 A)) 11 [vi a0.Offset, (.slice p12 m13 c14)] rfl rfl rfl ?_
  intro p17 O18 wd19 hst20 hb16
  refine WL.alloc (O := O18) 12 [vi 0, .slice none 0 0] ty25 rfl rfl ?_
  intro p22 O23 wd24 hst25 hb21
  refine WL.nil ?_
  refine At.then ?_
  refine WC.seq ?_
  refine WC.region ?_
  refine WL.y (Y.fieldAddr fo25_1 rfl) rfl ?_
  have hf26 := hb16.st hst25 rfl
  refine WL.y (Y.loadSc ty23 rfl rfl (hf26.cell 1 _ rfl)) rfl ?_
  refine WL.y (Y.assign rfl) rfl ?_
  refine WL.nil ?_
  refine At.then ?_
  refine WC.seq ?_
  refine WC.region ?_
  refine WL.y (Y.fieldAddr fo25_0 rfl) rfl ?_
  refine WL.y (Y.loadSc ty3 rfl rfl (hf26.cell 0 _ rfl)) rfl ?_
  refine WL.y (Y.assign rfl) rfl ?_
  refine WL.nil ?_
  refine At.then ?_
  refine WC.seq ?_
  obtain ⟨p34, h, hk35⟩ := bnd h
  refine WC.join (σ := (List UInt64 × Int × Own × Value)) (fun x w' => (x.1, x.2.1) = p34 ∧ Stp [] O23 wd24 x.2.2.1 w' ∧ Sl Rep.u w' (imm x.2.2.1) x.2.2.2 x.1) (fun x => [(2, .pointer (some ⟨p22, 0, none⟩)), (3, x.2.2.2), (4, vi x.2.1)]) ?_ ?_
  · refine WC.block ?_
    obtain ⟨p50, h, hk52⟩ := flow1 h
    obtain ⟨k51, h⟩ := loop_some h
    refine WC.joinB 0 (σ := (List UInt64 × Int × Own × Value)) (fun x w' => p50 = .go (x.1, x.2.1) ∧ Stp [] O23 wd24 x.2.2.1 w' ∧ Sl Rep.u w' (imm x.2.2.1) x.2.2.2 x.1) (fun x => [(2, .pointer (some ⟨p22, 0, none⟩)), (3, x.2.2.2), (4, vi x.2.1)]) ?_ ?_
    · have hf53 := hf11.mono (imm_st hst20 rfl rfl)
      have hf54 := hf53.mono (imm_st hst25 rfl rfl)
      refine WC.loop (σ := (List UInt64 × Int × Own × Value)) (fun x k w' => loopN k (ref08_Trim_lp1) (x.1, x.2.1) = some p50 ∧ Stp [] O23 wd24 x.2.2.1 w' ∧ Sl Rep.u w' (imm x.2.2.1) x.2.2.2 x.1) (fun x => [(2, .pointer (some ⟨p22, 0, none⟩)), (3, x.2.2.2), (4, vi x.2.1)]) (a0.Counts, a0.Offset, O23, (.slice p12 m13 c14)) k51 (.cons rfl (.cons rfl (.cons rfl .nil))) ⟨h, (Stp.refl _ _ _), hf54⟩ ?_
      rintro ⟨l36, at39, O40, v37⟩ k51 wd41 ⟨h, hst42, hf38⟩
      obtain ⟨j55, q56, rfl, h, hn57⟩ := rnd1 h
      unfold ref08_Trim_lp1 at h
      try dsimp only at h hst42 hf38
      refine (show WC _ _ _ _ [(2, .pointer (some ⟨p22, 0, none⟩)), (3, v37), (4, vi at39)] _ from ?_)
      refine WC.seq ?_
      refine WC.seq ?_
      refine WC.region ?_
      refine WL.y (Y.move rfl) rfl ?_
      refine WL.y (Y.len ty23 rfl hf38) rfl ?_
      refine WL.y (Y.gtr_i rfl rfl) rfl ?_
      refine WL.y (Y.move rfl) rfl ?_
      obtain ⟨p59, h, hk60⟩ := bnd h
      refine WL.cut 5 (σ := Bool) (fun x w' => x = p59 ∧ wd41 = w') (fun x => [(2, .pointer (some ⟨p22, 0, none⟩)), (3, v37), (4, vi at39), (18, .bool x)]) ?_ ?_
      · rcases cnd h with ⟨hE61, h⟩ | ⟨hE61, h⟩
        · refine WL.ren 13 rfl (congrArg Value.bool hE61) ?_
          refine WL.ung rfl rfl ?_
          refine WL.y (Y.move rfl) rfl ?_
          refine WL.ung rfl rfl ?_
          obtain ⟨e62, he62, h⟩ := bnd h
          obtain ⟨b63, off71, cap70, cs69, hv64, hi65, hl66, hc67, hok68, hA72⟩ := Sl.at2 hf38 he62
          obtain rfl := hok68
          replace hc67 : CellsAt _ _ _ [vu e62] := hc67
          have hca73 := CAt.imm hc67 hA72
          refine WL.y (Y.indexAddr ty23 ty22 rfl hv64 rfl hi65 hl66) rfl ?_
          refine WL.ung rfl rfl ?_
          refine WL.y (Y.loadSc ty22 rfl rfl hca73.at_) rfl ?_
          refine WL.ung rfl rfl ?_
          refine WL.y (Y.eql_u (b := 0) rfl rfl) rfl ?_
          refine WL.y (Y.pick (b := true) rfl rfl) rfl ?_
          exact WL.nil (At.join (σ := Bool) (decide (e62 = 0)) ⟨some1 h, rfl⟩ (.cons rfl (.cons rfl (.cons rfl (.cons rfl .nil)))))
        · refine WL.ren 13 rfl (congrArg Value.bool hE61) ?_
          refine WL.gS rfl rfl rfl rfl ?_
          refine WL.gS rfl rfl rfl rfl ?_
          refine WL.gS rfl rfl rfl rfl ?_
          refine WL.gS rfl rfl rfl rfl ?_
          refine WL.y (Y.pick (b := false) rfl rfl) rfl ?_
          exact WL.nil (At.join (σ := Bool) false ⟨some1 h, rfl⟩ (.cons rfl (.cons rfl (.cons rfl (.cons rfl .nil)))))
      · rintro x58 _ ⟨rfl, rfl⟩
        replace h := hk60
        try dsimp only at h
        refine (show WL _ _ _ _ _ [(2, .pointer (some ⟨p22, 0, none⟩)), (3, v37), (4, vi at39), (18, .bool x58)] _ from ?_)
        refine WL.nil ?_
        refine At.then ?_
        rcases cnd h with ⟨hc74, h⟩ | ⟨hc74, h⟩
        · refine WC.condT' rfl hc74 ?_
          refine WC.skip ?_
          refine At.then ?_
          refine WC.block ?_
          refine WC.seq ?_
          refine WC.region ?_
          refine WL.y (Y.move rfl) rfl ?_
          obtain ⟨t75, ht75, h⟩ := bnd h
          obtain ⟨v76, hY78, hf77⟩ := Sl.slice (ρ := [(19, v37)]) (x := (.tmp 19)) (lo := (some (.const (.int .i64 1)))) (hi := none) ty23 ty22 rfl rfl rfl hf38 ht75
          refine WL.y (Y.sub (.cons rfl .nil) (hY78 _ _)) rfl ?_
          refine WL.y (Y.assign rfl) rfl ?_
          refine WL.nil ?_
          refine At.then ?_
          refine WC.region ?_
          refine WL.y (Y.move rfl) rfl ?_
          refine WL.y (Y.add_i rfl rfl) rfl ?_
          obtain ⟨at79, hat79, h⟩ := lt1 h
          refine WL.yE (Y.assign rfl) (congrArg vi hat79.symm) rfl ?_
          refine WL.nil ?_
          refine At.inBlock ?_
          exact At.round (t75, at79, O40, v76) j55 (Nat.lt_succ_self _) ⟨next1 h hn57, (Stp.up hst42 rfl), hf77⟩ (.cons rfl (.cons rfl (.cons rfl .nil)))
        · refine WC.condF' rfl hc74 ?_
          refine WC.exit ?_
          refine At.thenX ?_
          refine At.loopX ?_
          exact At.hitB (σ := (List UInt64 × Int × Own × Value)) (l36, at39, O40, v37) ⟨brk1 h hn57, (Stp.up hst42 rfl), hf38⟩ (.cons rfl (.cons rfl (.cons rfl .nil)))
    · rintro ⟨l43, at46, O47, v44⟩ wd48 ⟨rfl, hst49, hf45⟩
      replace h := flowK_go hk52
      try dsimp only at h hst49 hf45
      refine (show At _ _ _ [(2, .pointer (some ⟨p22, 0, none⟩)), (3, v44), (4, vi at46)] _ from ?_)
      refine At.inBlockHit ?_
      exact At.join (σ := (List UInt64 × Int × Own × Value)) (l43, at46, O47, v44) ⟨some1 h, (Stp.up hst49 rfl), hf45⟩ (.cons rfl (.cons rfl (.cons rfl .nil)))
  · rintro ⟨l27, at30, O31, v28⟩ wd32 ⟨rfl, hst33, hf29⟩
    replace h := hk35
    try dsimp only at h hst33 hf29
    refine (show At _ _ _ [(2, .pointer (some ⟨p22, 0, none⟩)), (3, v28), (4, vi at30)] _ from ?_)
    refine At.then ?_
    refine WC.seq ?_
    obtain ⟨p86, h, hk87⟩ := bnd h
    refine WC.join (σ := (List UInt64 × Own × Value)) (fun x w' => x.1 = p86 ∧ Stp [] O31 wd32 x.2.1 w' ∧ Sl Rep.u w' (imm x.2.1) x.2.2 x.1) (fun x => [(2, .pointer (some ⟨p22, 0, none⟩)), (3, x.2.2), (4, vi at30)]) ?_ ?_
    · refine WC.block ?_
      obtain ⟨p100, h, hk102⟩ := flow1 h
      obtain ⟨k101, h⟩ := loop_some h
      refine WC.joinB 2 (σ := (List UInt64 × Own × Value)) (fun x w' => p100 = .go x.1 ∧ Stp [] O31 wd32 x.2.1 w' ∧ Sl Rep.u w' (imm x.2.1) x.2.2 x.1) (fun x => [(2, .pointer (some ⟨p22, 0, none⟩)), (3, x.2.2), (4, vi at30)]) ?_ ?_
      · refine WC.loop (σ := (List UInt64 × Own × Value)) (fun x k w' => loopN k (ref08_Trim_lp2) x.1 = some p100 ∧ Stp [] O31 wd32 x.2.1 w' ∧ Sl Rep.u w' (imm x.2.1) x.2.2 x.1) (fun x => [(2, .pointer (some ⟨p22, 0, none⟩)), (3, x.2.2), (4, vi at30)]) (l27, O31, v28) k101 (.cons rfl (.cons rfl (.cons rfl .nil))) ⟨h, (Stp.refl _ _ _), hf29⟩ ?_
        rintro ⟨l88, O91, v89⟩ k101 wd92 ⟨h, hst93, hf90⟩
        obtain ⟨j103, q104, rfl, h, hn105⟩ := rnd1 h
        unfold ref08_Trim_lp2 at h
        try dsimp only at h hst93 hf90
        refine (show WC _ _ _ _ [(2, .pointer (some ⟨p22, 0, none⟩)), (3, v89), (4, vi at30)] _ from ?_)
        refine WC.seq ?_
        refine WC.seq ?_
        refine WC.region ?_
        refine WL.y (Y.move rfl) rfl ?_
        refine WL.y (Y.len ty23 rfl hf90) rfl ?_
        refine WL.y (Y.gtr_i rfl rfl) rfl ?_
        refine WL.y (Y.move rfl) rfl ?_
        obtain ⟨p107, h, hk108⟩ := bnd h
        refine WL.cut 8 (σ := Bool) (fun x w' => x = p107 ∧ wd92 = w') (fun x => [(2, .pointer (some ⟨p22, 0, none⟩)), (3, v89), (4, vi at30), (34, .bool x)]) ?_ ?_
        · rcases cnd h with ⟨hE109, h⟩ | ⟨hE109, h⟩
          · refine WL.ren 26 rfl (congrArg Value.bool hE109) ?_
            refine WL.ung rfl rfl ?_
            refine WL.y (Y.move rfl) rfl ?_
            refine WL.ung rfl rfl ?_
            refine WL.y (Y.move rfl) rfl ?_
            refine WL.ung rfl rfl ?_
            refine WL.y (Y.len ty23 rfl hf90) rfl ?_
            refine WL.ung rfl rfl ?_
            refine WL.y (Y.sub_i rfl rfl) rfl ?_
            refine WL.ung rfl rfl ?_
            obtain ⟨e110, he110, h⟩ := bnd h
            obtain ⟨b111, off119, cap118, cs117, hv112, hi113, hl114, hc115, hok116, hA120⟩ := Sl.at2 hf90 he110
            obtain rfl := hok116
            replace hc115 : CellsAt _ _ _ [vu e110] := hc115
            have hca121 := CAt.imm hc115 hA120
            refine WL.y (Y.indexAddr ty23 ty22 rfl hv112 rfl hi113 hl114) rfl ?_
            refine WL.ung rfl rfl ?_
            refine WL.y (Y.loadSc ty22 rfl rfl hca121.at_) rfl ?_
            refine WL.ung rfl rfl ?_
            refine WL.y (Y.eql_u (b := 0) rfl rfl) rfl ?_
            refine WL.y (Y.pick (b := true) rfl rfl) rfl ?_
            exact WL.nil (At.join (σ := Bool) (decide (e110 = 0)) ⟨some1 h, rfl⟩ (.cons rfl (.cons rfl (.cons rfl (.cons rfl .nil)))))
          · refine WL.ren 26 rfl (congrArg Value.bool hE109) ?_
            refine WL.gS rfl rfl rfl rfl ?_
            refine WL.gS rfl rfl rfl rfl ?_
            refine WL.gS rfl rfl rfl rfl ?_
            refine WL.gS rfl rfl rfl rfl ?_
            refine WL.gS rfl rfl rfl rfl ?_
            refine WL.gS rfl rfl rfl rfl ?_
            refine WL.gS rfl rfl rfl rfl ?_
            refine WL.y (Y.pick (b := false) rfl rfl) rfl ?_
            exact WL.nil (At.join (σ := Bool) false ⟨some1 h, rfl⟩ (.cons rfl (.cons rfl (.cons rfl (.cons rfl .nil)))))
        · rintro x106 _ ⟨rfl, rfl⟩
          replace h := hk108
          try dsimp only at h
          refine (show WL _ _ _ _ _ [(2, .pointer (some ⟨p22, 0, none⟩)), (3, v89), (4, vi at30), (34, .bool x106)] _ from ?_)
          refine WL.nil ?_
          refine At.then ?_
          rcases cnd h with ⟨hc122, h⟩ | ⟨hc122, h⟩
          · refine WC.condT' rfl hc122 ?_
            refine WC.skip ?_
            refine At.then ?_
            refine WC.block ?_
            refine WC.region ?_
            refine WL.y (Y.move rfl) rfl ?_
            refine WL.y (Y.move rfl) rfl ?_
            refine WL.y (Y.len ty23 rfl hf90) rfl ?_
            refine WL.y (Y.sub_i rfl rfl) rfl ?_
            obtain ⟨t123, ht123, h⟩ := bnd h
            obtain ⟨v124, hY126, hf125⟩ := Sl.slice (ρ := [(35, v89), (38, vi (w64 ((l88.length : Int) - 1)))]) (x := (.tmp 35)) (lo := none) (hi := (some (.tmp 38))) ty23 ty22 rfl rfl rfl hf90 ht123
            refine WL.y (Y.sub (.cons rfl (.cons rfl .nil)) (hY126 _ _)) rfl ?_
            refine WL.y (Y.assign rfl) rfl ?_
            refine WL.nil ?_
            refine At.inBlock ?_
            exact At.round (t123, O91, v124) j103 (Nat.lt_succ_self _) ⟨next1 h hn105, (Stp.up hst93 rfl), hf125⟩ (.cons rfl (.cons rfl (.cons rfl .nil)))
          · refine WC.condF' rfl hc122 ?_
            refine WC.exit ?_
            refine At.thenX ?_
            refine At.loopX ?_
            exact At.hitB (σ := (List UInt64 × Own × Value)) (l88, O91, v89) ⟨brk1 h hn105, (Stp.up hst93 rfl), hf90⟩ (.cons rfl (.cons rfl (.cons rfl .nil)))
      · rintro ⟨l94, O97, v95⟩ wd98 ⟨rfl, hst99, hf96⟩
        replace h := flowK_go hk102
        try dsimp only at h hst99 hf96
        refine (show At _ _ _ [(2, .pointer (some ⟨p22, 0, none⟩)), (3, v95), (4, vi at30)] _ from ?_)
        refine At.inBlockHit ?_
        exact At.join (σ := (List UInt64 × Own × Value)) (l94, O97, v95) ⟨some1 h, (Stp.up hst99 rfl), hf96⟩ (.cons rfl (.cons rfl (.cons rfl .nil)))
    · rintro ⟨l80, O83, v81⟩ wd84 ⟨rfl, hst85, hf82⟩
      replace h := hk87
      try dsimp only at h hst85 hf82
      refine (show At _ _ _ [(2, .pointer (some ⟨p22, 0, none⟩)), (3, v81), (4, vi at30)] _ from ?_)
      refine At.then ?_
      refine WC.seq ?_
      refine WC.seq ?_
      refine WC.region ?_
      refine WL.y (Y.move rfl) rfl ?_
      refine WL.y (Y.len ty23 rfl hf82) rfl ?_
      refine WL.y (Y.eql_i rfl rfl) rfl ?_
      refine WL.nil ?_
      refine At.then ?_
      rcases cnd h with ⟨hc127, h⟩ | ⟨hc127, h⟩
      · refine WC.condT' rfl hc127 ?_
        refine WC.seq ?_
        refine WC.region ?_
        refine WL.y (Y.build (vals := []) (cells := [vi 0, .slice none 0 0]) (Fits.evalp rfl) (by kernel_rfl)) rfl ?_
        have hf128 := hb21.st hst33 rfl
        have hf129 := hf128.st hst85 rfl
        refine WL.store (v := .agg [vi 0, .slice none 0 0].toArray) (cells' := [vi 0, .slice none 0 0]) ty25 rfl rfl hf129 rfl (Nat.le_of_ble_eq_true rfl) rfl rfl ?_
        intro wd130 hst131 hb132
        refine WL.nil ?_
        refine At.then ?_
        refine WC.ret ?_
        refine At.thenR ?_
        obtain rfl := some1 h
        have hs133 : Stp [12] (Lg.O0 A) w O83 wd130 := (Stp.trans (Stp.up hst20 rfl) (Stp.trans (Stp.up hst25 rfl) (Stp.trans (Stp.up hst33 rfl) (Stp.trans (Stp.up hst85 rfl) (Stp.up hst131 rfl)))))
        exact At.res (.inl rfl) rfl (.cell rfl (hb132.runAg 0 [vi 0, .slice none 0 0] ty25 rfl rfl rfl) .nil) ⟨.slice none 0 0, rfl, (Stp.ext hs133 rfl rfl), (Or.inl ⟨rfl, rfl⟩)⟩
      · refine WC.condF' rfl hc127 ?_
        refine WC.skip ?_
        refine At.then ?_
        refine WC.seq ?_
        refine WC.region ?_
        refine WL.y (Y.assign rfl) rfl ?_
        refine WL.nil ?_
        refine At.then ?_
        refine WC.seq ?_
        refine WC.region ?_
        refine WL.y (Y.move rfl) rfl ?_
        refine WL.y (Y.move rfl) rfl ?_
        obtain ⟨xs134, hxs134, h⟩ := bnd h
        have ho135 := OwnSl.nil (O := O83) (w := wd84) 13 Rep.u 22
        refine WL.append (by decide) ty23 ty22 rfl (by decide) rfl rfl ho135 (Sl.src hf82) hxs134 rfl ?_
        intro v139 O136 wd137 hst138 ho140
        refine WL.y (Y.assign rfl) rfl ?_
        refine WL.nil ?_
        refine At.then ?_
        refine WC.seq ?_
        refine WC.region ?_
        refine WL.y (Y.move rfl) rfl ?_
        refine WL.y (Y.move rfl) rfl ?_
        have hh144 := h
        obtain ⟨p141, m142, c143, rfl⟩ := ho140.shape
        have h := hh144
        refine WL.y (Y.build (vals := [(0, vi at30), (1, (.slice p141 m142 c143))]) (cells := [vi at30, (.slice p141 m142 c143)]) (Fits.evalp rfl) (by kernel_rfl)) rfl ?_
        have hf145 := hb21.st hst33 rfl
        have hf146 := hf145.st hst85 rfl
        have hf147 := hf146.st hst138 rfl
        refine WL.store (v := .agg [vi at30, (.slice p141 m142 c143)].toArray) (cells' := [vi at30, (.slice p141 m142 c143)]) ty25 rfl rfl hf147 rfl (Nat.le_of_ble_eq_true rfl) rfl rfl ?_
        intro wd148 hst149 hb150
        refine WL.nil ?_
        refine At.then ?_
        refine WC.ret ?_
        obtain rfl := some1 h
        have hf151 := ho140.st hst149 rfl rfl rfl
        obtain ⟨O152, hst153, hf154⟩ := OwnSl.giveF rfl Flat.u hf151
        have hs155 : Stp [12, 13] (Lg.O0 A) w O152 wd148 := (Stp.trans (Stp.up hst20 rfl) (Stp.trans (Stp.up hst25 rfl) (Stp.trans (Stp.up hst33 rfl) (Stp.trans (Stp.up hst85 rfl) (Stp.trans (Stp.up hst138 rfl) (Stp.trans (Stp.up hst149 rfl) (Stp.up hst153 rfl)))))))
        have hf156 := hb150.st hst153 rfl
        exact At.res (.inl rfl) rfl (.cell rfl (hf156.runAg 0 [vi at30, (.slice p141 m142 c143)] ty25 rfl rfl rfl) .nil) ⟨(.slice p141 m142 c143), rfl, (Stp.ext hs155 rfl rfl), (Sl.outF hf154 hs155 low0)⟩

theorem c_ref08_half {a0 : Int} {w : World} {r0 : Int} (h : ref08_half a0 = some r0) : Rets Try.prog 93 [vi a0] w (fun v w' => v = vi r0 ∧ Ext w w') := by
  unfold ref08_half at h
  refine Rets.enter Try.func93 rfl rfl ?_
  refine (show WC _ _ _ _ [(0, vi a0)] _ from ?_)
  refine WC.seq ?_
  refine WC.region ?_
  refine WL.y (Y.assign rfl) rfl ?_
  refine WL.nil ?_
  refine At.then ?_
  refine WC.seq ?_
  refine WC.seq ?_
  refine WC.region ?_
  refine WL.y (Y.move rfl) rfl ?_
  refine WL.y (Y.lss_i rfl rfl) rfl ?_
  refine WL.nil ?_
  refine At.then ?_
  rcases cnd h with ⟨hc11, h⟩ | ⟨hc11, h⟩
  · refine WC.condT' rfl hc11 ?_
    refine WC.seq ?_
    refine WC.region ?_
    refine WL.y (Y.move rfl) rfl ?_
    refine WL.y (Y.sub_i rfl rfl) rfl ?_
    refine WL.y (Y.quo_i (by decide) rfl rfl) rfl ?_
    refine WL.y (Y.sub_i rfl rfl) rfl ?_
    obtain ⟨t12, ht12, h⟩ := lt1 h
    refine WL.yE (Y.assign rfl) (congrArg vi ht12.symm) rfl ?_
    refine WL.nil ?_
    refine At.then ?_
    refine WC.ret ?_
    refine At.thenR ?_
    obtain rfl := some1 h
    have hs13 : Stp [] (Lg.O0 (fun _ => False)) w (Lg.O0 (fun _ => False)) w := (Stp.refl _ _ _)
    exact At.res (.inl rfl) rfl (.tmp rfl .nil) ⟨rfl, (Stp.ext hs13 rfl rfl)⟩
  · refine WC.condF' rfl hc11 ?_
    refine WC.skip ?_
    refine At.then ?_
    refine WC.seq ?_
    refine WC.region ?_
    refine WL.y (Y.move rfl) rfl ?_
    refine WL.y (Y.quo_i (by decide) rfl rfl) rfl ?_
    obtain ⟨t14, ht14, h⟩ := lt1 h
    refine WL.yE (Y.assign rfl) (congrArg vi ht14.symm) rfl ?_
    refine WL.nil ?_
    refine At.then ?_
    refine WC.ret ?_
    obtain rfl := some1 h
    have hs15 : Stp [] (Lg.O0 (fun _ => False)) w (Lg.O0 (fun _ => False)) w := (Stp.refl _ _ _)
    exact At.res (.inl rfl) rfl (.tmp rfl .nil) ⟨rfl, (Stp.ext hs15 rfl rfl)⟩

theorem c_ref08_once {A : Nat → Prop} {v0_1 : Value} {a0 : api_Side} {w : World} (hs0_1 : Sl Rep.u w A v0_1 a0.Counts) {r0 : api_Side} (h : ref08_once a0 = some r0) : Rets Try.prog 63 [.agg [vi a0.Offset, v0_1].toArray] w (fun v w' => ∃ (u0_1 : Value), v = .agg (List.toArray [vi r0.Offset, u0_1]) ∧ Ext w w' ∧ Sl Rep.u w' (fun k => w.heap.size ≤ k) u0_1 r0.Counts) := by
  unfold ref08_once at h
  refine Rets.enter Try.func63 rfl rfl ?_
  have hf11 : Sl Rep.u w (imm (Lg.O0 A)) v0_1 a0.Counts := (Sl.start hs0_1)
  refine (show WC _ _ _ _ [(0, .agg [vi a0.Offset, v0_1].toArray)] _ from ?_)
  refine WC.seq ?_
  refine WC.region ?_
  have hh15 := h
  obtain ⟨p12, m13, c14, rfl⟩ := hf11.shape
  have h := hh15
  refine WL.box (O := (Lg.O0 A)) 11 [vi a0.Offset, (.slice p12 m13 c14)] rfl rfl rfl ?_
  intro p17 O18 wd19 hst20 hb16
  refine WL.alloc (O := O18) 12 [vi 0, .slice none 0 0] ty25 rfl rfl ?_
  intro p22 O23 wd24 hst25 hb21
  refine WL.nil ?_
  refine At.then ?_
  refine WC.seq ?_
  refine WC.region ?_
  refine WL.alloc (O := O23) 13 [vi 0, .slice none 0 0] ty25 rfl rfl ?_
  intro p27 O28 wd29 hst30 hb26
  refine WL.nil ?_
  refine At.then ?_
  refine WC.seq ?_
  refine WC.seq ?_
  refine WC.region ?_
  refine WL.y (Y.assign rfl) rfl ?_
  refine WL.nil ?_
  refine At.then ?_
  refine WC.block ?_
  obtain ⟨p48, h, hk50⟩ := flow1 h
  obtain ⟨k49, h⟩ := loop_some h
  refine WC.joinB 0 (σ := (Int × List UInt64 × Own × Value)) (fun x w' => p48 = .go (x.1, x.2.1) ∧ Stp [13, 14, 15, 16, 1002, 1004] O28 wd29 x.2.2.1 w' ∧ OwnSl 1008 Rep.u 22 x.2.2.1 w' x.2.2.2 x.2.1 ∧ Blk 13 x.2.2.1 w' p27 25 [vi x.1, x.2.2.2]) (fun x => [(2, .pointer (some ⟨p22, 0, none⟩)), (3, .pointer (some ⟨p27, 0, none⟩))]) ?_ ?_
  · refine WC.loop (σ := (Int × List UInt64 × Int × Own × Value)) (fun x k w' => loopN k (ref08_once_lp1 a0) (x.1, x.2.1, x.2.2.1) = some p48 ∧ Stp [13, 14, 15, 16, 1002, 1004] O28 wd29 x.2.2.2.1 w' ∧ OwnSl 1004 Rep.u 22 x.2.2.2.1 w' x.2.2.2.2 x.2.1 ∧ Blk 13 x.2.2.2.1 w' p27 25 [vi x.1, x.2.2.2.2]) (fun x => [(1, .pointer (some ⟨p17, 0, none⟩)), (2, .pointer (some ⟨p22, 0, none⟩)), (3, .pointer (some ⟨p27, 0, none⟩)), (4, vi x.2.2.1)]) (0, [], 0, O28, .slice none 0 0) k49 (.cons rfl (.cons rfl (.cons rfl (.cons rfl .nil)))) ⟨h, (Stp.refl _ _ _), (OwnSl.nil 1004 Rep.u 22), hb26⟩ ?_
    rintro ⟨c32, c33, i36, O37, v34⟩ k49 wd38 ⟨h, hst39, hf35, hb31⟩
    obtain ⟨j51, q52, rfl, h, hn53⟩ := rnd1 h
    unfold ref08_once_lp1 at h
    try dsimp only at h hst39 hf35 hb31
    refine (show WC _ _ _ _ [(1, .pointer (some ⟨p17, 0, none⟩)), (2, .pointer (some ⟨p22, 0, none⟩)), (3, .pointer (some ⟨p27, 0, none⟩)), (4, vi i36)] _ from ?_)
    refine WC.seq ?_
    refine WC.seq ?_
    refine WC.region ?_
    refine WL.y (Y.move rfl) rfl ?_
    refine WL.y (Y.fieldAddr fo25_1 rfl) rfl ?_
    have hf54 := hb16.st hst25 rfl
    have hf55 := hf54.st hst30 rfl
    have hf56 := hf55.st hst39 rfl
    refine WL.y (Y.loadSc ty23 rfl rfl (hf56.cell 1 _ rfl)) rfl ?_
    have hf57 := hf11.mono (imm_st hst20 rfl rfl)
    have hf58 := hf57.mono (imm_st hst25 rfl rfl)
    have hf59 := hf58.mono (imm_st hst30 rfl rfl)
    have hf60 := hf59.mono (imm_st hst39 rfl rfl)
    refine WL.y (Y.len ty23 rfl hf60) rfl ?_
    refine WL.y (Y.lss_i rfl rfl) rfl ?_
    refine WL.nil ?_
    refine At.then ?_
    rcases cnd h with ⟨hc61, h⟩ | ⟨hc61, h⟩
    · refine WC.condT' rfl hc61 ?_
      refine WC.skip ?_
      refine At.then ?_
      refine WC.seq ?_
      obtain ⟨p70, h, hk71⟩ := bnd h
      refine WC.join (σ := (Int × List UInt64 × Own × Value)) (fun x w' => (x.1, x.2.1) = p70 ∧ Stp [13, 14, 15, 1004] O37 wd38 x.2.2.1 w' ∧ OwnSl 1002 Rep.u 22 x.2.2.1 w' x.2.2.2 x.2.1 ∧ Blk 13 x.2.2.1 w' p27 25 [vi x.1, x.2.2.2]) (fun x => [(1, .pointer (some ⟨p17, 0, none⟩)), (2, .pointer (some ⟨p22, 0, none⟩)), (3, .pointer (some ⟨p27, 0, none⟩)), (4, vi i36)]) ?_ ?_
      · refine WC.block ?_
        refine WC.seq ?_
        refine WC.region ?_
        refine WL.y (Y.fieldAddr fo25_0 rfl) rfl ?_
        refine WL.y (Y.loadSc ty3 rfl rfl (hf56.cell 0 _ rfl)) rfl ?_
        refine WL.y (Y.move rfl) rfl ?_
        refine WL.y (Y.add_i rfl rfl) rfl ?_
        obtain ⟨r72, hp73, h⟩ := bnd h
        refine WL.call (vals := [vi (w64 (a0.Offset + i36))]) kok93 rfl rfl (c_ref08_half hp73) ?_
        rintro vr76 wd75 ⟨rfl, hm74⟩
        obtain ⟨O77, hold78, hnew79, hst80⟩ := adoptE O37 (fun k => 1) hm74
        refine WL.y (Y.assign rfl) rfl ?_
        refine WL.nil ?_
        refine At.then ?_
        refine WC.seq ?_
        refine WC.region ?_
        refine WL.y (Y.fieldAddr fo25_1 rfl) rfl ?_
        have hf81 := hb31.st hst80 rfl
        refine WL.y (Y.loadSc ty23 rfl rfl (hf81.cell 1 _ rfl)) rfl ?_
        have hf82 := hf35.st hst80 rfl rfl rfl
        refine WL.y (Y.len ty23 rfl hf82.src.sl) rfl ?_
        refine WL.y (Y.eql_i rfl rfl) rfl ?_
        refine WL.nil ?_
        refine At.then ?_
        rcases cnd h with ⟨hc83, h⟩ | ⟨hc83, h⟩
        · refine WC.condT' rfl hc83 ?_
          refine WC.seq ?_
          refine WC.region ?_
          refine WL.y (Y.move rfl) rfl ?_
          refine WL.y (Y.fieldAddr fo25_0 rfl) rfl ?_
          refine WL.store (v := vi r72) (cells' := [vi r72, v34]) ty3 rfl rfl hf81 rfl (Nat.le_of_ble_eq_true rfl) rfl rfl ?_
          intro wd84 hst85 hb86
          refine WL.nil ?_
          refine At.then ?_
          refine WC.region ?_
          refine WL.y (Y.fieldAddr fo25_1 rfl) rfl ?_
          have hf87 := hf56.st hst80 rfl
          have hf88 := hf87.st hst85 rfl
          refine WL.y (Y.loadSc ty23 rfl rfl (hf88.cell 1 _ rfl)) rfl ?_
          refine WL.y (Y.move rfl) rfl ?_
          obtain ⟨e89, he89, h⟩ := bnd h
          have hf98 := hf60.mono (imm_st hst80 rfl rfl)
          have hf99 := hf98.mono (imm_st hst85 rfl rfl)
          obtain ⟨b90, off100, cap97, cs96, hv91, hi92, hl93, hc94, hok95, hA101⟩ := Sl.at2 hf99 he89
          obtain rfl := hok95
          replace hc94 : CellsAt _ _ _ [vu e89] := hc94
          have hca102 := CAt.imm hc94 hA101
          refine WL.y (Y.indexAddr ty23 ty22 rfl hv91 rfl hi92 hl93) rfl ?_
          refine WL.y (Y.loadSc ty22 rfl rfl hca102.at_) rfl ?_
          refine WL.buildSlice (O := O77) (R := Rep.u) (vals := [(0, vu e89)]) 14 [vu e89] (xs := [e89]) (by decide) ty23 ty22 (by decide) (by decide) (Fits.evalp rfl) (by kernel_rfl) rfl ⟨[vu e89], [], rfl, rfl, rfl⟩ rfl ?_
          intro v103 O105 wd106 hst107 ho104
          refine WL.y (Y.fieldAddr fo25_1 rfl) rfl ?_
          have hh111 := h
          obtain ⟨p108, m109, c110, rfl⟩ := ho104.shape
          have h := hh111
          have hf112 := hb86.st hst107 rfl
          refine WL.store (v := (.slice p108 m109 c110)) (cells' := [vi r72, (.slice p108 m109 c110)]) ty23 rfl rfl hf112 rfl (Nat.le_of_ble_eq_true rfl) rfl rfl ?_
          intro wd113 hst114 hb115
          refine WL.nil ?_
          refine At.inBlock ?_
          have hf116 := ho104.st hst114 rfl rfl rfl
          obtain ⟨O117, hst118, ho119⟩ := OwnSl.rlb 1002 rfl hf116
          have hf120 := hb115.st hst118 rfl
          exact At.join (σ := (Int × List UInt64 × Own × Value)) (r72, [e89], O117, (.slice p108 m109 c110)) ⟨some1 h, (Stp.trans (Stp.up hst80 rfl) (Stp.trans (Stp.up hst85 rfl) (Stp.trans (Stp.up hst107 rfl) (Stp.trans (Stp.up hst114 rfl) (Stp.up hst118 rfl))))), ho119, hf120⟩ (.cons rfl (.cons rfl (.cons rfl (.cons rfl .nil))))
        · refine WC.condF' rfl hc83 ?_
          refine WC.seq ?_
          refine WC.region ?_
          refine WL.y (Y.move rfl) rfl ?_
          refine WL.y (Y.fieldAddr fo25_0 rfl) rfl ?_
          refine WL.y (Y.loadSc ty3 rfl rfl (hf81.cell 0 _ rfl)) rfl ?_
          refine WL.y (Y.fieldAddr fo25_1 rfl) rfl ?_
          refine WL.y (Y.loadSc ty23 rfl rfl (hf81.cell 1 _ rfl)) rfl ?_
          refine WL.y (Y.len ty23 rfl hf82.src.sl) rfl ?_
          refine WL.y (Y.add_i rfl rfl) rfl ?_
          refine WL.y (Y.sub_i rfl rfl) rfl ?_
          refine WL.y (Y.eql_i rfl rfl) rfl ?_
          refine WL.nil ?_
          refine At.then ?_
          rcases cnd h with ⟨hc121, h⟩ | ⟨hc121, h⟩
          · refine WC.condT' rfl hc121 ?_
            refine WC.seq ?_
            refine WC.region ?_
            refine WL.y (Y.fieldAddr fo25_1 rfl) rfl ?_
            refine WL.y (Y.loadSc ty23 rfl rfl (hf81.cell 1 _ rfl)) rfl ?_
            refine WL.y (Y.len ty23 rfl hf82.src.sl) rfl ?_
            obtain ⟨nv122, hnv122, h⟩ := lt1 h
            refine WL.yE (Y.assign rfl) (congrArg vi hnv122.symm) rfl ?_
            refine WL.nil ?_
            refine At.then ?_
            refine WC.seq ?_
            refine WC.draw 12 O77 fmix (by kernel_rfl) ?_
            intro wd123 hst124
            refine WS.y (Y.fieldAddr fo25_1 rfl) rfl ?_
            have hf125 := hf81.st hst124 rfl
            refine WS.y (Y.loadSc ty23 rfl rfl (hf125.cell 1 _ rfl)) rfl ?_
            refine WS.y (Y.move rfl) rfl ?_
            refine WS.y (Y.sub_i rfl rfl) rfl ?_
            obtain ⟨e126, he126, h⟩ := bnd h
            have hf135 := hf82.st hst124 rfl rfl rfl
            obtain ⟨b127, cap134, cs133, hv128, hi129, hl130, hc131, hok132⟩ := OwnSl.at hf135 he126
            obtain rfl := hok132
            replace hc131 : CellsAt _ _ _ [vu e126] := hc131
            have hca136 := CAt.own hf135 hv128 hc131
            refine WS.y (Y.indexAddr ty23 ty22 rfl hv128 rfl hi129 hl130) rfl ?_
            refine WS.y (Y.loadSc ty22 rfl rfl hca136.at_) rfl ?_
            refine WS.y (Y.fieldAddr fo25_1 rfl) rfl ?_
            have hf137 := hf56.st hst80 rfl
            have hf138 := hf137.st hst124 rfl
            refine WS.y (Y.loadSc ty23 rfl rfl (hf138.cell 1 _ rfl)) rfl ?_
            refine WS.y (Y.move rfl) rfl ?_
            obtain ⟨e139, he139, h⟩ := bnd h
            have hf148 := hf60.mono (imm_st hst80 rfl rfl)
            have hf149 := hf148.mono (imm_st hst124 rfl rfl)
            obtain ⟨b140, off150, cap147, cs146, hv141, hi142, hl143, hc144, hok145, hA151⟩ := Sl.at2 hf149 he139
            obtain rfl := hok145
            replace hc144 : CellsAt _ _ _ [vu e139] := hc144
            have hca152 := CAt.imm hc144 hA151
            refine WS.y (Y.indexAddr ty23 ty22 rfl hv141 rfl hi142 hl143) rfl ?_
            refine WS.y (Y.loadSc ty22 rfl rfl hca152.at_) rfl ?_
            refine WS.y (Y.add_u rfl rfl) rfl ?_
            refine WS.tail ?_
            obtain ⟨last153, hlast153, h⟩ := lt1 h
            refine WL.yE (Y.assign rfl) (congrArg vu hlast153.symm) rfl ?_
            refine WL.nil ?_
            refine At.then ?_
            refine WC.region ?_
            refine WL.buildSlice (O := O77) (R := Rep.u) (vals := []) 15 [] (xs := []) (by decide) ty23 ty22 (by decide) (by decide) (Fits.evalp rfl) (by kernel_rfl) rfl rfl rfl ?_
            intro v154 O156 wd157 hst158 ho155
            refine WL.y (Y.fieldAddr fo25_1 rfl) rfl ?_
            have hf159 := hf125.st hst158 rfl
            refine WL.y (Y.loadSc ty23 rfl rfl (hf159.cell 1 _ rfl)) rfl ?_
            refine WL.y (Y.move rfl) rfl ?_
            refine WL.y (Y.sub_i rfl rfl) rfl ?_
            obtain ⟨t160, ht160, h⟩ := bnd h
            have hf163 := hf135.st hst158 rfl rfl rfl
            refine WL.sliceOwn ty23 ty22 rfl rfl rfl hf163 ht160 rfl ?_
            intro v161 hf162
            obtain ⟨xs164, hxs164, h⟩ := bnd h
            refine WL.append (by decide) ty23 ty22 rfl (by decide) rfl rfl ho155 hf162.src hxs164 rfl ?_
            intro v168 O165 wd166 hst167 ho169
            refine WL.y (Y.move rfl) rfl ?_
            refine WL.buildSlice (O := O165) (R := Rep.u) (vals := [(0, vu last153)]) 16 [vu last153] (xs := [last153]) (by decide) ty23 ty22 (by decide) (by decide) (Fits.evalp rfl) (by kernel_rfl) rfl ⟨[vu last153], [], rfl, rfl, rfl⟩ rfl ?_
            intro v170 O172 wd173 hst174 ho171
            obtain ⟨xs175, hxs175, h⟩ := bnd h
            have hf176 := ho169.st hst174 rfl rfl rfl
            refine WL.append (by decide) ty23 ty22 rfl (by decide) rfl rfl hf176 ho171.src hxs175 rfl ?_
            intro v180 O177 wd178 hst179 ho181
            refine WL.y (Y.fieldAddr fo25_1 rfl) rfl ?_
            have hh185 := h
            obtain ⟨p182, m183, c184, rfl⟩ := ho181.shape
            have h := hh185
            have hf186 := hf159.st hst167 rfl
            have hf187 := hf186.st hst174 rfl
            have hf188 := hf187.st hst179 rfl
            refine WL.store (v := (.slice p182 m183 c184)) (cells' := [vi c32, (.slice p182 m183 c184)]) ty23 rfl rfl hf188 rfl (Nat.le_of_ble_eq_true rfl) rfl rfl ?_
            intro wd189 hst190 hb191
            refine WL.nil ?_
            refine At.inBlock ?_
            have hf192 := ho181.st hst190 rfl rfl rfl
            obtain ⟨O193, hst194, ho195⟩ := OwnSl.rlb 1002 rfl hf192
            have hf196 := hb191.st hst194 rfl
            exact At.join (σ := (Int × List UInt64 × Own × Value)) (c32, xs175, O193, (.slice p182 m183 c184)) ⟨some1 h, (Stp.trans (Stp.up hst80 rfl) (Stp.trans (Stp.up hst124 rfl) (Stp.trans (Stp.up hst158 rfl) (Stp.trans (Stp.up hst167 rfl) (Stp.trans (Stp.up hst174 rfl) (Stp.trans (Stp.up hst179 rfl) (Stp.trans (Stp.up hst190 rfl) (Stp.up hst194 rfl)))))))), ho195, hf196⟩ (.cons rfl (.cons rfl (.cons rfl (.cons rfl .nil))))
          · refine WC.condF' rfl hc121 ?_
            refine WC.drawH [1004] [0, 1, 2, 3, 4, 5, 6, 7, 8, 9] O77 11 fmix rfl (by kernel_rfl) ?_
            intro wd197 hst198
            refine WD.y 0 rfl (by kernel_rfl) (fun _ _ _ => Y.fieldAddr fo25_1 rfl) rfl ?_
            refine WD.y 1 rfl (by kernel_rfl) (fun wd203 O202 hst204 => have hf205 := hf81.st hst198 rfl; have hf206 := hf205.st hst204 rfl; Y.loadSc ty23 rfl rfl (hf206.cell 1 _ rfl)) rfl ?_
            refine WD.y 2 rfl (by kernel_rfl) (fun _ _ _ => Y.fieldAddr fo25_1 rfl) rfl ?_
            refine WD.y 3 rfl (by kernel_rfl) (fun wd211 O210 hst212 => have hf213 := hf56.st hst80 rfl; have hf214 := hf213.st hst198 rfl; have hf215 := hf214.st hst212 rfl; Y.loadSc ty23 rfl rfl (hf215.cell 1 _ rfl)) rfl ?_
            refine WD.y 4 rfl (by kernel_rfl) (fun _ _ _ => Y.move rfl) rfl ?_
            obtain ⟨e219, he219, h⟩ := bnd h
            have hf228 := hf60.mono (imm_st hst80 rfl rfl)
            have hf229 := hf228.mono (imm_st hst198 rfl rfl)
            obtain ⟨b220, off230, cap227, cs226, hv221, hi222, hl223, hc224, hok225, hA231⟩ := Sl.at2 hf229 he219
            obtain rfl := hok225
            replace hc224 : CellsAt _ _ _ [vu e219] := hc224
            have hca232 := CAt.imm hc224 hA231
            refine WD.y 5 rfl (by kernel_rfl) (fun _ _ _ => Y.indexAddr ty23 ty22 rfl hv221 rfl hi222 hl223) rfl ?_
            refine WD.y 6 rfl (by kernel_rfl) (fun wd237 O236 hst238 => have hf239 := hca232.st hst238 rfl; Y.loadSc ty22 rfl rfl hf239.at_) rfl ?_
            refine WD.heavy 7 rfl (by kernel_rfl) ?_
            refine WL.buildSlice (O := O77) (R := Rep.u) (vals := [(0, vu e219)]) 17 [vu e219] (xs := [e219]) (by decide) ty23 ty22 (by decide) (by decide) (Fits.evalp rfl) (by kernel_rfl) rfl ⟨[vu e219], [], rfl, rfl, rfl⟩ rfl ?_
            intro v240 O242 wd243 hst244 ho241
            refine WL.nil ?_
            refine At.dq (Stp.up hst244 rfl) ?_
            refine WD.heavy 8 rfl (by kernel_rfl) ?_
            obtain ⟨xs245, hxs245, h⟩ := bnd h
            have hf246 := hf82.st hst198 rfl rfl rfl
            have hf247 := hf246.st hst244 rfl rfl rfl
            refine WL.append (by decide) ty23 ty22 rfl (by decide) rfl rfl hf247 ho241.src hxs245 rfl ?_
            intro v251 O248 wd249 hst250 ho252
            refine WL.nil ?_
            refine At.dq (Stp.up hst250 rfl) ?_
            refine WD.y 9 rfl (by kernel_rfl) (fun _ _ _ => Y.fieldAddr fo25_1 rfl) rfl ?_
            refine WD.phase [13] [0, 1, 2, 3, 4, 5, 6, 7, 8, 9, 10] (by kernel_rfl) (by kernel_rfl) ?_
            refine WD.heavy 10 rfl (by kernel_rfl) ?_
            have hh259 := h
            obtain ⟨p256, m257, c258, rfl⟩ := ho252.shape
            have h := hh259
            have hf260 := hf81.st hst198 rfl
            have hf261 := hf260.st hst244 rfl
            have hf262 := hf261.st hst250 rfl
            refine WL.store (v := (.slice p256 m257 c258)) (cells' := [vi c32, (.slice p256 m257 c258)]) ty23 rfl rfl hf262 rfl (Nat.le_of_ble_eq_true rfl) rfl rfl ?_
            intro wd263 hst264 hb265
            refine WL.nil ?_
            refine At.dq (Stp.up hst264 rfl) ?_
            refine WD.done_ (by kernel_rfl) ?_
            refine At.inBlock ?_
            have hf266 := ho252.st hst264 rfl rfl rfl
            obtain ⟨O267, hst268, ho269⟩ := OwnSl.rlb 1002 rfl hf266
            have hf270 := hb265.st hst268 rfl
            exact At.join (σ := (Int × List UInt64 × Own × Value)) (c32, xs245, O267, (.slice p256 m257 c258)) ⟨some1 h, (Stp.trans (Stp.up hst80 rfl) (Stp.trans (Stp.up hst198 rfl) (Stp.trans (Stp.up hst244 rfl) (Stp.trans (Stp.up hst250 rfl) (Stp.trans (Stp.up hst264 rfl) (Stp.up hst268 rfl)))))), ho269, hf270⟩ (.cons rfl (.cons rfl (.cons rfl (.cons rfl .nil))))
      · rintro ⟨c63, c64, O67, v65⟩ wd68 ⟨rfl, hst69, hf66, hb62⟩
        replace h := hk71
        try dsimp only at h hst69 hf66 hb62
        refine (show At _ _ _ [(1, .pointer (some ⟨p17, 0, none⟩)), (2, .pointer (some ⟨p22, 0, none⟩)), (3, .pointer (some ⟨p27, 0, none⟩)), (4, vi i36)] _ from ?_)
        refine At.then ?_
        refine WC.region ?_
        refine WL.y (Y.move rfl) rfl ?_
        refine WL.y (Y.add_i rfl rfl) rfl ?_
        obtain ⟨i271, hi271, h⟩ := lt1 h
        refine WL.yE (Y.assign rfl) (congrArg vi hi271.symm) rfl ?_
        refine WL.nil ?_
        obtain ⟨O272, hst273, ho274⟩ := OwnSl.rlb 1004 rfl hf66
        have hf275 := hb62.st hst273 rfl
        exact At.round (c63, c64, i271, O272, v65) j51 (Nat.lt_succ_self _) ⟨next1 h hn53, (Stp.trans (Stp.up hst39 rfl) (Stp.trans (Stp.up hst69 rfl) (Stp.up hst273 rfl))), ho274, hf275⟩ (.cons rfl (.cons rfl (.cons rfl (.cons rfl .nil))))
    · refine WC.condF' rfl hc61 ?_
      refine WC.exit ?_
      refine At.thenX ?_
      refine At.loopX ?_
      obtain ⟨O276, hst277, ho278⟩ := OwnSl.rlb 1008 rfl hf35
      have hf279 := hb31.st hst277 rfl
      exact At.hitB (σ := (Int × List UInt64 × Own × Value)) (c32, c33, O276, v34) ⟨brk1 h hn53, (Stp.trans (Stp.up hst39 rfl) (Stp.up hst277 rfl)), ho278, hf279⟩ (.cons rfl (.cons rfl .nil))
  · rintro ⟨c41, c42, O45, v43⟩ wd46 ⟨rfl, hst47, hf44, hb40⟩
    replace h := flowK_go hk50
    try dsimp only at h hst47 hf44 hb40
    refine (show At _ _ _ [(2, .pointer (some ⟨p22, 0, none⟩)), (3, .pointer (some ⟨p27, 0, none⟩))] _ from ?_)
    refine At.inBlockHit ?_
    refine At.then ?_
    refine WC.seq ?_
    refine WC.region ?_
    refine WL.y (Y.loadAg ty25 rfl rfl (hb40.cells 0 [vi c41, v43] rfl) rfl) rfl ?_
    have hh283 := h
    obtain ⟨p280, m281, c282, rfl⟩ := hf44.shape
    have h := hh283
    have hf284 := hb21.st hst30 rfl
    have hf285 := hf284.st hst47 rfl
    refine WL.store (v := .agg [vi c41, (.slice p280 m281 c282)].toArray) (cells' := [vi c41, (.slice p280 m281 c282)]) ty25 rfl rfl hf285 rfl (Nat.le_of_ble_eq_true rfl) rfl rfl ?_
    intro wd286 hst287 hb288
    refine WL.nil ?_
    refine At.then ?_
    refine WC.ret ?_
    obtain rfl := some1 h
    have hf289 := hf44.st hst287 rfl rfl rfl
    obtain ⟨O290, hst291, hf292⟩ := OwnSl.giveF rfl Flat.u hf289
    have hs293 : Stp [12, 13, 14, 15, 16, 1002, 1004, 1008] (Lg.O0 A) w O290 wd286 := (Stp.trans (Stp.up hst20 rfl) (Stp.trans (Stp.up hst25 rfl) (Stp.trans (Stp.up hst30 rfl) (Stp.trans (Stp.up hst47 rfl) (Stp.trans (Stp.up hst287 rfl) (Stp.up hst291 rfl))))))
    have hf294 := hb288.st hst291 rfl
    exact At.res (.inl rfl) rfl (.cell rfl (hf294.runAg 0 [vi c41, (.slice p280 m281 c282)] ty25 rfl rfl rfl) .nil) ⟨(.slice p280 m281 c282), rfl, (Stp.ext hs293 rfl rfl), (Sl.outF hf292 hs293 low0)⟩

theorem c_ref08_Down {A : Nat → Prop} {v0_3 : Value} {v0_5 : Value} {a0 : api_Hist} {a1 : Int} {w : World} (hs0_3 : Sl Rep.u w A v0_3 a0.Pos.Counts) (hs0_5 : Sl Rep.u w A v0_5 a0.Neg.Counts) {r0 : api_Hist} {r1 : Int} (h : ref08_Down a0 a1 = some (r0, r1)) : Rets Try.prog 24 [.agg [vi a0.Scale, vu a0.Zero, vi a0.Pos.Offset, v0_3, vi a0.Neg.Offset, v0_5].toArray, vi a1] w (fun v w' => ∃ (u0_3 : Value) (u0_5 : Value), v = .tuple (List.toArray [.agg (List.toArray [vi r0.Scale, vu r0.Zero, vi r0.Pos.Offset, u0_3, vi r0.Neg.Offset, u0_5]), vi r1]) ∧ Ext w w' ∧ Sl Rep.u w' (fun k => w.heap.size ≤ k) u0_3 r0.Pos.Counts ∧ Sl Rep.u w' (fun k => w.heap.size ≤ k) u0_5 r0.Neg.Counts) := by
  unfold ref08_Down at h
  refine Rets.enter Try.func24 rfl rfl ?_
  have hf11 : Sl Rep.u w (imm (Lg.O0 A)) v0_3 a0.Pos.Counts := (Sl.start hs0_3)
  have hf12 : Sl Rep.u w (imm (Lg.O0 A)) v0_5 a0.Neg.Counts := (Sl.start hs0_5)
  refine (show WC _ _ _ _ [(0, .agg [vi a0.Scale, vu a0.Zero, vi a0.Pos.Offset, v0_3, vi a0.Neg.Offset, v0_5].toArray), (1, vi a1)] _ from ?_)
  refine WC.seq ?_
  refine WC.region ?_
  have hh16 := h
  obtain ⟨p13, m14, c15, rfl⟩ := hf11.shape
  have h := hh16
  have hh20 := h
  obtain ⟨p17, m18, c19, rfl⟩ := hf12.shape
  have h := hh20
  refine WL.box (O := (Lg.O0 A)) 11 [vi a0.Scale, vu a0.Zero, vi a0.Pos.Offset, (.slice p13 m14 c15), vi a0.Neg.Offset, (.slice p17 m18 c19)] rfl rfl rfl ?_
  intro p22 O23 wd24 hst25 hb21
  refine WL.alloc (O := O23) 12 [vi 0, vu 0, vi 0, .slice none 0 0, vi 0, .slice none 0 0] ty27 rfl rfl ?_
  intro p27 O28 wd29 hst30 hb26
  refine WL.y (Y.assign rfl) rfl ?_
  refine WL.nil ?_
  refine At.then ?_
  refine WC.seq ?_
  refine WC.seq ?_
  refine WC.region ?_
  have hf31 := hb21.st hst30 rfl
  refine WL.y (Y.loadAg ty27 rfl rfl (hf31.cells 0 [vi a0.Scale, vu a0.Zero, vi a0.Pos.Offset, (.slice p13 m14 c15), vi a0.Neg.Offset, (.slice p17 m18 c19)] rfl) rfl) rfl ?_
  have hf32 := hf11.mono (imm_st hst25 rfl rfl)
  have hf33 := hf32.mono (imm_st hst30 rfl rfl)
  have hf34 := hf12.mono (imm_st hst25 rfl rfl)
  have hf35 := hf34.mono (imm_st hst30 rfl rfl)
  obtain ⟨r36, hp37, h⟩ := bnd h
  refine WL.call (vals := [.agg [vi a0.Scale, vu a0.Zero, vi a0.Pos.Offset, (.slice p13 m14 c15), vi a0.Neg.Offset, (.slice p17 m18 c19)].toArray]) kok20 rfl rfl (c_ref08_Check (A := fun _ => True) (a0 := a0) (Sl.all hf33) (Sl.all hf35) hp37) ?_
  rintro vr40 wd39 ⟨rfl, hm38⟩
  obtain ⟨O41, hold42, hnew43, hst44⟩ := adoptE O28 (fun k => 1) hm38
  refine WL.y (Y.assign rfl) rfl ?_
  refine WL.nil ?_
  refine At.then ?_
  refine WC.seq ?_
  refine WC.region ?_
  refine WL.y (Y.move rfl) rfl ?_
  refine WL.y (Y.neq_i rfl rfl) rfl ?_
  refine WL.nil ?_
  refine At.then ?_
  rcases cnd h with ⟨hc45, h⟩ | ⟨hc45, h⟩
  · refine WC.condT' rfl hc45 ?_
    refine WC.seq ?_
    refine WC.region ?_
    refine WL.y (Y.build (vals := []) (cells := [vi 0, vu 0, vi 0, .slice none 0 0, vi 0, .slice none 0 0]) (Fits.evalp rfl) (by kernel_rfl)) rfl ?_
    refine WL.y (Y.move rfl) rfl ?_
    have hf46 := hb26.st hst44 rfl
    refine WL.store (v := .agg [vi 0, vu 0, vi 0, .slice none 0 0, vi 0, .slice none 0 0].toArray) (cells' := [vi 0, vu 0, vi 0, .slice none 0 0, vi 0, .slice none 0 0]) ty27 rfl rfl hf46 rfl (Nat.le_of_ble_eq_true rfl) rfl rfl ?_
    intro wd47 hst48 hb49
    refine WL.y (Y.assign rfl) rfl ?_
    refine WL.nil ?_
    refine At.then ?_
    refine WC.ret ?_
    refine At.thenR ?_
    obtain ⟨rfl, rfl⟩ := tup2 h
    have hs50 : Stp [12] (Lg.O0 A) w O41 wd47 := (Stp.trans (Stp.up hst25 rfl) (Stp.trans (Stp.up hst30 rfl) (Stp.trans (Stp.up hst44 rfl) (Stp.up hst48 rfl))))
    exact At.res (.inl rfl) rfl (.cell rfl (hb49.runAg 0 [vi 0, vu 0, vi 0, .slice none 0 0, vi 0, .slice none 0 0] ty27 rfl rfl rfl) (.tmp rfl .nil)) ⟨.slice none 0 0, .slice none 0 0, rfl, (Stp.ext hs50 rfl rfl), (Or.inl ⟨rfl, rfl⟩), (Or.inl ⟨rfl, rfl⟩)⟩
  · refine WC.condF' rfl hc45 ?_
    refine WC.skip ?_
    refine At.then ?_
    refine WC.seq ?_
    refine WC.seq ?_
    refine WC.region ?_
    refine WL.y (Y.move rfl) rfl ?_
    refine WL.y (Y.lss_i rfl rfl) rfl ?_
    refine WL.y (Y.move rfl) rfl ?_
    refine WL.cut 6 (σ := Unit) (fun _ w' => wd39 = w') (fun _ => [(1, vi a1), (2, .pointer (some ⟨p22, 0, none⟩)), (4, .pointer (some ⟨p27, 0, none⟩)), (23, .bool ((decide (a1 < 0)) || (decide (w64 (a0.Scale - (-10)) < a1))))]) ?_ ?_
    · refine WL.part 17 rfl (fun hE51 => ?_) (fun hE51 => ?_)
      · refine WL.gS rfl rfl rfl rfl ?_
        refine WL.gS rfl rfl rfl rfl ?_
        refine WL.gS rfl rfl rfl rfl ?_
        refine WL.gS rfl rfl rfl rfl ?_
        refine WL.gS rfl rfl rfl rfl ?_
        refine WL.y (Y.pick (b := true) rfl rfl) rfl ?_
        refine WL.ren (v' := .bool ((decide (a1 < 0)) || (decide (w64 (a0.Scale - (-10)) < a1)))) 23 rfl (congrArg Value.bool (orT hE51)) ?_
        exact WL.nil (At.join () rfl (.cons rfl (.cons rfl (.cons rfl (.cons rfl .nil)))))
      · refine WL.ung rfl rfl ?_
        refine WL.y (Y.move rfl) rfl ?_
        refine WL.ung rfl rfl ?_
        refine WL.y (Y.fieldAddr fo27_0 rfl) rfl ?_
        refine WL.ung rfl rfl ?_
        have hf52 := hf31.st hst44 rfl
        refine WL.y (Y.loadSc ty3 rfl rfl (hf52.cell 0 _ rfl)) rfl ?_
        refine WL.ung rfl rfl ?_
        refine WL.y (Y.sub_i rfl rfl) rfl ?_
        refine WL.ung rfl rfl ?_
        refine WL.y (Y.gtr_i rfl rfl) rfl ?_
        refine WL.y (Y.pick (b := false) rfl rfl) rfl ?_
        refine WL.ren (v' := .bool ((decide (a1 < 0)) || (decide (w64 (a0.Scale - (-10)) < a1)))) 23 rfl (congrArg Value.bool (orF hE51)) ?_
        exact WL.nil (At.join () rfl (.cons rfl (.cons rfl (.cons rfl (.cons rfl .nil)))))
    · rintro _ _ rfl
      refine (show WL _ _ _ _ _ [(1, vi a1), (2, .pointer (some ⟨p22, 0, none⟩)), (4, .pointer (some ⟨p27, 0, none⟩)), (23, .bool ((decide (a1 < 0)) || (decide (w64 (a0.Scale - (-10)) < a1))))] _ from ?_)
      refine WL.nil ?_
      refine At.then ?_
      rcases cnd h with ⟨hc53, h⟩ | ⟨hc53, h⟩
      · refine WC.condT' rfl hc53 ?_
        refine WC.seq ?_
        refine WC.region ?_
        refine WL.y (Y.build (vals := []) (cells := [vi 0, vu 0, vi 0, .slice none 0 0, vi 0, .slice none 0 0]) (Fits.evalp rfl) (by kernel_rfl)) rfl ?_
        have hf54 := hb26.st hst44 rfl
        refine WL.store (v := .agg [vi 0, vu 0, vi 0, .slice none 0 0, vi 0, .slice none 0 0].toArray) (cells' := [vi 0, vu 0, vi 0, .slice none 0 0, vi 0, .slice none 0 0]) ty27 rfl rfl hf54 rfl (Nat.le_of_ble_eq_true rfl) rfl rfl ?_
        intro wd55 hst56 hb57
        refine WL.y (Y.assign rfl) rfl ?_
        refine WL.nil ?_
        refine At.then ?_
        refine WC.ret ?_
        refine At.thenR ?_
        obtain ⟨rfl, rfl⟩ := tup2 h
        have hs58 : Stp [12] (Lg.O0 A) w O41 wd55 := (Stp.trans (Stp.up hst25 rfl) (Stp.trans (Stp.up hst30 rfl) (Stp.trans (Stp.up hst44 rfl) (Stp.up hst56 rfl))))
        exact At.res (.inl rfl) rfl (.cell rfl (hb57.runAg 0 [vi 0, vu 0, vi 0, .slice none 0 0, vi 0, .slice none 0 0] ty27 rfl rfl rfl) (.tmp rfl .nil)) ⟨.slice none 0 0, .slice none 0 0, rfl, (Stp.ext hs58 rfl rfl), (Or.inl ⟨rfl, rfl⟩), (Or.inl ⟨rfl, rfl⟩)⟩
      · refine WC.condF' rfl hc53 ?_
        refine WC.skip ?_
        refine At.then ?_
        refine WC.seq ?_
        refine WC.drawH [13, 14, 15, 1001] [0, 1, 2, 3, 4, 5, 6, 7, 8, 9, 10, 11] O41 13 fmix rfl (by kernel_rfl) ?_
        intro wd59 hst60
        refine WD.y 0 rfl (by kernel_rfl) (fun _ _ _ => Y.fieldAddr fo27_0 rfl) rfl ?_
        refine WD.y 1 rfl (by kernel_rfl) (fun wd65 O64 hst66 => have hf67 := hf31.st hst44 rfl; have hf68 := hf67.st hst60 rfl; have hf69 := hf68.st hst66 rfl; Y.loadSc ty3 rfl rfl (hf69.cell 0 _ rfl)) rfl ?_
        refine WD.y 2 rfl (by kernel_rfl) (fun _ _ _ => Y.fieldAddr fo27_1 rfl) rfl ?_
        refine WD.y 3 rfl (by kernel_rfl) (fun wd74 O73 hst75 => have hf76 := hf31.st hst44 rfl; have hf77 := hf76.st hst60 rfl; have hf78 := hf77.st hst75 rfl; Y.loadSc ty22 rfl rfl (hf78.cell 1 _ rfl)) rfl ?_
        refine WD.y 4 rfl (by kernel_rfl) (fun _ _ _ => Y.fieldAddr fo27_2 rfl) rfl ?_
        refine WD.y 5 rfl (by kernel_rfl) (fun wd83 O82 hst84 => have hf85 := hf31.st hst44 rfl; have hf86 := hf85.st hst60 rfl; have hf87 := hf86.st hst84 rfl; Y.loadAg ty25 rfl rfl (hf87.cells 2 [vi a0.Pos.Offset, (.slice p13 m14 c15)] rfl) rfl) rfl ?_
        refine WD.y 7 rfl (by kernel_rfl) (fun _ _ _ => Y.fieldAddr fo27_3 rfl) rfl ?_
        refine WD.y 8 rfl (by kernel_rfl) (fun wd92 O91 hst93 => have hf94 := hf31.st hst44 rfl; have hf95 := hf94.st hst60 rfl; have hf96 := hf95.st hst93 rfl; Y.loadAg ty25 rfl rfl (hf96.cells 4 [vi a0.Neg.Offset, (.slice p17 m18 c19)] rfl) rfl) rfl ?_
        obtain ⟨p110, h, hk111⟩ := bnd h
        refine WD.join (σ := (Int × List UInt64 × Int × List UInt64 × Own × Nat × Value × Value)) (f' := 1) [11, 10, 9, 8, 7, 6, 5, 4, 3, 2, 1, 0] (fun x O' w' => (x.1, x.2.1, x.2.2.1, x.2.2.2.1) = p110 ∧ Stp [13, 14, 15, 1001] O41 wd59 x.2.2.2.2.1 w' ∧ Blk 1002 x.2.2.2.2.1 w' x.2.2.2.2.2.1 27 [vi 0, vu 0, vi 0, .slice none 0 0, vi 0, .slice none 0 0] ∧ Sl Rep.u w' (frs x.2.2.2.2.1) x.2.2.2.2.2.2.1 x.2.1 ∧ Sl Rep.u w' (frs x.2.2.2.2.1) x.2.2.2.2.2.2.2 x.2.2.2.1 ∧ x.2.2.2.2.1 = O') (fun x => [(1, vi a1), (4, .pointer (some ⟨p27, 0, none⟩)), (7, .pointer (some ⟨x.2.2.2.2.2.1, 0, none⟩)), (35, .agg [vi a0.Scale, vu a0.Zero, vi x.1, x.2.2.2.2.2.2.1, vi x.2.2.1, x.2.2.2.2.2.2.2].toArray)]) (fun hJ112 => ?_) ?_
        · refine WD.heavy2 6 11 rfl rfl (by kernel_rfl) ?_ ?_
          · have hf113 := hf33.mono (imm_st hst44 rfl rfl)
            have hf114 := hf113.mono (imm_st hst60 rfl rfl)
            obtain ⟨r115, hp116, h⟩ := bnd h
            refine WL.call (vals := [.agg [vi a0.Pos.Offset, (.slice p13 m14 c15)].toArray]) kok29 rfl rfl (c_ref08_Trim (A := fun _ => True) (a0 := a0.Pos) (Sl.all hf114) hp116) ?_
            rintro vr121 wd120 ⟨u117, rfl, hm119, f118⟩
            obtain ⟨O122, hold123, hnew124, hst125⟩ := adoptE O41 (fun k => 1) hm119
            have hf126 : Sl Rep.u wd120 (frs O122) u117 r115.Counts := Sl.adoptF f118 (fun k hk => ⟨hk, rfl⟩) hnew124
            refine WL.nil ?_
            refine At.dq (Stp.up hst125 rfl) ?_
            obtain ⟨p139, h, hk140⟩ := bnd h
            refine WD.join (σ := (List UInt64 × Int × List UInt64 × Own × Nat × Value × Value)) (f' := 1) [11, 10, 9, 8, 7, 6, 5, 4, 3, 2, 1, 0] (fun x O' w' => (x.1, x.2.1, x.2.2.1) = p139 ∧ Stp [13, 14] O122 wd120 x.2.2.2.1 w' ∧ Blk 1001 x.2.2.2.1 w' x.2.2.2.2.1 27 [vi 0, vu 0, vi 0, .slice none 0 0, vi 0, .slice none 0 0] ∧ Sl Rep.u w' (frs x.2.2.2.1) x.2.2.2.2.2.1 x.1 ∧ Sl Rep.u w' (frs x.2.2.2.1) x.2.2.2.2.2.2 x.2.2.1 ∧ x.2.2.2.1 = O') (fun x => [(1, vi a1), (4, .pointer (some ⟨p27, 0, none⟩)), (7, .pointer (some ⟨x.2.2.2.2.1, 0, none⟩)), (35, .agg [vi a0.Scale, vu a0.Zero, vi r115.Offset, x.2.2.2.2.2.1, vi x.2.1, x.2.2.2.2.2.2].toArray)]) (fun hJ141 => ?_) ?_
            · refine WD.heavy2 9 11 rfl rfl (by kernel_rfl) ?_ ?_
              · have hf142 := hf35.mono (imm_st hst44 rfl rfl)
                have hf143 := hf142.mono (imm_st hst60 rfl rfl)
                have hf144 := hf143.mono (imm_st hst125 rfl rfl)
                obtain ⟨r145, hp146, h⟩ := bnd h
                refine WL.call (vals := [.agg [vi a0.Neg.Offset, (.slice p17 m18 c19)].toArray]) kok29 rfl rfl (c_ref08_Trim (A := fun _ => True) (a0 := a0.Neg) (Sl.all hf144) hp146) ?_
                rintro vr151 wd150 ⟨u147, rfl, hm149, f148⟩
                obtain ⟨O152, hold153, hnew154, hst155⟩ := adoptE O122 (fun k => 1) hm149
                have hf156 : Sl Rep.u wd150 (frs O152) u147 r145.Counts := Sl.adoptF f148 (fun k hk => ⟨hk, rfl⟩) hnew154
                refine WL.nil ?_
                refine At.dq (Stp.up hst155 rfl) ?_
                have hf157 := hf126.mono (frs_st hst155 rfl)
                have hh161 := h
                obtain ⟨p158, m159, c160, rfl⟩ := hf157.shape
                have h := hh161
                have hh165 := h
                obtain ⟨p162, m163, c164, rfl⟩ := hf156.shape
                have h := hh165
                refine WD.y 10 rfl (by kernel_rfl) (fun _ _ _ => Y.build (vals := [(0, vi a0.Scale), (1, vu a0.Zero), (2, .agg [vi r115.Offset, (.slice p158 m159 c160)].toArray), (3, .agg [vi r145.Offset, (.slice p162 m163 c164)].toArray)]) (cells := [vi a0.Scale, vu a0.Zero, vi r115.Offset, (.slice p158 m159 c160), vi r145.Offset, (.slice p162 m163 c164)]) (Fits.evalp rfl) (by kernel_rfl)) rfl ?_
                refine WD.heavy 11 rfl (by kernel_rfl) ?_
                refine WL.alloc (O := O152) 13 [vi 0, vu 0, vi 0, .slice none 0 0, vi 0, .slice none 0 0] ty27 rfl rfl ?_
                intro p170 O171 wd172 hst173 hb169
                refine WL.nil ?_
                refine At.dq (Stp.up hst173 rfl) ?_
                obtain ⟨O174, hst175, hb176⟩ := Blk.rlb 1001 rfl hb169
                have hf177 := hf157.mono (frs_st hst173 rfl)
                have hf178 := hf177.mono (frs_st hst175 rfl)
                have hf179 := hf156.mono (frs_st hst173 rfl)
                have hf180 := hf179.mono (frs_st hst175 rfl)
                refine WD.own (Stp.up hst175 rfl) ?_
                refine WD.perm _ [11, 10, 9, 8, 7, 6, 5, 4, 3, 2, 1, 0] (by kernel_rfl) ?_
                exact hJ141 (r115.Counts, r145.Offset, r145.Counts, O174, p170, (.slice p158 m159 c160), (.slice p162 m163 c164)) _ _ _ ⟨some1 h, (Stp.trans (Stp.up hst155 rfl) (Stp.trans (Stp.up hst173 rfl) (Stp.up hst175 rfl))), hb176, hf178, hf180, rfl⟩ (.cons rfl (.cons rfl (.cons rfl (.cons rfl .nil))))
              · try simp only [Option.bind_assoc] at h
                try simp only [Option.bind_some] at h
                refine WL.alloc (O := O122) 14 [vi 0, vu 0, vi 0, .slice none 0 0, vi 0, .slice none 0 0] ty27 rfl rfl ?_
                intro p182 O183 wd184 hst185 hb181
                refine WL.nil ?_
                refine At.dq (Stp.up hst185 rfl) ?_
                refine WD.heavy 9 rfl (by kernel_rfl) ?_
                have hf186 := hf35.mono (imm_st hst44 rfl rfl)
                have hf187 := hf186.mono (imm_st hst60 rfl rfl)
                have hf188 := hf187.mono (imm_st hst125 rfl rfl)
                have hf189 := hf188.mono (imm_st hst185 rfl rfl)
                obtain ⟨r190, hp191, h⟩ := bnd h
                refine WL.call (vals := [.agg [vi a0.Neg.Offset, (.slice p17 m18 c19)].toArray]) kok29 rfl rfl (c_ref08_Trim (A := fun _ => True) (a0 := a0.Neg) (Sl.all hf189) hp191) ?_
                rintro vr196 wd195 ⟨u192, rfl, hm194, f193⟩
                obtain ⟨O197, hold198, hnew199, hst200⟩ := adoptE O183 (fun k => 1) hm194
                have hf201 : Sl Rep.u wd195 (frs O197) u192 r190.Counts := Sl.adoptF f193 (fun k hk => ⟨hk, rfl⟩) hnew199
                refine WL.nil ?_
                refine At.dq (Stp.up hst200 rfl) ?_
                have hf202 := hf126.mono (frs_st hst185 rfl)
                have hf203 := hf202.mono (frs_st hst200 rfl)
                have hh207 := h
                obtain ⟨p204, m205, c206, rfl⟩ := hf203.shape
                have h := hh207
                have hh211 := h
                obtain ⟨p208, m209, c210, rfl⟩ := hf201.shape
                have h := hh211
                refine WD.y 10 rfl (by kernel_rfl) (fun _ _ _ => Y.build (vals := [(0, vi a0.Scale), (1, vu a0.Zero), (2, .agg [vi r115.Offset, (.slice p204 m205 c206)].toArray), (3, .agg [vi r190.Offset, (.slice p208 m209 c210)].toArray)]) (cells := [vi a0.Scale, vu a0.Zero, vi r115.Offset, (.slice p204 m205 c206), vi r190.Offset, (.slice p208 m209 c210)]) (Fits.evalp rfl) (by kernel_rfl)) rfl ?_
                have hf215 := hb181.st hst200 rfl
                obtain ⟨O216, hst217, hb218⟩ := Blk.rlb 1001 rfl hf215
                have hf219 := hf203.mono (frs_st hst217 rfl)
                have hf220 := hf201.mono (frs_st hst217 rfl)
                refine WD.own (Stp.up hst217 rfl) ?_
                refine WD.perm _ [11, 10, 9, 8, 7, 6, 5, 4, 3, 2, 1, 0] (by kernel_rfl) ?_
                exact hJ141 (r115.Counts, r190.Offset, r190.Counts, O216, p182, (.slice p204 m205 c206), (.slice p208 m209 c210)) _ _ _ ⟨some1 h, (Stp.trans (Stp.up hst185 rfl) (Stp.trans (Stp.up hst200 rfl) (Stp.up hst217 rfl))), hb218, hf219, hf220, rfl⟩ (.cons rfl (.cons rfl (.cons rfl (.cons rfl .nil))))
            · rintro ⟨x129, x132, x133, O136, b127, v130, v134⟩ _ wd137 ⟨rfl, hst138, hb128, hf131, hf135, rfl⟩
              replace h := hk140
              try dsimp only at h hst138 hb128 hf131 hf135
              refine (show WD _ _ _ _ _ _ _ _ [(1, vi a1), (4, .pointer (some ⟨p27, 0, none⟩)), (7, .pointer (some ⟨b127, 0, none⟩)), (35, .agg [vi a0.Scale, vu a0.Zero, vi r115.Offset, v130, vi x132, v134].toArray)] _ _ from ?_)
              obtain ⟨O221, hst222, hb223⟩ := Blk.rlb 1002 rfl hb128
              have hf224 := hf131.mono (frs_st hst222 rfl)
              have hf225 := hf135.mono (frs_st hst222 rfl)
              refine WD.own (Stp.up hst222 rfl) ?_
              refine WD.perm _ [11, 10, 9, 8, 7, 6, 5, 4, 3, 2, 1, 0] (by kernel_rfl) ?_
              exact hJ112 (r115.Offset, x129, x132, x133, O221, b127, v130, v134) _ _ _ ⟨some1 h, (Stp.trans (Stp.up hst125 rfl) (Stp.trans (Stp.up hst138 rfl) (Stp.up hst222 rfl))), hb223, hf224, hf225, rfl⟩ (.cons rfl (.cons rfl (.cons rfl (.cons rfl .nil))))
          · try simp only [Option.bind_assoc] at h
            try simp only [Option.bind_some] at h
            refine WL.alloc (O := O41) 15 [vi 0, vu 0, vi 0, .slice none 0 0, vi 0, .slice none 0 0] ty27 rfl rfl ?_
            intro p227 O228 wd229 hst230 hb226
            refine WL.nil ?_
            refine At.dq (Stp.up hst230 rfl) ?_
            refine WD.heavy 6 rfl (by kernel_rfl) ?_
            have hf231 := hf33.mono (imm_st hst44 rfl rfl)
            have hf232 := hf231.mono (imm_st hst60 rfl rfl)
            have hf233 := hf232.mono (imm_st hst230 rfl rfl)
            obtain ⟨r234, hp235, h⟩ := bnd h
            refine WL.call (vals := [.agg [vi a0.Pos.Offset, (.slice p13 m14 c15)].toArray]) kok29 rfl rfl (c_ref08_Trim (A := fun _ => True) (a0 := a0.Pos) (Sl.all hf233) hp235) ?_
            rintro vr240 wd239 ⟨u236, rfl, hm238, f237⟩
            obtain ⟨O241, hold242, hnew243, hst244⟩ := adoptE O228 (fun k => 1) hm238
            have hf245 : Sl Rep.u wd239 (frs O241) u236 r234.Counts := Sl.adoptF f237 (fun k hk => ⟨hk, rfl⟩) hnew243
            refine WL.nil ?_
            refine At.dq (Stp.up hst244 rfl) ?_
            refine WD.heavy 9 rfl (by kernel_rfl) ?_
            have hf246 := hf35.mono (imm_st hst44 rfl rfl)
            have hf247 := hf246.mono (imm_st hst60 rfl rfl)
            have hf248 := hf247.mono (imm_st hst230 rfl rfl)
            have hf249 := hf248.mono (imm_st hst244 rfl rfl)
            obtain ⟨r250, hp251, h⟩ := bnd h
            refine WL.call (vals := [.agg [vi a0.Neg.Offset, (.slice p17 m18 c19)].toArray]) kok29 rfl rfl (c_ref08_Trim (A := fun _ => True) (a0 := a0.Neg) (Sl.all hf249) hp251) ?_
            rintro vr256 wd255 ⟨u252, rfl, hm254, f253⟩
            obtain ⟨O257, hold258, hnew259, hst260⟩ := adoptE O241 (fun k => 1) hm254
            have hf261 : Sl Rep.u wd255 (frs O257) u252 r250.Counts := Sl.adoptF f253 (fun k hk => ⟨hk, rfl⟩) hnew259
            refine WL.nil ?_
            refine At.dq (Stp.up hst260 rfl) ?_
            have hf262 := hf245.mono (frs_st hst260 rfl)
            have hh266 := h
            obtain ⟨p263, m264, c265, rfl⟩ := hf262.shape
            have h := hh266
            have hh270 := h
            obtain ⟨p267, m268, c269, rfl⟩ := hf261.shape
            have h := hh270
            refine WD.y 10 rfl (by kernel_rfl) (fun _ _ _ => Y.build (vals := [(0, vi a0.Scale), (1, vu a0.Zero), (2, .agg [vi r234.Offset, (.slice p263 m264 c265)].toArray), (3, .agg [vi r250.Offset, (.slice p267 m268 c269)].toArray)]) (cells := [vi a0.Scale, vu a0.Zero, vi r234.Offset, (.slice p263 m264 c265), vi r250.Offset, (.slice p267 m268 c269)]) (Fits.evalp rfl) (by kernel_rfl)) rfl ?_
            have hf274 := hb226.st hst244 rfl
            have hf275 := hf274.st hst260 rfl
            obtain ⟨O276, hst277, hb278⟩ := Blk.rlb 1002 rfl hf275
            have hf279 := hf262.mono (frs_st hst277 rfl)
            have hf280 := hf261.mono (frs_st hst277 rfl)
            refine WD.own (Stp.up hst277 rfl) ?_
            refine WD.perm _ [11, 10, 9, 8, 7, 6, 5, 4, 3, 2, 1, 0] (by kernel_rfl) ?_
            exact hJ112 (r234.Offset, r234.Counts, r250.Offset, r250.Counts, O276, p227, (.slice p263 m264 c265), (.slice p267 m268 c269)) _ _ _ ⟨some1 h, (Stp.trans (Stp.up hst230 rfl) (Stp.trans (Stp.up hst244 rfl) (Stp.trans (Stp.up hst260 rfl) (Stp.up hst277 rfl)))), hb278, hf279, hf280, rfl⟩ (.cons rfl (.cons rfl (.cons rfl (.cons rfl .nil))))
        · rintro ⟨x99, x100, x103, x104, O107, b97, v101, v105⟩ _ wd108 ⟨rfl, hst109, hb98, hf102, hf106, rfl⟩
          replace h := hk111
          try dsimp only at h hst109 hb98 hf102 hf106
          refine (show WD _ _ _ _ _ _ _ _ [(1, vi a1), (4, .pointer (some ⟨p27, 0, none⟩)), (7, .pointer (some ⟨b97, 0, none⟩)), (35, .agg [vi a0.Scale, vu a0.Zero, vi x99, v101, vi x103, v105].toArray)] _ _ from ?_)
          refine WD.phase [1002] [0, 1, 2, 3, 4, 5, 6, 7, 8, 9, 10, 11, 12] (by kernel_rfl) (by kernel_rfl) ?_
          refine WD.heavy 12 rfl (by kernel_rfl) ?_
          have hh284 := h
          obtain ⟨p281, m282, c283, rfl⟩ := hf102.shape
          have h := hh284
          have hh288 := h
          obtain ⟨p285, m286, c287, rfl⟩ := hf106.shape
          have h := hh288
          refine WL.store (v := .agg [vi a0.Scale, vu a0.Zero, vi x99, (.slice p281 m282 c283), vi x103, (.slice p285 m286 c287)].toArray) (cells' := [vi a0.Scale, vu a0.Zero, vi x99, (.slice p281 m282 c283), vi x103, (.slice p285 m286 c287)]) ty27 rfl rfl hb98 rfl (Nat.le_of_ble_eq_true rfl) rfl rfl ?_
          intro wd289 hst290 hb291
          refine WL.nil ?_
          refine At.dq (Stp.up hst290 rfl) ?_
          refine WD.done_ (by kernel_rfl) ?_
          refine At.then ?_
          refine WC.seq ?_
          refine WC.seq ?_
          refine WC.region ?_
          refine WL.y (Y.assign rfl) rfl ?_
          refine WL.nil ?_
          refine At.then ?_
          refine WC.block ?_
          obtain ⟨p319, h, hk321⟩ := flow1 h
          obtain ⟨k320, h⟩ := loop_some h
          refine WC.joinB 0 (σ := (Int × Int × List UInt64 × Int × List UInt64 × Own × Value × Value)) (fun x w' => p319 = .go (x.1, x.2.1, x.2.2.1, x.2.2.2.1, x.2.2.2.2.1) ∧ Stp [1002] O107 wd289 x.2.2.2.2.2.1 w' ∧ Sl Rep.u w' (frs x.2.2.2.2.2.1) x.2.2.2.2.2.2.1 x.2.2.1 ∧ Sl Rep.u w' (frs x.2.2.2.2.2.1) x.2.2.2.2.2.2.2 x.2.2.2.2.1 ∧ Blk 1002 x.2.2.2.2.2.1 w' b97 27 [vi x.1, vu a0.Zero, vi x.2.1, x.2.2.2.2.2.2.1, vi x.2.2.2.1, x.2.2.2.2.2.2.2]) (fun x => [(4, .pointer (some ⟨p27, 0, none⟩)), (7, .pointer (some ⟨b97, 0, none⟩))]) ?_ ?_
          · have hf322 := hf102.mono (frs_st hst290 rfl)
            have hf323 := hf106.mono (frs_st hst290 rfl)
            refine WC.loop (σ := (Int × Int × List UInt64 × Int × List UInt64 × Int × Own × Value × Value)) (fun x k w' => loopN k (ref08_Down_lp1 a1) (x.1, x.2.1, x.2.2.1, x.2.2.2.1, x.2.2.2.2.1, x.2.2.2.2.2.1) = some p319 ∧ Stp [1002] O107 wd289 x.2.2.2.2.2.2.1 w' ∧ Sl Rep.u w' (frs x.2.2.2.2.2.2.1) x.2.2.2.2.2.2.2.1 x.2.2.1 ∧ Sl Rep.u w' (frs x.2.2.2.2.2.2.1) x.2.2.2.2.2.2.2.2 x.2.2.2.2.1 ∧ Blk 1002 x.2.2.2.2.2.2.1 w' b97 27 [vi x.1, vu a0.Zero, vi x.2.1, x.2.2.2.2.2.2.2.1, vi x.2.2.2.1, x.2.2.2.2.2.2.2.2]) (fun x => [(1, vi a1), (4, .pointer (some ⟨p27, 0, none⟩)), (7, .pointer (some ⟨b97, 0, none⟩)), (8, vi x.2.2.2.2.2.1)]) (a0.Scale, x99, x100, x103, x104, 0, O107, (.slice p281 m282 c283), (.slice p285 m286 c287)) k320 (.cons rfl (.cons rfl (.cons rfl (.cons rfl .nil)))) ⟨h, (Stp.refl _ _ _), hf322, hf323, hb291⟩ ?_
            rintro ⟨c293, c294, c295, c298, c299, i302, O303, v296, v300⟩ k320 wd304 ⟨h, hst305, hf297, hf301, hb292⟩
            obtain ⟨j324, q325, rfl, h, hn326⟩ := rnd1 h
            unfold ref08_Down_lp1 at h
            try dsimp only at h hst305 hf297 hf301 hb292
            refine (show WC _ _ _ _ [(1, vi a1), (4, .pointer (some ⟨p27, 0, none⟩)), (7, .pointer (some ⟨b97, 0, none⟩)), (8, vi i302)] _ from ?_)
            refine WC.seq ?_
            refine WC.seq ?_
            refine WC.region ?_
            refine WL.y (Y.move rfl) rfl ?_
            refine WL.y (Y.move rfl) rfl ?_
            refine WL.y (Y.lss_i rfl rfl) rfl ?_
            refine WL.nil ?_
            refine At.then ?_
            rcases cnd h with ⟨hc327, h⟩ | ⟨hc327, h⟩
            · refine WC.condT' rfl hc327 ?_
              refine WC.skip ?_
              refine At.then ?_
              refine WC.seq ?_
              refine WC.block ?_
              refine WC.drawH [] [0, 1, 2, 3, 4, 5, 6, 7, 8, 9, 10, 11] O303 13 fmix rfl (by kernel_rfl) ?_
              intro wd328 hst329
              refine WD.y 0 rfl (by kernel_rfl) (fun _ _ _ => Y.fieldAddr fo27_0 rfl) rfl ?_
              refine WD.y 1 rfl (by kernel_rfl) (fun wd334 O333 hst335 => have hf336 := hb292.st hst329 rfl; have hf337 := hf336.st hst335 rfl; Y.loadSc ty3 rfl rfl (hf337.cell 0 _ rfl)) rfl ?_
              refine WD.y 2 rfl (by kernel_rfl) (fun _ _ _ => Y.sub_i rfl rfl) rfl ?_
              refine WD.y 3 rfl (by kernel_rfl) (fun _ _ _ => Y.fieldAddr fo27_1 rfl) rfl ?_
              refine WD.y 4 rfl (by kernel_rfl) (fun wd345 O344 hst346 => have hf347 := hb292.st hst329 rfl; have hf348 := hf347.st hst346 rfl; Y.loadSc ty22 rfl rfl (hf348.cell 1 _ rfl)) rfl ?_
              refine WD.y 5 rfl (by kernel_rfl) (fun _ _ _ => Y.fieldAddr fo27_2 rfl) rfl ?_
              refine WD.y 6 rfl (by kernel_rfl) (fun wd353 O352 hst354 => have hf355 := hb292.st hst329 rfl; have hf356 := hf355.st hst354 rfl; Y.loadAg ty25 rfl rfl (hf356.cells 2 [vi c294, v296] rfl) rfl) rfl ?_
              refine WD.y 8 rfl (by kernel_rfl) (fun _ _ _ => Y.fieldAddr fo27_3 rfl) rfl ?_
              refine WD.y 9 rfl (by kernel_rfl) (fun wd361 O360 hst362 => have hf363 := hb292.st hst329 rfl; have hf364 := hf363.st hst362 rfl; Y.loadAg ty25 rfl rfl (hf364.cells 4 [vi c298, v300] rfl) rfl) rfl ?_
              refine WD.heavy 7 rfl (by kernel_rfl) ?_
              have hf365 := hf297.mono (frs_st hst329 rfl)
              obtain ⟨r366, hp367, h⟩ := bnd h
              refine WL.call (vals := [.agg [vi c294, v296].toArray]) kok63 rfl rfl (c_ref08_once (A := fun _ => True) (a0 := (api_Side.mk c294 c295)) (Sl.all hf365) hp367) ?_
              rintro vr372 wd371 ⟨u368, rfl, hm370, f369⟩
              obtain ⟨O373, hold374, hnew375, hst376⟩ := adoptE O303 (fun k => 1) hm370
              have hf377 : Sl Rep.u wd371 (frs O373) u368 r366.Counts := Sl.adoptF f369 (fun k hk => ⟨hk, rfl⟩) hnew375
              refine WL.nil ?_
              refine At.dq (Stp.up hst376 rfl) ?_
              refine WD.heavy 10 rfl (by kernel_rfl) ?_
              have hf378 := hf301.mono (frs_st hst329 rfl)
              have hf379 := hf378.mono (frs_st hst376 rfl)
              obtain ⟨r380, hp381, h⟩ := bnd h
              refine WL.call (vals := [.agg [vi c298, v300].toArray]) kok63 rfl rfl (c_ref08_once (A := fun _ => True) (a0 := (api_Side.mk c298 c299)) (Sl.all hf379) hp381) ?_
              rintro vr386 wd385 ⟨u382, rfl, hm384, f383⟩
              obtain ⟨O387, hold388, hnew389, hst390⟩ := adoptE O373 (fun k => 1) hm384
              have hf391 : Sl Rep.u wd385 (frs O387) u382 r380.Counts := Sl.adoptF f383 (fun k hk => ⟨hk, rfl⟩) hnew389
              refine WL.nil ?_
              refine At.dq (Stp.up hst390 rfl) ?_
              have hf392 := hf377.mono (frs_st hst390 rfl)
              have hh396 := h
              obtain ⟨p393, m394, c395, rfl⟩ := hf392.shape
              have h := hh396
              have hh400 := h
              obtain ⟨p397, m398, c399, rfl⟩ := hf391.shape
              have h := hh400
              refine WD.y 11 rfl (by kernel_rfl) (fun _ _ _ => Y.build (vals := [(0, vi (w64 (c293 - 1))), (1, vu a0.Zero), (2, .agg [vi r366.Offset, (.slice p393 m394 c395)].toArray), (3, .agg [vi r380.Offset, (.slice p397 m398 c399)].toArray)]) (cells := [vi (w64 (c293 - 1)), vu a0.Zero, vi r366.Offset, (.slice p393 m394 c395), vi r380.Offset, (.slice p397 m398 c399)]) (Fits.evalp rfl) (by kernel_rfl)) rfl ?_
              refine WD.phase [1002] [0, 1, 2, 3, 4, 5, 6, 7, 8, 9, 10, 11, 12] (by kernel_rfl) (by kernel_rfl) ?_
              refine WD.heavy 12 rfl (by kernel_rfl) ?_
              have hf404 := hb292.st hst329 rfl
              have hf405 := hf404.st hst376 rfl
              have hf406 := hf405.st hst390 rfl
              refine WL.store (v := .agg [vi (w64 (c293 - 1)), vu a0.Zero, vi r366.Offset, (.slice p393 m394 c395), vi r380.Offset, (.slice p397 m398 c399)].toArray) (cells' := [vi (w64 (c293 - 1)), vu a0.Zero, vi r366.Offset, (.slice p393 m394 c395), vi r380.Offset, (.slice p397 m398 c399)]) ty27 rfl rfl hf406 rfl (Nat.le_of_ble_eq_true rfl) rfl rfl ?_
              intro wd407 hst408 hb409
              refine WL.nil ?_
              refine At.dq (Stp.up hst408 rfl) ?_
              refine WD.done_ (by kernel_rfl) ?_
              refine At.inBlock ?_
              refine At.then ?_
              refine WC.region ?_
              refine WL.y (Y.move rfl) rfl ?_
              refine WL.y (Y.add_i rfl rfl) rfl ?_
              obtain ⟨i410, hi410, h⟩ := lt1 h
              refine WL.yE (Y.assign rfl) (congrArg vi hi410.symm) rfl ?_
              refine WL.nil ?_
              have hf411 := hf392.mono (frs_st hst408 rfl)
              have hf412 := hf391.mono (frs_st hst408 rfl)
              exact At.round (w64 (c293 - 1), r366.Offset, r366.Counts, r380.Offset, r380.Counts, i410, O387, (.slice p393 m394 c395), (.slice p397 m398 c399)) j324 (Nat.lt_succ_self _) ⟨next1 h hn326, (Stp.trans (Stp.up hst305 rfl) (Stp.trans (Stp.up hst329 rfl) (Stp.trans (Stp.up hst376 rfl) (Stp.trans (Stp.up hst390 rfl) (Stp.up hst408 rfl))))), hf411, hf412, hb409⟩ (.cons rfl (.cons rfl (.cons rfl (.cons rfl .nil))))
            · refine WC.condF' rfl hc327 ?_
              refine WC.exit ?_
              refine At.thenX ?_
              refine At.loopX ?_
              exact At.hitB (σ := (Int × Int × List UInt64 × Int × List UInt64 × Own × Value × Value)) (c293, c294, c295, c298, c299, O303, v296, v300) ⟨brk1 h hn326, (Stp.up hst305 rfl), hf297, hf301, hb292⟩ (.cons rfl (.cons rfl .nil))
          · rintro ⟨c307, c308, c309, c312, c313, O316, v310, v314⟩ wd317 ⟨rfl, hst318, hf311, hf315, hb306⟩
            replace h := flowK_go hk321
            try dsimp only at h hst318 hf311 hf315 hb306
            refine (show At _ _ _ [(4, .pointer (some ⟨p27, 0, none⟩)), (7, .pointer (some ⟨b97, 0, none⟩))] _ from ?_)
            refine At.inBlockHit ?_
            refine At.then ?_
            refine WC.seq ?_
            refine WC.region ?_
            refine WL.y (Y.loadAg ty27 rfl rfl (hb306.cells 0 [vi c307, vu a0.Zero, vi c308, v310, vi c312, v314] rfl) rfl) rfl ?_
            have hh416 := h
            obtain ⟨p413, m414, c415, rfl⟩ := hf311.shape
            have h := hh416
            have hh420 := h
            obtain ⟨p417, m418, c419, rfl⟩ := hf315.shape
            have h := hh420
            have hf421 := hb26.st hst44 rfl
            have hf422 := hf421.st hst60 rfl
            have hf423 := hf422.st hst109 rfl
            have hf424 := hf423.st hst290 rfl
            have hf425 := hf424.st hst318 rfl
            refine WL.store (v := .agg [vi c307, vu a0.Zero, vi c308, (.slice p413 m414 c415), vi c312, (.slice p417 m418 c419)].toArray) (cells' := [vi c307, vu a0.Zero, vi c308, (.slice p413 m414 c415), vi c312, (.slice p417 m418 c419)]) ty27 rfl rfl hf425 rfl (Nat.le_of_ble_eq_true rfl) rfl rfl ?_
            intro wd426 hst427 hb428
            refine WL.y (Y.assign rfl) rfl ?_
            refine WL.nil ?_
            refine At.then ?_
            refine WC.ret ?_
            obtain ⟨rfl, rfl⟩ := tup2 h
            have hs429 : Stp [12, 13, 14, 15, 1001, 1002] (Lg.O0 A) w O316 wd426 := (Stp.trans (Stp.up hst25 rfl) (Stp.trans (Stp.up hst30 rfl) (Stp.trans (Stp.up hst44 rfl) (Stp.trans (Stp.up hst60 rfl) (Stp.trans (Stp.up hst109 rfl) (Stp.trans (Stp.up hst290 rfl) (Stp.trans (Stp.up hst318 rfl) (Stp.up hst427 rfl))))))))
            have hf430 := hf311.mono (frs_st hst427 rfl)
            have hf431 := hf315.mono (frs_st hst427 rfl)
            exact At.res (.inl rfl) rfl (.cell rfl (hb428.runAg 0 [vi c307, vu a0.Zero, vi c308, (.slice p413 m414 c415), vi c312, (.slice p417 m418 c419)] ty27 rfl rfl rfl) (.tmp rfl .nil)) ⟨(.slice p413 m414 c415), (.slice p417 m418 c419), rfl, (Stp.ext hs429 rfl rfl), (Sl.outF hf430 hs429 low0), (Sl.outF hf431 hs429 low0)⟩

theorem c_ref09_Level {A : Nat → Prop} {v0_3 : Value} {v0_5 : Value} {a0 : api_Hist} {v1_3 : Value} {v1_5 : Value} {a1 : api_Hist} {w : World} (hs0_3 : Sl Rep.u w A v0_3 a0.Pos.Counts) (hs0_5 : Sl Rep.u w A v0_5 a0.Neg.Counts) (hs1_3 : Sl Rep.u w A v1_3 a1.Pos.Counts) (hs1_5 : Sl Rep.u w A v1_5 a1.Neg.Counts) {r0 : ref09_Pair} (h : ref09_Level a0 a1 = some r0) : Rets Try.prog 39 [.agg [vi a0.Scale, vu a0.Zero, vi a0.Pos.Offset, v0_3, vi a0.Neg.Offset, v0_5].toArray, .agg [vi a1.Scale, vu a1.Zero, vi a1.Pos.Offset, v1_3, vi a1.Neg.Offset, v1_5].toArray] w (fun v w' => ∃ (u0_3 : Value) (u0_5 : Value) (u0_9 : Value) (u0_11 : Value), v = .agg (List.toArray [vi r0.X.Scale, vu r0.X.Zero, vi r0.X.Pos.Offset, u0_3, vi r0.X.Neg.Offset, u0_5, vi r0.Y.Scale, vu r0.Y.Zero, vi r0.Y.Pos.Offset, u0_9, vi r0.Y.Neg.Offset, u0_11, vi r0.E]) ∧ Ext w w' ∧ Sl Rep.u w' (fun k => w.heap.size ≤ k) u0_3 r0.X.Pos.Counts ∧ Sl Rep.u w' (fun k => w.heap.size ≤ k) u0_5 r0.X.Neg.Counts ∧ Sl Rep.u w' (fun k => w.heap.size ≤ k) u0_9 r0.Y.Pos.Counts ∧ Sl Rep.u w' (fun k => w.heap.size ≤ k) u0_11 r0.Y.Neg.Counts) := by
  unfold ref09_Level at h
  refine Rets.enter Try.func39 rfl rfl ?_
  have hf11 : Sl Rep.u w (imm (Lg.O0 A)) v0_3 a0.Pos.Counts := (Sl.start hs0_3)
  have hf12 : Sl Rep.u w (imm (Lg.O0 A)) v0_5 a0.Neg.Counts := (Sl.start hs0_5)
  have hf13 : Sl Rep.u w (imm (Lg.O0 A)) v1_3 a1.Pos.Counts := (Sl.start hs1_3)
  have hf14 : Sl Rep.u w (imm (Lg.O0 A)) v1_5 a1.Neg.Counts := (Sl.start hs1_5)
  refine (show WC _ _ _ _ [(0, .agg [vi a0.Scale, vu a0.Zero, vi a0.Pos.Offset, v0_3, vi a0.Neg.Offset, v0_5].toArray), (1, .agg [vi a1.Scale, vu a1.Zero, vi a1.Pos.Offset, v1_3, vi a1.Neg.Offset, v1_5].toArray)] _ from ?_)
  refine WC.seq ?_
  refine WC.region ?_
  have hh18 := h
  obtain ⟨p15, m16, c17, rfl⟩ := hf11.shape
  have h := hh18
  have hh22 := h
  obtain ⟨p19, m20, c21, rfl⟩ := hf12.shape
  have h := hh22
  refine WL.box (O := (Lg.O0 A)) 11 [vi a0.Scale, vu a0.Zero, vi a0.Pos.Offset, (.slice p15 m16 c17), vi a0.Neg.Offset, (.slice p19 m20 c21)] rfl rfl rfl ?_
  intro p24 O25 wd26 hst27 hb23
  have hf28 := hf13.mono (imm_st hst27 rfl rfl)
  have hh32 := h
  obtain ⟨p29, m30, c31, rfl⟩ := hf28.shape
  have h := hh32
  have hf33 := hf14.mono (imm_st hst27 rfl rfl)
  have hh37 := h
  obtain ⟨p34, m35, c36, rfl⟩ := hf33.shape
  have h := hh37
  refine WL.box (O := O25) 12 [vi a1.Scale, vu a1.Zero, vi a1.Pos.Offset, (.slice p29 m30 c31), vi a1.Neg.Offset, (.slice p34 m35 c36)] rfl rfl rfl ?_
  intro p39 O40 wd41 hst42 hb38
  refine WL.alloc (O := O40) 13 [vi 0, vu 0, vi 0, .slice none 0 0, vi 0, .slice none 0 0, vi 0, vu 0, vi 0, .slice none 0 0, vi 0, .slice none 0 0, vi 0] ty55 rfl rfl ?_
  intro p44 O45 wd46 hst47 hb43
  refine WL.nil ?_
  refine At.then ?_
  refine WC.seq ?_
  refine WC.seq ?_
  refine WC.region ?_
  have hf48 := hb23.st hst42 rfl
  have hf49 := hf48.st hst47 rfl
  refine WL.y (Y.loadAg ty27 rfl rfl (hf49.cells 0 [vi a0.Scale, vu a0.Zero, vi a0.Pos.Offset, (.slice p15 m16 c17), vi a0.Neg.Offset, (.slice p19 m20 c21)] rfl) rfl) rfl ?_
  have hf50 := hf11.mono (imm_st hst27 rfl rfl)
  have hf51 := hf50.mono (imm_st hst42 rfl rfl)
  have hf52 := hf51.mono (imm_st hst47 rfl rfl)
  have hf53 := hf12.mono (imm_st hst27 rfl rfl)
  have hf54 := hf53.mono (imm_st hst42 rfl rfl)
  have hf55 := hf54.mono (imm_st hst47 rfl rfl)
  obtain ⟨r56, hp57, h⟩ := bnd h
  refine WL.call (vals := [.agg [vi a0.Scale, vu a0.Zero, vi a0.Pos.Offset, (.slice p15 m16 c17), vi a0.Neg.Offset, (.slice p19 m20 c21)].toArray]) kok20 rfl rfl (c_ref08_Check (A := fun _ => True) (a0 := a0) (Sl.all hf52) (Sl.all hf55) hp57) ?_
  rintro vr60 wd59 ⟨rfl, hm58⟩
  obtain ⟨O61, hold62, hnew63, hst64⟩ := adoptE O45 (fun k => 1) hm58
  refine WL.y (Y.assign rfl) rfl ?_
  refine WL.nil ?_
  refine At.then ?_
  refine WC.seq ?_
  refine WC.region ?_
  refine WL.y (Y.move rfl) rfl ?_
  refine WL.y (Y.neq_i rfl rfl) rfl ?_
  refine WL.nil ?_
  refine At.then ?_
  rcases cnd h with ⟨hc65, h⟩ | ⟨hc65, h⟩
  · refine WC.condT' rfl hc65 ?_
    refine WC.seq ?_
    refine WC.region ?_
    refine WL.y (Y.move rfl) rfl ?_
    refine WL.y (Y.build (vals := [(2, vi r56)]) (cells := [vi 0, vu 0, vi 0, .slice none 0 0, vi 0, .slice none 0 0, vi 0, vu 0, vi 0, .slice none 0 0, vi 0, .slice none 0 0, vi r56]) (Fits.evalp rfl) (by kernel_rfl)) rfl ?_
    have hf66 := hb43.st hst64 rfl
    refine WL.store (v := .agg [vi 0, vu 0, vi 0, .slice none 0 0, vi 0, .slice none 0 0, vi 0, vu 0, vi 0, .slice none 0 0, vi 0, .slice none 0 0, vi r56].toArray) (cells' := [vi 0, vu 0, vi 0, .slice none 0 0, vi 0, .slice none 0 0, vi 0, vu 0, vi 0, .slice none 0 0, vi 0, .slice none 0 0, vi r56]) ty55 rfl rfl hf66 rfl (Nat.le_of_ble_eq_true rfl) rfl rfl ?_
    intro wd67 hst68 hb69
    refine WL.nil ?_
    refine At.then ?_
    refine WC.ret ?_
    refine At.thenR ?_
    obtain rfl := some1 h
    have hs70 : Stp [13] (Lg.O0 A) w O61 wd67 := (Stp.trans (Stp.up hst27 rfl) (Stp.trans (Stp.up hst42 rfl) (Stp.trans (Stp.up hst47 rfl) (Stp.trans (Stp.up hst64 rfl) (Stp.up hst68 rfl)))))
    exact At.res (.inl rfl) rfl (.cell rfl (hb69.runAg 0 [vi 0, vu 0, vi 0, .slice none 0 0, vi 0, .slice none 0 0, vi 0, vu 0, vi 0, .slice none 0 0, vi 0, .slice none 0 0, vi r56] ty55 rfl rfl rfl) .nil) ⟨.slice none 0 0, .slice none 0 0, .slice none 0 0, .slice none 0 0, rfl, (Stp.ext hs70 rfl rfl), (Or.inl ⟨rfl, rfl⟩), (Or.inl ⟨rfl, rfl⟩), (Or.inl ⟨rfl, rfl⟩), (Or.inl ⟨rfl, rfl⟩)⟩
  · refine WC.condF' rfl hc65 ?_
    refine WC.skip ?_
    refine At.then ?_
    refine WC.seq ?_
    refine WC.seq ?_
    refine WC.region ?_
    have hf71 := hb38.st hst47 rfl
    have hf72 := hf71.st hst64 rfl
    refine WL.y (Y.loadAg ty27 rfl rfl (hf72.cells 0 [vi a1.Scale, vu a1.Zero, vi a1.Pos.Offset, (.slice p29 m30 c31), vi a1.Neg.Offset, (.slice p34 m35 c36)] rfl) rfl) rfl ?_
    have hf73 := hf28.mono (imm_st hst42 rfl rfl)
    have hf74 := hf73.mono (imm_st hst47 rfl rfl)
    have hf75 := hf74.mono (imm_st hst64 rfl rfl)
    have hf76 := hf33.mono (imm_st hst42 rfl rfl)
    have hf77 := hf76.mono (imm_st hst47 rfl rfl)
    have hf78 := hf77.mono (imm_st hst64 rfl rfl)
    obtain ⟨r79, hp80, h⟩ := bnd h
    refine WL.call (vals := [.agg [vi a1.Scale, vu a1.Zero, vi a1.Pos.Offset, (.slice p29 m30 c31), vi a1.Neg.Offset, (.slice p34 m35 c36)].toArray]) kok20 rfl rfl (c_ref08_Check (A := fun _ => True) (a0 := a1) (Sl.all hf75) (Sl.all hf78) hp80) ?_
    rintro vr83 wd82 ⟨rfl, hm81⟩
    obtain ⟨O84, hold85, hnew86, hst87⟩ := adoptE O61 (fun k => 1) hm81
    refine WL.y (Y.assign rfl) rfl ?_
    refine WL.nil ?_
    refine At.then ?_
    refine WC.seq ?_
    refine WC.region ?_
    refine WL.y (Y.move rfl) rfl ?_
    refine WL.y (Y.neq_i rfl rfl) rfl ?_
    refine WL.nil ?_
    refine At.then ?_
    rcases cnd h with ⟨hc88, h⟩ | ⟨hc88, h⟩
    · refine WC.condT' rfl hc88 ?_
      refine WC.seq ?_
      refine WC.region ?_
      refine WL.y (Y.move rfl) rfl ?_
      refine WL.y (Y.build (vals := [(2, vi r79)]) (cells := [vi 0, vu 0, vi 0, .slice none 0 0, vi 0, .slice none 0 0, vi 0, vu 0, vi 0, .slice none 0 0, vi 0, .slice none 0 0, vi r79]) (Fits.evalp rfl) (by kernel_rfl)) rfl ?_
      have hf89 := hb43.st hst64 rfl
      have hf90 := hf89.st hst87 rfl
      refine WL.store (v := .agg [vi 0, vu 0, vi 0, .slice none 0 0, vi 0, .slice none 0 0, vi 0, vu 0, vi 0, .slice none 0 0, vi 0, .slice none 0 0, vi r79].toArray) (cells' := [vi 0, vu 0, vi 0, .slice none 0 0, vi 0, .slice none 0 0, vi 0, vu 0, vi 0, .slice none 0 0, vi 0, .slice none 0 0, vi r79]) ty55 rfl rfl hf90 rfl (Nat.le_of_ble_eq_true rfl) rfl rfl ?_
      intro wd91 hst92 hb93
      refine WL.nil ?_
      refine At.then ?_
      refine WC.ret ?_
      refine At.thenR ?_
      obtain rfl := some1 h
      have hs94 : Stp [13] (Lg.O0 A) w O84 wd91 := (Stp.trans (Stp.up hst27 rfl) (Stp.trans (Stp.up hst42 rfl) (Stp.trans (Stp.up hst47 rfl) (Stp.trans (Stp.up hst64 rfl) (Stp.trans (Stp.up hst87 rfl) (Stp.up hst92 rfl))))))
      exact At.res (.inl rfl) rfl (.cell rfl (hb93.runAg 0 [vi 0, vu 0, vi 0, .slice none 0 0, vi 0, .slice none 0 0, vi 0, vu 0, vi 0, .slice none 0 0, vi 0, .slice none 0 0, vi r79] ty55 rfl rfl rfl) .nil) ⟨.slice none 0 0, .slice none 0 0, .slice none 0 0, .slice none 0 0, rfl, (Stp.ext hs94 rfl rfl), (Or.inl ⟨rfl, rfl⟩), (Or.inl ⟨rfl, rfl⟩), (Or.inl ⟨rfl, rfl⟩), (Or.inl ⟨rfl, rfl⟩)⟩
    · refine WC.condF' rfl hc88 ?_
      refine WC.skip ?_
      refine At.then ?_
      refine WC.seq ?_
      refine WC.region ?_
      refine WL.y (Y.fieldAddr fo27_0 rfl) rfl ?_
      have hf95 := hf49.st hst64 rfl
      have hf96 := hf95.st hst87 rfl
      refine WL.y (Y.loadSc ty3 rfl rfl (hf96.cell 0 _ rfl)) rfl ?_
      refine WL.y (Y.assign rfl) rfl ?_
      refine WL.nil ?_
      refine At.then ?_
      refine WC.seq ?_
      obtain ⟨p98, h, hk99⟩ := bnd h
      refine WC.join (σ := Int) (fun x w' => x = p98 ∧ wd82 = w') (fun x => [(2, .pointer (some ⟨p24, 0, none⟩)), (3, .pointer (some ⟨p39, 0, none⟩)), (4, .pointer (some ⟨p44, 0, none⟩)), (7, vi x)]) ?_ ?_
      · refine WC.seq ?_
        refine WC.region ?_
        refine WL.y (Y.fieldAddr fo27_0 rfl) rfl ?_
        have hf100 := hf72.st hst87 rfl
        refine WL.y (Y.loadSc ty3 rfl rfl (hf100.cell 0 _ rfl)) rfl ?_
        refine WL.y (Y.move rfl) rfl ?_
        refine WL.y (Y.lss_i rfl rfl) rfl ?_
        refine WL.nil ?_
        refine At.then ?_
        rcases cnd h with ⟨hc101, h⟩ | ⟨hc101, h⟩
        · refine WC.condT' rfl hc101 ?_
          refine WC.region ?_
          refine WL.y (Y.fieldAddr fo27_0 rfl) rfl ?_
          refine WL.y (Y.loadSc ty3 rfl rfl (hf100.cell 0 _ rfl)) rfl ?_
          refine WL.y (Y.assign rfl) rfl ?_
          refine WL.nil ?_
          exact At.join (σ := Int) a1.Scale ⟨some1 h, rfl⟩ (.cons rfl (.cons rfl (.cons rfl (.cons rfl .nil))))
        · refine WC.condF' rfl hc101 ?_
          refine WC.skip ?_
          exact At.join (σ := Int) a0.Scale ⟨some1 h, rfl⟩ (.cons rfl (.cons rfl (.cons rfl (.cons rfl .nil))))
      · rintro s97 _ ⟨rfl, rfl⟩
        replace h := hk99
        try dsimp only at h
        refine (show At _ _ _ [(2, .pointer (some ⟨p24, 0, none⟩)), (3, .pointer (some ⟨p39, 0, none⟩)), (4, .pointer (some ⟨p44, 0, none⟩)), (7, vi s97)] _ from ?_)
        refine At.then ?_
        refine WC.seq ?_
        refine WC.region ?_
        refine WL.y (Y.loadAg ty27 rfl rfl (hf96.cells 0 [vi a0.Scale, vu a0.Zero, vi a0.Pos.Offset, (.slice p15 m16 c17), vi a0.Neg.Offset, (.slice p19 m20 c21)] rfl) rfl) rfl ?_
        refine WL.y (Y.fieldAddr fo27_0 rfl) rfl ?_
        refine WL.y (Y.loadSc ty3 rfl rfl (hf96.cell 0 _ rfl)) rfl ?_
        refine WL.y (Y.move rfl) rfl ?_
        refine WL.y (Y.sub_i rfl rfl) rfl ?_
        have hf102 := hf52.mono (imm_st hst64 rfl rfl)
        have hf103 := hf102.mono (imm_st hst87 rfl rfl)
        have hf104 := hf55.mono (imm_st hst64 rfl rfl)
        have hf105 := hf104.mono (imm_st hst87 rfl rfl)
        obtain ⟨⟨r106, r107⟩, hp108, h⟩ := bnd h
        refine WL.call (vals := [.agg [vi a0.Scale, vu a0.Zero, vi a0.Pos.Offset, (.slice p15 m16 c17), vi a0.Neg.Offset, (.slice p19 m20 c21)].toArray, vi (w64 (a0.Scale - s97))]) kok24 rfl rfl (c_ref08_Down (A := fun _ => True) (a0 := a0) (Sl.all hf103) (Sl.all hf105) hp108) ?_
        rintro vr115 wd114 ⟨u109, u110, rfl, hm113, f111, f112⟩
        obtain ⟨O116, hold117, hnew118, hst119⟩ := adoptE O84 (fun k => 1) hm113
        have hf120 : Sl Rep.u wd114 (frs O116) u109 r106.Pos.Counts := Sl.adoptF f111 (fun k hk => ⟨hk, rfl⟩) hnew118
        have hf121 : Sl Rep.u wd114 (frs O116) u110 r106.Neg.Counts := Sl.adoptF f112 (fun k hk => ⟨hk, rfl⟩) hnew118
        refine WL.y (Y.move rfl) rfl ?_
        refine WL.y (Y.extract rfl rfl) rfl ?_
        refine WL.y (Y.extract rfl rfl) rfl ?_
        refine WL.alloc (O := O116) 14 [vi 0, vu 0, vi 0, .slice none 0 0, vi 0, .slice none 0 0] ty27 rfl rfl ?_
        intro p123 O124 wd125 hst126 hb122
        have hf127 := hf120.mono (frs_st hst126 rfl)
        have hh131 := h
        obtain ⟨p128, m129, c130, rfl⟩ := hf127.shape
        have h := hh131
        have hf132 := hf121.mono (frs_st hst126 rfl)
        have hh136 := h
        obtain ⟨p133, m134, c135, rfl⟩ := hf132.shape
        have h := hh136
        refine WL.store (v := .agg [vi r106.Scale, vu r106.Zero, vi r106.Pos.Offset, (.slice p128 m129 c130), vi r106.Neg.Offset, (.slice p133 m134 c135)].toArray) (cells' := [vi r106.Scale, vu r106.Zero, vi r106.Pos.Offset, (.slice p128 m129 c130), vi r106.Neg.Offset, (.slice p133 m134 c135)]) ty27 rfl rfl hb122 rfl (Nat.le_of_ble_eq_true rfl) rfl rfl ?_
        intro wd137 hst138 hb139
        refine WL.y (Y.assign rfl) rfl ?_
        refine WL.nil ?_
        refine At.then ?_
        refine WC.seq ?_
        refine WC.region ?_
        have hf140 := hf72.st hst87 rfl
        have hf141 := hf140.st hst119 rfl
        have hf142 := hf141.st hst126 rfl
        have hf143 := hf142.st hst138 rfl
        refine WL.y (Y.loadAg ty27 rfl rfl (hf143.cells 0 [vi a1.Scale, vu a1.Zero, vi a1.Pos.Offset, (.slice p29 m30 c31), vi a1.Neg.Offset, (.slice p34 m35 c36)] rfl) rfl) rfl ?_
        refine WL.y (Y.fieldAddr fo27_0 rfl) rfl ?_
        refine WL.y (Y.loadSc ty3 rfl rfl (hf143.cell 0 _ rfl)) rfl ?_
        refine WL.y (Y.move rfl) rfl ?_
        refine WL.y (Y.sub_i rfl rfl) rfl ?_
        have hf144 := hf75.mono (imm_st hst87 rfl rfl)
        have hf145 := hf144.mono (imm_st hst119 rfl rfl)
        have hf146 := hf145.mono (imm_st hst126 rfl rfl)
        have hf147 := hf146.mono (imm_st hst138 rfl rfl)
        have hf148 := hf78.mono (imm_st hst87 rfl rfl)
        have hf149 := hf148.mono (imm_st hst119 rfl rfl)
        have hf150 := hf149.mono (imm_st hst126 rfl rfl)
        have hf151 := hf150.mono (imm_st hst138 rfl rfl)
        obtain ⟨⟨r152, r153⟩, hp154, h⟩ := bnd h
        refine WL.call (vals := [.agg [vi a1.Scale, vu a1.Zero, vi a1.Pos.Offset, (.slice p29 m30 c31), vi a1.Neg.Offset, (.slice p34 m35 c36)].toArray, vi (w64 (a1.Scale - s97))]) kok24 rfl rfl (c_ref08_Down (A := fun _ => True) (a0 := a1) (Sl.all hf147) (Sl.all hf151) hp154) ?_
        rintro vr161 wd160 ⟨u155, u156, rfl, hm159, f157, f158⟩
        obtain ⟨O162, hold163, hnew164, hst165⟩ := adoptE O124 (fun k => 1) hm159
        have hf166 : Sl Rep.u wd160 (frs O162) u155 r152.Pos.Counts := Sl.adoptF f157 (fun k hk => ⟨hk, rfl⟩) hnew164
        have hf167 : Sl Rep.u wd160 (frs O162) u156 r152.Neg.Counts := Sl.adoptF f158 (fun k hk => ⟨hk, rfl⟩) hnew164
        refine WL.y (Y.move rfl) rfl ?_
        refine WL.y (Y.extract rfl rfl) rfl ?_
        refine WL.y (Y.extract rfl rfl) rfl ?_
        refine WL.alloc (O := O162) 15 [vi 0, vu 0, vi 0, .slice none 0 0, vi 0, .slice none 0 0] ty27 rfl rfl ?_
        intro p169 O170 wd171 hst172 hb168
        have hf173 := hf166.mono (frs_st hst172 rfl)
        have hh177 := h
        obtain ⟨p174, m175, c176, rfl⟩ := hf173.shape
        have h := hh177
        have hf178 := hf167.mono (frs_st hst172 rfl)
        have hh182 := h
        obtain ⟨p179, m180, c181, rfl⟩ := hf178.shape
        have h := hh182
        refine WL.store (v := .agg [vi r152.Scale, vu r152.Zero, vi r152.Pos.Offset, (.slice p174 m175 c176), vi r152.Neg.Offset, (.slice p179 m180 c181)].toArray) (cells' := [vi r152.Scale, vu r152.Zero, vi r152.Pos.Offset, (.slice p174 m175 c176), vi r152.Neg.Offset, (.slice p179 m180 c181)]) ty27 rfl rfl hb168 rfl (Nat.le_of_ble_eq_true rfl) rfl rfl ?_
        intro wd183 hst184 hb185
        refine WL.y (Y.assign rfl) rfl ?_
        refine WL.nil ?_
        refine At.then ?_
        refine WC.seq ?_
        refine WC.region ?_
        have hf186 := hb139.st hst165 rfl
        have hf187 := hf186.st hst172 rfl
        have hf188 := hf187.st hst184 rfl
        refine WL.y (Y.loadAg ty27 rfl rfl (hf188.cells 0 [vi r106.Scale, vu r106.Zero, vi r106.Pos.Offset, (.slice p128 m129 c130), vi r106.Neg.Offset, (.slice p133 m134 c135)] rfl) rfl) rfl ?_
        refine WL.y (Y.loadAg ty27 rfl rfl (hb185.cells 0 [vi r152.Scale, vu r152.Zero, vi r152.Pos.Offset, (.slice p174 m175 c176), vi r152.Neg.Offset, (.slice p179 m180 c181)] rfl) rfl) rfl ?_
        refine WL.y (Y.build (vals := [(0, .agg [vi r106.Scale, vu r106.Zero, vi r106.Pos.Offset, (.slice p128 m129 c130), vi r106.Neg.Offset, (.slice p133 m134 c135)].toArray), (1, .agg [vi r152.Scale, vu r152.Zero, vi r152.Pos.Offset, (.slice p174 m175 c176), vi r152.Neg.Offset, (.slice p179 m180 c181)].toArray)]) (cells := [vi r106.Scale, vu r106.Zero, vi r106.Pos.Offset, (.slice p128 m129 c130), vi r106.Neg.Offset, (.slice p133 m134 c135), vi r152.Scale, vu r152.Zero, vi r152.Pos.Offset, (.slice p174 m175 c176), vi r152.Neg.Offset, (.slice p179 m180 c181), vi 0]) (Fits.evalp rfl) (by kernel_rfl)) rfl ?_
        have hf189 := hb43.st hst64 rfl
        have hf190 := hf189.st hst87 rfl
        have hf191 := hf190.st hst119 rfl
        have hf192 := hf191.st hst126 rfl
        have hf193 := hf192.st hst138 rfl
        have hf194 := hf193.st hst165 rfl
        have hf195 := hf194.st hst172 rfl
        have hf196 := hf195.st hst184 rfl
        refine WL.store (v := .agg [vi r106.Scale, vu r106.Zero, vi r106.Pos.Offset, (.slice p128 m129 c130), vi r106.Neg.Offset, (.slice p133 m134 c135), vi r152.Scale, vu r152.Zero, vi r152.Pos.Offset, (.slice p174 m175 c176), vi r152.Neg.Offset, (.slice p179 m180 c181), vi 0].toArray) (cells' := [vi r106.Scale, vu r106.Zero, vi r106.Pos.Offset, (.slice p128 m129 c130), vi r106.Neg.Offset, (.slice p133 m134 c135), vi r152.Scale, vu r152.Zero, vi r152.Pos.Offset, (.slice p174 m175 c176), vi r152.Neg.Offset, (.slice p179 m180 c181), vi 0]) ty55 rfl rfl hf196 rfl (Nat.le_of_ble_eq_true rfl) rfl rfl ?_
        intro wd197 hst198 hb199
        refine WL.nil ?_
        refine At.then ?_
        refine WC.ret ?_
        obtain rfl := some1 h
        have hs200 : Stp [13, 14, 15] (Lg.O0 A) w O170 wd197 := (Stp.trans (Stp.up hst27 rfl) (Stp.trans (Stp.up hst42 rfl) (Stp.trans (Stp.up hst47 rfl) (Stp.trans (Stp.up hst64 rfl) (Stp.trans (Stp.up hst87 rfl) (Stp.trans (Stp.up hst119 rfl) (Stp.trans (Stp.up hst126 rfl) (Stp.trans (Stp.up hst138 rfl) (Stp.trans (Stp.up hst165 rfl) (Stp.trans (Stp.up hst172 rfl) (Stp.trans (Stp.up hst184 rfl) (Stp.up hst198 rfl))))))))))))
        have hf201 := hf127.mono (frs_st hst138 rfl)
        have hf202 := hf201.mono (frs_st hst165 rfl)
        have hf203 := hf202.mono (frs_st hst172 rfl)
        have hf204 := hf203.mono (frs_st hst184 rfl)
        have hf205 := hf204.mono (frs_st hst198 rfl)
        have hf206 := hf132.mono (frs_st hst138 rfl)
        have hf207 := hf206.mono (frs_st hst165 rfl)
        have hf208 := hf207.mono (frs_st hst172 rfl)
        have hf209 := hf208.mono (frs_st hst184 rfl)
        have hf210 := hf209.mono (frs_st hst198 rfl)
        have hf211 := hf173.mono (frs_st hst184 rfl)
        have hf212 := hf211.mono (frs_st hst198 rfl)
        have hf213 := hf178.mono (frs_st hst184 rfl)
        have hf214 := hf213.mono (frs_st hst198 rfl)
        exact At.res (.inl rfl) rfl (.cell rfl (hb199.runAg 0 [vi r106.Scale, vu r106.Zero, vi r106.Pos.Offset, (.slice p128 m129 c130), vi r106.Neg.Offset, (.slice p133 m134 c135), vi r152.Scale, vu r152.Zero, vi r152.Pos.Offset, (.slice p174 m175 c176), vi r152.Neg.Offset, (.slice p179 m180 c181), vi 0] ty55 rfl rfl rfl) .nil) ⟨(.slice p128 m129 c130), (.slice p133 m134 c135), (.slice p174 m175 c176), (.slice p179 m180 c181), rfl, (Stp.ext hs200 rfl rfl), (Sl.outF hf205 hs200 low0), (Sl.outF hf210 hs200 low0), (Sl.outF hf212 hs200 low0), (Sl.outF hf214 hs200 low0)⟩

theorem c_ref09_reach {A : Nat → Prop} {v0_1 : Value} {a0 : api_Side} {v1_1 : Value} {a1 : api_Side} {w : World} (hs0_1 : Sl Rep.u w A v0_1 a0.Counts) (hs1_1 : Sl Rep.u w A v1_1 a1.Counts) {r0 : Int} {r1 : Int} {r2 : Bool} (h : ref09_reach a0 a1 = some (r0, r1, r2)) : Rets Try.prog 99 [.agg [vi a0.Offset, v0_1].toArray, .agg [vi a1.Offset, v1_1].toArray] w (fun v w' => v = .tuple (List.toArray [vi r0, vi r1, .bool r2]) ∧ Ext w w') := by
  unfold ref09_reach at h
  refine Rets.enter Try.func99 rfl rfl ?_
  have hf11 : Sl Rep.u w (imm (Lg.O0 A)) v0_1 a0.Counts := (Sl.start hs0_1)
  have hf12 : Sl Rep.u w (imm (Lg.O0 A)) v1_1 a1.Counts := (Sl.start hs1_1)
  refine (show WC _ _ _ _ [(0, .agg [vi a0.Offset, v0_1].toArray), (1, .agg [vi a1.Offset, v1_1].toArray)] _ from ?_)
  refine WC.seq ?_
  refine WC.region ?_
  have hh16 := h
  obtain ⟨p13, m14, c15, rfl⟩ := hf11.shape
  have h := hh16
  refine WL.box (O := (Lg.O0 A)) 11 [vi a0.Offset, (.slice p13 m14 c15)] rfl rfl rfl ?_
  intro p18 O19 wd20 hst21 hb17
  have hf22 := hf12.mono (imm_st hst21 rfl rfl)
  have hh26 := h
  obtain ⟨p23, m24, c25, rfl⟩ := hf22.shape
  have h := hh26
  refine WL.box (O := O19) 12 [vi a1.Offset, (.slice p23 m24 c25)] rfl rfl rfl ?_
  intro p28 O29 wd30 hst31 hb27
  refine WL.y (Y.assign rfl) rfl ?_
  refine WL.y (Y.assign rfl) rfl ?_
  refine WL.y (Y.assign rfl) rfl ?_
  refine WL.nil ?_
  refine At.then ?_
  refine WC.seq ?_
  refine WC.seq ?_
  refine WC.region ?_
  refine WL.y (Y.fieldAddr fo25_1 rfl) rfl ?_
  have hf32 := hb17.st hst31 rfl
  refine WL.y (Y.loadSc ty23 rfl rfl (hf32.cell 1 _ rfl)) rfl ?_
  have hf33 := hf11.mono (imm_st hst21 rfl rfl)
  have hf34 := hf33.mono (imm_st hst31 rfl rfl)
  refine WL.y (Y.len ty23 rfl hf34) rfl ?_
  refine WL.y (Y.eql_i rfl rfl) rfl ?_
  refine WL.y (Y.move rfl) rfl ?_
  refine WL.cut 5 (σ := Unit) (fun _ w' => wd30 = w') (fun _ => [(2, .pointer (some ⟨p18, 0, none⟩)), (3, .pointer (some ⟨p28, 0, none⟩)), (16, .bool ((decide ((a0.Counts.length : Int) = 0)) && (decide ((a1.Counts.length : Int) = 0))))]) ?_ ?_
  · refine WL.part 11 rfl (fun hE35 => ?_) (fun hE35 => ?_)
    · refine WL.ung rfl rfl ?_
      refine WL.y (Y.fieldAddr fo25_1 rfl) rfl ?_
      refine WL.ung rfl rfl ?_
      refine WL.y (Y.loadSc ty23 rfl rfl (hb27.cell 1 _ rfl)) rfl ?_
      refine WL.ung rfl rfl ?_
      have hf36 := hf22.mono (imm_st hst31 rfl rfl)
      refine WL.y (Y.len ty23 rfl hf36) rfl ?_
      refine WL.ung rfl rfl ?_
      refine WL.y (Y.eql_i rfl rfl) rfl ?_
      refine WL.y (Y.pick (b := true) rfl rfl) rfl ?_
      refine WL.ren (v' := .bool ((decide ((a0.Counts.length : Int) = 0)) && (decide ((a1.Counts.length : Int) = 0)))) 16 rfl (congrArg Value.bool (andT hE35)) ?_
      exact WL.nil (At.join () rfl (.cons rfl (.cons rfl (.cons rfl .nil))))
    · refine WL.gS rfl rfl rfl rfl ?_
      refine WL.gS rfl rfl rfl rfl ?_
      refine WL.gS rfl rfl rfl rfl ?_
      refine WL.gS rfl rfl rfl rfl ?_
      refine WL.y (Y.pick (b := false) rfl rfl) rfl ?_
      refine WL.ren (v' := .bool ((decide ((a0.Counts.length : Int) = 0)) && (decide ((a1.Counts.length : Int) = 0)))) 16 rfl (congrArg Value.bool (andF hE35)) ?_
      exact WL.nil (At.join () rfl (.cons rfl (.cons rfl (.cons rfl .nil))))
  · rintro _ _ rfl
    refine (show WL _ _ _ _ _ [(2, .pointer (some ⟨p18, 0, none⟩)), (3, .pointer (some ⟨p28, 0, none⟩)), (16, .bool ((decide ((a0.Counts.length : Int) = 0)) && (decide ((a1.Counts.length : Int) = 0))))] _ from ?_)
    refine WL.nil ?_
    refine At.then ?_
    rcases cnd h with ⟨hc37, h⟩ | ⟨hc37, h⟩
    · refine WC.condT' rfl hc37 ?_
      refine WC.seq ?_
      refine WC.region ?_
      refine WL.y (Y.assign rfl) rfl ?_
      refine WL.y (Y.assign rfl) rfl ?_
      refine WL.y (Y.assign rfl) rfl ?_
      refine WL.nil ?_
      refine At.then ?_
      refine WC.ret ?_
      refine At.thenR ?_
      obtain ⟨rfl, rfl, rfl⟩ := tup3 h
      have hs38 : Stp [] (Lg.O0 A) w O29 wd30 := (Stp.trans (Stp.up hst21 rfl) (Stp.up hst31 rfl))
      exact At.res (.inl rfl) rfl (.tmp rfl (.tmp rfl (.tmp rfl .nil))) ⟨rfl, (Stp.ext hs38 rfl rfl)⟩
    · refine WC.condF' rfl hc37 ?_
      refine WC.skip ?_
      refine At.then ?_
      refine WC.seq ?_
      obtain ⟨p47, h, hk48⟩ := bnd h
      refine WC.join (σ := (Int × List UInt64 × Own × Value)) (fun x w' => (x.1, x.2.1) = p47 ∧ Stp [11] O29 wd30 x.2.2.1 w' ∧ Sl Rep.u w' (imm x.2.2.1) x.2.2.2 x.2.1 ∧ Blk 11 x.2.2.1 w' p18 25 [vi x.1, x.2.2.2]) (fun x => [(2, .pointer (some ⟨p18, 0, none⟩)), (3, .pointer (some ⟨p28, 0, none⟩))]) ?_ ?_
      · refine WC.seq ?_
        refine WC.region ?_
        refine WL.y (Y.fieldAddr fo25_1 rfl) rfl ?_
        refine WL.y (Y.loadSc ty23 rfl rfl (hf32.cell 1 _ rfl)) rfl ?_
        refine WL.y (Y.len ty23 rfl hf34) rfl ?_
        refine WL.y (Y.eql_i rfl rfl) rfl ?_
        refine WL.nil ?_
        refine At.then ?_
        rcases cnd h with ⟨hc49, h⟩ | ⟨hc49, h⟩
        · refine WC.condT' rfl hc49 ?_
          refine WC.region ?_
          refine WL.y (Y.loadAg ty25 rfl rfl (hb27.cells 0 [vi a1.Offset, (.slice p23 m24 c25)] rfl) rfl) rfl ?_
          refine WL.store (v := .agg [vi a1.Offset, (.slice p23 m24 c25)].toArray) (cells' := [vi a1.Offset, (.slice p23 m24 c25)]) ty25 rfl rfl hf32 rfl (Nat.le_of_ble_eq_true rfl) rfl rfl ?_
          intro wd50 hst51 hb52
          refine WL.nil ?_
          have hf53 := hf22.mono (imm_st hst31 rfl rfl)
          have hf54 := hf53.mono (imm_st hst51 rfl rfl)
          exact At.join (σ := (Int × List UInt64 × Own × Value)) (a1.Offset, a1.Counts, O29, (.slice p23 m24 c25)) ⟨some1 h, (Stp.up hst51 rfl), hf54, hb52⟩ (.cons rfl (.cons rfl .nil))
        · refine WC.condF' rfl hc49 ?_
          refine WC.skip ?_
          exact At.join (σ := (Int × List UInt64 × Own × Value)) (a0.Offset, a0.Counts, O29, (.slice p13 m14 c15)) ⟨some1 h, (Stp.refl _ _ _), hf34, hf32⟩ (.cons rfl (.cons rfl .nil))
      · rintro ⟨c40, c41, O44, v42⟩ wd45 ⟨rfl, hst46, hf43, hb39⟩
        replace h := hk48
        try dsimp only at h hst46 hf43 hb39
        refine (show At _ _ _ [(2, .pointer (some ⟨p18, 0, none⟩)), (3, .pointer (some ⟨p28, 0, none⟩))] _ from ?_)
        refine At.then ?_
        refine WC.seq ?_
        have hh58 := h
        obtain ⟨p55, m56, c57, rfl⟩ := hf43.shape
        have h := hh58
        obtain ⟨p67, h, hk68⟩ := bnd h
        refine WC.join (σ := (Int × List UInt64 × Own × Value)) (fun x w' => (x.1, x.2.1) = p67 ∧ Stp [12] O44 wd45 x.2.2.1 w' ∧ Sl Rep.u w' (imm x.2.2.1) x.2.2.2 x.2.1 ∧ Blk 12 x.2.2.1 w' p28 25 [vi x.1, x.2.2.2]) (fun x => [(2, .pointer (some ⟨p18, 0, none⟩)), (3, .pointer (some ⟨p28, 0, none⟩))]) ?_ ?_
        · refine WC.seq ?_
          refine WC.region ?_
          refine WL.y (Y.fieldAddr fo25_1 rfl) rfl ?_
          have hf69 := hb27.st hst46 rfl
          refine WL.y (Y.loadSc ty23 rfl rfl (hf69.cell 1 _ rfl)) rfl ?_
          have hf70 := hf22.mono (imm_st hst31 rfl rfl)
          have hf71 := hf70.mono (imm_st hst46 rfl rfl)
          refine WL.y (Y.len ty23 rfl hf71) rfl ?_
          refine WL.y (Y.eql_i rfl rfl) rfl ?_
          refine WL.nil ?_
          refine At.then ?_
          rcases cnd h with ⟨hc72, h⟩ | ⟨hc72, h⟩
          · refine WC.condT' rfl hc72 ?_
            refine WC.region ?_
            refine WL.y (Y.loadAg ty25 rfl rfl (hb39.cells 0 [vi c40, (.slice p55 m56 c57)] rfl) rfl) rfl ?_
            refine WL.store (v := .agg [vi c40, (.slice p55 m56 c57)].toArray) (cells' := [vi c40, (.slice p55 m56 c57)]) ty25 rfl rfl hf69 rfl (Nat.le_of_ble_eq_true rfl) rfl rfl ?_
            intro wd73 hst74 hb75
            refine WL.nil ?_
            have hf76 := hf43.mono (imm_st hst74 rfl rfl)
            exact At.join (σ := (Int × List UInt64 × Own × Value)) (c40, c41, O44, (.slice p55 m56 c57)) ⟨some1 h, (Stp.up hst74 rfl), hf76, hb75⟩ (.cons rfl (.cons rfl .nil))
          · refine WC.condF' rfl hc72 ?_
            refine WC.skip ?_
            exact At.join (σ := (Int × List UInt64 × Own × Value)) (a1.Offset, a1.Counts, O44, (.slice p23 m24 c25)) ⟨some1 h, (Stp.refl _ _ _), hf71, hf69⟩ (.cons rfl (.cons rfl .nil))
        · rintro ⟨c60, c61, O64, v62⟩ wd65 ⟨rfl, hst66, hf63, hb59⟩
          replace h := hk68
          try dsimp only at h hst66 hf63 hb59
          refine (show At _ _ _ [(2, .pointer (some ⟨p18, 0, none⟩)), (3, .pointer (some ⟨p28, 0, none⟩))] _ from ?_)
          refine At.then ?_
          refine WC.seq ?_
          refine WC.draw 21 O64 fmix (by kernel_rfl) ?_
          intro wd77 hst78
          refine WS.y (Y.fieldAddr fo25_0 rfl) rfl ?_
          have hf79 := hb39.st hst66 rfl
          have hf80 := hf79.st hst78 rfl
          refine WS.y (Y.loadSc ty3 rfl rfl (hf80.cell 0 _ rfl)) rfl ?_
          refine WS.y (Y.fieldAddr fo25_0 rfl) rfl ?_
          have hf81 := hb59.st hst78 rfl
          refine WS.y (Y.loadSc ty3 rfl rfl (hf81.cell 0 _ rfl)) rfl ?_
          refine WS.y (Y.min_i rfl rfl) rfl ?_
          refine WS.y (Y.fieldAddr fo25_0 rfl) rfl ?_
          refine WS.y (Y.loadSc ty3 rfl rfl (hf80.cell 0 _ rfl)) rfl ?_
          refine WS.y (Y.fieldAddr fo25_1 rfl) rfl ?_
          refine WS.y (Y.loadSc ty23 rfl rfl (hf80.cell 1 _ rfl)) rfl ?_
          have hf82 := hf43.mono (imm_st hst66 rfl rfl)
          have hf83 := hf82.mono (imm_st hst78 rfl rfl)
          refine WS.y (Y.len ty23 rfl hf83) rfl ?_
          refine WS.y (Y.add_i rfl rfl) rfl ?_
          refine WS.y (Y.fieldAddr fo25_0 rfl) rfl ?_
          refine WS.y (Y.loadSc ty3 rfl rfl (hf81.cell 0 _ rfl)) rfl ?_
          refine WS.y (Y.fieldAddr fo25_1 rfl) rfl ?_
          refine WS.y (Y.loadSc ty23 rfl rfl (hf81.cell 1 _ rfl)) rfl ?_
          have hf84 := hf63.mono (imm_st hst78 rfl rfl)
          refine WS.y (Y.len ty23 rfl hf84) rfl ?_
          refine WS.y (Y.add_i rfl rfl) rfl ?_
          refine WS.y (Y.max_i rfl rfl) rfl ?_
          refine WS.y (Y.sub_i rfl rfl) rfl ?_
          obtain ⟨t85, ht85, h⟩ := lt1 h
          refine WS.yE (Y.assign rfl) (congrArg vi ht85.symm) rfl ?_
          obtain ⟨t86, ht86, h⟩ := lt1 h
          refine WS.yE (Y.assign rfl) (congrArg vi ht86.symm) rfl ?_
          refine WS.tail ?_
          refine WL.y (Y.assign rfl) rfl ?_
          refine WL.nil ?_
          refine At.then ?_
          refine WC.ret ?_
          obtain ⟨rfl, rfl, rfl⟩ := tup3 h
          have hs87 : Stp [11, 12] (Lg.O0 A) w O64 wd77 := (Stp.trans (Stp.up hst21 rfl) (Stp.trans (Stp.up hst31 rfl) (Stp.trans (Stp.up hst46 rfl) (Stp.trans (Stp.up hst66 rfl) (Stp.up hst78 rfl)))))
          exact At.res (.inl rfl) rfl (.tmp rfl (.tmp rfl (.tmp rfl .nil))) ⟨rfl, (Stp.ext hs87 rfl rfl)⟩

theorem c_ref09_At {A : Nat → Prop} {v0_1 : Value} {a0 : api_Side} {a1 : Int} {w : World} (hs0_1 : Sl Rep.u w A v0_1 a0.Counts) {r0 : UInt64} (h : ref09_At a0 a1 = some r0) : Rets Try.prog 100 [.agg [vi a0.Offset, v0_1].toArray, vi a1] w (fun v w' => v = vu r0 ∧ Ext w w') := by
  unfold ref09_At at h
  refine Rets.enter Try.func100 rfl rfl ?_
  have hf11 : Sl Rep.u w (imm (Lg.O0 A)) v0_1 a0.Counts := (Sl.start hs0_1)
  refine (show WC _ _ _ _ [(0, .agg [vi a0.Offset, v0_1].toArray), (1, vi a1)] _ from ?_)
  refine WC.seq ?_
  refine WC.region ?_
  have hh15 := h
  obtain ⟨p12, m13, c14, rfl⟩ := hf11.shape
  have h := hh15
  refine WL.box (O := (Lg.O0 A)) 11 [vi a0.Offset, (.slice p12 m13 c14)] rfl rfl rfl ?_
  intro p17 O18 wd19 hst20 hb16
  refine WL.y (Y.assign (v := vu 0) rfl) rfl ?_
  refine WL.nil ?_
  refine At.then ?_
  refine WC.seq ?_
  refine WC.seq ?_
  refine WC.region ?_
  refine WL.y (Y.move rfl) rfl ?_
  refine WL.y (Y.fieldAddr fo25_0 rfl) rfl ?_
  refine WL.y (Y.loadSc ty3 rfl rfl (hb16.cell 0 _ rfl)) rfl ?_
  refine WL.y (Y.lss_i rfl rfl) rfl ?_
  refine WL.y (Y.move rfl) rfl ?_
  refine WL.cut 9 (σ := Unit) (fun _ w' => wd19 = w') (fun _ => [(1, vi a1), (2, .pointer (some ⟨p17, 0, none⟩)), (18, .bool ((decide (a1 < a0.Offset)) || (decide (w64 (a0.Offset + (a0.Counts.length : Int)) ≤ a1))))]) ?_ ?_
  · refine WL.part 9 rfl (fun hE21 => ?_) (fun hE21 => ?_)
    · refine WL.gS rfl rfl rfl rfl ?_
      refine WL.gS rfl rfl rfl rfl ?_
      refine WL.gS rfl rfl rfl rfl ?_
      refine WL.gS rfl rfl rfl rfl ?_
      refine WL.gS rfl rfl rfl rfl ?_
      refine WL.gS rfl rfl rfl rfl ?_
      refine WL.gS rfl rfl rfl rfl ?_
      refine WL.gS rfl rfl rfl rfl ?_
      refine WL.y (Y.pick (b := true) rfl rfl) rfl ?_
      refine WL.ren (v' := .bool ((decide (a1 < a0.Offset)) || (decide (w64 (a0.Offset + (a0.Counts.length : Int)) ≤ a1)))) 18 rfl (congrArg Value.bool (orT hE21)) ?_
      exact WL.nil (At.join () rfl (.cons rfl (.cons rfl (.cons rfl .nil))))
    · refine WL.ung rfl rfl ?_
      refine WL.y (Y.move rfl) rfl ?_
      refine WL.ung rfl rfl ?_
      refine WL.y (Y.fieldAddr fo25_0 rfl) rfl ?_
      refine WL.ung rfl rfl ?_
      refine WL.y (Y.loadSc ty3 rfl rfl (hb16.cell 0 _ rfl)) rfl ?_
      refine WL.ung rfl rfl ?_
      refine WL.y (Y.fieldAddr fo25_1 rfl) rfl ?_
      refine WL.ung rfl rfl ?_
      refine WL.y (Y.loadSc ty23 rfl rfl (hb16.cell 1 _ rfl)) rfl ?_
      refine WL.ung rfl rfl ?_
      have hf22 := hf11.mono (imm_st hst20 rfl rfl)
      refine WL.y (Y.len ty23 rfl hf22) rfl ?_
      refine WL.ung rfl rfl ?_
      refine WL.y (Y.add_i rfl rfl) rfl ?_
      refine WL.ung rfl rfl ?_
      refine WL.y (Y.geq_i rfl rfl) rfl ?_
      refine WL.y (Y.pick (b := false) rfl rfl) rfl ?_
      refine WL.ren (v' := .bool ((decide (a1 < a0.Offset)) || (decide (w64 (a0.Offset + (a0.Counts.length : Int)) ≤ a1)))) 18 rfl (congrArg Value.bool (orF hE21)) ?_
      exact WL.nil (At.join () rfl (.cons rfl (.cons rfl (.cons rfl .nil))))
  · rintro _ _ rfl
    refine (show WL _ _ _ _ _ [(1, vi a1), (2, .pointer (some ⟨p17, 0, none⟩)), (18, .bool ((decide (a1 < a0.Offset)) || (decide (w64 (a0.Offset + (a0.Counts.length : Int)) ≤ a1))))] _ from ?_)
    refine WL.nil ?_
    refine At.then ?_
    rcases cnd h with ⟨hc23, h⟩ | ⟨hc23, h⟩
    · refine WC.condT' rfl hc23 ?_
      refine WC.seq ?_
      refine WC.region ?_
      refine WL.y (Y.assign (v := vu 0) rfl) rfl ?_
      refine WL.nil ?_
      refine At.then ?_
      refine WC.ret ?_
      refine At.thenR ?_
      obtain rfl := some1 h
      have hs24 : Stp [] (Lg.O0 A) w O18 wd19 := (Stp.up hst20 rfl)
      exact At.res (.inl rfl) rfl (.tmp rfl .nil) ⟨rfl, (Stp.ext hs24 rfl rfl)⟩
    · refine WC.condF' rfl hc23 ?_
      refine WC.skip ?_
      refine At.then ?_
      refine WC.seq ?_
      refine WC.region ?_
      refine WL.y (Y.fieldAddr fo25_1 rfl) rfl ?_
      refine WL.y (Y.loadSc ty23 rfl rfl (hb16.cell 1 _ rfl)) rfl ?_
      refine WL.y (Y.move rfl) rfl ?_
      refine WL.y (Y.fieldAddr fo25_0 rfl) rfl ?_
      refine WL.y (Y.loadSc ty3 rfl rfl (hb16.cell 0 _ rfl)) rfl ?_
      refine WL.y (Y.sub_i rfl rfl) rfl ?_
      obtain ⟨e25, he25, h⟩ := bnd h
      have hf34 := hf11.mono (imm_st hst20 rfl rfl)
      obtain ⟨b26, off35, cap33, cs32, hv27, hi28, hl29, hc30, hok31, hA36⟩ := Sl.at2 hf34 he25
      obtain rfl := hok31
      replace hc30 : CellsAt _ _ _ [vu e25] := hc30
      have hca37 := CAt.imm hc30 hA36
      refine WL.y (Y.indexAddr ty23 ty22 rfl hv27 rfl hi28 hl29) rfl ?_
      refine WL.y (Y.loadSc ty22 rfl rfl hca37.at_) rfl ?_
      refine WL.y (Y.assign rfl) rfl ?_
      refine WL.nil ?_
      refine At.then ?_
      refine WC.ret ?_
      obtain rfl := some1 h
      have hs38 : Stp [] (Lg.O0 A) w O18 wd19 := (Stp.up hst20 rfl)
      exact At.res (.inl rfl) rfl (.tmp rfl .nil) ⟨rfl, (Stp.ext hs38 rfl rfl)⟩

theorem c_ref09_both {A : Nat → Prop} {v0_1 : Value} {a0 : api_Side} {v1_1 : Value} {a1 : api_Side} {w : World} (hs0_1 : Sl Rep.u w A v0_1 a0.Counts) (hs1_1 : Sl Rep.u w A v1_1 a1.Counts) {r0 : api_Side} {r1 : Bool} (h : ref09_both a0 a1 = some (r0, r1)) : Rets Try.prog 72 [.agg [vi a0.Offset, v0_1].toArray, .agg [vi a1.Offset, v1_1].toArray] w (fun v w' => ∃ (u0_1 : Value), v = .tuple (List.toArray [.agg (List.toArray [vi r0.Offset, u0_1]), .bool r1]) ∧ Ext w w' ∧ Sl Rep.u w' (fun k => w.heap.size ≤ k) u0_1 r0.Counts) := by
  unfold ref09_both at h
  refine Rets.enter Try.func72 rfl rfl ?_
  have hf11 : Sl Rep.u w (imm (Lg.O0 A)) v0_1 a0.Counts := (Sl.start hs0_1)
  have hf12 : Sl Rep.u w (imm (Lg.O0 A)) v1_1 a1.Counts := (Sl.start hs1_1)
  refine (show WC _ _ _ _ [(0, .agg [vi a0.Offset, v0_1].toArray), (1, .agg [vi a1.Offset, v1_1].toArray)] _ from ?_)
  refine WC.seq ?_
  refine WC.region ?_
  have hh16 := h
  obtain ⟨p13, m14, c15, rfl⟩ := hf11.shape
  have h := hh16
  refine WL.box (O := (Lg.O0 A)) 11 [vi a0.Offset, (.slice p13 m14 c15)] rfl rfl rfl ?_
  intro p18 O19 wd20 hst21 hb17
  have hf22 := hf12.mono (imm_st hst21 rfl rfl)
  have hh26 := h
  obtain ⟨p23, m24, c25, rfl⟩ := hf22.shape
  have h := hh26
  refine WL.box (O := O19) 12 [vi a1.Offset, (.slice p23 m24 c25)] rfl rfl rfl ?_
  intro p28 O29 wd30 hst31 hb27
  refine WL.alloc (O := O29) 13 [vi 0, .slice none 0 0] ty25 rfl rfl ?_
  intro p33 O34 wd35 hst36 hb32
  refine WL.y (Y.assign rfl) rfl ?_
  refine WL.nil ?_
  refine At.then ?_
  refine WC.seq ?_
  refine WC.region ?_
  have hf37 := hb17.st hst31 rfl
  have hf38 := hf37.st hst36 rfl
  refine WL.y (Y.loadAg ty25 rfl rfl (hf38.cells 0 [vi a0.Offset, (.slice p13 m14 c15)] rfl) rfl) rfl ?_
  have hf39 := hb27.st hst36 rfl
  refine WL.y (Y.loadAg ty25 rfl rfl (hf39.cells 0 [vi a1.Offset, (.slice p23 m24 c25)] rfl) rfl) rfl ?_
  have hf40 := hf11.mono (imm_st hst21 rfl rfl)
  have hf41 := hf40.mono (imm_st hst31 rfl rfl)
  have hf42 := hf41.mono (imm_st hst36 rfl rfl)
  have hf43 := hf22.mono (imm_st hst31 rfl rfl)
  have hf44 := hf43.mono (imm_st hst36 rfl rfl)
  obtain ⟨⟨r45, r46, r47⟩, hp48, h⟩ := bnd h
  refine WL.call (vals := [.agg [vi a0.Offset, (.slice p13 m14 c15)].toArray, .agg [vi a1.Offset, (.slice p23 m24 c25)].toArray]) kok99 rfl rfl (c_ref09_reach (A := fun _ => True) (a0 := a0) (a1 := a1) (Sl.all hf42) (Sl.all hf44) hp48) ?_
  rintro vr51 wd50 ⟨rfl, hm49⟩
  obtain ⟨O52, hold53, hnew54, hst55⟩ := adoptE O34 (fun k => 1) hm49
  refine WL.y (Y.move rfl) rfl ?_
  refine WL.y (Y.extract rfl rfl) rfl ?_
  refine WL.y (Y.extract rfl rfl) rfl ?_
  refine WL.y (Y.extract rfl rfl) rfl ?_
  refine WL.y (Y.assign rfl) rfl ?_
  refine WL.y (Y.assign rfl) rfl ?_
  refine WL.y (Y.assign rfl) rfl ?_
  refine WL.nil ?_
  refine At.then ?_
  refine WC.seq ?_
  refine WC.seq ?_
  refine WC.region ?_
  refine WL.y (Y.move rfl) rfl ?_
  refine WL.y (Y.not rfl) rfl ?_
  refine WL.nil ?_
  refine At.then ?_
  rcases cnd h with ⟨hc56, h⟩ | ⟨hc56, h⟩
  · refine WC.condT' rfl hc56 ?_
    refine WC.seq ?_
    refine WC.region ?_
    refine WL.y (Y.build (vals := []) (cells := [vi 0, .slice none 0 0]) (Fits.evalp rfl) (by kernel_rfl)) rfl ?_
    have hf57 := hb32.st hst55 rfl
    refine WL.store (v := .agg [vi 0, .slice none 0 0].toArray) (cells' := [vi 0, .slice none 0 0]) ty25 rfl rfl hf57 rfl (Nat.le_of_ble_eq_true rfl) rfl rfl ?_
    intro wd58 hst59 hb60
    refine WL.y (Y.assign rfl) rfl ?_
    refine WL.nil ?_
    refine At.then ?_
    refine WC.ret ?_
    refine At.thenR ?_
    obtain ⟨rfl, rfl⟩ := tup2 h
    have hs61 : Stp [13] (Lg.O0 A) w O52 wd58 := (Stp.trans (Stp.up hst21 rfl) (Stp.trans (Stp.up hst31 rfl) (Stp.trans (Stp.up hst36 rfl) (Stp.trans (Stp.up hst55 rfl) (Stp.up hst59 rfl)))))
    exact At.res (.inl rfl) rfl (.cell rfl (hb60.runAg 0 [vi 0, .slice none 0 0] ty25 rfl rfl rfl) (.tmp rfl .nil)) ⟨.slice none 0 0, rfl, (Stp.ext hs61 rfl rfl), (Or.inl ⟨rfl, rfl⟩)⟩
  · refine WC.condF' rfl hc56 ?_
    refine WC.skip ?_
    refine At.then ?_
    refine WC.seq ?_
    refine WC.seq ?_
    refine WC.region ?_
    refine WL.y (Y.move rfl) rfl ?_
    refine WL.y (Y.move rfl) rfl ?_
    refine WL.y (Y.sub_i rfl rfl) rfl ?_
    refine WL.y (Y.geq_i rfl rfl) rfl ?_
    refine WL.nil ?_
    refine At.then ?_
    rcases cnd h with ⟨hc62, h⟩ | ⟨hc62, h⟩
    · refine WC.condT' rfl hc62 ?_
      refine WC.seq ?_
      refine WC.region ?_
      refine WL.y (Y.build (vals := []) (cells := [vi 0, .slice none 0 0]) (Fits.evalp rfl) (by kernel_rfl)) rfl ?_
      have hf63 := hb32.st hst55 rfl
      refine WL.store (v := .agg [vi 0, .slice none 0 0].toArray) (cells' := [vi 0, .slice none 0 0]) ty25 rfl rfl hf63 rfl (Nat.le_of_ble_eq_true rfl) rfl rfl ?_
      intro wd64 hst65 hb66
      refine WL.y (Y.assign rfl) rfl ?_
      refine WL.nil ?_
      refine At.then ?_
      refine WC.ret ?_
      refine At.thenR ?_
      obtain ⟨rfl, rfl⟩ := tup2 h
      have hs67 : Stp [13] (Lg.O0 A) w O52 wd64 := (Stp.trans (Stp.up hst21 rfl) (Stp.trans (Stp.up hst31 rfl) (Stp.trans (Stp.up hst36 rfl) (Stp.trans (Stp.up hst55 rfl) (Stp.up hst65 rfl)))))
      exact At.res (.inl rfl) rfl (.cell rfl (hb66.runAg 0 [vi 0, .slice none 0 0] ty25 rfl rfl rfl) (.tmp rfl .nil)) ⟨.slice none 0 0, rfl, (Stp.ext hs67 rfl rfl), (Or.inl ⟨rfl, rfl⟩)⟩
    · refine WC.condF' rfl hc62 ?_
      refine WC.skip ?_
      refine At.then ?_
      refine WC.seq ?_
      refine WC.region ?_
      refine WL.y (Y.move rfl) rfl ?_
      refine WL.y (Y.build (vals := [(0, vi r45)]) (cells := [vi r45, .slice none 0 0]) (Fits.evalp rfl) (by kernel_rfl)) rfl ?_
      refine WL.alloc (O := O52) 14 [vi 0, .slice none 0 0] ty25 rfl rfl ?_
      intro p69 O70 wd71 hst72 hb68
      refine WL.store (v := .agg [vi r45, .slice none 0 0].toArray) (cells' := [vi r45, .slice none 0 0]) ty25 rfl rfl hb68 rfl (Nat.le_of_ble_eq_true rfl) rfl rfl ?_
      intro wd73 hst74 hb75
      refine WL.nil ?_
      refine At.then ?_
      refine WC.seq ?_
      refine WC.seq ?_
      refine WC.region ?_
      refine WL.y (Y.move rfl) rfl ?_
      refine WL.y (Y.assign rfl) rfl ?_
      refine WL.nil ?_
      refine At.then ?_
      refine WC.block ?_
      obtain ⟨p91, h, hk93⟩ := flow1 h
      obtain ⟨k92, h⟩ := loop_some h
      refine WC.joinB 0 (σ := (List UInt64 × Own × Value)) (fun x w' => p91 = .go x.1 ∧ Stp [14, 16, 1001] O70 wd73 x.2.1 w' ∧ OwnSl 1002 Rep.u 22 x.2.1 w' x.2.2 x.1 ∧ Blk 14 x.2.1 w' p69 25 [vi r45, x.2.2]) (fun x => [(4, .pointer (some ⟨p33, 0, none⟩)), (9, .pointer (some ⟨p69, 0, none⟩))]) ?_ ?_
      · refine WC.loop (σ := (List UInt64 × Int × Own × Value)) (fun x k w' => loopN k (ref09_both_lp1 a0 a1 r46) (x.1, x.2.1) = some p91 ∧ Stp [14, 16, 1001] O70 wd73 x.2.2.1 w' ∧ OwnSl 1001 Rep.u 22 x.2.2.1 w' x.2.2.2 x.1 ∧ Blk 14 x.2.2.1 w' p69 25 [vi r45, x.2.2.2]) (fun x => [(2, .pointer (some ⟨p18, 0, none⟩)), (3, .pointer (some ⟨p28, 0, none⟩)), (4, .pointer (some ⟨p33, 0, none⟩)), (7, vi r46), (9, .pointer (some ⟨p69, 0, none⟩)), (10, vi x.2.1)]) ([], r45, O70, .slice none 0 0) k92 (.cons rfl (.cons rfl (.cons rfl (.cons rfl (.cons rfl (.cons rfl .nil)))))) ⟨h, (Stp.refl _ _ _), (OwnSl.nil 1001 Rep.u 22), hb75⟩ ?_
        rintro ⟨c77, i80, O81, v78⟩ k92 wd82 ⟨h, hst83, hf79, hb76⟩
        obtain ⟨j94, q95, rfl, h, hn96⟩ := rnd1 h
        unfold ref09_both_lp1 at h
        try dsimp only at h hst83 hf79 hb76
        refine (show WC _ _ _ _ [(2, .pointer (some ⟨p18, 0, none⟩)), (3, .pointer (some ⟨p28, 0, none⟩)), (4, .pointer (some ⟨p33, 0, none⟩)), (7, vi r46), (9, .pointer (some ⟨p69, 0, none⟩)), (10, vi i80)] _ from ?_)
        refine WC.seq ?_
        refine WC.seq ?_
        refine WC.region ?_
        refine WL.y (Y.move rfl) rfl ?_
        refine WL.y (Y.move rfl) rfl ?_
        refine WL.y (Y.leq_i rfl rfl) rfl ?_
        refine WL.nil ?_
        refine At.then ?_
        rcases cnd h with ⟨hc97, h⟩ | ⟨hc97, h⟩
        · refine WC.condT' rfl hc97 ?_
          refine WC.skip ?_
          refine At.then ?_
          refine WC.seq ?_
          refine WC.block ?_
          refine WC.drawH [1001] [0, 1, 2, 3, 4, 5, 6, 7, 8, 9, 10, 11] O81 13 fmix rfl (by kernel_rfl) ?_
          intro wd98 hst99
          refine WD.y 0 rfl (by kernel_rfl) (fun _ _ _ => Y.fieldAddr fo25_1 rfl) rfl ?_
          refine WD.y 1 rfl (by kernel_rfl) (fun wd104 O103 hst105 => have hf106 := hb76.st hst99 rfl; have hf107 := hf106.st hst105 rfl; Y.loadSc ty23 rfl rfl (hf107.cell 1 _ rfl)) rfl ?_
          refine WD.y 2 rfl (by kernel_rfl) (fun wd109 O108 hst110 => have hf111 := hf38.st hst55 rfl; have hf112 := hf111.st hst72 rfl; have hf113 := hf112.st hst74 rfl; have hf114 := hf113.st hst83 rfl; have hf115 := hf114.st hst99 rfl; have hf116 := hf115.st hst110 rfl; Y.loadAg ty25 rfl rfl (hf116.cells 0 [vi a0.Offset, (.slice p13 m14 c15)] rfl) rfl) rfl ?_
          refine WD.y 3 rfl (by kernel_rfl) (fun _ _ _ => Y.move rfl) rfl ?_
          refine WD.y 5 rfl (by kernel_rfl) (fun wd121 O120 hst122 => have hf123 := hf39.st hst55 rfl; have hf124 := hf123.st hst72 rfl; have hf125 := hf124.st hst74 rfl; have hf126 := hf125.st hst83 rfl; have hf127 := hf126.st hst99 rfl; have hf128 := hf127.st hst122 rfl; Y.loadAg ty25 rfl rfl (hf128.cells 0 [vi a1.Offset, (.slice p23 m24 c25)] rfl) rfl) rfl ?_
          refine WD.y 6 rfl (by kernel_rfl) (fun _ _ _ => Y.move rfl) rfl ?_
          refine WD.heavy 4 rfl (by kernel_rfl) ?_
          have hf132 := hf42.mono (imm_st hst55 rfl rfl)
          have hf133 := hf132.mono (imm_st hst72 rfl rfl)
          have hf134 := hf133.mono (imm_st hst74 rfl rfl)
          have hf135 := hf134.mono (imm_st hst83 rfl rfl)
          have hf136 := hf135.mono (imm_st hst99 rfl rfl)
          obtain ⟨r137, hp138, h⟩ := bnd h
          refine WL.call (vals := [.agg [vi a0.Offset, (.slice p13 m14 c15)].toArray, vi i80]) kok100 rfl rfl (c_ref09_At (A := fun _ => True) (a0 := a0) (Sl.all hf136) hp138) ?_
          rintro vr141 wd140 ⟨rfl, hm139⟩
          obtain ⟨O142, hold143, hnew144, hst145⟩ := adoptE O81 (fun k => 1) hm139
          refine WL.nil ?_
          refine At.dq (Stp.up hst145 rfl) ?_
          refine WD.heavy 7 rfl (by kernel_rfl) ?_
          have hf146 := hf44.mono (imm_st hst55 rfl rfl)
          have hf147 := hf146.mono (imm_st hst72 rfl rfl)
          have hf148 := hf147.mono (imm_st hst74 rfl rfl)
          have hf149 := hf148.mono (imm_st hst83 rfl rfl)
          have hf150 := hf149.mono (imm_st hst99 rfl rfl)
          have hf151 := hf150.mono (imm_st hst145 rfl rfl)
          obtain ⟨r152, hp153, h⟩ := bnd h
          refine WL.call (vals := [.agg [vi a1.Offset, (.slice p23 m24 c25)].toArray, vi i80]) kok100 rfl rfl (c_ref09_At (A := fun _ => True) (a0 := a1) (Sl.all hf151) hp153) ?_
          rintro vr156 wd155 ⟨rfl, hm154⟩
          obtain ⟨O157, hold158, hnew159, hst160⟩ := adoptE O142 (fun k => 1) hm154
          refine WL.nil ?_
          refine At.dq (Stp.up hst160 rfl) ?_
          refine WD.y 8 rfl (by kernel_rfl) (fun _ _ _ => Y.add_u rfl rfl) rfl ?_
          refine WD.heavy 9 rfl (by kernel_rfl) ?_
          refine WL.buildSlice (O := O157) (R := Rep.u) (vals := [(0, vu (r137 + r152))]) 15 [vu (r137 + r152)] (xs := [(r137 + r152)]) (by decide) ty23 ty22 (by decide) (by decide) (Fits.evalp rfl) (by kernel_rfl) rfl ⟨[vu (r137 + r152)], [], rfl, rfl, rfl⟩ rfl ?_
          intro v164 O166 wd167 hst168 ho165
          refine WL.nil ?_
          refine At.dq (Stp.up hst168 rfl) ?_
          refine WD.heavy 10 rfl (by kernel_rfl) ?_
          obtain ⟨xs169, hxs169, h⟩ := bnd h
          have hf170 := hf79.st hst99 rfl rfl rfl
          have hf171 := hf170.st hst145 rfl rfl rfl
          have hf172 := hf171.st hst160 rfl rfl rfl
          have hf173 := hf172.st hst168 rfl rfl rfl
          refine WL.append (by decide) ty23 ty22 rfl (by decide) rfl rfl hf173 ho165.src hxs169 rfl ?_
          intro v177 O174 wd175 hst176 ho178
          refine WL.nil ?_
          refine At.dq (Stp.up hst176 rfl) ?_
          refine WD.y 11 rfl (by kernel_rfl) (fun _ _ _ => Y.fieldAddr fo25_1 rfl) rfl ?_
          refine WD.phase [14] [0, 1, 2, 3, 4, 5, 6, 7, 8, 9, 10, 11, 12] (by kernel_rfl) (by kernel_rfl) ?_
          refine WD.heavy 12 rfl (by kernel_rfl) ?_
          have hh185 := h
          obtain ⟨p182, m183, c184, rfl⟩ := ho178.shape
          have h := hh185
          have hf186 := hb76.st hst99 rfl
          have hf187 := hf186.st hst145 rfl
          have hf188 := hf187.st hst160 rfl
          have hf189 := hf188.st hst168 rfl
          have hf190 := hf189.st hst176 rfl
          refine WL.store (v := (.slice p182 m183 c184)) (cells' := [vi r45, (.slice p182 m183 c184)]) ty23 rfl rfl hf190 rfl (Nat.le_of_ble_eq_true rfl) rfl rfl ?_
          intro wd191 hst192 hb193
          refine WL.nil ?_
          refine At.dq (Stp.up hst192 rfl) ?_
          refine WD.done_ (by kernel_rfl) ?_
          refine At.inBlock ?_
          refine At.then ?_
          refine WC.region ?_
          refine WL.y (Y.move rfl) rfl ?_
          refine WL.y (Y.add_i rfl rfl) rfl ?_
          obtain ⟨i194, hi194, h⟩ := lt1 h
          refine WL.yE (Y.assign rfl) (congrArg vi hi194.symm) rfl ?_
          refine WL.nil ?_
          have hf195 := ho178.st hst192 rfl rfl rfl
          exact At.round (xs169, i194, O174, (.slice p182 m183 c184)) j94 (Nat.lt_succ_self _) ⟨next1 h hn96, (Stp.trans (Stp.up hst83 rfl) (Stp.trans (Stp.up hst99 rfl) (Stp.trans (Stp.up hst145 rfl) (Stp.trans (Stp.up hst160 rfl) (Stp.trans (Stp.up hst168 rfl) (Stp.trans (Stp.up hst176 rfl) (Stp.up hst192 rfl))))))), hf195, hb193⟩ (.cons rfl (.cons rfl (.cons rfl (.cons rfl (.cons rfl (.cons rfl .nil))))))
        · refine WC.condF' rfl hc97 ?_
          refine WC.exit ?_
          refine At.thenX ?_
          refine At.loopX ?_
          obtain ⟨O196, hst197, ho198⟩ := OwnSl.rlb 1002 rfl hf79
          have hf199 := hb76.st hst197 rfl
          exact At.hitB (σ := (List UInt64 × Own × Value)) (c77, O196, v78) ⟨brk1 h hn96, (Stp.trans (Stp.up hst83 rfl) (Stp.up hst197 rfl)), ho198, hf199⟩ (.cons rfl (.cons rfl .nil))
      · rintro ⟨c85, O88, v86⟩ wd89 ⟨rfl, hst90, hf87, hb84⟩
        replace h := flowK_go hk93
        try dsimp only at h hst90 hf87 hb84
        refine (show At _ _ _ [(4, .pointer (some ⟨p33, 0, none⟩)), (9, .pointer (some ⟨p69, 0, none⟩))] _ from ?_)
        refine At.inBlockHit ?_
        refine At.then ?_
        refine WC.seq ?_
        refine WC.region ?_
        refine WL.y (Y.loadAg ty25 rfl rfl (hb84.cells 0 [vi r45, v86] rfl) rfl) rfl ?_
        have hh203 := h
        obtain ⟨p200, m201, c202, rfl⟩ := hf87.shape
        have h := hh203
        have hf204 := hb32.st hst55 rfl
        have hf205 := hf204.st hst72 rfl
        have hf206 := hf205.st hst74 rfl
        have hf207 := hf206.st hst90 rfl
        refine WL.store (v := .agg [vi r45, (.slice p200 m201 c202)].toArray) (cells' := [vi r45, (.slice p200 m201 c202)]) ty25 rfl rfl hf207 rfl (Nat.le_of_ble_eq_true rfl) rfl rfl ?_
        intro wd208 hst209 hb210
        refine WL.y (Y.assign rfl) rfl ?_
        refine WL.nil ?_
        refine At.then ?_
        refine WC.ret ?_
        obtain ⟨rfl, rfl⟩ := tup2 h
        have hf211 := hf87.st hst209 rfl rfl rfl
        obtain ⟨O212, hst213, hf214⟩ := OwnSl.giveF rfl Flat.u hf211
        have hs215 : Stp [13, 14, 16, 1001, 1002] (Lg.O0 A) w O212 wd208 := (Stp.trans (Stp.up hst21 rfl) (Stp.trans (Stp.up hst31 rfl) (Stp.trans (Stp.up hst36 rfl) (Stp.trans (Stp.up hst55 rfl) (Stp.trans (Stp.up hst72 rfl) (Stp.trans (Stp.up hst74 rfl) (Stp.trans (Stp.up hst90 rfl) (Stp.trans (Stp.up hst209 rfl) (Stp.up hst213 rfl)))))))))
        have hf216 := hb210.st hst213 rfl
        exact At.res (.inl rfl) rfl (.cell rfl (hf216.runAg 0 [vi r45, (.slice p200 m201 c202)] ty25 rfl rfl rfl) (.tmp rfl .nil)) ⟨(.slice p200 m201 c202), rfl, (Stp.ext hs215 rfl rfl), (Sl.outF hf214 hs215 low0)⟩

theorem c_ref09_Merge {A : Nat → Prop} {v0_3 : Value} {v0_5 : Value} {a0 : api_Hist} {v1_3 : Value} {v1_5 : Value} {a1 : api_Hist} {w : World} (hs0_3 : Sl Rep.u w A v0_3 a0.Pos.Counts) (hs0_5 : Sl Rep.u w A v0_5 a0.Neg.Counts) (hs1_3 : Sl Rep.u w A v1_3 a1.Pos.Counts) (hs1_5 : Sl Rep.u w A v1_5 a1.Neg.Counts) {r0 : api_Hist} {r1 : Int} (h : ref09_Merge a0 a1 = some (r0, r1)) : Rets Try.prog 41 [.agg [vi a0.Scale, vu a0.Zero, vi a0.Pos.Offset, v0_3, vi a0.Neg.Offset, v0_5].toArray, .agg [vi a1.Scale, vu a1.Zero, vi a1.Pos.Offset, v1_3, vi a1.Neg.Offset, v1_5].toArray] w (fun v w' => ∃ (u0_3 : Value) (u0_5 : Value), v = .tuple (List.toArray [.agg (List.toArray [vi r0.Scale, vu r0.Zero, vi r0.Pos.Offset, u0_3, vi r0.Neg.Offset, u0_5]), vi r1]) ∧ Ext w w' ∧ Sl Rep.u w' (fun k => w.heap.size ≤ k) u0_3 r0.Pos.Counts ∧ Sl Rep.u w' (fun k => w.heap.size ≤ k) u0_5 r0.Neg.Counts) := by
  unfold ref09_Merge at h
  refine Rets.enter Try.func41 rfl rfl ?_
  have hf11 : Sl Rep.u w (imm (Lg.O0 A)) v0_3 a0.Pos.Counts := (Sl.start hs0_3)
  have hf12 : Sl Rep.u w (imm (Lg.O0 A)) v0_5 a0.Neg.Counts := (Sl.start hs0_5)
  have hf13 : Sl Rep.u w (imm (Lg.O0 A)) v1_3 a1.Pos.Counts := (Sl.start hs1_3)
  have hf14 : Sl Rep.u w (imm (Lg.O0 A)) v1_5 a1.Neg.Counts := (Sl.start hs1_5)
  refine (show WC _ _ _ _ [(0, .agg [vi a0.Scale, vu a0.Zero, vi a0.Pos.Offset, v0_3, vi a0.Neg.Offset, v0_5].toArray), (1, .agg [vi a1.Scale, vu a1.Zero, vi a1.Pos.Offset, v1_3, vi a1.Neg.Offset, v1_5].toArray)] _ from ?_)
  refine WC.seq ?_
  refine WC.region ?_
  have hh18 := h
  obtain ⟨p15, m16, c17, rfl⟩ := hf11.shape
  have h := hh18
  have hh22 := h
  obtain ⟨p19, m20, c21, rfl⟩ := hf12.shape
  have h := hh22
  refine WL.box (O := (Lg.O0 A)) 11 [vi a0.Scale, vu a0.Zero, vi a0.Pos.Offset, (.slice p15 m16 c17), vi a0.Neg.Offset, (.slice p19 m20 c21)] rfl rfl rfl ?_
  intro p24 O25 wd26 hst27 hb23
  have hf28 := hf13.mono (imm_st hst27 rfl rfl)
  have hh32 := h
  obtain ⟨p29, m30, c31, rfl⟩ := hf28.shape
  have h := hh32
  have hf33 := hf14.mono (imm_st hst27 rfl rfl)
  have hh37 := h
  obtain ⟨p34, m35, c36, rfl⟩ := hf33.shape
  have h := hh37
  refine WL.box (O := O25) 12 [vi a1.Scale, vu a1.Zero, vi a1.Pos.Offset, (.slice p29 m30 c31), vi a1.Neg.Offset, (.slice p34 m35 c36)] rfl rfl rfl ?_
  intro p39 O40 wd41 hst42 hb38
  refine WL.alloc (O := O40) 13 [vi 0, vu 0, vi 0, .slice none 0 0, vi 0, .slice none 0 0] ty27 rfl rfl ?_
  intro p44 O45 wd46 hst47 hb43
  refine WL.y (Y.assign rfl) rfl ?_
  refine WL.nil ?_
  refine At.then ?_
  refine WC.seq ?_
  refine WC.region ?_
  have hf48 := hb23.st hst42 rfl
  have hf49 := hf48.st hst47 rfl
  refine WL.y (Y.loadAg ty27 rfl rfl (hf49.cells 0 [vi a0.Scale, vu a0.Zero, vi a0.Pos.Offset, (.slice p15 m16 c17), vi a0.Neg.Offset, (.slice p19 m20 c21)] rfl) rfl) rfl ?_
  have hf50 := hb38.st hst47 rfl
  refine WL.y (Y.loadAg ty27 rfl rfl (hf50.cells 0 [vi a1.Scale, vu a1.Zero, vi a1.Pos.Offset, (.slice p29 m30 c31), vi a1.Neg.Offset, (.slice p34 m35 c36)] rfl) rfl) rfl ?_
  have hf51 := hf11.mono (imm_st hst27 rfl rfl)
  have hf52 := hf51.mono (imm_st hst42 rfl rfl)
  have hf53 := hf52.mono (imm_st hst47 rfl rfl)
  have hf54 := hf12.mono (imm_st hst27 rfl rfl)
  have hf55 := hf54.mono (imm_st hst42 rfl rfl)
  have hf56 := hf55.mono (imm_st hst47 rfl rfl)
  have hf57 := hf28.mono (imm_st hst42 rfl rfl)
  have hf58 := hf57.mono (imm_st hst47 rfl rfl)
  have hf59 := hf33.mono (imm_st hst42 rfl rfl)
  have hf60 := hf59.mono (imm_st hst47 rfl rfl)
  obtain ⟨r61, hp62, h⟩ := bnd h
  refine WL.call (vals := [.agg [vi a0.Scale, vu a0.Zero, vi a0.Pos.Offset, (.slice p15 m16 c17), vi a0.Neg.Offset, (.slice p19 m20 c21)].toArray, .agg [vi a1.Scale, vu a1.Zero, vi a1.Pos.Offset, (.slice p29 m30 c31), vi a1.Neg.Offset, (.slice p34 m35 c36)].toArray]) kok39 rfl rfl (c_ref09_Level (A := fun _ => True) (a0 := a0) (a1 := a1) (Sl.all hf53) (Sl.all hf56) (Sl.all hf58) (Sl.all hf60) hp62) ?_
  rintro vr73 wd72 ⟨u63, u64, u65, u66, rfl, hm71, f67, f68, f69, f70⟩
  obtain ⟨O74, hold75, hnew76, hst77⟩ := adoptE O45 (fun k => 1) hm71
  have hf78 : Sl Rep.u wd72 (frs O74) u63 r61.X.Pos.Counts := Sl.adoptF f67 (fun k hk => ⟨hk, rfl⟩) hnew76
  have hf79 : Sl Rep.u wd72 (frs O74) u64 r61.X.Neg.Counts := Sl.adoptF f68 (fun k hk => ⟨hk, rfl⟩) hnew76
  have hf80 : Sl Rep.u wd72 (frs O74) u65 r61.Y.Pos.Counts := Sl.adoptF f69 (fun k hk => ⟨hk, rfl⟩) hnew76
  have hf81 : Sl Rep.u wd72 (frs O74) u66 r61.Y.Neg.Counts := Sl.adoptF f70 (fun k hk => ⟨hk, rfl⟩) hnew76
  refine WL.alloc (O := O74) 14 [vi 0, vu 0, vi 0, .slice none 0 0, vi 0, .slice none 0 0, vi 0, vu 0, vi 0, .slice none 0 0, vi 0, .slice none 0 0, vi 0] ty55 rfl rfl ?_
  intro p83 O84 wd85 hst86 hb82
  have hf87 := hf78.mono (frs_st hst86 rfl)
  have hh91 := h
  obtain ⟨p88, m89, c90, rfl⟩ := hf87.shape
  have h := hh91
  have hf92 := hf79.mono (frs_st hst86 rfl)
  have hh96 := h
  obtain ⟨p93, m94, c95, rfl⟩ := hf92.shape
  have h := hh96
  have hf97 := hf80.mono (frs_st hst86 rfl)
  have hh101 := h
  obtain ⟨p98, m99, c100, rfl⟩ := hf97.shape
  have h := hh101
  have hf102 := hf81.mono (frs_st hst86 rfl)
  have hh106 := h
  obtain ⟨p103, m104, c105, rfl⟩ := hf102.shape
  have h := hh106
  refine WL.store (v := .agg [vi r61.X.Scale, vu r61.X.Zero, vi r61.X.Pos.Offset, (.slice p88 m89 c90), vi r61.X.Neg.Offset, (.slice p93 m94 c95), vi r61.Y.Scale, vu r61.Y.Zero, vi r61.Y.Pos.Offset, (.slice p98 m99 c100), vi r61.Y.Neg.Offset, (.slice p103 m104 c105), vi r61.E].toArray) (cells' := [vi r61.X.Scale, vu r61.X.Zero, vi r61.X.Pos.Offset, (.slice p88 m89 c90), vi r61.X.Neg.Offset, (.slice p93 m94 c95), vi r61.Y.Scale, vu r61.Y.Zero, vi r61.Y.Pos.Offset, (.slice p98 m99 c100), vi r61.Y.Neg.Offset, (.slice p103 m104 c105), vi r61.E]) ty55 rfl rfl hb82 rfl (Nat.le_of_ble_eq_true rfl) rfl rfl ?_
  intro wd107 hst108 hb109
  refine WL.nil ?_
  refine At.then ?_
  refine WC.seq ?_
  refine WC.seq ?_
  refine WC.region ?_
  refine WL.y (Y.fieldAddr fo55_2 rfl) rfl ?_
  refine WL.y (Y.loadSc ty32 rfl rfl (hb109.cell 12 _ rfl)) rfl ?_
  refine WL.y (Y.neq_i rfl rfl) rfl ?_
  refine WL.nil ?_
  refine At.then ?_
  rcases cnd h with ⟨hc110, h⟩ | ⟨hc110, h⟩
  · refine WC.condT' rfl hc110 ?_
    refine WC.seq ?_
    refine WC.drawH [13] [0, 1, 2, 3, 4] O84 5 fmix rfl (by kernel_rfl) ?_
    intro wd111 hst112
    refine WD.y 0 rfl (by kernel_rfl) (fun _ _ _ => Y.build (vals := []) (cells := [vi 0, vu 0, vi 0, .slice none 0 0, vi 0, .slice none 0 0]) (Fits.evalp rfl) (by kernel_rfl)) rfl ?_
    refine WD.y 1 rfl (by kernel_rfl) (fun _ _ _ => Y.fieldAddr fo55_2 rfl) rfl ?_
    refine WD.y 2 rfl (by kernel_rfl) (fun wd120 O119 hst121 => have hf122 := hb109.st hst112 rfl; have hf123 := hf122.st hst121 rfl; Y.loadSc ty32 rfl rfl (hf123.cell 12 _ rfl)) rfl ?_
    refine WD.heavy 3 rfl (by kernel_rfl) ?_
    have hf124 := hb43.st hst77 rfl
    have hf125 := hf124.st hst86 rfl
    have hf126 := hf125.st hst108 rfl
    have hf127 := hf126.st hst112 rfl
    refine WL.store (v := .agg [vi 0, vu 0, vi 0, .slice none 0 0, vi 0, .slice none 0 0].toArray) (cells' := [vi 0, vu 0, vi 0, .slice none 0 0, vi 0, .slice none 0 0]) ty27 rfl rfl hf127 rfl (Nat.le_of_ble_eq_true rfl) rfl rfl ?_
    intro wd128 hst129 hb130
    refine WL.nil ?_
    refine At.dq (Stp.up hst129 rfl) ?_
    refine WD.y 4 rfl (by kernel_rfl) (fun _ _ _ => Y.assign rfl) rfl ?_
    refine WD.done_ (by kernel_rfl) ?_
    refine At.then ?_
    refine WC.ret ?_
    refine At.thenR ?_
    obtain ⟨rfl, rfl⟩ := tup2 h
    have hs134 : Stp [13, 14] (Lg.O0 A) w O84 wd128 := (Stp.trans (Stp.up hst27 rfl) (Stp.trans (Stp.up hst42 rfl) (Stp.trans (Stp.up hst47 rfl) (Stp.trans (Stp.up hst77 rfl) (Stp.trans (Stp.up hst86 rfl) (Stp.trans (Stp.up hst108 rfl) (Stp.trans (Stp.up hst112 rfl) (Stp.up hst129 rfl))))))))
    exact At.res (.inl rfl) rfl (.cell rfl (hb130.runAg 0 [vi 0, vu 0, vi 0, .slice none 0 0, vi 0, .slice none 0 0] ty27 rfl rfl rfl) (.tmp rfl .nil)) ⟨.slice none 0 0, .slice none 0 0, rfl, (Stp.ext hs134 rfl rfl), (Or.inl ⟨rfl, rfl⟩), (Or.inl ⟨rfl, rfl⟩)⟩
  · refine WC.condF' rfl hc110 ?_
    refine WC.skip ?_
    refine At.then ?_
    refine WC.seq ?_
    refine WC.region ?_
    refine WL.y (Y.fieldAddr fo55_0 rfl) rfl ?_
    refine WL.y (Y.loadAg ty27 rfl rfl (hb109.cells 0 [vi r61.X.Scale, vu r61.X.Zero, vi r61.X.Pos.Offset, (.slice p88 m89 c90), vi r61.X.Neg.Offset, (.slice p93 m94 c95)] rfl) rfl) rfl ?_
    have hf135 := hf87.mono (frs_st hst108 rfl)
    have hf136 := hf92.mono (frs_st hst108 rfl)
    obtain ⟨⟨r137, r138⟩, hp139, h⟩ := bnd h
    refine WL.call (vals := [.agg [vi r61.X.Scale, vu r61.X.Zero, vi r61.X.Pos.Offset, (.slice p88 m89 c90), vi r61.X.Neg.Offset, (.slice p93 m94 c95)].toArray]) kok18 rfl rfl (c_ref08_Total (A := fun _ => True) (a0 := r61.X) (Sl.all hf135) (Sl.all hf136) hp139) ?_
    rintro vr142 wd141 ⟨rfl, hm140⟩
    obtain ⟨O143, hold144, hnew145, hst146⟩ := adoptE O84 (fun k => 1) hm140
    refine WL.y (Y.move rfl) rfl ?_
    refine WL.y (Y.extract rfl rfl) rfl ?_
    refine WL.y (Y.extract rfl rfl) rfl ?_
    refine WL.y (Y.assign rfl) rfl ?_
    refine WL.y (Y.assign rfl) rfl ?_
    refine WL.nil ?_
    refine At.then ?_
    refine WC.seq ?_
    refine WC.region ?_
    refine WL.y (Y.fieldAddr fo55_1 rfl) rfl ?_
    have hf147 := hb109.st hst146 rfl
    refine WL.y (Y.loadAg ty27 rfl rfl (hf147.cells 6 [vi r61.Y.Scale, vu r61.Y.Zero, vi r61.Y.Pos.Offset, (.slice p98 m99 c100), vi r61.Y.Neg.Offset, (.slice p103 m104 c105)] rfl) rfl) rfl ?_
    have hf148 := hf97.mono (frs_st hst108 rfl)
    have hf149 := hf148.mono (frs_st hst146 rfl)
    have hf150 := hf102.mono (frs_st hst108 rfl)
    have hf151 := hf150.mono (frs_st hst146 rfl)
    obtain ⟨⟨r152, r153⟩, hp154, h⟩ := bnd h
    refine WL.call (vals := [.agg [vi r61.Y.Scale, vu r61.Y.Zero, vi r61.Y.Pos.Offset, (.slice p98 m99 c100), vi r61.Y.Neg.Offset, (.slice p103 m104 c105)].toArray]) kok18 rfl rfl (c_ref08_Total (A := fun _ => True) (a0 := r61.Y) (Sl.all hf149) (Sl.all hf151) hp154) ?_
    rintro vr157 wd156 ⟨rfl, hm155⟩
    obtain ⟨O158, hold159, hnew160, hst161⟩ := adoptE O143 (fun k => 1) hm155
    refine WL.y (Y.move rfl) rfl ?_
    refine WL.y (Y.extract rfl rfl) rfl ?_
    refine WL.y (Y.extract rfl rfl) rfl ?_
    refine WL.y (Y.assign rfl) rfl ?_
    refine WL.y (Y.assign rfl) rfl ?_
    refine WL.nil ?_
    refine At.then ?_
    refine WC.seq ?_
    refine WC.seq ?_
    refine WC.region ?_
    refine WL.y (Y.move rfl) rfl ?_
    refine WL.y (Y.move rfl) rfl ?_
    refine WL.y (Y.sub_u (a := 18446744073709551615) rfl rfl) rfl ?_
    refine WL.y (Y.gtr_u rfl rfl) rfl ?_
    refine WL.nil ?_
    refine At.then ?_
    rcases cnd h with ⟨hc162, h⟩ | ⟨hc162, h⟩
    · refine WC.condT' rfl hc162 ?_
      refine WC.seq ?_
      refine WC.region ?_
      refine WL.y (Y.build (vals := []) (cells := [vi 0, vu 0, vi 0, .slice none 0 0, vi 0, .slice none 0 0]) (Fits.evalp rfl) (by kernel_rfl)) rfl ?_
      have hf163 := hb43.st hst77 rfl
      have hf164 := hf163.st hst86 rfl
      have hf165 := hf164.st hst108 rfl
      have hf166 := hf165.st hst146 rfl
      have hf167 := hf166.st hst161 rfl
      refine WL.store (v := .agg [vi 0, vu 0, vi 0, .slice none 0 0, vi 0, .slice none 0 0].toArray) (cells' := [vi 0, vu 0, vi 0, .slice none 0 0, vi 0, .slice none 0 0]) ty27 rfl rfl hf167 rfl (Nat.le_of_ble_eq_true rfl) rfl rfl ?_
      intro wd168 hst169 hb170
      refine WL.y (Y.assign rfl) rfl ?_
      refine WL.nil ?_
      refine At.then ?_
      refine WC.ret ?_
      refine At.thenR ?_
      obtain ⟨rfl, rfl⟩ := tup2 h
      have hs171 : Stp [13, 14] (Lg.O0 A) w O158 wd168 := (Stp.trans (Stp.up hst27 rfl) (Stp.trans (Stp.up hst42 rfl) (Stp.trans (Stp.up hst47 rfl) (Stp.trans (Stp.up hst77 rfl) (Stp.trans (Stp.up hst86 rfl) (Stp.trans (Stp.up hst108 rfl) (Stp.trans (Stp.up hst146 rfl) (Stp.trans (Stp.up hst161 rfl) (Stp.up hst169 rfl)))))))))
      exact At.res (.inl rfl) rfl (.cell rfl (hb170.runAg 0 [vi 0, vu 0, vi 0, .slice none 0 0, vi 0, .slice none 0 0] ty27 rfl rfl rfl) (.tmp rfl .nil)) ⟨.slice none 0 0, .slice none 0 0, rfl, (Stp.ext hs171 rfl rfl), (Or.inl ⟨rfl, rfl⟩), (Or.inl ⟨rfl, rfl⟩)⟩
    · refine WC.condF' rfl hc162 ?_
      refine WC.skip ?_
      refine At.then ?_
      refine WC.seq ?_
      refine WC.region ?_
      refine WL.y (Y.fieldAddr fo55_0 rfl) rfl ?_
      refine WL.y (Y.fieldAddr fo27_2 rfl) rfl ?_
      have hf172 := hf147.st hst161 rfl
      refine WL.y (Y.loadAg ty25 rfl rfl (hf172.cells 2 [vi r61.X.Pos.Offset, (.slice p88 m89 c90)] rfl) rfl) rfl ?_
      refine WL.y (Y.fieldAddr fo55_1 rfl) rfl ?_
      refine WL.y (Y.fieldAddr fo27_2 rfl) rfl ?_
      refine WL.y (Y.loadAg ty25 rfl rfl (hf172.cells 8 [vi r61.Y.Pos.Offset, (.slice p98 m99 c100)] rfl) rfl) rfl ?_
      have hf173 := hf135.mono (frs_st hst146 rfl)
      have hf174 := hf173.mono (frs_st hst161 rfl)
      have hf175 := hf149.mono (frs_st hst161 rfl)
      obtain ⟨⟨r176, r177⟩, hp178, h⟩ := bnd h
      refine WL.call (vals := [.agg [vi r61.X.Pos.Offset, (.slice p88 m89 c90)].toArray, .agg [vi r61.Y.Pos.Offset, (.slice p98 m99 c100)].toArray]) kok72 rfl rfl (c_ref09_both (A := fun _ => True) (a0 := r61.X.Pos) (a1 := r61.Y.Pos) (Sl.all hf174) (Sl.all hf175) hp178) ?_
      rintro vr183 wd182 ⟨u179, rfl, hm181, f180⟩
      obtain ⟨O184, hold185, hnew186, hst187⟩ := adoptE O158 (fun k => 1) hm181
      have hf188 : Sl Rep.u wd182 (frs O184) u179 r176.Counts := Sl.adoptF f180 (fun k hk => ⟨hk, rfl⟩) hnew186
      refine WL.y (Y.move rfl) rfl ?_
      refine WL.y (Y.extract rfl rfl) rfl ?_
      refine WL.y (Y.extract rfl rfl) rfl ?_
      refine WL.alloc (O := O184) 15 [vi 0, .slice none 0 0] ty25 rfl rfl ?_
      intro p190 O191 wd192 hst193 hb189
      have hf194 := hf188.mono (frs_st hst193 rfl)
      have hh198 := h
      obtain ⟨p195, m196, c197, rfl⟩ := hf194.shape
      have h := hh198
      refine WL.store (v := .agg [vi r176.Offset, (.slice p195 m196 c197)].toArray) (cells' := [vi r176.Offset, (.slice p195 m196 c197)]) ty25 rfl rfl hb189 rfl (Nat.le_of_ble_eq_true rfl) rfl rfl ?_
      intro wd199 hst200 hb201
      refine WL.y (Y.assign rfl) rfl ?_
      refine WL.nil ?_
      refine At.then ?_
      refine WC.seq ?_
      refine WC.region ?_
      refine WL.y (Y.fieldAddr fo55_0 rfl) rfl ?_
      refine WL.y (Y.fieldAddr fo27_3 rfl) rfl ?_
      have hf202 := hf172.st hst187 rfl
      have hf203 := hf202.st hst193 rfl
      have hf204 := hf203.st hst200 rfl
      refine WL.y (Y.loadAg ty25 rfl rfl (hf204.cells 4 [vi r61.X.Neg.Offset, (.slice p93 m94 c95)] rfl) rfl) rfl ?_
      refine WL.y (Y.fieldAddr fo55_1 rfl) rfl ?_
      refine WL.y (Y.fieldAddr fo27_3 rfl) rfl ?_
      refine WL.y (Y.loadAg ty25 rfl rfl (hf204.cells 10 [vi r61.Y.Neg.Offset, (.slice p103 m104 c105)] rfl) rfl) rfl ?_
      have hf205 := hf136.mono (frs_st hst146 rfl)
      have hf206 := hf205.mono (frs_st hst161 rfl)
      have hf207 := hf206.mono (frs_st hst187 rfl)
      have hf208 := hf207.mono (frs_st hst193 rfl)
      have hf209 := hf208.mono (frs_st hst200 rfl)
      have hf210 := hf151.mono (frs_st hst161 rfl)
      have hf211 := hf210.mono (frs_st hst187 rfl)
      have hf212 := hf211.mono (frs_st hst193 rfl)
      have hf213 := hf212.mono (frs_st hst200 rfl)
      obtain ⟨⟨r214, r215⟩, hp216, h⟩ := bnd h
      refine WL.call (vals := [.agg [vi r61.X.Neg.Offset, (.slice p93 m94 c95)].toArray, .agg [vi r61.Y.Neg.Offset, (.slice p103 m104 c105)].toArray]) kok72 rfl rfl (c_ref09_both (A := fun _ => True) (a0 := r61.X.Neg) (a1 := r61.Y.Neg) (Sl.all hf209) (Sl.all hf213) hp216) ?_
      rintro vr221 wd220 ⟨u217, rfl, hm219, f218⟩
      obtain ⟨O222, hold223, hnew224, hst225⟩ := adoptE O191 (fun k => 1) hm219
      have hf226 : Sl Rep.u wd220 (frs O222) u217 r214.Counts := Sl.adoptF f218 (fun k hk => ⟨hk, rfl⟩) hnew224
      refine WL.y (Y.move rfl) rfl ?_
      refine WL.y (Y.extract rfl rfl) rfl ?_
      refine WL.y (Y.extract rfl rfl) rfl ?_
      refine WL.alloc (O := O222) 16 [vi 0, .slice none 0 0] ty25 rfl rfl ?_
      intro p228 O229 wd230 hst231 hb227
      have hf232 := hf226.mono (frs_st hst231 rfl)
      have hh236 := h
      obtain ⟨p233, m234, c235, rfl⟩ := hf232.shape
      have h := hh236
      refine WL.store (v := .agg [vi r214.Offset, (.slice p233 m234 c235)].toArray) (cells' := [vi r214.Offset, (.slice p233 m234 c235)]) ty25 rfl rfl hb227 rfl (Nat.le_of_ble_eq_true rfl) rfl rfl ?_
      intro wd237 hst238 hb239
      refine WL.y (Y.assign rfl) rfl ?_
      refine WL.nil ?_
      refine At.then ?_
      refine WC.seq ?_
      refine WC.seq ?_
      refine WC.region ?_
      refine WL.y (Y.move rfl) rfl ?_
      refine WL.y (Y.not rfl) rfl ?_
      refine WL.y (Y.move rfl) rfl ?_
      refine WL.cut 3 (σ := Unit) (fun _ w' => wd237 = w') (fun _ => [(4, .pointer (some ⟨p44, 0, none⟩)), (6, .pointer (some ⟨p83, 0, none⟩)), (11, .pointer (some ⟨p190, 0, none⟩)), (13, .pointer (some ⟨p228, 0, none⟩)), (66, .bool ((!r177) || (!r215)))]) ?_ ?_
      · refine WL.part 63 rfl (fun hE240 => ?_) (fun hE240 => ?_)
        · refine WL.gS rfl rfl rfl rfl ?_
          refine WL.gS rfl rfl rfl rfl ?_
          refine WL.y (Y.pick (b := true) rfl rfl) rfl ?_
          refine WL.ren (v' := .bool ((!r177) || (!r215))) 66 rfl (congrArg Value.bool (orT hE240)) ?_
          exact WL.nil (At.join () rfl (.cons rfl (.cons rfl (.cons rfl (.cons rfl (.cons rfl .nil))))))
        · refine WL.ung rfl rfl ?_
          refine WL.y (Y.move rfl) rfl ?_
          refine WL.ung rfl rfl ?_
          refine WL.y (Y.not rfl) rfl ?_
          refine WL.y (Y.pick (b := false) rfl rfl) rfl ?_
          refine WL.ren (v' := .bool ((!r177) || (!r215))) 66 rfl (congrArg Value.bool (orF hE240)) ?_
          exact WL.nil (At.join () rfl (.cons rfl (.cons rfl (.cons rfl (.cons rfl (.cons rfl .nil))))))
      · rintro _ _ rfl
        refine (show WL _ _ _ _ _ [(4, .pointer (some ⟨p44, 0, none⟩)), (6, .pointer (some ⟨p83, 0, none⟩)), (11, .pointer (some ⟨p190, 0, none⟩)), (13, .pointer (some ⟨p228, 0, none⟩)), (66, .bool ((!r177) || (!r215)))] _ from ?_)
        refine WL.nil ?_
        refine At.then ?_
        rcases cnd h with ⟨hc241, h⟩ | ⟨hc241, h⟩
        · refine WC.condT' rfl hc241 ?_
          refine WC.seq ?_
          refine WC.region ?_
          refine WL.y (Y.build (vals := []) (cells := [vi 0, vu 0, vi 0, .slice none 0 0, vi 0, .slice none 0 0]) (Fits.evalp rfl) (by kernel_rfl)) rfl ?_
          have hf242 := hb43.st hst77 rfl
          have hf243 := hf242.st hst86 rfl
          have hf244 := hf243.st hst108 rfl
          have hf245 := hf244.st hst146 rfl
          have hf246 := hf245.st hst161 rfl
          have hf247 := hf246.st hst187 rfl
          have hf248 := hf247.st hst193 rfl
          have hf249 := hf248.st hst200 rfl
          have hf250 := hf249.st hst225 rfl
          have hf251 := hf250.st hst231 rfl
          have hf252 := hf251.st hst238 rfl
          refine WL.store (v := .agg [vi 0, vu 0, vi 0, .slice none 0 0, vi 0, .slice none 0 0].toArray) (cells' := [vi 0, vu 0, vi 0, .slice none 0 0, vi 0, .slice none 0 0]) ty27 rfl rfl hf252 rfl (Nat.le_of_ble_eq_true rfl) rfl rfl ?_
          intro wd253 hst254 hb255
          refine WL.y (Y.assign rfl) rfl ?_
          refine WL.nil ?_
          refine At.then ?_
          refine WC.ret ?_
          refine At.thenR ?_
          obtain ⟨rfl, rfl⟩ := tup2 h
          have hs256 : Stp [13, 14, 15, 16] (Lg.O0 A) w O229 wd253 := (Stp.trans (Stp.up hst27 rfl) (Stp.trans (Stp.up hst42 rfl) (Stp.trans (Stp.up hst47 rfl) (Stp.trans (Stp.up hst77 rfl) (Stp.trans (Stp.up hst86 rfl) (Stp.trans (Stp.up hst108 rfl) (Stp.trans (Stp.up hst146 rfl) (Stp.trans (Stp.up hst161 rfl) (Stp.trans (Stp.up hst187 rfl) (Stp.trans (Stp.up hst193 rfl) (Stp.trans (Stp.up hst200 rfl) (Stp.trans (Stp.up hst225 rfl) (Stp.trans (Stp.up hst231 rfl) (Stp.trans (Stp.up hst238 rfl) (Stp.up hst254 rfl)))))))))))))))
          exact At.res (.inl rfl) rfl (.cell rfl (hb255.runAg 0 [vi 0, vu 0, vi 0, .slice none 0 0, vi 0, .slice none 0 0] ty27 rfl rfl rfl) (.tmp rfl .nil)) ⟨.slice none 0 0, .slice none 0 0, rfl, (Stp.ext hs256 rfl rfl), (Or.inl ⟨rfl, rfl⟩), (Or.inl ⟨rfl, rfl⟩)⟩
        · refine WC.condF' rfl hc241 ?_
          refine WC.skip ?_
          refine At.then ?_
          refine WC.seq ?_
          refine WC.region ?_
          refine WL.y (Y.fieldAddr fo55_0 rfl) rfl ?_
          refine WL.y (Y.fieldAddr fo27_0 rfl) rfl ?_
          have hf257 := hf204.st hst225 rfl
          have hf258 := hf257.st hst231 rfl
          have hf259 := hf258.st hst238 rfl
          refine WL.y (Y.loadSc ty3 rfl rfl (hf259.cell 0 _ rfl)) rfl ?_
          refine WL.y (Y.fieldAddr fo55_0 rfl) rfl ?_
          refine WL.y (Y.fieldAddr fo27_1 rfl) rfl ?_
          refine WL.y (Y.loadSc ty22 rfl rfl (hf259.cell 1 _ rfl)) rfl ?_
          refine WL.y (Y.fieldAddr fo55_1 rfl) rfl ?_
          refine WL.y (Y.fieldAddr fo27_1 rfl) rfl ?_
          refine WL.y (Y.loadSc ty22 rfl rfl (hf259.cell 7 _ rfl)) rfl ?_
          refine WL.y (Y.add_u rfl rfl) rfl ?_
          have hf260 := hb201.st hst225 rfl
          have hf261 := hf260.st hst231 rfl
          have hf262 := hf261.st hst238 rfl
          refine WL.y (Y.loadAg ty25 rfl rfl (hf262.cells 0 [vi r176.Offset, (.slice p195 m196 c197)] rfl) rfl) rfl ?_
          refine WL.y (Y.loadAg ty25 rfl rfl (hb239.cells 0 [vi r214.Offset, (.slice p233 m234 c235)] rfl) rfl) rfl ?_
          refine WL.y (Y.build (vals := [(0, vi r61.X.Scale), (1, vu (r61.X.Zero + r61.Y.Zero)), (2, .agg [vi r176.Offset, (.slice p195 m196 c197)].toArray), (3, .agg [vi r214.Offset, (.slice p233 m234 c235)].toArray)]) (cells := [vi r61.X.Scale, vu (r61.X.Zero + r61.Y.Zero), vi r176.Offset, (.slice p195 m196 c197), vi r214.Offset, (.slice p233 m234 c235)]) (Fits.evalp rfl) (by kernel_rfl)) rfl ?_
          have hf263 := hb43.st hst77 rfl
          have hf264 := hf263.st hst86 rfl
          have hf265 := hf264.st hst108 rfl
          have hf266 := hf265.st hst146 rfl
          have hf267 := hf266.st hst161 rfl
          have hf268 := hf267.st hst187 rfl
          have hf269 := hf268.st hst193 rfl
          have hf270 := hf269.st hst200 rfl
          have hf271 := hf270.st hst225 rfl
          have hf272 := hf271.st hst231 rfl
          have hf273 := hf272.st hst238 rfl
          refine WL.store (v := .agg [vi r61.X.Scale, vu (r61.X.Zero + r61.Y.Zero), vi r176.Offset, (.slice p195 m196 c197), vi r214.Offset, (.slice p233 m234 c235)].toArray) (cells' := [vi r61.X.Scale, vu (r61.X.Zero + r61.Y.Zero), vi r176.Offset, (.slice p195 m196 c197), vi r214.Offset, (.slice p233 m234 c235)]) ty27 rfl rfl hf273 rfl (Nat.le_of_ble_eq_true rfl) rfl rfl ?_
          intro wd274 hst275 hb276
          refine WL.y (Y.assign rfl) rfl ?_
          refine WL.nil ?_
          refine At.then ?_
          refine WC.ret ?_
          obtain ⟨rfl, rfl⟩ := tup2 h
          have hs277 : Stp [13, 14, 15, 16] (Lg.O0 A) w O229 wd274 := (Stp.trans (Stp.up hst27 rfl) (Stp.trans (Stp.up hst42 rfl) (Stp.trans (Stp.up hst47 rfl) (Stp.trans (Stp.up hst77 rfl) (Stp.trans (Stp.up hst86 rfl) (Stp.trans (Stp.up hst108 rfl) (Stp.trans (Stp.up hst146 rfl) (Stp.trans (Stp.up hst161 rfl) (Stp.trans (Stp.up hst187 rfl) (Stp.trans (Stp.up hst193 rfl) (Stp.trans (Stp.up hst200 rfl) (Stp.trans (Stp.up hst225 rfl) (Stp.trans (Stp.up hst231 rfl) (Stp.trans (Stp.up hst238 rfl) (Stp.up hst275 rfl)))))))))))))))
          have hf278 := hf194.mono (frs_st hst200 rfl)
          have hf279 := hf278.mono (frs_st hst225 rfl)
          have hf280 := hf279.mono (frs_st hst231 rfl)
          have hf281 := hf280.mono (frs_st hst238 rfl)
          have hf282 := hf281.mono (frs_st hst275 rfl)
          have hf283 := hf232.mono (frs_st hst238 rfl)
          have hf284 := hf283.mono (frs_st hst275 rfl)
          exact At.res (.inl rfl) rfl (.cell rfl (hb276.runAg 0 [vi r61.X.Scale, vu (r61.X.Zero + r61.Y.Zero), vi r176.Offset, (.slice p195 m196 c197), vi r214.Offset, (.slice p233 m234 c235)] ty27 rfl rfl rfl) (.tmp rfl .nil)) ⟨(.slice p195 m196 c197), (.slice p233 m234 c235), rfl, (Stp.ext hs277 rfl rfl), (Sl.outF hf282 hs277 low0), (Sl.outF hf284 hs277 low0)⟩

theorem c_ref09_less {A : Nat → Prop} {v0_1 : Value} {a0 : api_Side} {v1_1 : Value} {a1 : api_Side} {w : World} (hs0_1 : Sl Rep.u w A v0_1 a0.Counts) (hs1_1 : Sl Rep.u w A v1_1 a1.Counts) {r0 : api_Side} {r1 : Bool} (h : ref09_less a0 a1 = some (r0, r1)) : Rets Try.prog 74 [.agg [vi a0.Offset, v0_1].toArray, .agg [vi a1.Offset, v1_1].toArray] w (fun v w' => ∃ (u0_1 : Value), v = .tuple (List.toArray [.agg (List.toArray [vi r0.Offset, u0_1]), .bool r1]) ∧ Ext w w' ∧ Sl Rep.u w' (fun k => w.heap.size ≤ k) u0_1 r0.Counts) := by
  unfold ref09_less at h
  refine Rets.enter Try.func74 rfl rfl ?_
  have hf11 : Sl Rep.u w (imm (Lg.O0 A)) v0_1 a0.Counts := (Sl.start hs0_1)
  have hf12 : Sl Rep.u w (imm (Lg.O0 A)) v1_1 a1.Counts := (Sl.start hs1_1)
  refine (show WC _ _ _ _ [(0, .agg [vi a0.Offset, v0_1].toArray), (1, .agg [vi a1.Offset, v1_1].toArray)] _ from ?_)
  refine WC.seq ?_
  refine WC.region ?_
  have hh16 := h
  obtain ⟨p13, m14, c15, rfl⟩ := hf11.shape
  have h := hh16
  refine WL.box (O := (Lg.O0 A)) 11 [vi a0.Offset, (.slice p13 m14 c15)] rfl rfl rfl ?_
  intro p18 O19 wd20 hst21 hb17
  have hf22 := hf12.mono (imm_st hst21 rfl rfl)
  have hh26 := h
  obtain ⟨p23, m24, c25, rfl⟩ := hf22.shape
  have h := hh26
  refine WL.box (O := O19) 12 [vi a1.Offset, (.slice p23 m24 c25)] rfl rfl rfl ?_
  intro p28 O29 wd30 hst31 hb27
  refine WL.alloc (O := O29) 13 [vi 0, .slice none 0 0] ty25 rfl rfl ?_
  intro p33 O34 wd35 hst36 hb32
  refine WL.y (Y.assign rfl) rfl ?_
  refine WL.nil ?_
  refine At.then ?_
  refine WC.seq ?_
  refine WC.region ?_
  have hf37 := hb17.st hst31 rfl
  have hf38 := hf37.st hst36 rfl
  refine WL.y (Y.loadAg ty25 rfl rfl (hf38.cells 0 [vi a0.Offset, (.slice p13 m14 c15)] rfl) rfl) rfl ?_
  have hf39 := hb27.st hst36 rfl
  refine WL.y (Y.loadAg ty25 rfl rfl (hf39.cells 0 [vi a1.Offset, (.slice p23 m24 c25)] rfl) rfl) rfl ?_
  have hf40 := hf11.mono (imm_st hst21 rfl rfl)
  have hf41 := hf40.mono (imm_st hst31 rfl rfl)
  have hf42 := hf41.mono (imm_st hst36 rfl rfl)
  have hf43 := hf22.mono (imm_st hst31 rfl rfl)
  have hf44 := hf43.mono (imm_st hst36 rfl rfl)
  obtain ⟨⟨r45, r46, r47⟩, hp48, h⟩ := bnd h
  refine WL.call (vals := [.agg [vi a0.Offset, (.slice p13 m14 c15)].toArray, .agg [vi a1.Offset, (.slice p23 m24 c25)].toArray]) kok99 rfl rfl (c_ref09_reach (A := fun _ => True) (a0 := a0) (a1 := a1) (Sl.all hf42) (Sl.all hf44) hp48) ?_
  rintro vr51 wd50 ⟨rfl, hm49⟩
  obtain ⟨O52, hold53, hnew54, hst55⟩ := adoptE O34 (fun k => 1) hm49
  refine WL.y (Y.move rfl) rfl ?_
  refine WL.y (Y.extract rfl rfl) rfl ?_
  refine WL.y (Y.extract rfl rfl) rfl ?_
  refine WL.y (Y.extract rfl rfl) rfl ?_
  refine WL.y (Y.assign rfl) rfl ?_
  refine WL.y (Y.assign rfl) rfl ?_
  refine WL.y (Y.assign rfl) rfl ?_
  refine WL.nil ?_
  refine At.then ?_
  refine WC.seq ?_
  refine WC.seq ?_
  refine WC.region ?_
  refine WL.y (Y.move rfl) rfl ?_
  refine WL.y (Y.not rfl) rfl ?_
  refine WL.nil ?_
  refine At.then ?_
  rcases cnd h with ⟨hc56, h⟩ | ⟨hc56, h⟩
  · refine WC.condT' rfl hc56 ?_
    refine WC.seq ?_
    refine WC.region ?_
    refine WL.y (Y.build (vals := []) (cells := [vi 0, .slice none 0 0]) (Fits.evalp rfl) (by kernel_rfl)) rfl ?_
    have hf57 := hb32.st hst55 rfl
    refine WL.store (v := .agg [vi 0, .slice none 0 0].toArray) (cells' := [vi 0, .slice none 0 0]) ty25 rfl rfl hf57 rfl (Nat.le_of_ble_eq_true rfl) rfl rfl ?_
    intro wd58 hst59 hb60
    refine WL.y (Y.assign rfl) rfl ?_
    refine WL.nil ?_
    refine At.then ?_
    refine WC.ret ?_
    refine At.thenR ?_
    obtain ⟨rfl, rfl⟩ := tup2 h
    have hs61 : Stp [13] (Lg.O0 A) w O52 wd58 := (Stp.trans (Stp.up hst21 rfl) (Stp.trans (Stp.up hst31 rfl) (Stp.trans (Stp.up hst36 rfl) (Stp.trans (Stp.up hst55 rfl) (Stp.up hst59 rfl)))))
    exact At.res (.inl rfl) rfl (.cell rfl (hb60.runAg 0 [vi 0, .slice none 0 0] ty25 rfl rfl rfl) (.tmp rfl .nil)) ⟨.slice none 0 0, rfl, (Stp.ext hs61 rfl rfl), (Or.inl ⟨rfl, rfl⟩)⟩
  · refine WC.condF' rfl hc56 ?_
    refine WC.skip ?_
    refine At.then ?_
    refine WC.seq ?_
    refine WC.seq ?_
    refine WC.region ?_
    refine WL.y (Y.assign rfl) rfl ?_
    refine WL.nil ?_
    refine At.then ?_
    obtain ⟨p65, h, hk66⟩ := flow1 h
    refine WC.join (σ := Own) (fun x w' => p65 = .go () ∧ Stp [] O52 wd50 x w') (fun x => [(2, .pointer (some ⟨p18, 0, none⟩)), (3, .pointer (some ⟨p28, 0, none⟩)), (4, .pointer (some ⟨p33, 0, none⟩)), (6, vi r45), (7, vi r46)]) ?_ ?_
    · refine WC.block ?_
      obtain ⟨p74, h, hk76⟩ := flow1 h
      obtain ⟨k75, h⟩ := loop_some h
      refine WC.joinB 0 (σ := Own) (fun x w' => p74 = .go () ∧ Stp [] O52 wd50 x w') (fun x => [(2, .pointer (some ⟨p18, 0, none⟩)), (3, .pointer (some ⟨p28, 0, none⟩)), (4, .pointer (some ⟨p33, 0, none⟩)), (6, vi r45), (7, vi r46)]) ?_ ?_
      · refine WC.loop (σ := (Int × Own)) (fun x k w' => loopN k (ref09_less_lp1 a0 a1) x.1 = some p74 ∧ Stp [] O52 wd50 x.2 w') (fun x => [(2, .pointer (some ⟨p18, 0, none⟩)), (3, .pointer (some ⟨p28, 0, none⟩)), (4, .pointer (some ⟨p33, 0, none⟩)), (6, vi r45), (7, vi r46), (9, vi x.1)]) (0, O52) k75 (.cons rfl (.cons rfl (.cons rfl (.cons rfl (.cons rfl (.cons rfl .nil)))))) ⟨h, (Stp.refl _ _ _)⟩ ?_
        rintro ⟨i67, O68⟩ k75 wd69 ⟨h, hst70⟩
        obtain ⟨j77, q78, rfl, h, hn79⟩ := rnd1 h
        unfold ref09_less_lp1 at h
        try dsimp only at h hst70
        refine (show WC _ _ _ _ [(2, .pointer (some ⟨p18, 0, none⟩)), (3, .pointer (some ⟨p28, 0, none⟩)), (4, .pointer (some ⟨p33, 0, none⟩)), (6, vi r45), (7, vi r46), (9, vi i67)] _ from ?_)
        refine WC.seq ?_
        refine WC.seq ?_
        refine WC.region ?_
        refine WL.y (Y.move rfl) rfl ?_
        refine WL.y (Y.fieldAddr fo25_1 rfl) rfl ?_
        have hf80 := hf39.st hst55 rfl
        have hf81 := hf80.st hst70 rfl
        refine WL.y (Y.loadSc ty23 rfl rfl (hf81.cell 1 _ rfl)) rfl ?_
        have hf82 := hf44.mono (imm_st hst55 rfl rfl)
        have hf83 := hf82.mono (imm_st hst70 rfl rfl)
        refine WL.y (Y.len ty23 rfl hf83) rfl ?_
        refine WL.y (Y.lss_i rfl rfl) rfl ?_
        refine WL.nil ?_
        refine At.then ?_
        rcases cnd h with ⟨hc84, h⟩ | ⟨hc84, h⟩
        · refine WC.condT' rfl hc84 ?_
          refine WC.skip ?_
          refine At.then ?_
          refine WC.seq ?_
          refine WC.block ?_
          refine WC.seq ?_
          refine WC.drawH [] [0, 1, 2, 3, 4, 5, 6, 7, 8, 9, 10, 11] O68 12 fmix rfl (by kernel_rfl) ?_
          intro wd85 hst86
          refine WD.y 0 rfl (by kernel_rfl) (fun _ _ _ => Y.fieldAddr fo25_1 rfl) rfl ?_
          refine WD.y 1 rfl (by kernel_rfl) (fun wd91 O90 hst92 => have hf93 := hf81.st hst86 rfl; have hf94 := hf93.st hst92 rfl; Y.loadSc ty23 rfl rfl (hf94.cell 1 _ rfl)) rfl ?_
          refine WD.y 2 rfl (by kernel_rfl) (fun _ _ _ => Y.move rfl) rfl ?_
          obtain ⟨e98, he98, h⟩ := bnd h
          have hf107 := hf83.mono (imm_st hst86 rfl rfl)
          obtain ⟨b99, off108, cap106, cs105, hv100, hi101, hl102, hc103, hok104, hA109⟩ := Sl.at2 hf107 he98
          obtain rfl := hok104
          replace hc103 : CellsAt _ _ _ [vu e98] := hc103
          have hca110 := CAt.imm hc103 hA109
          refine WD.y 3 rfl (by kernel_rfl) (fun _ _ _ => Y.indexAddr ty23 ty22 rfl hv100 rfl hi101 hl102) rfl ?_
          refine WD.y 4 rfl (by kernel_rfl) (fun wd115 O114 hst116 => have hf117 := hca110.st hst116 rfl; Y.loadSc ty22 rfl rfl hf117.at_) rfl ?_
          refine WD.y 5 rfl (by kernel_rfl) (fun wd119 O118 hst120 => have hf121 := hf38.st hst55 rfl; have hf122 := hf121.st hst70 rfl; have hf123 := hf122.st hst86 rfl; have hf124 := hf123.st hst120 rfl; Y.loadAg ty25 rfl rfl (hf124.cells 0 [vi a0.Offset, (.slice p13 m14 c15)] rfl) rfl) rfl ?_
          refine WD.y 6 rfl (by kernel_rfl) (fun _ _ _ => Y.fieldAddr fo25_0 rfl) rfl ?_
          refine WD.y 7 rfl (by kernel_rfl) (fun wd129 O128 hst130 => have hf131 := hf81.st hst86 rfl; have hf132 := hf131.st hst130 rfl; Y.loadSc ty3 rfl rfl (hf132.cell 0 _ rfl)) rfl ?_
          refine WD.y 8 rfl (by kernel_rfl) (fun _ _ _ => Y.move rfl) rfl ?_
          refine WD.y 9 rfl (by kernel_rfl) (fun _ _ _ => Y.add_i rfl rfl) rfl ?_
          refine WD.heavy 10 rfl (by kernel_rfl) ?_
          have hf139 := hf42.mono (imm_st hst55 rfl rfl)
          have hf140 := hf139.mono (imm_st hst70 rfl rfl)
          have hf141 := hf140.mono (imm_st hst86 rfl rfl)
          obtain ⟨r142, hp143, h⟩ := bnd h
          refine WL.call (vals := [.agg [vi a0.Offset, (.slice p13 m14 c15)].toArray, vi (w64 (a1.Offset + i67))]) kok100 rfl rfl (c_ref09_At (A := fun _ => True) (a0 := a0) (Sl.all hf141) hp143) ?_
          rintro vr146 wd145 ⟨rfl, hm144⟩
          obtain ⟨O147, hold148, hnew149, hst150⟩ := adoptE O68 (fun k => 1) hm144
          refine WL.nil ?_
          refine At.dq (Stp.up hst150 rfl) ?_
          refine WD.y 11 rfl (by kernel_rfl) (fun _ _ _ => Y.gtr_u rfl rfl) rfl ?_
          refine WD.done_ (by kernel_rfl) ?_
          refine At.then ?_
          rcases cnd h with ⟨hc154, h⟩ | ⟨hc154, h⟩
          · refine WC.condT' rfl hc154 ?_
            refine WC.seq ?_
            refine WC.region ?_
            refine WL.y (Y.build (vals := []) (cells := [vi 0, .slice none 0 0]) (Fits.evalp rfl) (by kernel_rfl)) rfl ?_
            have hf155 := hb32.st hst55 rfl
            have hf156 := hf155.st hst70 rfl
            have hf157 := hf156.st hst86 rfl
            have hf158 := hf157.st hst150 rfl
            refine WL.store (v := .agg [vi 0, .slice none 0 0].toArray) (cells' := [vi 0, .slice none 0 0]) ty25 rfl rfl hf158 rfl (Nat.le_of_ble_eq_true rfl) rfl rfl ?_
            intro wd159 hst160 hb161
            refine WL.y (Y.assign rfl) rfl ?_
            refine WL.nil ?_
            refine At.then ?_
            refine WC.ret ?_
            refine At.inBlockR ?_
            refine At.thenR ?_
            refine At.loopR ?_
            have h := outr1 h hn79 hk76
            refine At.joinBR ?_
            refine At.inBlockR ?_
            have h := outs1 h hk66
            refine At.joinR ?_
            refine At.thenR ?_
            obtain ⟨rfl, rfl⟩ := tup2 h
            have hs162 : Stp [13] (Lg.O0 A) w O147 wd159 := (Stp.trans (Stp.up hst21 rfl) (Stp.trans (Stp.up hst31 rfl) (Stp.trans (Stp.up hst36 rfl) (Stp.trans (Stp.up hst55 rfl) (Stp.trans (Stp.up hst70 rfl) (Stp.trans (Stp.up hst86 rfl) (Stp.trans (Stp.up hst150 rfl) (Stp.up hst160 rfl))))))))
            exact At.res (.inl rfl) rfl (.cell rfl (hb161.runAg 0 [vi 0, .slice none 0 0] ty25 rfl rfl rfl) (.tmp rfl .nil)) ⟨.slice none 0 0, rfl, (Stp.ext hs162 rfl rfl), (Or.inl ⟨rfl, rfl⟩)⟩
          · refine WC.condF' rfl hc154 ?_
            refine WC.skip ?_
            refine At.inBlock ?_
            refine At.then ?_
            refine WC.region ?_
            refine WL.y (Y.move rfl) rfl ?_
            refine WL.y (Y.add_i rfl rfl) rfl ?_
            obtain ⟨i163, hi163, h⟩ := lt1 h
            refine WL.yE (Y.assign rfl) (congrArg vi hi163.symm) rfl ?_
            refine WL.nil ?_
            exact At.round (i163, O147) j77 (Nat.lt_succ_self _) ⟨next1 h hn79, (Stp.trans (Stp.up hst70 rfl) (Stp.trans (Stp.up hst86 rfl) (Stp.up hst150 rfl)))⟩ (.cons rfl (.cons rfl (.cons rfl (.cons rfl (.cons rfl (.cons rfl .nil))))))
        · refine WC.condF' rfl hc84 ?_
          refine WC.exit ?_
          refine At.thenX ?_
          refine At.loopX ?_
          exact At.hitB (σ := Own) O68 ⟨brk1 h hn79, (Stp.up hst70 rfl)⟩ (.cons rfl (.cons rfl (.cons rfl (.cons rfl (.cons rfl .nil)))))
      · rintro O71 wd72 ⟨rfl, hst73⟩
        replace h := flowK_go hk76
        refine (show At _ _ _ [(2, .pointer (some ⟨p18, 0, none⟩)), (3, .pointer (some ⟨p28, 0, none⟩)), (4, .pointer (some ⟨p33, 0, none⟩)), (6, vi r45), (7, vi r46)] _ from ?_)
        refine At.inBlockHit ?_
        exact At.join (σ := Own) O71 ⟨go2 h, (Stp.up hst73 rfl)⟩ (.cons rfl (.cons rfl (.cons rfl (.cons rfl (.cons rfl .nil)))))
    · rintro O62 wd63 ⟨rfl, hst64⟩
      replace h := flowK_go hk66
      refine (show At _ _ _ [(2, .pointer (some ⟨p18, 0, none⟩)), (3, .pointer (some ⟨p28, 0, none⟩)), (4, .pointer (some ⟨p33, 0, none⟩)), (6, vi r45), (7, vi r46)] _ from ?_)
      refine At.then ?_
      refine WC.seq ?_
      refine WC.region ?_
      refine WL.y (Y.move rfl) rfl ?_
      refine WL.y (Y.build (vals := [(0, vi r45)]) (cells := [vi r45, .slice none 0 0]) (Fits.evalp rfl) (by kernel_rfl)) rfl ?_
      refine WL.alloc (O := O62) 14 [vi 0, .slice none 0 0] ty25 rfl rfl ?_
      intro p165 O166 wd167 hst168 hb164
      refine WL.store (v := .agg [vi r45, .slice none 0 0].toArray) (cells' := [vi r45, .slice none 0 0]) ty25 rfl rfl hb164 rfl (Nat.le_of_ble_eq_true rfl) rfl rfl ?_
      intro wd169 hst170 hb171
      refine WL.nil ?_
      refine At.then ?_
      refine WC.seq ?_
      refine WC.seq ?_
      refine WC.region ?_
      refine WL.y (Y.move rfl) rfl ?_
      refine WL.y (Y.assign rfl) rfl ?_
      refine WL.nil ?_
      refine At.then ?_
      obtain ⟨p179, h, hk180⟩ := bnd h
      refine WC.join (σ := (List UInt64 × Own × Value)) (fun x w' => x.1 = p179 ∧ Stp [14, 16, 1001, 1002] O166 wd169 x.2.1 w' ∧ OwnSl 1004 Rep.u 22 x.2.1 w' x.2.2 x.1 ∧ Blk 14 x.2.1 w' p165 25 [vi r45, x.2.2]) (fun x => [(4, .pointer (some ⟨p33, 0, none⟩)), (10, .pointer (some ⟨p165, 0, none⟩))]) ?_ ?_
      · refine WC.block ?_
        obtain ⟨p196, h, hk198⟩ := flow1 h
        obtain ⟨k197, h⟩ := loop_some h
        refine WC.joinB 2 (σ := (List UInt64 × Own × Value)) (fun x w' => p196 = .go x.1 ∧ Stp [14, 16, 1001] O166 wd169 x.2.1 w' ∧ OwnSl 1002 Rep.u 22 x.2.1 w' x.2.2 x.1 ∧ Blk 14 x.2.1 w' p165 25 [vi r45, x.2.2]) (fun x => [(4, .pointer (some ⟨p33, 0, none⟩)), (10, .pointer (some ⟨p165, 0, none⟩))]) ?_ ?_
        · refine WC.loop (σ := (List UInt64 × Int × Own × Value)) (fun x k w' => loopN k (ref09_less_lp2 a0 a1 r45 r46) (x.1, x.2.1) = some p196 ∧ Stp [14, 16, 1001] O166 wd169 x.2.2.1 w' ∧ OwnSl 1001 Rep.u 22 x.2.2.1 w' x.2.2.2 x.1 ∧ Blk 14 x.2.2.1 w' p165 25 [vi r45, x.2.2.2]) (fun x => [(2, .pointer (some ⟨p18, 0, none⟩)), (3, .pointer (some ⟨p28, 0, none⟩)), (4, .pointer (some ⟨p33, 0, none⟩)), (6, vi r45), (7, vi r46), (10, .pointer (some ⟨p165, 0, none⟩)), (11, vi x.2.1)]) ([], r45, O166, .slice none 0 0) k197 (.cons rfl (.cons rfl (.cons rfl (.cons rfl (.cons rfl (.cons rfl (.cons rfl .nil))))))) ⟨h, (Stp.refl _ _ _), (OwnSl.nil 1001 Rep.u 22), hb171⟩ ?_
          rintro ⟨c182, i185, O186, v183⟩ k197 wd187 ⟨h, hst188, hf184, hb181⟩
          obtain ⟨j199, q200, rfl, h, hn201⟩ := rnd1 h
          unfold ref09_less_lp2 at h
          try dsimp only at h hst188 hf184 hb181
          refine (show WC _ _ _ _ [(2, .pointer (some ⟨p18, 0, none⟩)), (3, .pointer (some ⟨p28, 0, none⟩)), (4, .pointer (some ⟨p33, 0, none⟩)), (6, vi r45), (7, vi r46), (10, .pointer (some ⟨p165, 0, none⟩)), (11, vi i185)] _ from ?_)
          refine WC.seq ?_
          refine WC.seq ?_
          refine WC.region ?_
          refine WL.y (Y.move rfl) rfl ?_
          refine WL.y (Y.move rfl) rfl ?_
          refine WL.y (Y.leq_i rfl rfl) rfl ?_
          refine WL.y (Y.move rfl) rfl ?_
          refine WL.cut 5 (σ := Unit) (fun _ w' => wd187 = w') (fun _ => [(2, .pointer (some ⟨p18, 0, none⟩)), (3, .pointer (some ⟨p28, 0, none⟩)), (4, .pointer (some ⟨p33, 0, none⟩)), (6, vi r45), (7, vi r46), (10, .pointer (some ⟨p165, 0, none⟩)), (11, vi i185), (53, .bool ((decide (i185 ≤ r46)) && (decide (i185 < w64 (r45 + 400)))))]) ?_ ?_
          · refine WL.part 48 rfl (fun hE202 => ?_) (fun hE202 => ?_)
            · refine WL.ung rfl rfl ?_
              refine WL.y (Y.move rfl) rfl ?_
              refine WL.ung rfl rfl ?_
              refine WL.y (Y.move rfl) rfl ?_
              refine WL.ung rfl rfl ?_
              refine WL.y (Y.add_i rfl rfl) rfl ?_
              refine WL.ung rfl rfl ?_
              refine WL.y (Y.lss_i rfl rfl) rfl ?_
              refine WL.y (Y.pick (b := true) rfl rfl) rfl ?_
              refine WL.ren (v' := .bool ((decide (i185 ≤ r46)) && (decide (i185 < w64 (r45 + 400))))) 53 rfl (congrArg Value.bool (andT hE202)) ?_
              exact WL.nil (At.join () rfl (.cons rfl (.cons rfl (.cons rfl (.cons rfl (.cons rfl (.cons rfl (.cons rfl (.cons rfl .nil)))))))))
            · refine WL.gS rfl rfl rfl rfl ?_
              refine WL.gS rfl rfl rfl rfl ?_
              refine WL.gS rfl rfl rfl rfl ?_
              refine WL.gS rfl rfl rfl rfl ?_
              refine WL.y (Y.pick (b := false) rfl rfl) rfl ?_
              refine WL.ren (v' := .bool ((decide (i185 ≤ r46)) && (decide (i185 < w64 (r45 + 400))))) 53 rfl (congrArg Value.bool (andF hE202)) ?_
              exact WL.nil (At.join () rfl (.cons rfl (.cons rfl (.cons rfl (.cons rfl (.cons rfl (.cons rfl (.cons rfl (.cons rfl .nil)))))))))
          · rintro _ _ rfl
            refine (show WL _ _ _ _ _ [(2, .pointer (some ⟨p18, 0, none⟩)), (3, .pointer (some ⟨p28, 0, none⟩)), (4, .pointer (some ⟨p33, 0, none⟩)), (6, vi r45), (7, vi r46), (10, .pointer (some ⟨p165, 0, none⟩)), (11, vi i185), (53, .bool ((decide (i185 ≤ r46)) && (decide (i185 < w64 (r45 + 400)))))] _ from ?_)
            refine WL.nil ?_
            refine At.then ?_
            rcases cnd h with ⟨hc203, h⟩ | ⟨hc203, h⟩
            · refine WC.condT' rfl hc203 ?_
              refine WC.skip ?_
              refine At.then ?_
              refine WC.seq ?_
              refine WC.block ?_
              refine WC.drawH [1001] [0, 1, 2, 3, 4, 5, 6, 7, 8, 9, 10, 11] O186 13 fmix rfl (by kernel_rfl) ?_
              intro wd204 hst205
              refine WD.y 0 rfl (by kernel_rfl) (fun _ _ _ => Y.fieldAddr fo25_1 rfl) rfl ?_
              refine WD.y 1 rfl (by kernel_rfl) (fun wd210 O209 hst211 => have hf212 := hb181.st hst205 rfl; have hf213 := hf212.st hst211 rfl; Y.loadSc ty23 rfl rfl (hf213.cell 1 _ rfl)) rfl ?_
              refine WD.y 2 rfl (by kernel_rfl) (fun wd215 O214 hst216 => have hf217 := hf38.st hst55 rfl; have hf218 := hf217.st hst64 rfl; have hf219 := hf218.st hst168 rfl; have hf220 := hf219.st hst170 rfl; have hf221 := hf220.st hst188 rfl; have hf222 := hf221.st hst205 rfl; have hf223 := hf222.st hst216 rfl; Y.loadAg ty25 rfl rfl (hf223.cells 0 [vi a0.Offset, (.slice p13 m14 c15)] rfl) rfl) rfl ?_
              refine WD.y 3 rfl (by kernel_rfl) (fun _ _ _ => Y.move rfl) rfl ?_
              refine WD.y 5 rfl (by kernel_rfl) (fun wd228 O227 hst229 => have hf230 := hf39.st hst55 rfl; have hf231 := hf230.st hst64 rfl; have hf232 := hf231.st hst168 rfl; have hf233 := hf232.st hst170 rfl; have hf234 := hf233.st hst188 rfl; have hf235 := hf234.st hst205 rfl; have hf236 := hf235.st hst229 rfl; Y.loadAg ty25 rfl rfl (hf236.cells 0 [vi a1.Offset, (.slice p23 m24 c25)] rfl) rfl) rfl ?_
              refine WD.y 6 rfl (by kernel_rfl) (fun _ _ _ => Y.move rfl) rfl ?_
              refine WD.heavy 4 rfl (by kernel_rfl) ?_
              have hf240 := hf42.mono (imm_st hst55 rfl rfl)
              have hf241 := hf240.mono (imm_st hst64 rfl rfl)
              have hf242 := hf241.mono (imm_st hst168 rfl rfl)
              have hf243 := hf242.mono (imm_st hst170 rfl rfl)
              have hf244 := hf243.mono (imm_st hst188 rfl rfl)
              have hf245 := hf244.mono (imm_st hst205 rfl rfl)
              obtain ⟨r246, hp247, h⟩ := bnd h
              refine WL.call (vals := [.agg [vi a0.Offset, (.slice p13 m14 c15)].toArray, vi i185]) kok100 rfl rfl (c_ref09_At (A := fun _ => True) (a0 := a0) (Sl.all hf245) hp247) ?_
              rintro vr250 wd249 ⟨rfl, hm248⟩
              obtain ⟨O251, hold252, hnew253, hst254⟩ := adoptE O186 (fun k => 1) hm248
              refine WL.nil ?_
              refine At.dq (Stp.up hst254 rfl) ?_
              refine WD.heavy 7 rfl (by kernel_rfl) ?_
              have hf255 := hf44.mono (imm_st hst55 rfl rfl)
              have hf256 := hf255.mono (imm_st hst64 rfl rfl)
              have hf257 := hf256.mono (imm_st hst168 rfl rfl)
              have hf258 := hf257.mono (imm_st hst170 rfl rfl)
              have hf259 := hf258.mono (imm_st hst188 rfl rfl)
              have hf260 := hf259.mono (imm_st hst205 rfl rfl)
              have hf261 := hf260.mono (imm_st hst254 rfl rfl)
              obtain ⟨r262, hp263, h⟩ := bnd h
              refine WL.call (vals := [.agg [vi a1.Offset, (.slice p23 m24 c25)].toArray, vi i185]) kok100 rfl rfl (c_ref09_At (A := fun _ => True) (a0 := a1) (Sl.all hf261) hp263) ?_
              rintro vr266 wd265 ⟨rfl, hm264⟩
              obtain ⟨O267, hold268, hnew269, hst270⟩ := adoptE O251 (fun k => 1) hm264
              refine WL.nil ?_
              refine At.dq (Stp.up hst270 rfl) ?_
              refine WD.y 8 rfl (by kernel_rfl) (fun _ _ _ => Y.sub_u rfl rfl) rfl ?_
              refine WD.heavy 9 rfl (by kernel_rfl) ?_
              refine WL.buildSlice (O := O267) (R := Rep.u) (vals := [(0, vu (r246 - r262))]) 15 [vu (r246 - r262)] (xs := [(r246 - r262)]) (by decide) ty23 ty22 (by decide) (by decide) (Fits.evalp rfl) (by kernel_rfl) rfl ⟨[vu (r246 - r262)], [], rfl, rfl, rfl⟩ rfl ?_
              intro v274 O276 wd277 hst278 ho275
              refine WL.nil ?_
              refine At.dq (Stp.up hst278 rfl) ?_
              refine WD.heavy 10 rfl (by kernel_rfl) ?_
              obtain ⟨xs279, hxs279, h⟩ := bnd h
              have hf280 := hf184.st hst205 rfl rfl rfl
              have hf281 := hf280.st hst254 rfl rfl rfl
              have hf282 := hf281.st hst270 rfl rfl rfl
              have hf283 := hf282.st hst278 rfl rfl rfl
              refine WL.append (by decide) ty23 ty22 rfl (by decide) rfl rfl hf283 ho275.src hxs279 rfl ?_
              intro v287 O284 wd285 hst286 ho288
              refine WL.nil ?_
              refine At.dq (Stp.up hst286 rfl) ?_
              refine WD.y 11 rfl (by kernel_rfl) (fun _ _ _ => Y.fieldAddr fo25_1 rfl) rfl ?_
              refine WD.phase [14] [0, 1, 2, 3, 4, 5, 6, 7, 8, 9, 10, 11, 12] (by kernel_rfl) (by kernel_rfl) ?_
              refine WD.heavy 12 rfl (by kernel_rfl) ?_
              have hh295 := h
              obtain ⟨p292, m293, c294, rfl⟩ := ho288.shape
              have h := hh295
              have hf296 := hb181.st hst205 rfl
              have hf297 := hf296.st hst254 rfl
              have hf298 := hf297.st hst270 rfl
              have hf299 := hf298.st hst278 rfl
              have hf300 := hf299.st hst286 rfl
              refine WL.store (v := (.slice p292 m293 c294)) (cells' := [vi r45, (.slice p292 m293 c294)]) ty23 rfl rfl hf300 rfl (Nat.le_of_ble_eq_true rfl) rfl rfl ?_
              intro wd301 hst302 hb303
              refine WL.nil ?_
              refine At.dq (Stp.up hst302 rfl) ?_
              refine WD.done_ (by kernel_rfl) ?_
              refine At.inBlock ?_
              refine At.then ?_
              refine WC.region ?_
              refine WL.y (Y.move rfl) rfl ?_
              refine WL.y (Y.add_i rfl rfl) rfl ?_
              obtain ⟨i304, hi304, h⟩ := lt1 h
              refine WL.yE (Y.assign rfl) (congrArg vi hi304.symm) rfl ?_
              refine WL.nil ?_
              have hf305 := ho288.st hst302 rfl rfl rfl
              exact At.round (xs279, i304, O284, (.slice p292 m293 c294)) j199 (Nat.lt_succ_self _) ⟨next1 h hn201, (Stp.trans (Stp.up hst188 rfl) (Stp.trans (Stp.up hst205 rfl) (Stp.trans (Stp.up hst254 rfl) (Stp.trans (Stp.up hst270 rfl) (Stp.trans (Stp.up hst278 rfl) (Stp.trans (Stp.up hst286 rfl) (Stp.up hst302 rfl))))))), hf305, hb303⟩ (.cons rfl (.cons rfl (.cons rfl (.cons rfl (.cons rfl (.cons rfl (.cons rfl .nil)))))))
            · refine WC.condF' rfl hc203 ?_
              refine WC.exit ?_
              refine At.thenX ?_
              refine At.loopX ?_
              obtain ⟨O306, hst307, ho308⟩ := OwnSl.rlb 1002 rfl hf184
              have hf309 := hb181.st hst307 rfl
              exact At.hitB (σ := (List UInt64 × Own × Value)) (c182, O306, v183) ⟨brk1 h hn201, (Stp.trans (Stp.up hst188 rfl) (Stp.up hst307 rfl)), ho308, hf309⟩ (.cons rfl (.cons rfl .nil))
        · rintro ⟨c190, O193, v191⟩ wd194 ⟨rfl, hst195, hf192, hb189⟩
          replace h := flowK_go hk198
          try dsimp only at h hst195 hf192 hb189
          refine (show At _ _ _ [(4, .pointer (some ⟨p33, 0, none⟩)), (10, .pointer (some ⟨p165, 0, none⟩))] _ from ?_)
          refine At.inBlockHit ?_
          obtain ⟨O310, hst311, ho312⟩ := OwnSl.rlb 1004 rfl hf192
          have hf313 := hb189.st hst311 rfl
          exact At.join (σ := (List UInt64 × Own × Value)) (c190, O310, v191) ⟨some1 h, (Stp.trans (Stp.up hst195 rfl) (Stp.up hst311 rfl)), ho312, hf313⟩ (.cons rfl (.cons rfl .nil))
      · rintro ⟨c173, O176, v174⟩ wd177 ⟨rfl, hst178, hf175, hb172⟩
        replace h := hk180
        try dsimp only at h hst178 hf175 hb172
        refine (show At _ _ _ [(4, .pointer (some ⟨p33, 0, none⟩)), (10, .pointer (some ⟨p165, 0, none⟩))] _ from ?_)
        refine At.then ?_
        refine WC.seq ?_
        refine WC.region ?_
        refine WL.y (Y.loadAg ty25 rfl rfl (hb172.cells 0 [vi r45, v174] rfl) rfl) rfl ?_
        obtain ⟨r314, hp315, h⟩ := bnd h
        refine WL.call (vals := [.agg [vi r45, v174].toArray]) kok29 rfl rfl (c_ref08_Trim (A := fun _ => True) (a0 := (api_Side.mk r45 c173)) (hf175.src.sl) hp315) ?_
        rintro vr320 wd319 ⟨u316, rfl, hm318, f317⟩
        obtain ⟨O321, hold322, hnew323, hst324⟩ := adoptE O176 (fun k => 1) hm318
        have hf325 : Sl Rep.u wd319 (frs O321) u316 r314.Counts := Sl.adoptF f317 (fun k hk => ⟨hk, rfl⟩) hnew323
        have hh329 := h
        obtain ⟨p326, m327, c328, rfl⟩ := hf325.shape
        have h := hh329
        have hf330 := hb32.st hst55 rfl
        have hf331 := hf330.st hst64 rfl
        have hf332 := hf331.st hst168 rfl
        have hf333 := hf332.st hst170 rfl
        have hf334 := hf333.st hst178 rfl
        have hf335 := hf334.st hst324 rfl
        refine WL.store (v := .agg [vi r314.Offset, (.slice p326 m327 c328)].toArray) (cells' := [vi r314.Offset, (.slice p326 m327 c328)]) ty25 rfl rfl hf335 rfl (Nat.le_of_ble_eq_true rfl) rfl rfl ?_
        intro wd336 hst337 hb338
        refine WL.y (Y.assign rfl) rfl ?_
        refine WL.nil ?_
        refine At.then ?_
        refine WC.ret ?_
        obtain ⟨rfl, rfl⟩ := tup2 h
        have hs339 : Stp [13, 14, 16, 1001, 1002] (Lg.O0 A) w O321 wd336 := (Stp.trans (Stp.up hst21 rfl) (Stp.trans (Stp.up hst31 rfl) (Stp.trans (Stp.up hst36 rfl) (Stp.trans (Stp.up hst55 rfl) (Stp.trans (Stp.up hst64 rfl) (Stp.trans (Stp.up hst168 rfl) (Stp.trans (Stp.up hst170 rfl) (Stp.trans (Stp.up hst178 rfl) (Stp.trans (Stp.up hst324 rfl) (Stp.up hst337 rfl))))))))))
        have hf340 := hf325.mono (frs_st hst337 rfl)
        exact At.res (.inl rfl) rfl (.cell rfl (hb338.runAg 0 [vi r314.Offset, (.slice p326 m327 c328)] ty25 rfl rfl rfl) (.tmp rfl .nil)) ⟨(.slice p326 m327 c328), rfl, (Stp.ext hs339 rfl rfl), (Sl.outF hf340 hs339 low0)⟩

end Go.Lg
