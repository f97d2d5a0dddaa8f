/- The walks of FoldBack and of what it calls, printed by gen.py. -/
import Derived.Test.YtdpokdaeekanjaaLgFoldWFoldBackx0
set_option linter.unusedVariables false
namespace Go.Lg
open Go Go.Proofs
set_option maxRecDepth 100000
theorem c_fold_Sub {A : Nat → Prop} {v0_3 : Value} {v0_5 : Value} {a0 : api_Hist} {v1_3 : Value} {v1_5 : Value} {a1 : api_Hist} {w : World} (hs0_3 : Sl Rep.u w A v0_3 a0.Pos.Counts) (hs0_5 : Sl Rep.u w A v0_5 a0.Neg.Counts) (hs1_3 : Sl Rep.u w A v1_3 a1.Pos.Counts) (hs1_5 : Sl Rep.u w A v1_5 a1.Neg.Counts) {r0 : api_Hist} {r1 : Int} (h : fold_Sub a0 a1 = some (r0, r1)) : Rets Try.prog 42 [.agg [vi a0.Scale, vu a0.Zero, vi a0.Pos.Offset, v0_3, vi a0.Neg.Offset, v0_5].toArray, .agg [vi a1.Scale, vu a1.Zero, vi a1.Pos.Offset, v1_3, vi a1.Neg.Offset, v1_5].toArray] w (fun v w' => ∃ (u0_3 : Value) (u0_5 : Value), v = .tuple (List.toArray [.agg (List.toArray [vi r0.Scale, vu r0.Zero, vi r0.Pos.Offset, u0_3, vi r0.Neg.Offset, u0_5]), vi r1]) ∧ Ext w w' ∧ Sl Rep.u w' (fun k => w.heap.size ≤ k) u0_3 r0.Pos.Counts ∧ Sl Rep.u w' (fun k => w.heap.size ≤ k) u0_5 r0.Neg.Counts) := by
  unfold fold_Sub at h
  refine Rets.enter Try.func42 rfl rfl ?_
  have hf11 : Sl Rep.u w (imm (Lg.O0 A)) v0_3 a0.Pos.Counts := (Sl.start hs0_3)
  have hf12 : Sl Rep.u w (imm (Lg.O0 A)) v0_5 a0.Neg.Counts := (Sl.start hs0_5)
  have hf13 : Sl Rep.u w (imm (Lg.O0 A)) v1_3 a1.Pos.Counts := (Sl.start hs1_3)
  have hf14 : Sl Rep.u w (imm (Lg.O0 A)) v1_5 a1.Neg.Counts := (Sl.start hs1_5)
  refine (show WC _ _ _ _ [(0, .agg [vi a0.Scale, vu a0.Zero, vi a0.Pos.Offset, v0_3, vi a0.Neg.Offset, v0_5].toArray), (1, .agg [vi a1.Scale, vu a1.Zero, vi a1.Pos.Offset, v1_3, vi a1.Neg.Offset, v1_5].toArray)] _ from ?_)
  refine WC.seq ?_
  refine WC.region ?_
  have hh18 := h
  obtain ⟨p15, m16, c17, rfl⟩ := hf11.shape
  have h := hh18
  have hh22 := h
  obtain ⟨p19, m20, c21, rfl⟩ := hf12.shape
  have h := hh22
  refine WL.box (O := (Lg.O0 A)) 11 [vi a0.Scale, vu a0.Zero, vi a0.Pos.Offset, (.slice p15 m16 c17), vi a0.Neg.Offset, (.slice p19 m20 c21)] rfl rfl rfl ?_
  intro p24 O25 wd26 hst27 hb23
  have hf28 := hf13.mono (imm_st hst27 rfl rfl)
  have hh32 := h
  obtain ⟨p29, m30, c31, rfl⟩ := hf28.shape
  have h := hh32
  have hf33 := hf14.mono (imm_st hst27 rfl rfl)
  have hh37 := h
  obtain ⟨p34, m35, c36, rfl⟩ := hf33.shape
  have h := hh37
  refine WL.box (O := O25) 12 [vi a1.Scale, vu a1.Zero, vi a1.Pos.Offset, (.slice p29 m30 c31), vi a1.Neg.Offset, (.slice p34 m35 c36)] rfl rfl rfl ?_
  intro p39 O40 wd41 hst42 hb38
  refine WL.alloc (O := O40) 13 [vi 0, vu 0, vi 0, .slice none 0 0, vi 0, .slice none 0 0] ty27 rfl rfl ?_
  intro p44 O45 wd46 hst47 hb43
  refine WL.y (Y.assign rfl) rfl ?_
  refine WL.nil ?_
  refine At.then ?_
  refine WC.seq ?_
  refine WC.region ?_
  have hf48 := hb23.st hst42 rfl
  have hf49 := hf48.st hst47 rfl
  refine WL.y (Y.loadAg ty27 rfl rfl (hf49.cells 0 [vi a0.Scale, vu a0.Zero, vi a0.Pos.Offset, (.slice p15 m16 c17), vi a0.Neg.Offset, (.slice p19 m20 c21)] rfl) rfl) rfl ?_
  have hf50 := hb38.st hst47 rfl
  refine WL.y (Y.loadAg ty27 rfl rfl (hf50.cells 0 [vi a1.Scale, vu a1.Zero, vi a1.Pos.Offset, (.slice p29 m30 c31), vi a1.Neg.Offset, (.slice p34 m35 c36)] rfl) rfl) rfl ?_
  have hf51 := hf11.mono (imm_st hst27 rfl rfl)
  have hf52 := hf51.mono (imm_st hst42 rfl rfl)
  have hf53 := hf52.mono (imm_st hst47 rfl rfl)
  have hf54 := hf12.mono (imm_st hst27 rfl rfl)
  have hf55 := hf54.mono (imm_st hst42 rfl rfl)
  have hf56 := hf55.mono (imm_st hst47 rfl rfl)
  have hf57 := hf28.mono (imm_st hst42 rfl rfl)
  have hf58 := hf57.mono (imm_st hst47 rfl rfl)
  have hf59 := hf33.mono (imm_st hst42 rfl rfl)
  have hf60 := hf59.mono (imm_st hst47 rfl rfl)
  obtain ⟨⟨r61, r62, r63⟩, hp64, h⟩ := bnd h
  refine WL.call (vals := [.agg [vi a0.Scale, vu a0.Zero, vi a0.Pos.Offset, (.slice p15 m16 c17), vi a0.Neg.Offset, (.slice p19 m20 c21)].toArray, .agg [vi a1.Scale, vu a1.Zero, vi a1.Pos.Offset, (.slice p29 m30 c31), vi a1.Neg.Offset, (.slice p34 m35 c36)].toArray]) kok38 rfl rfl (c_fold_Level (A := fun _ => True) (a0 := a0) (a1 := a1) (Sl.all hf53) (Sl.all hf56) (Sl.all hf58) (Sl.all hf60) hp64) ?_
  rintro vr75 wd74 ⟨u65, u66, u67, u68, rfl, hm73, f69, f70, f71, f72⟩
  obtain ⟨O76, hold77, hnew78, hst79⟩ := adoptE O45 (fun k => 1) hm73
  have hf80 : Sl Rep.u wd74 (frs O76) u65 r61.Pos.Counts := Sl.adoptF f69 (fun k hk => ⟨hk, rfl⟩) hnew78
  have hf81 : Sl Rep.u wd74 (frs O76) u66 r61.Neg.Counts := Sl.adoptF f70 (fun k hk => ⟨hk, rfl⟩) hnew78
  have hf82 : Sl Rep.u wd74 (frs O76) u67 r62.Pos.Counts := Sl.adoptF f71 (fun k hk => ⟨hk, rfl⟩) hnew78
  have hf83 : Sl Rep.u wd74 (frs O76) u68 r62.Neg.Counts := Sl.adoptF f72 (fun k hk => ⟨hk, rfl⟩) hnew78
  refine WL.y (Y.move rfl) rfl ?_
  refine WL.y (Y.extract rfl rfl) rfl ?_
  refine WL.y (Y.extract rfl rfl) rfl ?_
  refine WL.y (Y.extract rfl rfl) rfl ?_
  refine WL.alloc (O := O76) 14 [vi 0, vu 0, vi 0, .slice none 0 0, vi 0, .slice none 0 0] ty27 rfl rfl ?_
  intro p85 O86 wd87 hst88 hb84
  refine WL.alloc (O := O86) 15 [vi 0, vu 0, vi 0, .slice none 0 0, vi 0, .slice none 0 0] ty27 rfl rfl ?_
  intro p90 O91 wd92 hst93 hb89
  have hf94 := hf80.mono (frs_st hst88 rfl)
  have hf95 := hf94.mono (frs_st hst93 rfl)
  have hh99 := h
  obtain ⟨p96, m97, c98, rfl⟩ := hf95.shape
  have h := hh99
  have hf100 := hf81.mono (frs_st hst88 rfl)
  have hf101 := hf100.mono (frs_st hst93 rfl)
  have hh105 := h
  obtain ⟨p102, m103, c104, rfl⟩ := hf101.shape
  have h := hh105
  have hf106 := hb84.st hst93 rfl
  refine WL.store (v := .agg [vi r61.Scale, vu r61.Zero, vi r61.Pos.Offset, (.slice p96 m97 c98), vi r61.Neg.Offset, (.slice p102 m103 c104)].toArray) (cells' := [vi r61.Scale, vu r61.Zero, vi r61.Pos.Offset, (.slice p96 m97 c98), vi r61.Neg.Offset, (.slice p102 m103 c104)]) ty27 rfl rfl hf106 rfl (Nat.le_of_ble_eq_true rfl) rfl rfl ?_
  intro wd107 hst108 hb109
  have hf110 := hf82.mono (frs_st hst88 rfl)
  have hf111 := hf110.mono (frs_st hst93 rfl)
  have hf112 := hf111.mono (frs_st hst108 rfl)
  have hh116 := h
  obtain ⟨p113, m114, c115, rfl⟩ := hf112.shape
  have h := hh116
  have hf117 := hf83.mono (frs_st hst88 rfl)
  have hf118 := hf117.mono (frs_st hst93 rfl)
  have hf119 := hf118.mono (frs_st hst108 rfl)
  have hh123 := h
  obtain ⟨p120, m121, c122, rfl⟩ := hf119.shape
  have h := hh123
  have hf124 := hb89.st hst108 rfl
  refine WL.store (v := .agg [vi r62.Scale, vu r62.Zero, vi r62.Pos.Offset, (.slice p113 m114 c115), vi r62.Neg.Offset, (.slice p120 m121 c122)].toArray) (cells' := [vi r62.Scale, vu r62.Zero, vi r62.Pos.Offset, (.slice p113 m114 c115), vi r62.Neg.Offset, (.slice p120 m121 c122)]) ty27 rfl rfl hf124 rfl (Nat.le_of_ble_eq_true rfl) rfl rfl ?_
  intro wd125 hst126 hb127
  refine WL.y (Y.assign rfl) rfl ?_
  refine WL.nil ?_
  refine At.then ?_
  refine WC.seq ?_
  refine WC.seq ?_
  refine WC.region ?_
  refine WL.y (Y.move rfl) rfl ?_
  refine WL.y (Y.neq_i rfl rfl) rfl ?_
  refine WL.nil ?_
  refine At.then ?_
  rcases cnd h with ⟨hc128, h⟩ | ⟨hc128, h⟩
  · refine WC.condT' rfl hc128 ?_
    refine WC.seq ?_
    refine WC.region ?_
    refine WL.y (Y.build (vals := []) (cells := [vi 0, vu 0, vi 0, .slice none 0 0, vi 0, .slice none 0 0]) (Fits.evalp rfl) (by kernel_rfl)) rfl ?_
    refine WL.y (Y.move rfl) rfl ?_
    have hf129 := hb43.st hst79 rfl
    have hf130 := hf129.st hst88 rfl
    have hf131 := hf130.st hst93 rfl
    have hf132 := hf131.st hst108 rfl
    have hf133 := hf132.st hst126 rfl
    refine WL.store (v := .agg [vi 0, vu 0, vi 0, .slice none 0 0, vi 0, .slice none 0 0].toArray) (cells' := [vi 0, vu 0, vi 0, .slice none 0 0, vi 0, .slice none 0 0]) ty27 rfl rfl hf133 rfl (Nat.le_of_ble_eq_true rfl) rfl rfl ?_
    intro wd134 hst135 hb136
    refine WL.y (Y.assign rfl) rfl ?_
    refine WL.nil ?_
    refine At.then ?_
    refine WC.ret ?_
    refine At.thenR ?_
    obtain ⟨rfl, rfl⟩ := tup2 h
    have hs137 : Stp [13, 14, 15] (Lg.O0 A) w O91 wd134 := (Stp.trans (Stp.up hst27 rfl) (Stp.trans (Stp.up hst42 rfl) (Stp.trans (Stp.up hst47 rfl) (Stp.trans (Stp.up hst79 rfl) (Stp.trans (Stp.up hst88 rfl) (Stp.trans (Stp.up hst93 rfl) (Stp.trans (Stp.up hst108 rfl) (Stp.trans (Stp.up hst126 rfl) (Stp.up hst135 rfl)))))))))
    exact At.res (.inl rfl) rfl (.cell rfl (hb136.runAg 0 [vi 0, vu 0, vi 0, .slice none 0 0, vi 0, .slice none 0 0] ty27 rfl rfl rfl) (.tmp rfl .nil)) ⟨.slice none 0 0, .slice none 0 0, rfl, (Stp.ext hs137 rfl rfl), (Or.inl ⟨rfl, rfl⟩), (Or.inl ⟨rfl, rfl⟩)⟩
  · refine WC.condF' rfl hc128 ?_
    refine WC.skip ?_
    refine At.then ?_
    refine WC.seq ?_
    refine WC.region ?_
    refine WL.y (Y.fieldAddr fo27_2 rfl) rfl ?_
    have hf138 := hb109.st hst126 rfl
    refine WL.y (Y.loadAg ty25 rfl rfl (hf138.cells 2 [vi r61.Pos.Offset, (.slice p96 m97 c98)] rfl) rfl) rfl ?_
    refine WL.y (Y.fieldAddr fo27_2 rfl) rfl ?_
    refine WL.y (Y.loadAg ty25 rfl rfl (hb127.cells 2 [vi r62.Pos.Offset, (.slice p113 m114 c115)] rfl) rfl) rfl ?_
    have hf139 := hf95.mono (frs_st hst108 rfl)
    have hf140 := hf139.mono (frs_st hst126 rfl)
    have hf141 := hf112.mono (frs_st hst126 rfl)
    obtain ⟨⟨r142, r143⟩, hp144, h⟩ := bnd h
    refine WL.call (vals := [.agg [vi r61.Pos.Offset, (.slice p96 m97 c98)].toArray, .agg [vi r62.Pos.Offset, (.slice p113 m114 c115)].toArray]) kok73 rfl rfl (c_fold_left (A := fun _ => True) (a0 := r61.Pos) (a1 := r62.Pos) (Sl.all hf140) (Sl.all hf141) hp144) ?_
    rintro vr149 wd148 ⟨u145, rfl, hm147, f146⟩
    obtain ⟨O150, hold151, hnew152, hst153⟩ := adoptE O91 (fun k => 1) hm147
    have hf154 : Sl Rep.u wd148 (frs O150) u145 r142.Counts := Sl.adoptF f146 (fun k hk => ⟨hk, rfl⟩) hnew152
    refine WL.y (Y.move rfl) rfl ?_
    refine WL.y (Y.extract rfl rfl) rfl ?_
    refine WL.y (Y.extract rfl rfl) rfl ?_
    refine WL.alloc (O := O150) 16 [vi 0, .slice none 0 0] ty25 rfl rfl ?_
    intro p156 O157 wd158 hst159 hb155
    have hf160 := hf154.mono (frs_st hst159 rfl)
    have hh164 := h
    obtain ⟨p161, m162, c163, rfl⟩ := hf160.shape
    have h := hh164
    refine WL.store (v := .agg [vi r142.Offset, (.slice p161 m162 c163)].toArray) (cells' := [vi r142.Offset, (.slice p161 m162 c163)]) ty25 rfl rfl hb155 rfl (Nat.le_of_ble_eq_true rfl) rfl rfl ?_
    intro wd165 hst166 hb167
    refine WL.y (Y.assign rfl) rfl ?_
    refine WL.nil ?_
    refine At.then ?_
    refine WC.seq ?_
    refine WC.region ?_
    refine WL.y (Y.fieldAddr fo27_3 rfl) rfl ?_
    have hf168 := hf138.st hst153 rfl
    have hf169 := hf168.st hst159 rfl
    have hf170 := hf169.st hst166 rfl
    refine WL.y (Y.loadAg ty25 rfl rfl (hf170.cells 4 [vi r61.Neg.Offset, (.slice p102 m103 c104)] rfl) rfl) rfl ?_
    refine WL.y (Y.fieldAddr fo27_3 rfl) rfl ?_
    have hf171 := hb127.st hst153 rfl
    have hf172 := hf171.st hst159 rfl
    have hf173 := hf172.st hst166 rfl
    refine WL.y (Y.loadAg ty25 rfl rfl (hf173.cells 4 [vi r62.Neg.Offset, (.slice p120 m121 c122)] rfl) rfl) rfl ?_
    have hf174 := hf101.mono (frs_st hst108 rfl)
    have hf175 := hf174.mono (frs_st hst126 rfl)
    have hf176 := hf175.mono (frs_st hst153 rfl)
    have hf177 := hf176.mono (frs_st hst159 rfl)
    have hf178 := hf177.mono (frs_st hst166 rfl)
    have hf179 := hf119.mono (frs_st hst126 rfl)
    have hf180 := hf179.mono (frs_st hst153 rfl)
    have hf181 := hf180.mono (frs_st hst159 rfl)
    have hf182 := hf181.mono (frs_st hst166 rfl)
    obtain ⟨⟨r183, r184⟩, hp185, h⟩ := bnd h
    refine WL.call (vals := [.agg [vi r61.Neg.Offset, (.slice p102 m103 c104)].toArray, .agg [vi r62.Neg.Offset, (.slice p120 m121 c122)].toArray]) kok73 rfl rfl (c_fold_left (A := fun _ => True) (a0 := r61.Neg) (a1 := r62.Neg) (Sl.all hf178) (Sl.all hf182) hp185) ?_
    rintro vr190 wd189 ⟨u186, rfl, hm188, f187⟩
    obtain ⟨O191, hold192, hnew193, hst194⟩ := adoptE O157 (fun k => 1) hm188
    have hf195 : Sl Rep.u wd189 (frs O191) u186 r183.Counts := Sl.adoptF f187 (fun k hk => ⟨hk, rfl⟩) hnew193
    refine WL.y (Y.move rfl) rfl ?_
    refine WL.y (Y.extract rfl rfl) rfl ?_
    refine WL.y (Y.extract rfl rfl) rfl ?_
    refine WL.alloc (O := O191) 17 [vi 0, .slice none 0 0] ty25 rfl rfl ?_
    intro p197 O198 wd199 hst200 hb196
    have hf201 := hf195.mono (frs_st hst200 rfl)
    have hh205 := h
    obtain ⟨p202, m203, c204, rfl⟩ := hf201.shape
    have h := hh205
    refine WL.store (v := .agg [vi r183.Offset, (.slice p202 m203 c204)].toArray) (cells' := [vi r183.Offset, (.slice p202 m203 c204)]) ty25 rfl rfl hb196 rfl (Nat.le_of_ble_eq_true rfl) rfl rfl ?_
    intro wd206 hst207 hb208
    refine WL.y (Y.assign rfl) rfl ?_
    refine WL.nil ?_
    refine At.then ?_
    refine WC.seq ?_
    refine WC.seq ?_
    refine WC.region ?_
    refine WL.y (Y.fieldAddr fo27_1 rfl) rfl ?_
    have hf209 := hf173.st hst194 rfl
    have hf210 := hf209.st hst200 rfl
    have hf211 := hf210.st hst207 rfl
    refine WL.y (Y.loadSc ty22 rfl rfl (hf211.cell 1 _ rfl)) rfl ?_
    refine WL.y (Y.fieldAddr fo27_1 rfl) rfl ?_
    have hf212 := hf170.st hst194 rfl
    have hf213 := hf212.st hst200 rfl
    have hf214 := hf213.st hst207 rfl
    refine WL.y (Y.loadSc ty22 rfl rfl (hf214.cell 1 _ rfl)) rfl ?_
    refine WL.y (Y.gtr_u rfl rfl) rfl ?_
    refine WL.y (Y.move rfl) rfl ?_
    refine WL.cut 3 (σ := Unit) (fun _ w' => wd206 = w') (fun _ => [(4, .pointer (some ⟨p44, 0, none⟩)), (6, .pointer (some ⟨p85, 0, none⟩)), (7, .pointer (some ⟨p90, 0, none⟩)), (9, .pointer (some ⟨p156, 0, none⟩)), (11, .pointer (some ⟨p197, 0, none⟩)), (12, .bool r184), (48, .bool ((decide (r61.Zero < r62.Zero)) || (!r143)))]) ?_ ?_
    · refine WL.part 45 rfl (fun hE215 => ?_) (fun hE215 => ?_)
      · refine WL.gS rfl rfl rfl rfl ?_
        refine WL.gS rfl rfl rfl rfl ?_
        refine WL.y (Y.pick (b := true) rfl rfl) rfl ?_
        refine WL.ren (v' := .bool ((decide (r61.Zero < r62.Zero)) || (!r143))) 48 rfl (congrArg Value.bool (orT hE215)) ?_
        exact WL.nil (At.join () rfl (.cons rfl (.cons rfl (.cons rfl (.cons rfl (.cons rfl (.cons rfl (.cons rfl .nil))))))))
      · refine WL.ung rfl rfl ?_
        refine WL.y (Y.move rfl) rfl ?_
        refine WL.ung rfl rfl ?_
        refine WL.y (Y.not rfl) rfl ?_
        refine WL.y (Y.pick (b := false) rfl rfl) rfl ?_
        refine WL.ren (v' := .bool ((decide (r61.Zero < r62.Zero)) || (!r143))) 48 rfl (congrArg Value.bool (orF hE215)) ?_
        exact WL.nil (At.join () rfl (.cons rfl (.cons rfl (.cons rfl (.cons rfl (.cons rfl (.cons rfl (.cons rfl .nil))))))))
    · rintro _ _ rfl
      refine (show WL _ _ _ _ _ [(4, .pointer (some ⟨p44, 0, none⟩)), (6, .pointer (some ⟨p85, 0, none⟩)), (7, .pointer (some ⟨p90, 0, none⟩)), (9, .pointer (some ⟨p156, 0, none⟩)), (11, .pointer (some ⟨p197, 0, none⟩)), (12, .bool r184), (48, .bool ((decide (r61.Zero < r62.Zero)) || (!r143)))] _ from ?_)
      refine WL.y (Y.move rfl) rfl ?_
      refine WL.cut 3 (σ := Unit) (fun _ w' => wd206 = w') (fun _ => [(4, .pointer (some ⟨p44, 0, none⟩)), (6, .pointer (some ⟨p85, 0, none⟩)), (7, .pointer (some ⟨p90, 0, none⟩)), (9, .pointer (some ⟨p156, 0, none⟩)), (11, .pointer (some ⟨p197, 0, none⟩)), (52, .bool (((decide (r61.Zero < r62.Zero)) || (!r143)) || (!r184)))]) ?_ ?_
      · refine WL.part 49 rfl (fun hE216 => ?_) (fun hE216 => ?_)
        · refine WL.gS rfl rfl rfl rfl ?_
          refine WL.gS rfl rfl rfl rfl ?_
          refine WL.y (Y.pick (b := true) rfl rfl) rfl ?_
          refine WL.ren (v' := .bool (((decide (r61.Zero < r62.Zero)) || (!r143)) || (!r184))) 52 rfl (congrArg Value.bool (orT hE216)) ?_
          exact WL.nil (At.join () rfl (.cons rfl (.cons rfl (.cons rfl (.cons rfl (.cons rfl (.cons rfl .nil)))))))
        · refine WL.ung rfl rfl ?_
          refine WL.y (Y.move rfl) rfl ?_
          refine WL.ung rfl rfl ?_
          refine WL.y (Y.not rfl) rfl ?_
          refine WL.y (Y.pick (b := false) rfl rfl) rfl ?_
          refine WL.ren (v' := .bool (((decide (r61.Zero < r62.Zero)) || (!r143)) || (!r184))) 52 rfl (congrArg Value.bool (orF hE216)) ?_
          exact WL.nil (At.join () rfl (.cons rfl (.cons rfl (.cons rfl (.cons rfl (.cons rfl (.cons rfl .nil)))))))
      · rintro _ _ rfl
        refine (show WL _ _ _ _ _ [(4, .pointer (some ⟨p44, 0, none⟩)), (6, .pointer (some ⟨p85, 0, none⟩)), (7, .pointer (some ⟨p90, 0, none⟩)), (9, .pointer (some ⟨p156, 0, none⟩)), (11, .pointer (some ⟨p197, 0, none⟩)), (52, .bool (((decide (r61.Zero < r62.Zero)) || (!r143)) || (!r184)))] _ from ?_)
        refine WL.nil ?_
        refine At.then ?_
        rcases cnd h with ⟨hc217, h⟩ | ⟨hc217, h⟩
        · refine WC.condT' rfl hc217 ?_
          refine WC.seq ?_
          refine WC.region ?_
          refine WL.y (Y.build (vals := []) (cells := [vi 0, vu 0, vi 0, .slice none 0 0, vi 0, .slice none 0 0]) (Fits.evalp rfl) (by kernel_rfl)) rfl ?_
          have hf218 := hb43.st hst79 rfl
          have hf219 := hf218.st hst88 rfl
          have hf220 := hf219.st hst93 rfl
          have hf221 := hf220.st hst108 rfl
          have hf222 := hf221.st hst126 rfl
          have hf223 := hf222.st hst153 rfl
          have hf224 := hf223.st hst159 rfl
          have hf225 := hf224.st hst166 rfl
          have hf226 := hf225.st hst194 rfl
          have hf227 := hf226.st hst200 rfl
          have hf228 := hf227.st hst207 rfl
          refine WL.store (v := .agg [vi 0, vu 0, vi 0, .slice none 0 0, vi 0, .slice none 0 0].toArray) (cells' := [vi 0, vu 0, vi 0, .slice none 0 0, vi 0, .slice none 0 0]) ty27 rfl rfl hf228 rfl (Nat.le_of_ble_eq_true rfl) rfl rfl ?_
          intro wd229 hst230 hb231
          refine WL.y (Y.assign rfl) rfl ?_
          refine WL.nil ?_
          refine At.then ?_
          refine WC.ret ?_
          refine At.thenR ?_
          obtain ⟨rfl, rfl⟩ := tup2 h
          have hs232 : Stp [13, 14, 15, 16, 17] (Lg.O0 A) w O198 wd229 := (Stp.trans (Stp.up hst27 rfl) (Stp.trans (Stp.up hst42 rfl) (Stp.trans (Stp.up hst47 rfl) (Stp.trans (Stp.up hst79 rfl) (Stp.trans (Stp.up hst88 rfl) (Stp.trans (Stp.up hst93 rfl) (Stp.trans (Stp.up hst108 rfl) (Stp.trans (Stp.up hst126 rfl) (Stp.trans (Stp.up hst153 rfl) (Stp.trans (Stp.up hst159 rfl) (Stp.trans (Stp.up hst166 rfl) (Stp.trans (Stp.up hst194 rfl) (Stp.trans (Stp.up hst200 rfl) (Stp.trans (Stp.up hst207 rfl) (Stp.up hst230 rfl)))))))))))))))
          exact At.res (.inl rfl) rfl (.cell rfl (hb231.runAg 0 [vi 0, vu 0, vi 0, .slice none 0 0, vi 0, .slice none 0 0] ty27 rfl rfl rfl) (.tmp rfl .nil)) ⟨.slice none 0 0, .slice none 0 0, rfl, (Stp.ext hs232 rfl rfl), (Or.inl ⟨rfl, rfl⟩), (Or.inl ⟨rfl, rfl⟩)⟩
        · refine WC.condF' rfl hc217 ?_
          refine WC.skip ?_
          refine At.then ?_
          refine WC.seq ?_
          refine WC.region ?_
          refine WL.y (Y.fieldAddr fo27_0 rfl) rfl ?_
          refine WL.y (Y.loadSc ty3 rfl rfl (hf214.cell 0 _ rfl)) rfl ?_
          refine WL.y (Y.fieldAddr fo27_1 rfl) rfl ?_
          refine WL.y (Y.loadSc ty22 rfl rfl (hf214.cell 1 _ rfl)) rfl ?_
          refine WL.y (Y.fieldAddr fo27_1 rfl) rfl ?_
          refine WL.y (Y.loadSc ty22 rfl rfl (hf211.cell 1 _ rfl)) rfl ?_
          refine WL.y (Y.sub_u rfl rfl) rfl ?_
          have hf233 := hb167.st hst194 rfl
          have hf234 := hf233.st hst200 rfl
          have hf235 := hf234.st hst207 rfl
          refine WL.y (Y.loadAg ty25 rfl rfl (hf235.cells 0 [vi r142.Offset, (.slice p161 m162 c163)] rfl) rfl) rfl ?_
          refine WL.y (Y.loadAg ty25 rfl rfl (hb208.cells 0 [vi r183.Offset, (.slice p202 m203 c204)] rfl) rfl) rfl ?_
          refine WL.y (Y.build (vals := [(0, vi r61.Scale), (1, vu (r61.Zero - r62.Zero)), (2, .agg [vi r142.Offset, (.slice p161 m162 c163)].toArray), (3, .agg [vi r183.Offset, (.slice p202 m203 c204)].toArray)]) (cells := [vi r61.Scale, vu (r61.Zero - r62.Zero), vi r142.Offset, (.slice p161 m162 c163), vi r183.Offset, (.slice p202 m203 c204)]) (Fits.evalp rfl) (by kernel_rfl)) rfl ?_
          have hf236 := hb43.st hst79 rfl
          have hf237 := hf236.st hst88 rfl
          have hf238 := hf237.st hst93 rfl
          have hf239 := hf238.st hst108 rfl
          have hf240 := hf239.st hst126 rfl
          have hf241 := hf240.st hst153 rfl
          have hf242 := hf241.st hst159 rfl
          have hf243 := hf242.st hst166 rfl
          have hf244 := hf243.st hst194 rfl
          have hf245 := hf244.st hst200 rfl
          have hf246 := hf245.st hst207 rfl
          refine WL.store (v := .agg [vi r61.Scale, vu (r61.Zero - r62.Zero), vi r142.Offset, (.slice p161 m162 c163), vi r183.Offset, (.slice p202 m203 c204)].toArray) (cells' := [vi r61.Scale, vu (r61.Zero - r62.Zero), vi r142.Offset, (.slice p161 m162 c163), vi r183.Offset, (.slice p202 m203 c204)]) ty27 rfl rfl hf246 rfl (Nat.le_of_ble_eq_true rfl) rfl rfl ?_
          intro wd247 hst248 hb249
          refine WL.y (Y.assign rfl) rfl ?_
          refine WL.nil ?_
          refine At.then ?_
          refine WC.ret ?_
          obtain ⟨rfl, rfl⟩ := tup2 h
          have hs250 : Stp [13, 14, 15, 16, 17] (Lg.O0 A) w O198 wd247 := (Stp.trans (Stp.up hst27 rfl) (Stp.trans (Stp.up hst42 rfl) (Stp.trans (Stp.up hst47 rfl) (Stp.trans (Stp.up hst79 rfl) (Stp.trans (Stp.up hst88 rfl) (Stp.trans (Stp.up hst93 rfl) (Stp.trans (Stp.up hst108 rfl) (Stp.trans (Stp.up hst126 rfl) (Stp.trans (Stp.up hst153 rfl) (Stp.trans (Stp.up hst159 rfl) (Stp.trans (Stp.up hst166 rfl) (Stp.trans (Stp.up hst194 rfl) (Stp.trans (Stp.up hst200 rfl) (Stp.trans (Stp.up hst207 rfl) (Stp.up hst248 rfl)))))))))))))))
          have hf251 := hf160.mono (frs_st hst166 rfl)
          have hf252 := hf251.mono (frs_st hst194 rfl)
          have hf253 := hf252.mono (frs_st hst200 rfl)
          have hf254 := hf253.mono (frs_st hst207 rfl)
          have hf255 := hf254.mono (frs_st hst248 rfl)
          have hf256 := hf201.mono (frs_st hst207 rfl)
          have hf257 := hf256.mono (frs_st hst248 rfl)
          exact At.res (.inl rfl) rfl (.cell rfl (hb249.runAg 0 [vi r61.Scale, vu (r61.Zero - r62.Zero), vi r142.Offset, (.slice p161 m162 c163), vi r183.Offset, (.slice p202 m203 c204)] ty27 rfl rfl rfl) (.tmp rfl .nil)) ⟨(.slice p161 m162 c163), (.slice p202 m203 c204), rfl, (Stp.ext hs250 rfl rfl), (Sl.outF hf255 hs250 low0), (Sl.outF hf257 hs250 low0)⟩

theorem c_fold_Empty {A : Nat → Prop} {v0_3 : Value} {v0_5 : Value} {a0 : api_Hist} {w : World} (hs0_3 : Sl Rep.u w A v0_3 a0.Pos.Counts) (hs0_5 : Sl Rep.u w A v0_5 a0.Neg.Counts) {r0 : Bool} (h : fold_Empty a0 = some r0) : Rets Try.prog 44 [.agg [vi a0.Scale, vu a0.Zero, vi a0.Pos.Offset, v0_3, vi a0.Neg.Offset, v0_5].toArray] w (fun v w' => v = .bool r0 ∧ Ext w w') := by
  unfold fold_Empty at h
  refine Rets.enter Try.func44 rfl rfl ?_
  have hf11 : Sl Rep.u w (imm (Lg.O0 A)) v0_3 a0.Pos.Counts := (Sl.start hs0_3)
  have hf12 : Sl Rep.u w (imm (Lg.O0 A)) v0_5 a0.Neg.Counts := (Sl.start hs0_5)
  refine (show WC _ _ _ _ [(0, .agg [vi a0.Scale, vu a0.Zero, vi a0.Pos.Offset, v0_3, vi a0.Neg.Offset, v0_5].toArray)] _ from ?_)
  refine WC.seq ?_
  refine WC.region ?_
  have hh16 := h
  obtain ⟨p13, m14, c15, rfl⟩ := hf11.shape
  have h := hh16
  have hh20 := h
  obtain ⟨p17, m18, c19, rfl⟩ := hf12.shape
  have h := hh20
  refine WL.box (O := (Lg.O0 A)) 11 [vi a0.Scale, vu a0.Zero, vi a0.Pos.Offset, (.slice p13 m14 c15), vi a0.Neg.Offset, (.slice p17 m18 c19)] rfl rfl rfl ?_
  intro p22 O23 wd24 hst25 hb21
  refine WL.y (Y.assign rfl) rfl ?_
  refine WL.nil ?_
  refine At.then ?_
  refine WC.seq ?_
  refine WC.region ?_
  refine WL.y (Y.fieldAddr fo27_1 rfl) rfl ?_
  refine WL.y (Y.loadSc ty22 rfl rfl (hb21.cell 1 _ rfl)) rfl ?_
  refine WL.y (Y.eql_u (b := 0) rfl rfl) rfl ?_
  refine WL.y (Y.move rfl) rfl ?_
  refine WL.cut 6 (σ := Unit) (fun _ w' => wd24 = w') (fun _ => [(1, .pointer (some ⟨p22, 0, none⟩)), (12, .bool ((decide (a0.Zero = 0)) && (decide ((a0.Pos.Counts.length : Int) = 0))))]) ?_ ?_
  · refine WL.part 6 rfl (fun hE26 => ?_) (fun hE26 => ?_)
    · refine WL.ung rfl rfl ?_
      refine WL.y (Y.fieldAddr fo27_2 rfl) rfl ?_
      refine WL.ung rfl rfl ?_
      refine WL.y (Y.fieldAddr fo25_1 rfl) rfl ?_
      refine WL.ung rfl rfl ?_
      refine WL.y (Y.loadSc ty23 rfl rfl (hb21.cell 3 _ rfl)) rfl ?_
      refine WL.ung rfl rfl ?_
      have hf27 := hf11.mono (imm_st hst25 rfl rfl)
      refine WL.y (Y.len ty23 rfl hf27) rfl ?_
      refine WL.ung rfl rfl ?_
      refine WL.y (Y.eql_i rfl rfl) rfl ?_
      refine WL.y (Y.pick (b := true) rfl rfl) rfl ?_
      refine WL.ren (v' := .bool ((decide (a0.Zero = 0)) && (decide ((a0.Pos.Counts.length : Int) = 0)))) 12 rfl (congrArg Value.bool (andT hE26)) ?_
      exact WL.nil (At.join () rfl (.cons rfl (.cons rfl .nil)))
    · refine WL.gS rfl rfl rfl rfl ?_
      refine WL.gS rfl rfl rfl rfl ?_
      refine WL.gS rfl rfl rfl rfl ?_
      refine WL.gS rfl rfl rfl rfl ?_
      refine WL.gS rfl rfl rfl rfl ?_
      refine WL.y (Y.pick (b := false) rfl rfl) rfl ?_
      refine WL.ren (v' := .bool ((decide (a0.Zero = 0)) && (decide ((a0.Pos.Counts.length : Int) = 0)))) 12 rfl (congrArg Value.bool (andF hE26)) ?_
      exact WL.nil (At.join () rfl (.cons rfl (.cons rfl .nil)))
  · rintro _ _ rfl
    refine (show WL _ _ _ _ _ [(1, .pointer (some ⟨p22, 0, none⟩)), (12, .bool ((decide (a0.Zero = 0)) && (decide ((a0.Pos.Counts.length : Int) = 0))))] _ from ?_)
    refine WL.y (Y.move rfl) rfl ?_
    refine WL.cut 6 (σ := Unit) (fun _ w' => wd24 = w') (fun _ => [(19, .bool (((decide (a0.Zero = 0)) && (decide ((a0.Pos.Counts.length : Int) = 0))) && (decide ((a0.Neg.Counts.length : Int) = 0))))]) ?_ ?_
    · refine WL.part 13 rfl (fun hE28 => ?_) (fun hE28 => ?_)
      · refine WL.ung rfl rfl ?_
        refine WL.y (Y.fieldAddr fo27_3 rfl) rfl ?_
        refine WL.ung rfl rfl ?_
        refine WL.y (Y.fieldAddr fo25_1 rfl) rfl ?_
        refine WL.ung rfl rfl ?_
        refine WL.y (Y.loadSc ty23 rfl rfl (hb21.cell 5 _ rfl)) rfl ?_
        refine WL.ung rfl rfl ?_
        have hf29 := hf12.mono (imm_st hst25 rfl rfl)
        refine WL.y (Y.len ty23 rfl hf29) rfl ?_
        refine WL.ung rfl rfl ?_
        refine WL.y (Y.eql_i rfl rfl) rfl ?_
        refine WL.y (Y.pick (b := true) rfl rfl) rfl ?_
        refine WL.ren (v' := .bool (((decide (a0.Zero = 0)) && (decide ((a0.Pos.Counts.length : Int) = 0))) && (decide ((a0.Neg.Counts.length : Int) = 0)))) 19 rfl (congrArg Value.bool (andT hE28)) ?_
        exact WL.nil (At.join () rfl (.cons rfl .nil))
      · refine WL.gS rfl rfl rfl rfl ?_
        refine WL.gS rfl rfl rfl rfl ?_
        refine WL.gS rfl rfl rfl rfl ?_
        refine WL.gS rfl rfl rfl rfl ?_
        refine WL.gS rfl rfl rfl rfl ?_
        refine WL.y (Y.pick (b := false) rfl rfl) rfl ?_
        refine WL.ren (v' := .bool (((decide (a0.Zero = 0)) && (decide ((a0.Pos.Counts.length : Int) = 0))) && (decide ((a0.Neg.Counts.length : Int) = 0)))) 19 rfl (congrArg Value.bool (andF hE28)) ?_
        exact WL.nil (At.join () rfl (.cons rfl .nil))
    · rintro _ _ rfl
      refine (show WL _ _ _ _ _ [(19, .bool (((decide (a0.Zero = 0)) && (decide ((a0.Pos.Counts.length : Int) = 0))) && (decide ((a0.Neg.Counts.length : Int) = 0))))] _ from ?_)
      obtain ⟨t30, ht30, h⟩ := lt1 h
      refine WL.yE (Y.assign rfl) (congrArg Value.bool ht30.symm) rfl ?_
      refine WL.nil ?_
      refine At.then ?_
      refine WC.ret ?_
      obtain rfl := some1 h
      have hs31 : Stp [] (Lg.O0 A) w O23 wd24 := (Stp.up hst25 rfl)
      exact At.res (.inl rfl) rfl (.tmp rfl .nil) ⟨rfl, (Stp.ext hs31 rfl rfl)⟩

theorem c_law09_awake {w : World} {r0 : Bool} (h : law09_awake = some r0) : Rets Try.prog 37 [] w (fun v w' => v = .bool r0 ∧ Ext w w') := by
  unfold law09_awake at h
  refine Rets.enter Try.func37 rfl rfl ?_
  refine (show WC _ _ _ _ [] _ from ?_)
  refine WC.seq ?_
  refine WC.region ?_
  refine WL.y (Y.assign rfl) rfl ?_
  refine WL.nil ?_
  refine At.then ?_
  refine WC.seq ?_
  refine WC.region ?_
  refine WL.buildSlice (O := (Lg.O0 (fun _ => False))) (R := Rep.u) (vals := [(0, vu 1)]) 11 [vu 1] (xs := [1]) (by decide) ty23 ty22 (by decide) (by decide) (Fits.evalp rfl) (by kernel_rfl) rfl ⟨[vu 1], [], rfl, rfl, rfl⟩ rfl ?_
  intro v11 O13 wd14 hst15 ho12
  have hh19 := h
  obtain ⟨p16, m17, c18, rfl⟩ := ho12.shape
  have h := hh19
  refine WL.y (Y.build (vals := [(0, vi 2), (1, (.slice p16 m17 c18))]) (cells := [vi 2, (.slice p16 m17 c18)]) (Fits.evalp rfl) (by kernel_rfl)) rfl ?_
  refine WL.y (Y.build (vals := [(0, vi 1), (2, .agg [vi 2, (.slice p16 m17 c18)].toArray)]) (cells := [vi 1, vu 0, vi 2, (.slice p16 m17 c18), vi 0, .slice none 0 0]) (Fits.evalp rfl) (by kernel_rfl)) rfl ?_
  refine WL.alloc (O := O13) 12 [vi 0, vu 0, vi 0, .slice none 0 0, vi 0, .slice none 0 0] ty27 rfl rfl ?_
  intro p21 O22 wd23 hst24 hb20
  refine WL.store (v := .agg [vi 1, vu 0, vi 2, (.slice p16 m17 c18), vi 0, .slice none 0 0].toArray) (cells' := [vi 1, vu 0, vi 2, (.slice p16 m17 c18), vi 0, .slice none 0 0]) ty27 rfl rfl hb20 rfl (Nat.le_of_ble_eq_true rfl) rfl rfl ?_
  intro wd25 hst26 hb27
  refine WL.nil ?_
  refine At.then ?_
  refine WC.seq ?_
  refine WC.region ?_
  refine WL.buildSlice (O := O22) (R := Rep.u) (vals := [(0, vu 1)]) 13 [vu 1] (xs := [1]) (by decide) ty23 ty22 (by decide) (by decide) (Fits.evalp rfl) (by kernel_rfl) rfl ⟨[vu 1], [], rfl, rfl, rfl⟩ rfl ?_
  intro v28 O30 wd31 hst32 ho29
  have hh36 := h
  obtain ⟨p33, m34, c35, rfl⟩ := ho29.shape
  have h := hh36
  refine WL.y (Y.build (vals := [(0, vi 1), (1, (.slice p33 m34 c35))]) (cells := [vi 1, (.slice p33 m34 c35)]) (Fits.evalp rfl) (by kernel_rfl)) rfl ?_
  refine WL.y (Y.build (vals := [(0, vi 0), (2, .agg [vi 1, (.slice p33 m34 c35)].toArray)]) (cells := [vi 0, vu 0, vi 1, (.slice p33 m34 c35), vi 0, .slice none 0 0]) (Fits.evalp rfl) (by kernel_rfl)) rfl ?_
  refine WL.alloc (O := O30) 14 [vi 0, vu 0, vi 0, .slice none 0 0, vi 0, .slice none 0 0] ty27 rfl rfl ?_
  intro p38 O39 wd40 hst41 hb37
  refine WL.store (v := .agg [vi 0, vu 0, vi 1, (.slice p33 m34 c35), vi 0, .slice none 0 0].toArray) (cells' := [vi 0, vu 0, vi 1, (.slice p33 m34 c35), vi 0, .slice none 0 0]) ty27 rfl rfl hb37 rfl (Nat.le_of_ble_eq_true rfl) rfl rfl ?_
  intro wd42 hst43 hb44
  refine WL.nil ?_
  refine At.then ?_
  refine WC.seq ?_
  refine WC.region ?_
  have hf45 := hb27.st hst32 rfl
  have hf46 := hf45.st hst41 rfl
  have hf47 := hf46.st hst43 rfl
  refine WL.y (Y.loadAg ty27 rfl rfl (hf47.cells 0 [vi 1, vu 0, vi 2, (.slice p16 m17 c18), vi 0, .slice none 0 0] rfl) rfl) rfl ?_
  refine WL.y (Y.loadAg ty27 rfl rfl (hb44.cells 0 [vi 0, vu 0, vi 1, (.slice p33 m34 c35), vi 0, .slice none 0 0] rfl) rfl) rfl ?_
  have hf48 := ho12.st hst24 rfl rfl rfl
  have hf49 := hf48.st hst26 rfl rfl rfl
  have hf50 := hf49.st hst32 rfl rfl rfl
  have hf51 := hf50.st hst41 rfl rfl rfl
  have hf52 := hf51.st hst43 rfl rfl rfl
  have hf53 := ho29.st hst41 rfl rfl rfl
  have hf54 := hf53.st hst43 rfl rfl rfl
  obtain ⟨⟨r55, r56⟩, hp57, h⟩ := bnd h
  refine WL.call (vals := [.agg [vi 1, vu 0, vi 2, (.slice p16 m17 c18), vi 0, .slice none 0 0].toArray, .agg [vi 0, vu 0, vi 1, (.slice p33 m34 c35), vi 0, .slice none 0 0].toArray]) kok40 rfl rfl (c_fold_Merge (A := fun _ => True) (a0 := (api_Hist.mk 1 0 (api_Side.mk 2 [1]) (api_Side.mk 0 []))) (a1 := (api_Hist.mk 0 0 (api_Side.mk 1 [1]) (api_Side.mk 0 []))) (hf52.src.sl) (Or.inl ⟨rfl, rfl⟩) (hf54.src.sl) (Or.inl ⟨rfl, rfl⟩) hp57) ?_
  rintro vr64 wd63 ⟨u58, u59, rfl, hm62, f60, f61⟩
  obtain ⟨O65, hold66, hnew67, hst68⟩ := adoptE O39 (fun k => 1) hm62
  have hf69 : Sl Rep.u wd63 (frs O65) u58 r55.Pos.Counts := Sl.adoptF f60 (fun k hk => ⟨hk, rfl⟩) hnew67
  have hf70 : Sl Rep.u wd63 (frs O65) u59 r55.Neg.Counts := Sl.adoptF f61 (fun k hk => ⟨hk, rfl⟩) hnew67
  refine WL.y (Y.move rfl) rfl ?_
  refine WL.y (Y.extract rfl rfl) rfl ?_
  refine WL.y (Y.extract rfl rfl) rfl ?_
  refine WL.alloc (O := O65) 15 [vi 0, vu 0, vi 0, .slice none 0 0, vi 0, .slice none 0 0] ty27 rfl rfl ?_
  intro p72 O73 wd74 hst75 hb71
  have hf76 := hf69.mono (frs_st hst75 rfl)
  have hh80 := h
  obtain ⟨p77, m78, c79, rfl⟩ := hf76.shape
  have h := hh80
  have hf81 := hf70.mono (frs_st hst75 rfl)
  have hh85 := h
  obtain ⟨p82, m83, c84, rfl⟩ := hf81.shape
  have h := hh85
  refine WL.store (v := .agg [vi r55.Scale, vu r55.Zero, vi r55.Pos.Offset, (.slice p77 m78 c79), vi r55.Neg.Offset, (.slice p82 m83 c84)].toArray) (cells' := [vi r55.Scale, vu r55.Zero, vi r55.Pos.Offset, (.slice p77 m78 c79), vi r55.Neg.Offset, (.slice p82 m83 c84)]) ty27 rfl rfl hb71 rfl (Nat.le_of_ble_eq_true rfl) rfl rfl ?_
  intro wd86 hst87 hb88
  refine WL.y (Y.assign rfl) rfl ?_
  refine WL.nil ?_
  refine At.then ?_
  refine WC.seq ?_
  refine WC.region ?_
  refine WL.y (Y.loadAg ty27 rfl rfl (hb88.cells 0 [vi r55.Scale, vu r55.Zero, vi r55.Pos.Offset, (.slice p77 m78 c79), vi r55.Neg.Offset, (.slice p82 m83 c84)] rfl) rfl) rfl ?_
  have hf89 := hb44.st hst68 rfl
  have hf90 := hf89.st hst75 rfl
  have hf91 := hf90.st hst87 rfl
  refine WL.y (Y.loadAg ty27 rfl rfl (hf91.cells 0 [vi 0, vu 0, vi 1, (.slice p33 m34 c35), vi 0, .slice none 0 0] rfl) rfl) rfl ?_
  have hf92 := hf76.mono (frs_st hst87 rfl)
  have hf93 := hf81.mono (frs_st hst87 rfl)
  have hf94 := hf54.st hst68 rfl rfl rfl
  have hf95 := hf94.st hst75 rfl rfl rfl
  have hf96 := hf95.st hst87 rfl rfl rfl
  obtain ⟨⟨r97, r98⟩, hp99, h⟩ := bnd h
  refine WL.call (vals := [.agg [vi r55.Scale, vu r55.Zero, vi r55.Pos.Offset, (.slice p77 m78 c79), vi r55.Neg.Offset, (.slice p82 m83 c84)].toArray, .agg [vi 0, vu 0, vi 1, (.slice p33 m34 c35), vi 0, .slice none 0 0].toArray]) kok42 rfl rfl (c_fold_Sub (A := fun _ => True) (a0 := r55) (a1 := (api_Hist.mk 0 0 (api_Side.mk 1 [1]) (api_Side.mk 0 []))) (Sl.all hf92) (Sl.all hf93) (hf96.src.sl) (Or.inl ⟨rfl, rfl⟩) hp99) ?_
  rintro vr106 wd105 ⟨u100, u101, rfl, hm104, f102, f103⟩
  obtain ⟨O107, hold108, hnew109, hst110⟩ := adoptE O73 (fun k => 1) hm104
  have hf111 : Sl Rep.u wd105 (frs O107) u100 r97.Pos.Counts := Sl.adoptF f102 (fun k hk => ⟨hk, rfl⟩) hnew109
  have hf112 : Sl Rep.u wd105 (frs O107) u101 r97.Neg.Counts := Sl.adoptF f103 (fun k hk => ⟨hk, rfl⟩) hnew109
  refine WL.y (Y.move rfl) rfl ?_
  refine WL.y (Y.extract rfl rfl) rfl ?_
  refine WL.y (Y.extract rfl rfl) rfl ?_
  refine WL.alloc (O := O107) 16 [vi 0, vu 0, vi 0, .slice none 0 0, vi 0, .slice none 0 0] ty27 rfl rfl ?_
  intro p114 O115 wd116 hst117 hb113
  have hf118 := hf111.mono (frs_st hst117 rfl)
  have hh122 := h
  obtain ⟨p119, m120, c121, rfl⟩ := hf118.shape
  have h := hh122
  have hf123 := hf112.mono (frs_st hst117 rfl)
  have hh127 := h
  obtain ⟨p124, m125, c126, rfl⟩ := hf123.shape
  have h := hh127
  refine WL.store (v := .agg [vi r97.Scale, vu r97.Zero, vi r97.Pos.Offset, (.slice p119 m120 c121), vi r97.Neg.Offset, (.slice p124 m125 c126)].toArray) (cells' := [vi r97.Scale, vu r97.Zero, vi r97.Pos.Offset, (.slice p119 m120 c121), vi r97.Neg.Offset, (.slice p124 m125 c126)]) ty27 rfl rfl hb113 rfl (Nat.le_of_ble_eq_true rfl) rfl rfl ?_
  intro wd128 hst129 hb130
  refine WL.y (Y.assign rfl) rfl ?_
  refine WL.nil ?_
  refine At.then ?_
  refine WC.seq ?_
  refine WC.region ?_
  refine WL.y (Y.move rfl) rfl ?_
  refine WL.y (Y.eql_i rfl rfl) rfl ?_
  refine WL.y (Y.move rfl) rfl ?_
  refine WL.cut 3 (σ := Unit) (fun _ w' => wd128 = w') (fun _ => [(3, .pointer (some ⟨p72, 0, none⟩)), (5, .pointer (some ⟨p114, 0, none⟩)), (30, .bool ((decide (r56 = 0)) && (decide (r98 = 0))))]) ?_ ?_
  · refine WL.part 27 rfl (fun hE131 => ?_) (fun hE131 => ?_)
    · refine WL.ung rfl rfl ?_
      refine WL.y (Y.move rfl) rfl ?_
      refine WL.ung rfl rfl ?_
      refine WL.y (Y.eql_i rfl rfl) rfl ?_
      refine WL.y (Y.pick (b := true) rfl rfl) rfl ?_
      refine WL.ren (v' := .bool ((decide (r56 = 0)) && (decide (r98 = 0)))) 30 rfl (congrArg Value.bool (andT hE131)) ?_
      exact WL.nil (At.join () rfl (.cons rfl (.cons rfl (.cons rfl .nil))))
    · refine WL.gS rfl rfl rfl rfl ?_
      refine WL.gS rfl rfl rfl rfl ?_
      refine WL.y (Y.pick (b := false) rfl rfl) rfl ?_
      refine WL.ren (v' := .bool ((decide (r56 = 0)) && (decide (r98 = 0)))) 30 rfl (congrArg Value.bool (andF hE131)) ?_
      exact WL.nil (At.join () rfl (.cons rfl (.cons rfl (.cons rfl .nil))))
  · rintro _ _ rfl
    refine (show WL _ _ _ _ _ [(3, .pointer (some ⟨p72, 0, none⟩)), (5, .pointer (some ⟨p114, 0, none⟩)), (30, .bool ((decide (r56 = 0)) && (decide (r98 = 0))))] _ from ?_)
    refine WL.y (Y.move rfl) rfl ?_
    refine WL.cut 4 (σ := Unit) (fun _ w' => wd128 = w') (fun _ => [(3, .pointer (some ⟨p72, 0, none⟩)), (5, .pointer (some ⟨p114, 0, none⟩)), (35, .bool (((decide (r56 = 0)) && (decide (r98 = 0))) && (decide (r55.Scale = 0))))]) ?_ ?_
    · refine WL.part 31 rfl (fun hE132 => ?_) (fun hE132 => ?_)
      · refine WL.ung rfl rfl ?_
        refine WL.y (Y.fieldAddr fo27_0 rfl) rfl ?_
        refine WL.ung rfl rfl ?_
        have hf133 := hb88.st hst110 rfl
        have hf134 := hf133.st hst117 rfl
        have hf135 := hf134.st hst129 rfl
        refine WL.y (Y.loadSc ty3 rfl rfl (hf135.cell 0 _ rfl)) rfl ?_
        refine WL.ung rfl rfl ?_
        refine WL.y (Y.eql_i rfl rfl) rfl ?_
        refine WL.y (Y.pick (b := true) rfl rfl) rfl ?_
        refine WL.ren (v' := .bool (((decide (r56 = 0)) && (decide (r98 = 0))) && (decide (r55.Scale = 0)))) 35 rfl (congrArg Value.bool (andT hE132)) ?_
        exact WL.nil (At.join () rfl (.cons rfl (.cons rfl (.cons rfl .nil))))
      · refine WL.gS rfl rfl rfl rfl ?_
        refine WL.gS rfl rfl rfl rfl ?_
        refine WL.gS rfl rfl rfl rfl ?_
        refine WL.y (Y.pick (b := false) rfl rfl) rfl ?_
        refine WL.ren (v' := .bool (((decide (r56 = 0)) && (decide (r98 = 0))) && (decide (r55.Scale = 0)))) 35 rfl (congrArg Value.bool (andF hE132)) ?_
        exact WL.nil (At.join () rfl (.cons rfl (.cons rfl (.cons rfl .nil))))
    · rintro _ _ rfl
      refine (show WL _ _ _ _ _ [(3, .pointer (some ⟨p72, 0, none⟩)), (5, .pointer (some ⟨p114, 0, none⟩)), (35, .bool (((decide (r56 = 0)) && (decide (r98 = 0))) && (decide (r55.Scale = 0))))] _ from ?_)
      refine WL.y (Y.move rfl) rfl ?_
      obtain ⟨p140, h, hk141⟩ := bnd h
      refine WL.cut 5 (σ := (Bool × Own)) (fun x w' => x.1 = p140 ∧ Stp [] O115 wd128 x.2 w') (fun x => [(5, .pointer (some ⟨p114, 0, none⟩)), (41, .bool x.1)]) ?_ ?_
      · rcases cnd h with ⟨hE142, h⟩ | ⟨hE142, h⟩
        · refine WL.ren 36 rfl (congrArg Value.bool hE142) ?_
          refine WL.ung rfl rfl ?_
          refine WL.y (Y.fieldAddr fo27_2 rfl) rfl ?_
          refine WL.ung rfl rfl ?_
          have hf143 := hb88.st hst110 rfl
          have hf144 := hf143.st hst117 rfl
          have hf145 := hf144.st hst129 rfl
          refine WL.y (Y.loadAg ty25 rfl rfl (hf145.cells 2 [vi r55.Pos.Offset, (.slice p77 m78 c79)] rfl) rfl) rfl ?_
          refine WL.ung rfl rfl ?_
          have hf146 := hf92.mono (frs_st hst110 rfl)
          have hf147 := hf146.mono (frs_st hst117 rfl)
          have hf148 := hf147.mono (frs_st hst129 rfl)
          obtain ⟨r149, hp150, h⟩ := bnd h
          refine WL.call (vals := [.agg [vi r55.Pos.Offset, (.slice p77 m78 c79)].toArray, vi 1]) kok23 rfl rfl (c_hist_At (A := fun _ => True) (a0 := r55.Pos) (Sl.all hf148) hp150) ?_
          rintro vr153 wd152 ⟨rfl, hm151⟩
          obtain ⟨O154, hold155, hnew156, hst157⟩ := adoptE O115 (fun k => 1) hm151
          refine WL.ung rfl rfl ?_
          refine WL.y (Y.eql_u (b := 2) rfl rfl) rfl ?_
          refine WL.y (Y.pick (b := true) rfl rfl) rfl ?_
          exact WL.nil (At.join (σ := (Bool × Own)) (decide (r149 = 2), O154) ⟨some1 h, (Stp.up hst157 rfl)⟩ (.cons rfl (.cons rfl .nil)))
        · refine WL.ren 36 rfl (congrArg Value.bool hE142) ?_
          refine WL.gS rfl rfl rfl rfl ?_
          refine WL.gS rfl rfl rfl rfl ?_
          refine WL.gS rfl rfl rfl rfl ?_
          refine WL.gS rfl rfl rfl rfl ?_
          refine WL.y (Y.pick (b := false) rfl rfl) rfl ?_
          exact WL.nil (At.join (σ := (Bool × Own)) (false, O115) ⟨some1 h, (Stp.refl _ _ _)⟩ (.cons rfl (.cons rfl .nil)))
      · rintro ⟨x136, O137⟩ wd138 ⟨rfl, hst139⟩
        replace h := hk141
        try dsimp only at h hst139
        refine (show WL _ _ _ _ _ [(5, .pointer (some ⟨p114, 0, none⟩)), (41, .bool x136)] _ from ?_)
        refine WL.y (Y.move rfl) rfl ?_
        obtain ⟨p162, h, hk163⟩ := bnd h
        refine WL.cut 5 (σ := (Bool × Own)) (fun x w' => x.1 = p162 ∧ Stp [] O137 wd138 x.2 w') (fun x => [(5, .pointer (some ⟨p114, 0, none⟩)), (47, .bool x.1)]) ?_ ?_
        · rcases cnd h with ⟨hE164, h⟩ | ⟨hE164, h⟩
          · refine WL.ren 42 rfl (congrArg Value.bool hE164) ?_
            refine WL.ung rfl rfl ?_
            refine WL.y (Y.fieldAddr fo27_2 rfl) rfl ?_
            refine WL.ung rfl rfl ?_
            have hf165 := hb130.st hst139 rfl
            refine WL.y (Y.loadAg ty25 rfl rfl (hf165.cells 2 [vi r97.Pos.Offset, (.slice p119 m120 c121)] rfl) rfl) rfl ?_
            refine WL.ung rfl rfl ?_
            have hf166 := hf118.mono (frs_st hst129 rfl)
            have hf167 := hf166.mono (frs_st hst139 rfl)
            obtain ⟨r168, hp169, h⟩ := bnd h
            refine WL.call (vals := [.agg [vi r97.Pos.Offset, (.slice p119 m120 c121)].toArray, vi 1]) kok23 rfl rfl (c_hist_At (A := fun _ => True) (a0 := r97.Pos) (Sl.all hf167) hp169) ?_
            rintro vr172 wd171 ⟨rfl, hm170⟩
            obtain ⟨O173, hold174, hnew175, hst176⟩ := adoptE O137 (fun k => 1) hm170
            refine WL.ung rfl rfl ?_
            refine WL.y (Y.eql_u (b := 1) rfl rfl) rfl ?_
            refine WL.y (Y.pick (b := true) rfl rfl) rfl ?_
            exact WL.nil (At.join (σ := (Bool × Own)) (decide (r168 = 1), O173) ⟨some1 h, (Stp.up hst176 rfl)⟩ (.cons rfl (.cons rfl .nil)))
          · refine WL.ren 42 rfl (congrArg Value.bool hE164) ?_
            refine WL.gS rfl rfl rfl rfl ?_
            refine WL.gS rfl rfl rfl rfl ?_
            refine WL.gS rfl rfl rfl rfl ?_
            refine WL.gS rfl rfl rfl rfl ?_
            refine WL.y (Y.pick (b := false) rfl rfl) rfl ?_
            exact WL.nil (At.join (σ := (Bool × Own)) (false, O137) ⟨some1 h, (Stp.refl _ _ _)⟩ (.cons rfl (.cons rfl .nil)))
        · rintro ⟨x158, O159⟩ wd160 ⟨rfl, hst161⟩
          replace h := hk163
          try dsimp only at h hst161
          refine (show WL _ _ _ _ _ [(5, .pointer (some ⟨p114, 0, none⟩)), (47, .bool x158)] _ from ?_)
          refine WL.y (Y.move rfl) rfl ?_
          obtain ⟨p181, h, hk182⟩ := bnd h
          refine WL.cut 4 (σ := (Bool × Own)) (fun x w' => x.1 = p181 ∧ Stp [] O159 wd160 x.2 w') (fun x => [(52, .bool x.1)]) ?_ ?_
          · rcases cnd h with ⟨hE183, h⟩ | ⟨hE183, h⟩
            · refine WL.ren 48 rfl (congrArg Value.bool hE183) ?_
              refine WL.ung rfl rfl ?_
              have hf184 := hb130.st hst139 rfl
              have hf185 := hf184.st hst161 rfl
              refine WL.y (Y.loadAg ty27 rfl rfl (hf185.cells 0 [vi r97.Scale, vu r97.Zero, vi r97.Pos.Offset, (.slice p119 m120 c121), vi r97.Neg.Offset, (.slice p124 m125 c126)] rfl) rfl) rfl ?_
              refine WL.ung rfl rfl ?_
              have hf186 := hf118.mono (frs_st hst129 rfl)
              have hf187 := hf186.mono (frs_st hst139 rfl)
              have hf188 := hf187.mono (frs_st hst161 rfl)
              have hf189 := hf123.mono (frs_st hst129 rfl)
              have hf190 := hf189.mono (frs_st hst139 rfl)
              have hf191 := hf190.mono (frs_st hst161 rfl)
              obtain ⟨r192, hp193, h⟩ := bnd h
              refine WL.call (vals := [.agg [vi r97.Scale, vu r97.Zero, vi r97.Pos.Offset, (.slice p119 m120 c121), vi r97.Neg.Offset, (.slice p124 m125 c126)].toArray]) kok44 rfl rfl (c_fold_Empty (A := fun _ => True) (a0 := r97) (Sl.all hf188) (Sl.all hf191) hp193) ?_
              rintro vr196 wd195 ⟨rfl, hm194⟩
              obtain ⟨O197, hold198, hnew199, hst200⟩ := adoptE O159 (fun k => 1) hm194
              refine WL.ung rfl rfl ?_
              refine WL.y (Y.not rfl) rfl ?_
              refine WL.y (Y.pick (b := true) rfl rfl) rfl ?_
              exact WL.nil (At.join (σ := (Bool × Own)) ((!r192), O197) ⟨some1 h, (Stp.up hst200 rfl)⟩ (.cons rfl .nil))
            · refine WL.ren 48 rfl (congrArg Value.bool hE183) ?_
              refine WL.gS rfl rfl rfl rfl ?_
              refine WL.gS rfl rfl rfl rfl ?_
              refine WL.gS rfl rfl rfl rfl ?_
              refine WL.y (Y.pick (b := false) rfl rfl) rfl ?_
              exact WL.nil (At.join (σ := (Bool × Own)) (false, O159) ⟨some1 h, (Stp.refl _ _ _)⟩ (.cons rfl .nil))
          · rintro ⟨x177, O178⟩ wd179 ⟨rfl, hst180⟩
            replace h := hk182
            try dsimp only at h hst180
            refine (show WL _ _ _ _ _ [(52, .bool x177)] _ from ?_)
            refine WL.y (Y.move rfl) rfl ?_
            obtain ⟨p205, h, hk206⟩ := bnd h
            refine WL.cut 3 (σ := (Bool × Own)) (fun x w' => x.1 = p205 ∧ Stp [] O178 wd179 x.2 w') (fun x => [(56, .bool x.1)]) ?_ ?_
            · rcases cnd h with ⟨hE207, h⟩ | ⟨hE207, h⟩
              · refine WL.ren 53 rfl (congrArg Value.bool hE207) ?_
                refine WL.ung rfl rfl ?_
                refine WL.y (Y.build (vals := []) (cells := [vi 0, vu 0, vi 0, .slice none 0 0, vi 0, .slice none 0 0]) (Fits.evalp rfl) (by kernel_rfl)) rfl ?_
                refine WL.ung rfl rfl ?_
                obtain ⟨r208, hp209, h⟩ := bnd h
                refine WL.call (vals := [.agg [vi 0, vu 0, vi 0, .slice none 0 0, vi 0, .slice none 0 0].toArray]) kok44 rfl rfl (c_fold_Empty (A := fun _ => True) (a0 := (api_Hist.mk 0 0 (api_Side.mk 0 []) (api_Side.mk 0 []))) (Or.inl ⟨rfl, rfl⟩) (Or.inl ⟨rfl, rfl⟩) hp209) ?_
                rintro vr212 wd211 ⟨rfl, hm210⟩
                obtain ⟨O213, hold214, hnew215, hst216⟩ := adoptE O178 (fun k => 1) hm210
                refine WL.y (Y.pick (b := true) rfl rfl) rfl ?_
                exact WL.nil (At.join (σ := (Bool × Own)) (r208, O213) ⟨some1 h, (Stp.up hst216 rfl)⟩ (.cons rfl .nil))
              · refine WL.ren 53 rfl (congrArg Value.bool hE207) ?_
                refine WL.gS rfl rfl rfl rfl ?_
                refine WL.gS rfl rfl rfl rfl ?_
                refine WL.y (Y.pick (b := false) rfl rfl) rfl ?_
                exact WL.nil (At.join (σ := (Bool × Own)) (false, O178) ⟨some1 h, (Stp.refl _ _ _)⟩ (.cons rfl .nil))
            · rintro ⟨x201, O202⟩ wd203 ⟨rfl, hst204⟩
              replace h := hk206
              try dsimp only at h hst204
              refine (show WL _ _ _ _ _ [(56, .bool x201)] _ from ?_)
              refine WL.y (Y.assign rfl) rfl ?_
              refine WL.nil ?_
              refine At.then ?_
              refine WC.ret ?_
              obtain rfl := some1 h
              have hs217 : Stp [12, 14, 15, 16] (Lg.O0 (fun _ => False)) w O202 wd203 := (Stp.trans (Stp.up hst15 rfl) (Stp.trans (Stp.up hst24 rfl) (Stp.trans (Stp.up hst26 rfl) (Stp.trans (Stp.up hst32 rfl) (Stp.trans (Stp.up hst41 rfl) (Stp.trans (Stp.up hst43 rfl) (Stp.trans (Stp.up hst68 rfl) (Stp.trans (Stp.up hst75 rfl) (Stp.trans (Stp.up hst87 rfl) (Stp.trans (Stp.up hst110 rfl) (Stp.trans (Stp.up hst117 rfl) (Stp.trans (Stp.up hst129 rfl) (Stp.trans (Stp.up hst139 rfl) (Stp.trans (Stp.up hst161 rfl) (Stp.trans (Stp.up hst180 rfl) (Stp.up hst204 rfl))))))))))))))))
              exact At.res (.inl rfl) rfl (.tmp rfl .nil) ⟨rfl, (Stp.ext hs217 rfl rfl)⟩

theorem c_law09_FoldBack {A : Nat → Prop} {v0_3 : Value} {v0_5 : Value} {a0 : api_Hist} {v1_3 : Value} {v1_5 : Value} {a1 : api_Hist} {w : World} (hs0_3 : Sl Rep.u w A v0_3 a0.Pos.Counts) (hs0_5 : Sl Rep.u w A v0_5 a0.Neg.Counts) (hs1_3 : Sl Rep.u w A v1_3 a1.Pos.Counts) (hs1_5 : Sl Rep.u w A v1_5 a1.Neg.Counts) {r0 : Bool} (h : law09_FoldBack a0 a1 = some r0) : Rets Try.prog 11 [.agg [vi a0.Scale, vu a0.Zero, vi a0.Pos.Offset, v0_3, vi a0.Neg.Offset, v0_5].toArray, .agg [vi a1.Scale, vu a1.Zero, vi a1.Pos.Offset, v1_3, vi a1.Neg.Offset, v1_5].toArray] w (fun v w' => v = .bool r0 ∧ Ext w w') := by
  unfold law09_FoldBack at h
  refine Rets.enter Try.func11 rfl rfl ?_
  have hf11 : Sl Rep.u w (imm (Lg.O0 A)) v0_3 a0.Pos.Counts := (Sl.start hs0_3)
  have hf12 : Sl Rep.u w (imm (Lg.O0 A)) v0_5 a0.Neg.Counts := (Sl.start hs0_5)
  have hf13 : Sl Rep.u w (imm (Lg.O0 A)) v1_3 a1.Pos.Counts := (Sl.start hs1_3)
  have hf14 : Sl Rep.u w (imm (Lg.O0 A)) v1_5 a1.Neg.Counts := (Sl.start hs1_5)
  refine (show WC _ _ _ _ [(0, .agg [vi a0.Scale, vu a0.Zero, vi a0.Pos.Offset, v0_3, vi a0.Neg.Offset, v0_5].toArray), (1, .agg [vi a1.Scale, vu a1.Zero, vi a1.Pos.Offset, v1_3, vi a1.Neg.Offset, v1_5].toArray)] _ from ?_)
  refine WC.seq ?_
  refine WC.region ?_
  have hh18 := h
  obtain ⟨p15, m16, c17, rfl⟩ := hf11.shape
  have h := hh18
  have hh22 := h
  obtain ⟨p19, m20, c21, rfl⟩ := hf12.shape
  have h := hh22
  refine WL.box (O := (Lg.O0 A)) 11 [vi a0.Scale, vu a0.Zero, vi a0.Pos.Offset, (.slice p15 m16 c17), vi a0.Neg.Offset, (.slice p19 m20 c21)] rfl rfl rfl ?_
  intro p24 O25 wd26 hst27 hb23
  have hf28 := hf13.mono (imm_st hst27 rfl rfl)
  have hh32 := h
  obtain ⟨p29, m30, c31, rfl⟩ := hf28.shape
  have h := hh32
  have hf33 := hf14.mono (imm_st hst27 rfl rfl)
  have hh37 := h
  obtain ⟨p34, m35, c36, rfl⟩ := hf33.shape
  have h := hh37
  refine WL.box (O := O25) 12 [vi a1.Scale, vu a1.Zero, vi a1.Pos.Offset, (.slice p29 m30 c31), vi a1.Neg.Offset, (.slice p34 m35 c36)] rfl rfl rfl ?_
  intro p39 O40 wd41 hst42 hb38
  refine WL.y (Y.assign rfl) rfl ?_
  refine WL.nil ?_
  refine At.then ?_
  refine WC.seq ?_
  refine WC.seq ?_
  refine WC.region ?_
  obtain ⟨r43, hp44, h⟩ := bnd h
  refine WL.call (vals := []) kok37 rfl rfl (c_law09_awake hp44) ?_
  rintro vr47 wd46 ⟨rfl, hm45⟩
  obtain ⟨O48, hold49, hnew50, hst51⟩ := adoptE O40 (fun k => 1) hm45
  refine WL.y (Y.not rfl) rfl ?_
  refine WL.nil ?_
  refine At.then ?_
  rcases cnd h with ⟨hc52, h⟩ | ⟨hc52, h⟩
  · refine WC.condT' rfl hc52 ?_
    refine WC.seq ?_
    refine WC.region ?_
    refine WL.y (Y.assign rfl) rfl ?_
    refine WL.nil ?_
    refine At.then ?_
    refine WC.ret ?_
    refine At.thenR ?_
    obtain rfl := some1 h
    have hs53 : Stp [] (Lg.O0 A) w O48 wd46 := (Stp.trans (Stp.up hst27 rfl) (Stp.trans (Stp.up hst42 rfl) (Stp.up hst51 rfl)))
    exact At.res (.inl rfl) rfl (.tmp rfl .nil) ⟨rfl, (Stp.ext hs53 rfl rfl)⟩
  · refine WC.condF' rfl hc52 ?_
    refine WC.skip ?_
    refine At.then ?_
    refine WC.seq ?_
    refine WC.seq ?_
    refine WC.region ?_
    have hf54 := hb23.st hst42 rfl
    have hf55 := hf54.st hst51 rfl
    refine WL.y (Y.loadAg ty27 rfl rfl (hf55.cells 0 [vi a0.Scale, vu a0.Zero, vi a0.Pos.Offset, (.slice p15 m16 c17), vi a0.Neg.Offset, (.slice p19 m20 c21)] rfl) rfl) rfl ?_
    have hf56 := hf11.mono (imm_st hst27 rfl rfl)
    have hf57 := hf56.mono (imm_st hst42 rfl rfl)
    have hf58 := hf57.mono (imm_st hst51 rfl rfl)
    have hf59 := hf12.mono (imm_st hst27 rfl rfl)
    have hf60 := hf59.mono (imm_st hst42 rfl rfl)
    have hf61 := hf60.mono (imm_st hst51 rfl rfl)
    obtain ⟨r62, hp63, h⟩ := bnd h
    refine WL.call (vals := [.agg [vi a0.Scale, vu a0.Zero, vi a0.Pos.Offset, (.slice p15 m16 c17), vi a0.Neg.Offset, (.slice p19 m20 c21)].toArray]) kok16 rfl rfl (c_ref08_Light (A := fun _ => True) (a0 := a0) (Sl.all hf58) (Sl.all hf61) hp63) ?_
    rintro vr66 wd65 ⟨rfl, hm64⟩
    obtain ⟨O67, hold68, hnew69, hst70⟩ := adoptE O48 (fun k => 1) hm64
    refine WL.y (Y.not rfl) rfl ?_
    refine WL.y (Y.move rfl) rfl ?_
    obtain ⟨p75, h, hk76⟩ := bnd h
    refine WL.cut 4 (σ := (Bool × Own)) (fun x w' => x.1 = p75 ∧ Stp [] O67 wd65 x.2 w') (fun x => [(2, .pointer (some ⟨p24, 0, none⟩)), (3, .pointer (some ⟨p39, 0, none⟩)), (28, .bool x.1)]) ?_ ?_
    · rcases cnd h with ⟨hE77, h⟩ | ⟨hE77, h⟩
      · refine WL.ren 24 rfl (congrArg Value.bool hE77) ?_
        refine WL.gS rfl rfl rfl rfl ?_
        refine WL.gS rfl rfl rfl rfl ?_
        refine WL.gS rfl rfl rfl rfl ?_
        refine WL.y (Y.pick (b := true) rfl rfl) rfl ?_
        exact WL.nil (At.join (σ := (Bool × Own)) (true, O67) ⟨some1 h, (Stp.refl _ _ _)⟩ (.cons rfl (.cons rfl (.cons rfl .nil))))
      · refine WL.ren 24 rfl (congrArg Value.bool hE77) ?_
        refine WL.ung rfl rfl ?_
        have hf78 := hb38.st hst51 rfl
        have hf79 := hf78.st hst70 rfl
        refine WL.y (Y.loadAg ty27 rfl rfl (hf79.cells 0 [vi a1.Scale, vu a1.Zero, vi a1.Pos.Offset, (.slice p29 m30 c31), vi a1.Neg.Offset, (.slice p34 m35 c36)] rfl) rfl) rfl ?_
        refine WL.ung rfl rfl ?_
        have hf80 := hf28.mono (imm_st hst42 rfl rfl)
        have hf81 := hf80.mono (imm_st hst51 rfl rfl)
        have hf82 := hf81.mono (imm_st hst70 rfl rfl)
        have hf83 := hf33.mono (imm_st hst42 rfl rfl)
        have hf84 := hf83.mono (imm_st hst51 rfl rfl)
        have hf85 := hf84.mono (imm_st hst70 rfl rfl)
        obtain ⟨r86, hp87, h⟩ := bnd h
        refine WL.call (vals := [.agg [vi a1.Scale, vu a1.Zero, vi a1.Pos.Offset, (.slice p29 m30 c31), vi a1.Neg.Offset, (.slice p34 m35 c36)].toArray]) kok16 rfl rfl (c_ref08_Light (A := fun _ => True) (a0 := a1) (Sl.all hf82) (Sl.all hf85) hp87) ?_
        rintro vr90 wd89 ⟨rfl, hm88⟩
        obtain ⟨O91, hold92, hnew93, hst94⟩ := adoptE O67 (fun k => 1) hm88
        refine WL.ung rfl rfl ?_
        refine WL.y (Y.not rfl) rfl ?_
        refine WL.y (Y.pick (b := false) rfl rfl) rfl ?_
        exact WL.nil (At.join (σ := (Bool × Own)) ((!r86), O91) ⟨some1 h, (Stp.up hst94 rfl)⟩ (.cons rfl (.cons rfl (.cons rfl .nil))))
    · rintro ⟨x71, O72⟩ wd73 ⟨rfl, hst74⟩
      replace h := hk76
      try dsimp only at h hst74
      refine (show WL _ _ _ _ _ [(2, .pointer (some ⟨p24, 0, none⟩)), (3, .pointer (some ⟨p39, 0, none⟩)), (28, .bool x71)] _ from ?_)
      refine WL.nil ?_
      refine At.then ?_
      rcases cnd h with ⟨hc95, h⟩ | ⟨hc95, h⟩
      · refine WC.condT' rfl hc95 ?_
        refine WC.seq ?_
        refine WC.region ?_
        refine WL.y (Y.assign rfl) rfl ?_
        refine WL.nil ?_
        refine At.then ?_
        refine WC.ret ?_
        refine At.thenR ?_
        obtain rfl := some1 h
        have hs96 : Stp [] (Lg.O0 A) w O72 wd73 := (Stp.trans (Stp.up hst27 rfl) (Stp.trans (Stp.up hst42 rfl) (Stp.trans (Stp.up hst51 rfl) (Stp.trans (Stp.up hst70 rfl) (Stp.up hst74 rfl)))))
        exact At.res (.inl rfl) rfl (.tmp rfl .nil) ⟨rfl, (Stp.ext hs96 rfl rfl)⟩
      · refine WC.condF' rfl hc95 ?_
        refine WC.skip ?_
        refine At.then ?_
        refine WC.seq ?_
        refine WC.region ?_
        have hf97 := hf55.st hst70 rfl
        have hf98 := hf97.st hst74 rfl
        refine WL.y (Y.loadAg ty27 rfl rfl (hf98.cells 0 [vi a0.Scale, vu a0.Zero, vi a0.Pos.Offset, (.slice p15 m16 c17), vi a0.Neg.Offset, (.slice p19 m20 c21)] rfl) rfl) rfl ?_
        have hf99 := hb38.st hst51 rfl
        have hf100 := hf99.st hst70 rfl
        have hf101 := hf100.st hst74 rfl
        refine WL.y (Y.loadAg ty27 rfl rfl (hf101.cells 0 [vi a1.Scale, vu a1.Zero, vi a1.Pos.Offset, (.slice p29 m30 c31), vi a1.Neg.Offset, (.slice p34 m35 c36)] rfl) rfl) rfl ?_
        have hf102 := hf58.mono (imm_st hst70 rfl rfl)
        have hf103 := hf102.mono (imm_st hst74 rfl rfl)
        have hf104 := hf61.mono (imm_st hst70 rfl rfl)
        have hf105 := hf104.mono (imm_st hst74 rfl rfl)
        have hf106 := hf28.mono (imm_st hst42 rfl rfl)
        have hf107 := hf106.mono (imm_st hst51 rfl rfl)
        have hf108 := hf107.mono (imm_st hst70 rfl rfl)
        have hf109 := hf108.mono (imm_st hst74 rfl rfl)
        have hf110 := hf33.mono (imm_st hst42 rfl rfl)
        have hf111 := hf110.mono (imm_st hst51 rfl rfl)
        have hf112 := hf111.mono (imm_st hst70 rfl rfl)
        have hf113 := hf112.mono (imm_st hst74 rfl rfl)
        obtain ⟨⟨r114, r115⟩, hp116, h⟩ := bnd h
        refine WL.call (vals := [.agg [vi a0.Scale, vu a0.Zero, vi a0.Pos.Offset, (.slice p15 m16 c17), vi a0.Neg.Offset, (.slice p19 m20 c21)].toArray, .agg [vi a1.Scale, vu a1.Zero, vi a1.Pos.Offset, (.slice p29 m30 c31), vi a1.Neg.Offset, (.slice p34 m35 c36)].toArray]) kok40 rfl rfl (c_fold_Merge (A := fun _ => True) (a0 := a0) (a1 := a1) (Sl.all hf103) (Sl.all hf105) (Sl.all hf109) (Sl.all hf113) hp116) ?_
        rintro vr123 wd122 ⟨u117, u118, rfl, hm121, f119, f120⟩
        obtain ⟨O124, hold125, hnew126, hst127⟩ := adoptE O72 (fun k => 1) hm121
        have hf128 : Sl Rep.u wd122 (frs O124) u117 r114.Pos.Counts := Sl.adoptF f119 (fun k hk => ⟨hk, rfl⟩) hnew126
        have hf129 : Sl Rep.u wd122 (frs O124) u118 r114.Neg.Counts := Sl.adoptF f120 (fun k hk => ⟨hk, rfl⟩) hnew126
        refine WL.y (Y.move rfl) rfl ?_
        refine WL.y (Y.extract rfl rfl) rfl ?_
        refine WL.y (Y.extract rfl rfl) rfl ?_
        refine WL.alloc (O := O124) 13 [vi 0, vu 0, vi 0, .slice none 0 0, vi 0, .slice none 0 0] ty27 rfl rfl ?_
        intro p131 O132 wd133 hst134 hb130
        have hf135 := hf128.mono (frs_st hst134 rfl)
        have hh139 := h
        obtain ⟨p136, m137, c138, rfl⟩ := hf135.shape
        have h := hh139
        have hf140 := hf129.mono (frs_st hst134 rfl)
        have hh144 := h
        obtain ⟨p141, m142, c143, rfl⟩ := hf140.shape
        have h := hh144
        refine WL.store (v := .agg [vi r114.Scale, vu r114.Zero, vi r114.Pos.Offset, (.slice p136 m137 c138), vi r114.Neg.Offset, (.slice p141 m142 c143)].toArray) (cells' := [vi r114.Scale, vu r114.Zero, vi r114.Pos.Offset, (.slice p136 m137 c138), vi r114.Neg.Offset, (.slice p141 m142 c143)]) ty27 rfl rfl hb130 rfl (Nat.le_of_ble_eq_true rfl) rfl rfl ?_
        intro wd145 hst146 hb147
        refine WL.y (Y.assign rfl) rfl ?_
        refine WL.nil ?_
        refine At.then ?_
        refine WC.seq ?_
        refine WC.seq ?_
        refine WC.region ?_
        refine WL.y (Y.move rfl) rfl ?_
        refine WL.y (Y.neq_i rfl rfl) rfl ?_
        refine WL.nil ?_
        refine At.then ?_
        rcases cnd h with ⟨hc148, h⟩ | ⟨hc148, h⟩
        · refine WC.condT' rfl hc148 ?_
          refine WC.seq ?_
          refine WC.region ?_
          refine WL.y (Y.loadAg ty27 rfl rfl (hb147.cells 0 [vi r114.Scale, vu r114.Zero, vi r114.Pos.Offset, (.slice p136 m137 c138), vi r114.Neg.Offset, (.slice p141 m142 c143)] rfl) rfl) rfl ?_
          refine WL.y (Y.build (vals := []) (cells := [vi 0, vu 0, vi 0, .slice none 0 0, vi 0, .slice none 0 0]) (Fits.evalp rfl) (by kernel_rfl)) rfl ?_
          have hf149 := hf135.mono (frs_st hst146 rfl)
          have hf150 := hf140.mono (frs_st hst146 rfl)
          obtain ⟨r151, hp152, h⟩ := bnd h
          refine WL.call (vals := [.agg [vi r114.Scale, vu r114.Zero, vi r114.Pos.Offset, (.slice p136 m137 c138), vi r114.Neg.Offset, (.slice p141 m142 c143)].toArray, .agg [vi 0, vu 0, vi 0, .slice none 0 0, vi 0, .slice none 0 0].toArray]) kok22 rfl rfl (c_ref08_Same (A := fun _ => True) (a0 := r114) (a1 := (api_Hist.mk 0 0 (api_Side.mk 0 []) (api_Side.mk 0 []))) (Sl.all hf149) (Sl.all hf150) (Or.inl ⟨rfl, rfl⟩) (Or.inl ⟨rfl, rfl⟩) hp152) ?_
          rintro vr155 wd154 ⟨rfl, hm153⟩
          obtain ⟨O156, hold157, hnew158, hst159⟩ := adoptE O132 (fun k => 1) hm153
          refine WL.y (Y.assign rfl) rfl ?_
          refine WL.nil ?_
          refine At.then ?_
          refine WC.ret ?_
          refine At.thenR ?_
          obtain rfl := some1 h
          have hs160 : Stp [13] (Lg.O0 A) w O156 wd154 := (Stp.trans (Stp.up hst27 rfl) (Stp.trans (Stp.up hst42 rfl) (Stp.trans (Stp.up hst51 rfl) (Stp.trans (Stp.up hst70 rfl) (Stp.trans (Stp.up hst74 rfl) (Stp.trans (Stp.up hst127 rfl) (Stp.trans (Stp.up hst134 rfl) (Stp.trans (Stp.up hst146 rfl) (Stp.up hst159 rfl)))))))))
          exact At.res (.inl rfl) rfl (.tmp rfl .nil) ⟨rfl, (Stp.ext hs160 rfl rfl)⟩
        · refine WC.condF' rfl hc148 ?_
          refine WC.skip ?_
          refine At.then ?_
          refine WC.seq ?_
          refine WC.region ?_
          have hf161 := hf98.st hst127 rfl
          have hf162 := hf161.st hst134 rfl
          have hf163 := hf162.st hst146 rfl
          refine WL.y (Y.loadAg ty27 rfl rfl (hf163.cells 0 [vi a0.Scale, vu a0.Zero, vi a0.Pos.Offset, (.slice p15 m16 c17), vi a0.Neg.Offset, (.slice p19 m20 c21)] rfl) rfl) rfl ?_
          have hf164 := hf103.mono (imm_st hst127 rfl rfl)
          have hf165 := hf164.mono (imm_st hst134 rfl rfl)
          have hf166 := hf165.mono (imm_st hst146 rfl rfl)
          have hf167 := hf105.mono (imm_st hst127 rfl rfl)
          have hf168 := hf167.mono (imm_st hst134 rfl rfl)
          have hf169 := hf168.mono (imm_st hst146 rfl rfl)
          obtain ⟨⟨r170, r171⟩, hp172, h⟩ := bnd h
          refine WL.call (vals := [.agg [vi a0.Scale, vu a0.Zero, vi a0.Pos.Offset, (.slice p15 m16 c17), vi a0.Neg.Offset, (.slice p19 m20 c21)].toArray]) kok17 rfl rfl (c_hist_Total (A := fun _ => True) (a0 := a0) (Sl.all hf166) (Sl.all hf169) hp172) ?_
          rintro vr175 wd174 ⟨rfl, hm173⟩
          obtain ⟨O176, hold177, hnew178, hst179⟩ := adoptE O132 (fun k => 1) hm173
          refine WL.y (Y.move rfl) rfl ?_
          refine WL.y (Y.extract rfl rfl) rfl ?_
          refine WL.y (Y.extract rfl rfl) rfl ?_
          refine WL.y (Y.assign rfl) rfl ?_
          refine WL.y (Y.assign rfl) rfl ?_
          refine WL.nil ?_
          refine At.then ?_
          refine WC.seq ?_
          refine WC.region ?_
          have hf180 := hf101.st hst127 rfl
          have hf181 := hf180.st hst134 rfl
          have hf182 := hf181.st hst146 rfl
          have hf183 := hf182.st hst179 rfl
          refine WL.y (Y.loadAg ty27 rfl rfl (hf183.cells 0 [vi a1.Scale, vu a1.Zero, vi a1.Pos.Offset, (.slice p29 m30 c31), vi a1.Neg.Offset, (.slice p34 m35 c36)] rfl) rfl) rfl ?_
          have hf184 := hf109.mono (imm_st hst127 rfl rfl)
          have hf185 := hf184.mono (imm_st hst134 rfl rfl)
          have hf186 := hf185.mono (imm_st hst146 rfl rfl)
          have hf187 := hf186.mono (imm_st hst179 rfl rfl)
          have hf188 := hf113.mono (imm_st hst127 rfl rfl)
          have hf189 := hf188.mono (imm_st hst134 rfl rfl)
          have hf190 := hf189.mono (imm_st hst146 rfl rfl)
          have hf191 := hf190.mono (imm_st hst179 rfl rfl)
          obtain ⟨⟨r192, r193⟩, hp194, h⟩ := bnd h
          refine WL.call (vals := [.agg [vi a1.Scale, vu a1.Zero, vi a1.Pos.Offset, (.slice p29 m30 c31), vi a1.Neg.Offset, (.slice p34 m35 c36)].toArray]) kok17 rfl rfl (c_hist_Total (A := fun _ => True) (a0 := a1) (Sl.all hf187) (Sl.all hf191) hp194) ?_
          rintro vr197 wd196 ⟨rfl, hm195⟩
          obtain ⟨O198, hold199, hnew200, hst201⟩ := adoptE O176 (fun k => 1) hm195
          refine WL.y (Y.move rfl) rfl ?_
          refine WL.y (Y.extract rfl rfl) rfl ?_
          refine WL.y (Y.extract rfl rfl) rfl ?_
          refine WL.y (Y.assign rfl) rfl ?_
          refine WL.y (Y.assign rfl) rfl ?_
          refine WL.nil ?_
          refine At.then ?_
          refine WC.seq ?_
          refine WC.region ?_
          have hf202 := hb147.st hst179 rfl
          have hf203 := hf202.st hst201 rfl
          refine WL.y (Y.loadAg ty27 rfl rfl (hf203.cells 0 [vi r114.Scale, vu r114.Zero, vi r114.Pos.Offset, (.slice p136 m137 c138), vi r114.Neg.Offset, (.slice p141 m142 c143)] rfl) rfl) rfl ?_
          have hf204 := hf135.mono (frs_st hst146 rfl)
          have hf205 := hf204.mono (frs_st hst179 rfl)
          have hf206 := hf205.mono (frs_st hst201 rfl)
          have hf207 := hf140.mono (frs_st hst146 rfl)
          have hf208 := hf207.mono (frs_st hst179 rfl)
          have hf209 := hf208.mono (frs_st hst201 rfl)
          obtain ⟨⟨r210, r211⟩, hp212, h⟩ := bnd h
          refine WL.call (vals := [.agg [vi r114.Scale, vu r114.Zero, vi r114.Pos.Offset, (.slice p136 m137 c138), vi r114.Neg.Offset, (.slice p141 m142 c143)].toArray]) kok17 rfl rfl (c_hist_Total (A := fun _ => True) (a0 := r114) (Sl.all hf206) (Sl.all hf209) hp212) ?_
          rintro vr215 wd214 ⟨rfl, hm213⟩
          obtain ⟨O216, hold217, hnew218, hst219⟩ := adoptE O198 (fun k => 1) hm213
          refine WL.y (Y.move rfl) rfl ?_
          refine WL.y (Y.extract rfl rfl) rfl ?_
          refine WL.y (Y.extract rfl rfl) rfl ?_
          refine WL.y (Y.assign rfl) rfl ?_
          refine WL.y (Y.assign rfl) rfl ?_
          refine WL.nil ?_
          refine At.then ?_
          refine WC.seq ?_
          refine WC.region ?_
          have hf220 := hf203.st hst219 rfl
          refine WL.y (Y.loadAg ty27 rfl rfl (hf220.cells 0 [vi r114.Scale, vu r114.Zero, vi r114.Pos.Offset, (.slice p136 m137 c138), vi r114.Neg.Offset, (.slice p141 m142 c143)] rfl) rfl) rfl ?_
          have hf221 := hf183.st hst201 rfl
          have hf222 := hf221.st hst219 rfl
          refine WL.y (Y.loadAg ty27 rfl rfl (hf222.cells 0 [vi a1.Scale, vu a1.Zero, vi a1.Pos.Offset, (.slice p29 m30 c31), vi a1.Neg.Offset, (.slice p34 m35 c36)] rfl) rfl) rfl ?_
          have hf223 := hf206.mono (frs_st hst219 rfl)
          have hf224 := hf209.mono (frs_st hst219 rfl)
          have hf225 := hf187.mono (imm_st hst201 rfl rfl)
          have hf226 := hf225.mono (imm_st hst219 rfl rfl)
          have hf227 := hf191.mono (imm_st hst201 rfl rfl)
          have hf228 := hf227.mono (imm_st hst219 rfl rfl)
          obtain ⟨⟨r229, r230⟩, hp231, h⟩ := bnd h
          refine WL.call (vals := [.agg [vi r114.Scale, vu r114.Zero, vi r114.Pos.Offset, (.slice p136 m137 c138), vi r114.Neg.Offset, (.slice p141 m142 c143)].toArray, .agg [vi a1.Scale, vu a1.Zero, vi a1.Pos.Offset, (.slice p29 m30 c31), vi a1.Neg.Offset, (.slice p34 m35 c36)].toArray]) kok42 rfl rfl (c_fold_Sub (A := fun _ => True) (a0 := r114) (a1 := a1) (Sl.all hf223) (Sl.all hf224) (Sl.all hf226) (Sl.all hf228) hp231) ?_
          rintro vr238 wd237 ⟨u232, u233, rfl, hm236, f234, f235⟩
          obtain ⟨O239, hold240, hnew241, hst242⟩ := adoptE O216 (fun k => 1) hm236
          have hf243 : Sl Rep.u wd237 (frs O239) u232 r229.Pos.Counts := Sl.adoptF f234 (fun k hk => ⟨hk, rfl⟩) hnew241
          have hf244 : Sl Rep.u wd237 (frs O239) u233 r229.Neg.Counts := Sl.adoptF f235 (fun k hk => ⟨hk, rfl⟩) hnew241
          refine WL.y (Y.move rfl) rfl ?_
          refine WL.y (Y.extract rfl rfl) rfl ?_
          refine WL.y (Y.extract rfl rfl) rfl ?_
          refine WL.alloc (O := O239) 14 [vi 0, vu 0, vi 0, .slice none 0 0, vi 0, .slice none 0 0] ty27 rfl rfl ?_
          intro p246 O247 wd248 hst249 hb245
          have hf250 := hf243.mono (frs_st hst249 rfl)
          have hh254 := h
          obtain ⟨p251, m252, c253, rfl⟩ := hf250.shape
          have h := hh254
          have hf255 := hf244.mono (frs_st hst249 rfl)
          have hh259 := h
          obtain ⟨p256, m257, c258, rfl⟩ := hf255.shape
          have h := hh259
          refine WL.store (v := .agg [vi r229.Scale, vu r229.Zero, vi r229.Pos.Offset, (.slice p251 m252 c253), vi r229.Neg.Offset, (.slice p256 m257 c258)].toArray) (cells' := [vi r229.Scale, vu r229.Zero, vi r229.Pos.Offset, (.slice p251 m252 c253), vi r229.Neg.Offset, (.slice p256 m257 c258)]) ty27 rfl rfl hb245 rfl (Nat.le_of_ble_eq_true rfl) rfl rfl ?_
          intro wd260 hst261 hb262
          refine WL.y (Y.assign rfl) rfl ?_
          refine WL.nil ?_
          refine At.then ?_
          refine WC.seq ?_
          refine WC.region ?_
          have hf263 := hf163.st hst179 rfl
          have hf264 := hf263.st hst201 rfl
          have hf265 := hf264.st hst219 rfl
          have hf266 := hf265.st hst242 rfl
          have hf267 := hf266.st hst249 rfl
          have hf268 := hf267.st hst261 rfl
          refine WL.y (Y.loadAg ty27 rfl rfl (hf268.cells 0 [vi a0.Scale, vu a0.Zero, vi a0.Pos.Offset, (.slice p15 m16 c17), vi a0.Neg.Offset, (.slice p19 m20 c21)] rfl) rfl) rfl ?_
          refine WL.y (Y.fieldAddr fo27_0 rfl) rfl ?_
          refine WL.y (Y.loadSc ty3 rfl rfl (hf268.cell 0 _ rfl)) rfl ?_
          refine WL.y (Y.fieldAddr fo27_0 rfl) rfl ?_
          refine WL.y (Y.loadSc ty3 rfl rfl (hf268.cell 0 _ rfl)) rfl ?_
          refine WL.y (Y.fieldAddr fo27_0 rfl) rfl ?_
          have hf269 := hf222.st hst242 rfl
          have hf270 := hf269.st hst249 rfl
          have hf271 := hf270.st hst261 rfl
          refine WL.y (Y.loadSc ty3 rfl rfl (hf271.cell 0 _ rfl)) rfl ?_
          refine WL.y (Y.min_i rfl rfl) rfl ?_
          refine WL.y (Y.sub_i rfl rfl) rfl ?_
          have hf272 := hf166.mono (imm_st hst179 rfl rfl)
          have hf273 := hf272.mono (imm_st hst201 rfl rfl)
          have hf274 := hf273.mono (imm_st hst219 rfl rfl)
          have hf275 := hf274.mono (imm_st hst242 rfl rfl)
          have hf276 := hf275.mono (imm_st hst249 rfl rfl)
          have hf277 := hf276.mono (imm_st hst261 rfl rfl)
          have hf278 := hf169.mono (imm_st hst179 rfl rfl)
          have hf279 := hf278.mono (imm_st hst201 rfl rfl)
          have hf280 := hf279.mono (imm_st hst219 rfl rfl)
          have hf281 := hf280.mono (imm_st hst242 rfl rfl)
          have hf282 := hf281.mono (imm_st hst249 rfl rfl)
          have hf283 := hf282.mono (imm_st hst261 rfl rfl)
          obtain ⟨⟨r284, r285⟩, hp286, h⟩ := bnd h
          refine WL.call (vals := [.agg [vi a0.Scale, vu a0.Zero, vi a0.Pos.Offset, (.slice p15 m16 c17), vi a0.Neg.Offset, (.slice p19 m20 c21)].toArray, vi (w64 (a0.Scale - (min a0.Scale a1.Scale)))]) kok21 rfl rfl (c_hist_Down (A := fun _ => True) (a0 := a0) (Sl.all hf277) (Sl.all hf283) hp286) ?_
          rintro vr293 wd292 ⟨u287, u288, rfl, hm291, f289, f290⟩
          obtain ⟨O294, hold295, hnew296, hst297⟩ := adoptE O247 (fun k => 1) hm291
          have hf298 : Sl Rep.u wd292 (frs O294) u287 r284.Pos.Counts := Sl.adoptF f289 (fun k hk => ⟨hk, rfl⟩) hnew296
          have hf299 : Sl Rep.u wd292 (frs O294) u288 r284.Neg.Counts := Sl.adoptF f290 (fun k hk => ⟨hk, rfl⟩) hnew296
          refine WL.y (Y.move rfl) rfl ?_
          refine WL.y (Y.extract rfl rfl) rfl ?_
          refine WL.y (Y.extract rfl rfl) rfl ?_
          refine WL.alloc (O := O294) 15 [vi 0, vu 0, vi 0, .slice none 0 0, vi 0, .slice none 0 0] ty27 rfl rfl ?_
          intro p301 O302 wd303 hst304 hb300
          have hf305 := hf298.mono (frs_st hst304 rfl)
          have hh309 := h
          obtain ⟨p306, m307, c308, rfl⟩ := hf305.shape
          have h := hh309
          have hf310 := hf299.mono (frs_st hst304 rfl)
          have hh314 := h
          obtain ⟨p311, m312, c313, rfl⟩ := hf310.shape
          have h := hh314
          refine WL.store (v := .agg [vi r284.Scale, vu r284.Zero, vi r284.Pos.Offset, (.slice p306 m307 c308), vi r284.Neg.Offset, (.slice p311 m312 c313)].toArray) (cells' := [vi r284.Scale, vu r284.Zero, vi r284.Pos.Offset, (.slice p306 m307 c308), vi r284.Neg.Offset, (.slice p311 m312 c313)]) ty27 rfl rfl hb300 rfl (Nat.le_of_ble_eq_true rfl) rfl rfl ?_
          intro wd315 hst316 hb317
          refine WL.y (Y.assign rfl) rfl ?_
          refine WL.nil ?_
          refine At.then ?_
          refine WC.seq ?_
          refine WC.region ?_
          have hf318 := hf271.st hst297 rfl
          have hf319 := hf318.st hst304 rfl
          have hf320 := hf319.st hst316 rfl
          refine WL.y (Y.loadAg ty27 rfl rfl (hf320.cells 0 [vi a1.Scale, vu a1.Zero, vi a1.Pos.Offset, (.slice p29 m30 c31), vi a1.Neg.Offset, (.slice p34 m35 c36)] rfl) rfl) rfl ?_
          have hf321 := hf268.st hst297 rfl
          have hf322 := hf321.st hst304 rfl
          have hf323 := hf322.st hst316 rfl
          refine WL.y (Y.loadAg ty27 rfl rfl (hf323.cells 0 [vi a0.Scale, vu a0.Zero, vi a0.Pos.Offset, (.slice p15 m16 c17), vi a0.Neg.Offset, (.slice p19 m20 c21)] rfl) rfl) rfl ?_
          have hf324 := hf226.mono (imm_st hst242 rfl rfl)
          have hf325 := hf324.mono (imm_st hst249 rfl rfl)
          have hf326 := hf325.mono (imm_st hst261 rfl rfl)
          have hf327 := hf326.mono (imm_st hst297 rfl rfl)
          have hf328 := hf327.mono (imm_st hst304 rfl rfl)
          have hf329 := hf328.mono (imm_st hst316 rfl rfl)
          have hf330 := hf228.mono (imm_st hst242 rfl rfl)
          have hf331 := hf330.mono (imm_st hst249 rfl rfl)
          have hf332 := hf331.mono (imm_st hst261 rfl rfl)
          have hf333 := hf332.mono (imm_st hst297 rfl rfl)
          have hf334 := hf333.mono (imm_st hst304 rfl rfl)
          have hf335 := hf334.mono (imm_st hst316 rfl rfl)
          have hf336 := hf277.mono (imm_st hst297 rfl rfl)
          have hf337 := hf336.mono (imm_st hst304 rfl rfl)
          have hf338 := hf337.mono (imm_st hst316 rfl rfl)
          have hf339 := hf283.mono (imm_st hst297 rfl rfl)
          have hf340 := hf339.mono (imm_st hst304 rfl rfl)
          have hf341 := hf340.mono (imm_st hst316 rfl rfl)
          obtain ⟨⟨r342, r343⟩, hp344, h⟩ := bnd h
          refine WL.call (vals := [.agg [vi a1.Scale, vu a1.Zero, vi a1.Pos.Offset, (.slice p29 m30 c31), vi a1.Neg.Offset, (.slice p34 m35 c36)].toArray, .agg [vi a0.Scale, vu a0.Zero, vi a0.Pos.Offset, (.slice p15 m16 c17), vi a0.Neg.Offset, (.slice p19 m20 c21)].toArray]) kok40 rfl rfl (c_fold_Merge (A := fun _ => True) (a0 := a1) (a1 := a0) (Sl.all hf329) (Sl.all hf335) (Sl.all hf338) (Sl.all hf341) hp344) ?_
          rintro vr351 wd350 ⟨u345, u346, rfl, hm349, f347, f348⟩
          obtain ⟨O352, hold353, hnew354, hst355⟩ := adoptE O302 (fun k => 1) hm349
          have hf356 : Sl Rep.u wd350 (frs O352) u345 r342.Pos.Counts := Sl.adoptF f347 (fun k hk => ⟨hk, rfl⟩) hnew354
          have hf357 : Sl Rep.u wd350 (frs O352) u346 r342.Neg.Counts := Sl.adoptF f348 (fun k hk => ⟨hk, rfl⟩) hnew354
          refine WL.y (Y.move rfl) rfl ?_
          refine WL.y (Y.extract rfl rfl) rfl ?_
          refine WL.y (Y.extract rfl rfl) rfl ?_
          refine WL.alloc (O := O352) 16 [vi 0, vu 0, vi 0, .slice none 0 0, vi 0, .slice none 0 0] ty27 rfl rfl ?_
          intro p359 O360 wd361 hst362 hb358
          have hf363 := hf356.mono (frs_st hst362 rfl)
          have hh367 := h
          obtain ⟨p364, m365, c366, rfl⟩ := hf363.shape
          have h := hh367
          have hf368 := hf357.mono (frs_st hst362 rfl)
          have hh372 := h
          obtain ⟨p369, m370, c371, rfl⟩ := hf368.shape
          have h := hh372
          refine WL.store (v := .agg [vi r342.Scale, vu r342.Zero, vi r342.Pos.Offset, (.slice p364 m365 c366), vi r342.Neg.Offset, (.slice p369 m370 c371)].toArray) (cells' := [vi r342.Scale, vu r342.Zero, vi r342.Pos.Offset, (.slice p364 m365 c366), vi r342.Neg.Offset, (.slice p369 m370 c371)]) ty27 rfl rfl hb358 rfl (Nat.le_of_ble_eq_true rfl) rfl rfl ?_
          intro wd373 hst374 hb375
          refine WL.y (Y.assign rfl) rfl ?_
          refine WL.nil ?_
          refine At.then ?_
          refine WC.seq ?_
          refine WC.seq ?_
          refine WC.region ?_
          refine WL.y (Y.move rfl) rfl ?_
          refine WL.y (Y.not rfl) rfl ?_
          refine WL.y (Y.move rfl) rfl ?_
          refine WL.cut 6 (σ := Unit) (fun _ w' => wd373 = w') (fun _ => [(2, .pointer (some ⟨p24, 0, none⟩)), (3, .pointer (some ⟨p39, 0, none⟩)), (5, .pointer (some ⟨p131, 0, none⟩)), (13, .pointer (some ⟨p246, 0, none⟩)), (14, vi r230), (15, .pointer (some ⟨p301, 0, none⟩)), (16, vi r285), (17, .pointer (some ⟨p359, 0, none⟩)), (18, vi r343), (88, .bool ((!r211) || (!decide (r210 = (r170 + r192)))))]) ?_ ?_
          · refine WL.part 82 rfl (fun hE376 => ?_) (fun hE376 => ?_)
            · refine WL.gS rfl rfl rfl rfl ?_
              refine WL.gS rfl rfl rfl rfl ?_
              refine WL.gS rfl rfl rfl rfl ?_
              refine WL.gS rfl rfl rfl rfl ?_
              refine WL.gS rfl rfl rfl rfl ?_
              refine WL.y (Y.pick (b := true) rfl rfl) rfl ?_
              refine WL.ren (v' := .bool ((!r211) || (!decide (r210 = (r170 + r192))))) 88 rfl (congrArg Value.bool (orT hE376)) ?_
              exact WL.nil (At.join () rfl (.cons rfl (.cons rfl (.cons rfl (.cons rfl (.cons rfl (.cons rfl (.cons rfl (.cons rfl (.cons rfl (.cons rfl .nil)))))))))))
            · refine WL.ung rfl rfl ?_
              refine WL.y (Y.move rfl) rfl ?_
              refine WL.ung rfl rfl ?_
              refine WL.y (Y.move rfl) rfl ?_
              refine WL.ung rfl rfl ?_
              refine WL.y (Y.move rfl) rfl ?_
              refine WL.ung rfl rfl ?_
              refine WL.y (Y.add_u rfl rfl) rfl ?_
              refine WL.ung rfl rfl ?_
              refine WL.y (Y.neq_u rfl rfl) rfl ?_
              refine WL.y (Y.pick (b := false) rfl rfl) rfl ?_
              refine WL.ren (v' := .bool ((!r211) || (!decide (r210 = (r170 + r192))))) 88 rfl (congrArg Value.bool (orF hE376)) ?_
              exact WL.nil (At.join () rfl (.cons rfl (.cons rfl (.cons rfl (.cons rfl (.cons rfl (.cons rfl (.cons rfl (.cons rfl (.cons rfl (.cons rfl .nil)))))))))))
          · rintro _ _ rfl
            refine (show WL _ _ _ _ _ [(2, .pointer (some ⟨p24, 0, none⟩)), (3, .pointer (some ⟨p39, 0, none⟩)), (5, .pointer (some ⟨p131, 0, none⟩)), (13, .pointer (some ⟨p246, 0, none⟩)), (14, vi r230), (15, .pointer (some ⟨p301, 0, none⟩)), (16, vi r285), (17, .pointer (some ⟨p359, 0, none⟩)), (18, vi r343), (88, .bool ((!r211) || (!decide (r210 = (r170 + r192)))))] _ from ?_)
            refine WL.y (Y.move rfl) rfl ?_
            obtain ⟨p381, h, hk382⟩ := bnd h
            refine WL.cut 4 (σ := (Bool × Own)) (fun x w' => x.1 = p381 ∧ Stp [] O360 wd373 x.2 w') (fun x => [(2, .pointer (some ⟨p24, 0, none⟩)), (3, .pointer (some ⟨p39, 0, none⟩)), (5, .pointer (some ⟨p131, 0, none⟩)), (13, .pointer (some ⟨p246, 0, none⟩)), (14, vi r230), (15, .pointer (some ⟨p301, 0, none⟩)), (16, vi r285), (17, .pointer (some ⟨p359, 0, none⟩)), (18, vi r343), (93, .bool x.1)]) ?_ ?_
            · rcases cnd h with ⟨hE383, h⟩ | ⟨hE383, h⟩
              · refine WL.ren 89 rfl (congrArg Value.bool hE383) ?_
                refine WL.gS rfl rfl rfl rfl ?_
                refine WL.gS rfl rfl rfl rfl ?_
                refine WL.gS rfl rfl rfl rfl ?_
                refine WL.y (Y.pick (b := true) rfl rfl) rfl ?_
                exact WL.nil (At.join (σ := (Bool × Own)) (true, O360) ⟨some1 h, (Stp.refl _ _ _)⟩ (.cons rfl (.cons rfl (.cons rfl (.cons rfl (.cons rfl (.cons rfl (.cons rfl (.cons rfl (.cons rfl (.cons rfl .nil)))))))))))
              · refine WL.ren 89 rfl (congrArg Value.bool hE383) ?_
                refine WL.ung rfl rfl ?_
                have hf384 := hf220.st hst242 rfl
                have hf385 := hf384.st hst249 rfl
                have hf386 := hf385.st hst261 rfl
                have hf387 := hf386.st hst297 rfl
                have hf388 := hf387.st hst304 rfl
                have hf389 := hf388.st hst316 rfl
                have hf390 := hf389.st hst355 rfl
                have hf391 := hf390.st hst362 rfl
                have hf392 := hf391.st hst374 rfl
                refine WL.y (Y.loadAg ty27 rfl rfl (hf392.cells 0 [vi r114.Scale, vu r114.Zero, vi r114.Pos.Offset, (.slice p136 m137 c138), vi r114.Neg.Offset, (.slice p141 m142 c143)] rfl) rfl) rfl ?_
                refine WL.ung rfl rfl ?_
                have hf393 := hf223.mono (frs_st hst242 rfl)
                have hf394 := hf393.mono (frs_st hst249 rfl)
                have hf395 := hf394.mono (frs_st hst261 rfl)
                have hf396 := hf395.mono (frs_st hst297 rfl)
                have hf397 := hf396.mono (frs_st hst304 rfl)
                have hf398 := hf397.mono (frs_st hst316 rfl)
                have hf399 := hf398.mono (frs_st hst355 rfl)
                have hf400 := hf399.mono (frs_st hst362 rfl)
                have hf401 := hf400.mono (frs_st hst374 rfl)
                have hf402 := hf224.mono (frs_st hst242 rfl)
                have hf403 := hf402.mono (frs_st hst249 rfl)
                have hf404 := hf403.mono (frs_st hst261 rfl)
                have hf405 := hf404.mono (frs_st hst297 rfl)
                have hf406 := hf405.mono (frs_st hst304 rfl)
                have hf407 := hf406.mono (frs_st hst316 rfl)
                have hf408 := hf407.mono (frs_st hst355 rfl)
                have hf409 := hf408.mono (frs_st hst362 rfl)
                have hf410 := hf409.mono (frs_st hst374 rfl)
                obtain ⟨r411, hp412, h⟩ := bnd h
                refine WL.call (vals := [.agg [vi r114.Scale, vu r114.Zero, vi r114.Pos.Offset, (.slice p136 m137 c138), vi r114.Neg.Offset, (.slice p141 m142 c143)].toArray]) kok19 rfl rfl (c_hist_Check (A := fun _ => True) (a0 := r114) (Sl.all hf401) (Sl.all hf410) hp412) ?_
                rintro vr415 wd414 ⟨rfl, hm413⟩
                obtain ⟨O416, hold417, hnew418, hst419⟩ := adoptE O360 (fun k => 1) hm413
                refine WL.ung rfl rfl ?_
                refine WL.y (Y.neq_i rfl rfl) rfl ?_
                refine WL.y (Y.pick (b := false) rfl rfl) rfl ?_
                exact WL.nil (At.join (σ := (Bool × Own)) ((!decide (r411 = 0)), O416) ⟨some1 h, (Stp.up hst419 rfl)⟩ (.cons rfl (.cons rfl (.cons rfl (.cons rfl (.cons rfl (.cons rfl (.cons rfl (.cons rfl (.cons rfl (.cons rfl .nil)))))))))))
            · rintro ⟨x377, O378⟩ wd379 ⟨rfl, hst380⟩
              replace h := hk382
              try dsimp only at h hst380
              refine (show WL _ _ _ _ _ [(2, .pointer (some ⟨p24, 0, none⟩)), (3, .pointer (some ⟨p39, 0, none⟩)), (5, .pointer (some ⟨p131, 0, none⟩)), (13, .pointer (some ⟨p246, 0, none⟩)), (14, vi r230), (15, .pointer (some ⟨p301, 0, none⟩)), (16, vi r285), (17, .pointer (some ⟨p359, 0, none⟩)), (18, vi r343), (93, .bool x377)] _ from ?_)
              refine WL.y (Y.move rfl) rfl ?_
              refine WL.cut 3 (σ := Unit) (fun _ w' => wd379 = w') (fun _ => [(2, .pointer (some ⟨p24, 0, none⟩)), (3, .pointer (some ⟨p39, 0, none⟩)), (5, .pointer (some ⟨p131, 0, none⟩)), (13, .pointer (some ⟨p246, 0, none⟩)), (15, .pointer (some ⟨p301, 0, none⟩)), (16, vi r285), (17, .pointer (some ⟨p359, 0, none⟩)), (18, vi r343), (97, .bool (x377 || (!decide (r230 = 0))))]) ?_ ?_
              · refine WL.part 94 rfl (fun hE420 => ?_) (fun hE420 => ?_)
                · refine WL.gS rfl rfl rfl rfl ?_
                  refine WL.gS rfl rfl rfl rfl ?_
                  refine WL.y (Y.pick (b := true) rfl rfl) rfl ?_
                  refine WL.ren (v' := .bool (x377 || (!decide (r230 = 0)))) 97 rfl (congrArg Value.bool (orT hE420)) ?_
                  exact WL.nil (At.join () rfl (.cons rfl (.cons rfl (.cons rfl (.cons rfl (.cons rfl (.cons rfl (.cons rfl (.cons rfl (.cons rfl .nil))))))))))
                · refine WL.ung rfl rfl ?_
                  refine WL.y (Y.move rfl) rfl ?_
                  refine WL.ung rfl rfl ?_
                  refine WL.y (Y.neq_i rfl rfl) rfl ?_
                  refine WL.y (Y.pick (b := false) rfl rfl) rfl ?_
                  refine WL.ren (v' := .bool (x377 || (!decide (r230 = 0)))) 97 rfl (congrArg Value.bool (orF hE420)) ?_
                  exact WL.nil (At.join () rfl (.cons rfl (.cons rfl (.cons rfl (.cons rfl (.cons rfl (.cons rfl (.cons rfl (.cons rfl (.cons rfl .nil))))))))))
              · rintro _ _ rfl
                refine (show WL _ _ _ _ _ [(2, .pointer (some ⟨p24, 0, none⟩)), (3, .pointer (some ⟨p39, 0, none⟩)), (5, .pointer (some ⟨p131, 0, none⟩)), (13, .pointer (some ⟨p246, 0, none⟩)), (15, .pointer (some ⟨p301, 0, none⟩)), (16, vi r285), (17, .pointer (some ⟨p359, 0, none⟩)), (18, vi r343), (97, .bool (x377 || (!decide (r230 = 0))))] _ from ?_)
                refine WL.y (Y.move rfl) rfl ?_
                refine WL.cut 3 (σ := Unit) (fun _ w' => wd379 = w') (fun _ => [(2, .pointer (some ⟨p24, 0, none⟩)), (3, .pointer (some ⟨p39, 0, none⟩)), (5, .pointer (some ⟨p131, 0, none⟩)), (13, .pointer (some ⟨p246, 0, none⟩)), (15, .pointer (some ⟨p301, 0, none⟩)), (17, .pointer (some ⟨p359, 0, none⟩)), (18, vi r343), (101, .bool ((x377 || (!decide (r230 = 0))) || (!decide (r285 = 0))))]) ?_ ?_
                · refine WL.part 98 rfl (fun hE421 => ?_) (fun hE421 => ?_)
                  · refine WL.gS rfl rfl rfl rfl ?_
                    refine WL.gS rfl rfl rfl rfl ?_
                    refine WL.y (Y.pick (b := true) rfl rfl) rfl ?_
                    refine WL.ren (v' := .bool ((x377 || (!decide (r230 = 0))) || (!decide (r285 = 0)))) 101 rfl (congrArg Value.bool (orT hE421)) ?_
                    exact WL.nil (At.join () rfl (.cons rfl (.cons rfl (.cons rfl (.cons rfl (.cons rfl (.cons rfl (.cons rfl (.cons rfl .nil)))))))))
                  · refine WL.ung rfl rfl ?_
                    refine WL.y (Y.move rfl) rfl ?_
                    refine WL.ung rfl rfl ?_
                    refine WL.y (Y.neq_i rfl rfl) rfl ?_
                    refine WL.y (Y.pick (b := false) rfl rfl) rfl ?_
                    refine WL.ren (v' := .bool ((x377 || (!decide (r230 = 0))) || (!decide (r285 = 0)))) 101 rfl (congrArg Value.bool (orF hE421)) ?_
                    exact WL.nil (At.join () rfl (.cons rfl (.cons rfl (.cons rfl (.cons rfl (.cons rfl (.cons rfl (.cons rfl (.cons rfl .nil)))))))))
                · rintro _ _ rfl
                  refine (show WL _ _ _ _ _ [(2, .pointer (some ⟨p24, 0, none⟩)), (3, .pointer (some ⟨p39, 0, none⟩)), (5, .pointer (some ⟨p131, 0, none⟩)), (13, .pointer (some ⟨p246, 0, none⟩)), (15, .pointer (some ⟨p301, 0, none⟩)), (17, .pointer (some ⟨p359, 0, none⟩)), (18, vi r343), (101, .bool ((x377 || (!decide (r230 = 0))) || (!decide (r285 = 0))))] _ from ?_)
                  refine WL.y (Y.move rfl) rfl ?_
                  refine WL.cut 3 (σ := Unit) (fun _ w' => wd379 = w') (fun _ => [(2, .pointer (some ⟨p24, 0, none⟩)), (3, .pointer (some ⟨p39, 0, none⟩)), (5, .pointer (some ⟨p131, 0, none⟩)), (13, .pointer (some ⟨p246, 0, none⟩)), (15, .pointer (some ⟨p301, 0, none⟩)), (17, .pointer (some ⟨p359, 0, none⟩)), (105, .bool (((x377 || (!decide (r230 = 0))) || (!decide (r285 = 0))) || (!decide (r343 = 0))))]) ?_ ?_
                  · refine WL.part 102 rfl (fun hE422 => ?_) (fun hE422 => ?_)
                    · refine WL.gS rfl rfl rfl rfl ?_
                      refine WL.gS rfl rfl rfl rfl ?_
                      refine WL.y (Y.pick (b := true) rfl rfl) rfl ?_
                      refine WL.ren (v' := .bool (((x377 || (!decide (r230 = 0))) || (!decide (r285 = 0))) || (!decide (r343 = 0)))) 105 rfl (congrArg Value.bool (orT hE422)) ?_
                      exact WL.nil (At.join () rfl (.cons rfl (.cons rfl (.cons rfl (.cons rfl (.cons rfl (.cons rfl (.cons rfl .nil))))))))
                    · refine WL.ung rfl rfl ?_
                      refine WL.y (Y.move rfl) rfl ?_
                      refine WL.ung rfl rfl ?_
                      refine WL.y (Y.neq_i rfl rfl) rfl ?_
                      refine WL.y (Y.pick (b := false) rfl rfl) rfl ?_
                      refine WL.ren (v' := .bool (((x377 || (!decide (r230 = 0))) || (!decide (r285 = 0))) || (!decide (r343 = 0)))) 105 rfl (congrArg Value.bool (orF hE422)) ?_
                      exact WL.nil (At.join () rfl (.cons rfl (.cons rfl (.cons rfl (.cons rfl (.cons rfl (.cons rfl (.cons rfl .nil))))))))
                  · rintro _ _ rfl
                    refine (show WL _ _ _ _ _ [(2, .pointer (some ⟨p24, 0, none⟩)), (3, .pointer (some ⟨p39, 0, none⟩)), (5, .pointer (some ⟨p131, 0, none⟩)), (13, .pointer (some ⟨p246, 0, none⟩)), (15, .pointer (some ⟨p301, 0, none⟩)), (17, .pointer (some ⟨p359, 0, none⟩)), (105, .bool (((x377 || (!decide (r230 = 0))) || (!decide (r285 = 0))) || (!decide (r343 = 0))))] _ from ?_)
                    refine WL.nil ?_
                    refine At.then ?_
                    rcases cnd h with ⟨hc423, h⟩ | ⟨hc423, h⟩
                    · refine WC.condT' rfl hc423 ?_
                      refine WC.seq ?_
                      refine WC.region ?_
                      refine WL.y (Y.assign rfl) rfl ?_
                      refine WL.nil ?_
                      refine At.then ?_
                      refine WC.ret ?_
                      refine At.thenR ?_
                      obtain rfl := some1 h
                      have hs424 : Stp [13, 14, 15, 16] (Lg.O0 A) w O378 wd379 := (Stp.trans (Stp.up hst27 rfl) (Stp.trans (Stp.up hst42 rfl) (Stp.trans (Stp.up hst51 rfl) (Stp.trans (Stp.up hst70 rfl) (Stp.trans (Stp.up hst74 rfl) (Stp.trans (Stp.up hst127 rfl) (Stp.trans (Stp.up hst134 rfl) (Stp.trans (Stp.up hst146 rfl) (Stp.trans (Stp.up hst179 rfl) (Stp.trans (Stp.up hst201 rfl) (Stp.trans (Stp.up hst219 rfl) (Stp.trans (Stp.up hst242 rfl) (Stp.trans (Stp.up hst249 rfl) (Stp.trans (Stp.up hst261 rfl) (Stp.trans (Stp.up hst297 rfl) (Stp.trans (Stp.up hst304 rfl) (Stp.trans (Stp.up hst316 rfl) (Stp.trans (Stp.up hst355 rfl) (Stp.trans (Stp.up hst362 rfl) (Stp.trans (Stp.up hst374 rfl) (Stp.up hst380 rfl)))))))))))))))))))))
                      exact At.res (.inl rfl) rfl (.tmp rfl .nil) ⟨rfl, (Stp.ext hs424 rfl rfl)⟩
                    · refine WC.condF' rfl hc423 ?_
                      refine WC.skip ?_
                      refine At.then ?_
                      refine WC.seq ?_
                      refine WC.region ?_
                      have hf425 := hb262.st hst297 rfl
                      have hf426 := hf425.st hst304 rfl
                      have hf427 := hf426.st hst316 rfl
                      have hf428 := hf427.st hst355 rfl
                      have hf429 := hf428.st hst362 rfl
                      have hf430 := hf429.st hst374 rfl
                      have hf431 := hf430.st hst380 rfl
                      refine WL.y (Y.loadAg ty27 rfl rfl (hf431.cells 0 [vi r229.Scale, vu r229.Zero, vi r229.Pos.Offset, (.slice p251 m252 c253), vi r229.Neg.Offset, (.slice p256 m257 c258)] rfl) rfl) rfl ?_
                      have hf432 := hb317.st hst355 rfl
                      have hf433 := hf432.st hst362 rfl
                      have hf434 := hf433.st hst374 rfl
                      have hf435 := hf434.st hst380 rfl
                      refine WL.y (Y.loadAg ty27 rfl rfl (hf435.cells 0 [vi r284.Scale, vu r284.Zero, vi r284.Pos.Offset, (.slice p306 m307 c308), vi r284.Neg.Offset, (.slice p311 m312 c313)] rfl) rfl) rfl ?_
                      have hf436 := hf250.mono (frs_st hst261 rfl)
                      have hf437 := hf436.mono (frs_st hst297 rfl)
                      have hf438 := hf437.mono (frs_st hst304 rfl)
                      have hf439 := hf438.mono (frs_st hst316 rfl)
                      have hf440 := hf439.mono (frs_st hst355 rfl)
                      have hf441 := hf440.mono (frs_st hst362 rfl)
                      have hf442 := hf441.mono (frs_st hst374 rfl)
                      have hf443 := hf442.mono (frs_st hst380 rfl)
                      have hf444 := hf255.mono (frs_st hst261 rfl)
                      have hf445 := hf444.mono (frs_st hst297 rfl)
                      have hf446 := hf445.mono (frs_st hst304 rfl)
                      have hf447 := hf446.mono (frs_st hst316 rfl)
                      have hf448 := hf447.mono (frs_st hst355 rfl)
                      have hf449 := hf448.mono (frs_st hst362 rfl)
                      have hf450 := hf449.mono (frs_st hst374 rfl)
                      have hf451 := hf450.mono (frs_st hst380 rfl)
                      have hf452 := hf305.mono (frs_st hst316 rfl)
                      have hf453 := hf452.mono (frs_st hst355 rfl)
                      have hf454 := hf453.mono (frs_st hst362 rfl)
                      have hf455 := hf454.mono (frs_st hst374 rfl)
                      have hf456 := hf455.mono (frs_st hst380 rfl)
                      have hf457 := hf310.mono (frs_st hst316 rfl)
                      have hf458 := hf457.mono (frs_st hst355 rfl)
                      have hf459 := hf458.mono (frs_st hst362 rfl)
                      have hf460 := hf459.mono (frs_st hst374 rfl)
                      have hf461 := hf460.mono (frs_st hst380 rfl)
                      obtain ⟨r462, hp463, h⟩ := bnd h
                      refine WL.call (vals := [.agg [vi r229.Scale, vu r229.Zero, vi r229.Pos.Offset, (.slice p251 m252 c253), vi r229.Neg.Offset, (.slice p256 m257 c258)].toArray, .agg [vi r284.Scale, vu r284.Zero, vi r284.Pos.Offset, (.slice p306 m307 c308), vi r284.Neg.Offset, (.slice p311 m312 c313)].toArray]) kok22 rfl rfl (c_ref08_Same (A := fun _ => True) (a0 := r229) (a1 := r284) (Sl.all hf443) (Sl.all hf451) (Sl.all hf456) (Sl.all hf461) hp463) ?_
                      rintro vr466 wd465 ⟨rfl, hm464⟩
                      obtain ⟨O467, hold468, hnew469, hst470⟩ := adoptE O378 (fun k => 1) hm464
                      refine WL.y (Y.move rfl) rfl ?_
                      obtain ⟨p475, h, hk476⟩ := bnd h
                      refine WL.cut 4 (σ := (Bool × Own)) (fun x w' => x.1 = p475 ∧ Stp [] O467 wd465 x.2 w') (fun x => [(2, .pointer (some ⟨p24, 0, none⟩)), (3, .pointer (some ⟨p39, 0, none⟩)), (5, .pointer (some ⟨p131, 0, none⟩)), (113, .bool x.1)]) ?_ ?_
                      · rcases cnd h with ⟨hE477, h⟩ | ⟨hE477, h⟩
                        · refine WL.ren 109 rfl (congrArg Value.bool hE477) ?_
                          refine WL.ung rfl rfl ?_
                          have hf478 := hb375.st hst380 rfl
                          have hf479 := hf478.st hst470 rfl
                          refine WL.y (Y.loadAg ty27 rfl rfl (hf479.cells 0 [vi r342.Scale, vu r342.Zero, vi r342.Pos.Offset, (.slice p364 m365 c366), vi r342.Neg.Offset, (.slice p369 m370 c371)] rfl) rfl) rfl ?_
                          refine WL.ung rfl rfl ?_
                          have hf480 := hf220.st hst242 rfl
                          have hf481 := hf480.st hst249 rfl
                          have hf482 := hf481.st hst261 rfl
                          have hf483 := hf482.st hst297 rfl
                          have hf484 := hf483.st hst304 rfl
                          have hf485 := hf484.st hst316 rfl
                          have hf486 := hf485.st hst355 rfl
                          have hf487 := hf486.st hst362 rfl
                          have hf488 := hf487.st hst374 rfl
                          have hf489 := hf488.st hst380 rfl
                          have hf490 := hf489.st hst470 rfl
                          refine WL.y (Y.loadAg ty27 rfl rfl (hf490.cells 0 [vi r114.Scale, vu r114.Zero, vi r114.Pos.Offset, (.slice p136 m137 c138), vi r114.Neg.Offset, (.slice p141 m142 c143)] rfl) rfl) rfl ?_
                          refine WL.ung rfl rfl ?_
                          have hf491 := hf363.mono (frs_st hst374 rfl)
                          have hf492 := hf491.mono (frs_st hst380 rfl)
                          have hf493 := hf492.mono (frs_st hst470 rfl)
                          have hf494 := hf368.mono (frs_st hst374 rfl)
                          have hf495 := hf494.mono (frs_st hst380 rfl)
                          have hf496 := hf495.mono (frs_st hst470 rfl)
                          have hf497 := hf223.mono (frs_st hst242 rfl)
                          have hf498 := hf497.mono (frs_st hst249 rfl)
                          have hf499 := hf498.mono (frs_st hst261 rfl)
                          have hf500 := hf499.mono (frs_st hst297 rfl)
                          have hf501 := hf500.mono (frs_st hst304 rfl)
                          have hf502 := hf501.mono (frs_st hst316 rfl)
                          have hf503 := hf502.mono (frs_st hst355 rfl)
                          have hf504 := hf503.mono (frs_st hst362 rfl)
                          have hf505 := hf504.mono (frs_st hst374 rfl)
                          have hf506 := hf505.mono (frs_st hst380 rfl)
                          have hf507 := hf506.mono (frs_st hst470 rfl)
                          have hf508 := hf224.mono (frs_st hst242 rfl)
                          have hf509 := hf508.mono (frs_st hst249 rfl)
                          have hf510 := hf509.mono (frs_st hst261 rfl)
                          have hf511 := hf510.mono (frs_st hst297 rfl)
                          have hf512 := hf511.mono (frs_st hst304 rfl)
                          have hf513 := hf512.mono (frs_st hst316 rfl)
                          have hf514 := hf513.mono (frs_st hst355 rfl)
                          have hf515 := hf514.mono (frs_st hst362 rfl)
                          have hf516 := hf515.mono (frs_st hst374 rfl)
                          have hf517 := hf516.mono (frs_st hst380 rfl)
                          have hf518 := hf517.mono (frs_st hst470 rfl)
                          obtain ⟨r519, hp520, h⟩ := bnd h
                          refine WL.call (vals := [.agg [vi r342.Scale, vu r342.Zero, vi r342.Pos.Offset, (.slice p364 m365 c366), vi r342.Neg.Offset, (.slice p369 m370 c371)].toArray, .agg [vi r114.Scale, vu r114.Zero, vi r114.Pos.Offset, (.slice p136 m137 c138), vi r114.Neg.Offset, (.slice p141 m142 c143)].toArray]) kok22 rfl rfl (c_ref08_Same (A := fun _ => True) (a0 := r342) (a1 := r114) (Sl.all hf493) (Sl.all hf496) (Sl.all hf507) (Sl.all hf518) hp520) ?_
                          rintro vr523 wd522 ⟨rfl, hm521⟩
                          obtain ⟨O524, hold525, hnew526, hst527⟩ := adoptE O467 (fun k => 1) hm521
                          refine WL.y (Y.pick (b := true) rfl rfl) rfl ?_
                          exact WL.nil (At.join (σ := (Bool × Own)) (r519, O524) ⟨some1 h, (Stp.up hst527 rfl)⟩ (.cons rfl (.cons rfl (.cons rfl (.cons rfl .nil)))))
                        · refine WL.ren 109 rfl (congrArg Value.bool hE477) ?_
                          refine WL.gS rfl rfl rfl rfl ?_
                          refine WL.gS rfl rfl rfl rfl ?_
                          refine WL.gS rfl rfl rfl rfl ?_
                          refine WL.y (Y.pick (b := false) rfl rfl) rfl ?_
                          exact WL.nil (At.join (σ := (Bool × Own)) (false, O467) ⟨some1 h, (Stp.refl _ _ _)⟩ (.cons rfl (.cons rfl (.cons rfl (.cons rfl .nil)))))
                      · rintro ⟨x471, O472⟩ wd473 ⟨rfl, hst474⟩
                        replace h := hk476
                        try dsimp only at h hst474
                        refine (show WL _ _ _ _ _ [(2, .pointer (some ⟨p24, 0, none⟩)), (3, .pointer (some ⟨p39, 0, none⟩)), (5, .pointer (some ⟨p131, 0, none⟩)), (113, .bool x471)] _ from ?_)
                        refine WL.y (Y.move rfl) rfl ?_
                        refine WL.cut 9 (σ := Unit) (fun _ w' => wd473 = w') (fun _ => [(123, .bool (x471 && (decide (r114.Scale = (min a0.Scale a1.Scale)))))]) ?_ ?_
                        · refine WL.part 114 rfl (fun hE528 => ?_) (fun hE528 => ?_)
                          · refine WL.ung rfl rfl ?_
                            refine WL.y (Y.fieldAddr fo27_0 rfl) rfl ?_
                            refine WL.ung rfl rfl ?_
                            have hf529 := hf220.st hst242 rfl
                            have hf530 := hf529.st hst249 rfl
                            have hf531 := hf530.st hst261 rfl
                            have hf532 := hf531.st hst297 rfl
                            have hf533 := hf532.st hst304 rfl
                            have hf534 := hf533.st hst316 rfl
                            have hf535 := hf534.st hst355 rfl
                            have hf536 := hf535.st hst362 rfl
                            have hf537 := hf536.st hst374 rfl
                            have hf538 := hf537.st hst380 rfl
                            have hf539 := hf538.st hst470 rfl
                            have hf540 := hf539.st hst474 rfl
                            refine WL.y (Y.loadSc ty3 rfl rfl (hf540.cell 0 _ rfl)) rfl ?_
                            refine WL.ung rfl rfl ?_
                            refine WL.y (Y.fieldAddr fo27_0 rfl) rfl ?_
                            refine WL.ung rfl rfl ?_
                            have hf541 := hf323.st hst355 rfl
                            have hf542 := hf541.st hst362 rfl
                            have hf543 := hf542.st hst374 rfl
                            have hf544 := hf543.st hst380 rfl
                            have hf545 := hf544.st hst470 rfl
                            have hf546 := hf545.st hst474 rfl
                            refine WL.y (Y.loadSc ty3 rfl rfl (hf546.cell 0 _ rfl)) rfl ?_
                            refine WL.ung rfl rfl ?_
                            refine WL.y (Y.fieldAddr fo27_0 rfl) rfl ?_
                            refine WL.ung rfl rfl ?_
                            have hf547 := hf320.st hst355 rfl
                            have hf548 := hf547.st hst362 rfl
                            have hf549 := hf548.st hst374 rfl
                            have hf550 := hf549.st hst380 rfl
                            have hf551 := hf550.st hst470 rfl
                            have hf552 := hf551.st hst474 rfl
                            refine WL.y (Y.loadSc ty3 rfl rfl (hf552.cell 0 _ rfl)) rfl ?_
                            refine WL.ung rfl rfl ?_
                            refine WL.y (Y.min_i rfl rfl) rfl ?_
                            refine WL.ung rfl rfl ?_
                            refine WL.y (Y.eql_i rfl rfl) rfl ?_
                            refine WL.y (Y.pick (b := true) rfl rfl) rfl ?_
                            refine WL.ren (v' := .bool (x471 && (decide (r114.Scale = (min a0.Scale a1.Scale))))) 123 rfl (congrArg Value.bool (andT hE528)) ?_
                            exact WL.nil (At.join () rfl (.cons rfl .nil))
                          · refine WL.gS rfl rfl rfl rfl ?_
                            refine WL.gS rfl rfl rfl rfl ?_
                            refine WL.gS rfl rfl rfl rfl ?_
                            refine WL.gS rfl rfl rfl rfl ?_
                            refine WL.gS rfl rfl rfl rfl ?_
                            refine WL.gS rfl rfl rfl rfl ?_
                            refine WL.gS rfl rfl rfl rfl ?_
                            refine WL.gS rfl rfl rfl rfl ?_
                            refine WL.y (Y.pick (b := false) rfl rfl) rfl ?_
                            refine WL.ren (v' := .bool (x471 && (decide (r114.Scale = (min a0.Scale a1.Scale))))) 123 rfl (congrArg Value.bool (andF hE528)) ?_
                            exact WL.nil (At.join () rfl (.cons rfl .nil))
                        · rintro _ _ rfl
                          refine (show WL _ _ _ _ _ [(123, .bool (x471 && (decide (r114.Scale = (min a0.Scale a1.Scale)))))] _ from ?_)
                          obtain ⟨t553, ht553, h⟩ := lt1 h
                          refine WL.yE (Y.assign rfl) (congrArg Value.bool ht553.symm) rfl ?_
                          refine WL.nil ?_
                          refine At.then ?_
                          refine WC.ret ?_
                          obtain rfl := some1 h
                          have hs554 : Stp [13, 14, 15, 16] (Lg.O0 A) w O472 wd473 := (Stp.trans (Stp.up hst27 rfl) (Stp.trans (Stp.up hst42 rfl) (Stp.trans (Stp.up hst51 rfl) (Stp.trans (Stp.up hst70 rfl) (Stp.trans (Stp.up hst74 rfl) (Stp.trans (Stp.up hst127 rfl) (Stp.trans (Stp.up hst134 rfl) (Stp.trans (Stp.up hst146 rfl) (Stp.trans (Stp.up hst179 rfl) (Stp.trans (Stp.up hst201 rfl) (Stp.trans (Stp.up hst219 rfl) (Stp.trans (Stp.up hst242 rfl) (Stp.trans (Stp.up hst249 rfl) (Stp.trans (Stp.up hst261 rfl) (Stp.trans (Stp.up hst297 rfl) (Stp.trans (Stp.up hst304 rfl) (Stp.trans (Stp.up hst316 rfl) (Stp.trans (Stp.up hst355 rfl) (Stp.trans (Stp.up hst362 rfl) (Stp.trans (Stp.up hst374 rfl) (Stp.trans (Stp.up hst380 rfl) (Stp.trans (Stp.up hst470 rfl) (Stp.up hst474 rfl)))))))))))))))))))))))
                          exact At.res (.inl rfl) rfl (.tmp rfl .nil) ⟨rfl, (Stp.ext hs554 rfl rfl)⟩

end Go.Lg
