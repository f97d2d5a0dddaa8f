/- The walks of FoldMerges and of what it calls, printed by gen.py. -/
import Derived.Test.YtdpokdaeekanjaaLgFoldWFoldMergesx1
set_option linter.unusedVariables false
namespace Go.Lg
open Go Go.Proofs
set_option maxRecDepth 100000
theorem c_ref09_Sub {A : Nat → Prop} {v0_3 : Value} {v0_5 : Value} {a0 : api_Hist} {v1_3 : Value} {v1_5 : Value} {a1 : api_Hist} {w : World} (hs0_3 : Sl Rep.u w A v0_3 a0.Pos.Counts) (hs0_5 : Sl Rep.u w A v0_5 a0.Neg.Counts) (hs1_3 : Sl Rep.u w A v1_3 a1.Pos.Counts) (hs1_5 : Sl Rep.u w A v1_5 a1.Neg.Counts) {r0 : api_Hist} {r1 : Int} (h : ref09_Sub a0 a1 = some (r0, r1)) : Rets Try.prog 43 [.agg [vi a0.Scale, vu a0.Zero, vi a0.Pos.Offset, v0_3, vi a0.Neg.Offset, v0_5].toArray, .agg [vi a1.Scale, vu a1.Zero, vi a1.Pos.Offset, v1_3, vi a1.Neg.Offset, v1_5].toArray] w (fun v w' => ∃ (u0_3 : Value) (u0_5 : Value), v = .tuple (List.toArray [.agg (List.toArray [vi r0.Scale, vu r0.Zero, vi r0.Pos.Offset, u0_3, vi r0.Neg.Offset, u0_5]), vi r1]) ∧ Ext w w' ∧ Sl Rep.u w' (fun k => w.heap.size ≤ k) u0_3 r0.Pos.Counts ∧ Sl Rep.u w' (fun k => w.heap.size ≤ k) u0_5 r0.Neg.Counts) := by
  unfold ref09_Sub at h
  refine Rets.enter Try.func43 rfl rfl ?_
  have hf11 : Sl Rep.u w (imm (Lg.O0 A)) v0_3 a0.Pos.Counts := (Sl.start hs0_3)
  have hf12 : Sl Rep.u w (imm (Lg.O0 A)) v0_5 a0.Neg.Counts := (Sl.start hs0_5)
  have hf13 : Sl Rep.u w (imm (Lg.O0 A)) v1_3 a1.Pos.Counts := (Sl.start hs1_3)
  have hf14 : Sl Rep.u w (imm (Lg.O0 A)) v1_5 a1.Neg.Counts := (Sl.start hs1_5)
  refine (show WC _ _ _ _ [(0, .agg [vi a0.Scale, vu a0.Zero, vi a0.Pos.Offset, v0_3, vi a0.Neg.Offset, v0_5].toArray), (1, .agg [vi a1.Scale, vu a1.Zero, vi a1.Pos.Offset, v1_3, vi a1.Neg.Offset, v1_5].toArray)] _ from ?_)
  refine WC.seq ?_
  refine WC.region ?_
  have hh18 := h
  obtain ⟨p15, m16, c17, rfl⟩ := hf11.shape
  have h := hh18
  have hh22 := h
  obtain ⟨p19, m20, c21, rfl⟩ := hf12.shape
  have h := hh22
  refine WL.box (O := (Lg.O0 A)) 11 [vi a0.Scale, vu a0.Zero, vi a0.Pos.Offset, (.slice p15 m16 c17), vi a0.Neg.Offset, (.slice p19 m20 c21)] rfl rfl rfl ?_
  intro p24 O25 wd26 hst27 hb23
  have hf28 := hf13.mono (imm_st hst27 rfl rfl)
  have hh32 := h
  obtain ⟨p29, m30, c31, rfl⟩ := hf28.shape
  have h := hh32
  have hf33 := hf14.mono (imm_st hst27 rfl rfl)
  have hh37 := h
  obtain ⟨p34, m35, c36, rfl⟩ := hf33.shape
  have h := hh37
  refine WL.box (O := O25) 12 [vi a1.Scale, vu a1.Zero, vi a1.Pos.Offset, (.slice p29 m30 c31), vi a1.Neg.Offset, (.slice p34 m35 c36)] rfl rfl rfl ?_
  intro p39 O40 wd41 hst42 hb38
  refine WL.alloc (O := O40) 13 [vi 0, vu 0, vi 0, .slice none 0 0, vi 0, .slice none 0 0] ty27 rfl rfl ?_
  intro p44 O45 wd46 hst47 hb43
  refine WL.y (Y.assign rfl) rfl ?_
  refine WL.nil ?_
  refine At.then ?_
  refine WC.seq ?_
  refine WC.region ?_
  have hf48 := hb23.st hst42 rfl
  have hf49 := hf48.st hst47 rfl
  refine WL.y (Y.loadAg ty27 rfl rfl (hf49.cells 0 [vi a0.Scale, vu a0.Zero, vi a0.Pos.Offset, (.slice p15 m16 c17), vi a0.Neg.Offset, (.slice p19 m20 c21)] rfl) rfl) rfl ?_
  have hf50 := hb38.st hst47 rfl
  refine WL.y (Y.loadAg ty27 rfl rfl (hf50.cells 0 [vi a1.Scale, vu a1.Zero, vi a1.Pos.Offset, (.slice p29 m30 c31), vi a1.Neg.Offset, (.slice p34 m35 c36)] rfl) rfl) rfl ?_
  have hf51 := hf11.mono (imm_st hst27 rfl rfl)
  have hf52 := hf51.mono (imm_st hst42 rfl rfl)
  have hf53 := hf52.mono (imm_st hst47 rfl rfl)
  have hf54 := hf12.mono (imm_st hst27 rfl rfl)
  have hf55 := hf54.mono (imm_st hst42 rfl rfl)
  have hf56 := hf55.mono (imm_st hst47 rfl rfl)
  have hf57 := hf28.mono (imm_st hst42 rfl rfl)
  have hf58 := hf57.mono (imm_st hst47 rfl rfl)
  have hf59 := hf33.mono (imm_st hst42 rfl rfl)
  have hf60 := hf59.mono (imm_st hst47 rfl rfl)
  obtain ⟨r61, hp62, h⟩ := bnd h
  refine WL.call (vals := [.agg [vi a0.Scale, vu a0.Zero, vi a0.Pos.Offset, (.slice p15 m16 c17), vi a0.Neg.Offset, (.slice p19 m20 c21)].toArray, .agg [vi a1.Scale, vu a1.Zero, vi a1.Pos.Offset, (.slice p29 m30 c31), vi a1.Neg.Offset, (.slice p34 m35 c36)].toArray]) kok39 rfl rfl (c_ref09_Level (A := fun _ => True) (a0 := a0) (a1 := a1) (Sl.all hf53) (Sl.all hf56) (Sl.all hf58) (Sl.all hf60) hp62) ?_
  rintro vr73 wd72 ⟨u63, u64, u65, u66, rfl, hm71, f67, f68, f69, f70⟩
  obtain ⟨O74, hold75, hnew76, hst77⟩ := adoptE O45 (fun k => 1) hm71
  have hf78 : Sl Rep.u wd72 (frs O74) u63 r61.X.Pos.Counts := Sl.adoptF f67 (fun k hk => ⟨hk, rfl⟩) hnew76
  have hf79 : Sl Rep.u wd72 (frs O74) u64 r61.X.Neg.Counts := Sl.adoptF f68 (fun k hk => ⟨hk, rfl⟩) hnew76
  have hf80 : Sl Rep.u wd72 (frs O74) u65 r61.Y.Pos.Counts := Sl.adoptF f69 (fun k hk => ⟨hk, rfl⟩) hnew76
  have hf81 : Sl Rep.u wd72 (frs O74) u66 r61.Y.Neg.Counts := Sl.adoptF f70 (fun k hk => ⟨hk, rfl⟩) hnew76
  refine WL.alloc (O := O74) 14 [vi 0, vu 0, vi 0, .slice none 0 0, vi 0, .slice none 0 0, vi 0, vu 0, vi 0, .slice none 0 0, vi 0, .slice none 0 0, vi 0] ty55 rfl rfl ?_
  intro p83 O84 wd85 hst86 hb82
  have hf87 := hf78.mono (frs_st hst86 rfl)
  have hh91 := h
  obtain ⟨p88, m89, c90, rfl⟩ := hf87.shape
  have h := hh91
  have hf92 := hf79.mono (frs_st hst86 rfl)
  have hh96 := h
  obtain ⟨p93, m94, c95, rfl⟩ := hf92.shape
  have h := hh96
  have hf97 := hf80.mono (frs_st hst86 rfl)
  have hh101 := h
  obtain ⟨p98, m99, c100, rfl⟩ := hf97.shape
  have h := hh101
  have hf102 := hf81.mono (frs_st hst86 rfl)
  have hh106 := h
  obtain ⟨p103, m104, c105, rfl⟩ := hf102.shape
  have h := hh106
  refine WL.store (v := .agg [vi r61.X.Scale, vu r61.X.Zero, vi r61.X.Pos.Offset, (.slice p88 m89 c90), vi r61.X.Neg.Offset, (.slice p93 m94 c95), vi r61.Y.Scale, vu r61.Y.Zero, vi r61.Y.Pos.Offset, (.slice p98 m99 c100), vi r61.Y.Neg.Offset, (.slice p103 m104 c105), vi r61.E].toArray) (cells' := [vi r61.X.Scale, vu r61.X.Zero, vi r61.X.Pos.Offset, (.slice p88 m89 c90), vi r61.X.Neg.Offset, (.slice p93 m94 c95), vi r61.Y.Scale, vu r61.Y.Zero, vi r61.Y.Pos.Offset, (.slice p98 m99 c100), vi r61.Y.Neg.Offset, (.slice p103 m104 c105), vi r61.E]) ty55 rfl rfl hb82 rfl (Nat.le_of_ble_eq_true rfl) rfl rfl ?_
  intro wd107 hst108 hb109
  refine WL.nil ?_
  refine At.then ?_
  refine WC.seq ?_
  refine WC.seq ?_
  refine WC.region ?_
  refine WL.y (Y.fieldAddr fo55_2 rfl) rfl ?_
  refine WL.y (Y.loadSc ty32 rfl rfl (hb109.cell 12 _ rfl)) rfl ?_
  refine WL.y (Y.neq_i rfl rfl) rfl ?_
  refine WL.nil ?_
  refine At.then ?_
  rcases cnd h with ⟨hc110, h⟩ | ⟨hc110, h⟩
  · refine WC.condT' rfl hc110 ?_
    refine WC.seq ?_
    refine WC.drawH [13] [0, 1, 2, 3, 4] O84 5 fmix rfl (by kernel_rfl) ?_
    intro wd111 hst112
    refine WD.y 0 rfl (by kernel_rfl) (fun _ _ _ => Y.build (vals := []) (cells := [vi 0, vu 0, vi 0, .slice none 0 0, vi 0, .slice none 0 0]) (Fits.evalp rfl) (by kernel_rfl)) rfl ?_
    refine WD.y 1 rfl (by kernel_rfl) (fun _ _ _ => Y.fieldAddr fo55_2 rfl) rfl ?_
    refine WD.y 2 rfl (by kernel_rfl) (fun wd120 O119 hst121 => have hf122 := hb109.st hst112 rfl; have hf123 := hf122.st hst121 rfl; Y.loadSc ty32 rfl rfl (hf123.cell 12 _ rfl)) rfl ?_
    refine WD.heavy 3 rfl (by kernel_rfl) ?_
    have hf124 := hb43.st hst77 rfl
    have hf125 := hf124.st hst86 rfl
    have hf126 := hf125.st hst108 rfl
    have hf127 := hf126.st hst112 rfl
    refine WL.store (v := .agg [vi 0, vu 0, vi 0, .slice none 0 0, vi 0, .slice none 0 0].toArray) (cells' := [vi 0, vu 0, vi 0, .slice none 0 0, vi 0, .slice none 0 0]) ty27 rfl rfl hf127 rfl (Nat.le_of_ble_eq_true rfl) rfl rfl ?_
    intro wd128 hst129 hb130
    refine WL.nil ?_
    refine At.dq (Stp.up hst129 rfl) ?_
    refine WD.y 4 rfl (by kernel_rfl) (fun _ _ _ => Y.assign rfl) rfl ?_
    refine WD.done_ (by kernel_rfl) ?_
    refine At.then ?_
    refine WC.ret ?_
    refine At.thenR ?_
    obtain ⟨rfl, rfl⟩ := tup2 h
    have hs134 : Stp [13, 14] (Lg.O0 A) w O84 wd128 := (Stp.trans (Stp.up hst27 rfl) (Stp.trans (Stp.up hst42 rfl) (Stp.trans (Stp.up hst47 rfl) (Stp.trans (Stp.up hst77 rfl) (Stp.trans (Stp.up hst86 rfl) (Stp.trans (Stp.up hst108 rfl) (Stp.trans (Stp.up hst112 rfl) (Stp.up hst129 rfl))))))))
    exact At.res (.inl rfl) rfl (.cell rfl (hb130.runAg 0 [vi 0, vu 0, vi 0, .slice none 0 0, vi 0, .slice none 0 0] ty27 rfl rfl rfl) (.tmp rfl .nil)) ⟨.slice none 0 0, .slice none 0 0, rfl, (Stp.ext hs134 rfl rfl), (Or.inl ⟨rfl, rfl⟩), (Or.inl ⟨rfl, rfl⟩)⟩
  · refine WC.condF' rfl hc110 ?_
    refine WC.skip ?_
    refine At.then ?_
    refine WC.seq ?_
    refine WC.region ?_
    refine WL.y (Y.fieldAddr fo55_0 rfl) rfl ?_
    refine WL.y (Y.fieldAddr fo27_2 rfl) rfl ?_
    refine WL.y (Y.loadAg ty25 rfl rfl (hb109.cells 2 [vi r61.X.Pos.Offset, (.slice p88 m89 c90)] rfl) rfl) rfl ?_
    refine WL.y (Y.fieldAddr fo55_1 rfl) rfl ?_
    refine WL.y (Y.fieldAddr fo27_2 rfl) rfl ?_
    refine WL.y (Y.loadAg ty25 rfl rfl (hb109.cells 8 [vi r61.Y.Pos.Offset, (.slice p98 m99 c100)] rfl) rfl) rfl ?_
    have hf135 := hf87.mono (frs_st hst108 rfl)
    have hf136 := hf97.mono (frs_st hst108 rfl)
    obtain ⟨⟨r137, r138⟩, hp139, h⟩ := bnd h
    refine WL.call (vals := [.agg [vi r61.X.Pos.Offset, (.slice p88 m89 c90)].toArray, .agg [vi r61.Y.Pos.Offset, (.slice p98 m99 c100)].toArray]) kok74 rfl rfl (c_ref09_less (A := fun _ => True) (a0 := r61.X.Pos) (a1 := r61.Y.Pos) (Sl.all hf135) (Sl.all hf136) hp139) ?_
    rintro vr144 wd143 ⟨u140, rfl, hm142, f141⟩
    obtain ⟨O145, hold146, hnew147, hst148⟩ := adoptE O84 (fun k => 1) hm142
    have hf149 : Sl Rep.u wd143 (frs O145) u140 r137.Counts := Sl.adoptF f141 (fun k hk => ⟨hk, rfl⟩) hnew147
    refine WL.y (Y.move rfl) rfl ?_
    refine WL.y (Y.extract rfl rfl) rfl ?_
    refine WL.y (Y.extract rfl rfl) rfl ?_
    refine WL.alloc (O := O145) 15 [vi 0, .slice none 0 0] ty25 rfl rfl ?_
    intro p151 O152 wd153 hst154 hb150
    have hf155 := hf149.mono (frs_st hst154 rfl)
    have hh159 := h
    obtain ⟨p156, m157, c158, rfl⟩ := hf155.shape
    have h := hh159
    refine WL.store (v := .agg [vi r137.Offset, (.slice p156 m157 c158)].toArray) (cells' := [vi r137.Offset, (.slice p156 m157 c158)]) ty25 rfl rfl hb150 rfl (Nat.le_of_ble_eq_true rfl) rfl rfl ?_
    intro wd160 hst161 hb162
    refine WL.y (Y.assign rfl) rfl ?_
    refine WL.nil ?_
    refine At.then ?_
    refine WC.seq ?_
    refine WC.region ?_
    refine WL.y (Y.fieldAddr fo55_0 rfl) rfl ?_
    refine WL.y (Y.fieldAddr fo27_3 rfl) rfl ?_
    have hf163 := hb109.st hst148 rfl
    have hf164 := hf163.st hst154 rfl
    have hf165 := hf164.st hst161 rfl
    refine WL.y (Y.loadAg ty25 rfl rfl (hf165.cells 4 [vi r61.X.Neg.Offset, (.slice p93 m94 c95)] rfl) rfl) rfl ?_
    refine WL.y (Y.fieldAddr fo55_1 rfl) rfl ?_
    refine WL.y (Y.fieldAddr fo27_3 rfl) rfl ?_
    refine WL.y (Y.loadAg ty25 rfl rfl (hf165.cells 10 [vi r61.Y.Neg.Offset, (.slice p103 m104 c105)] rfl) rfl) rfl ?_
    have hf166 := hf92.mono (frs_st hst108 rfl)
    have hf167 := hf166.mono (frs_st hst148 rfl)
    have hf168 := hf167.mono (frs_st hst154 rfl)
    have hf169 := hf168.mono (frs_st hst161 rfl)
    have hf170 := hf102.mono (frs_st hst108 rfl)
    have hf171 := hf170.mono (frs_st hst148 rfl)
    have hf172 := hf171.mono (frs_st hst154 rfl)
    have hf173 := hf172.mono (frs_st hst161 rfl)
    obtain ⟨⟨r174, r175⟩, hp176, h⟩ := bnd h
    refine WL.call (vals := [.agg [vi r61.X.Neg.Offset, (.slice p93 m94 c95)].toArray, .agg [vi r61.Y.Neg.Offset, (.slice p103 m104 c105)].toArray]) kok74 rfl rfl (c_ref09_less (A := fun _ => True) (a0 := r61.X.Neg) (a1 := r61.Y.Neg) (Sl.all hf169) (Sl.all hf173) hp176) ?_
    rintro vr181 wd180 ⟨u177, rfl, hm179, f178⟩
    obtain ⟨O182, hold183, hnew184, hst185⟩ := adoptE O152 (fun k => 1) hm179
    have hf186 : Sl Rep.u wd180 (frs O182) u177 r174.Counts := Sl.adoptF f178 (fun k hk => ⟨hk, rfl⟩) hnew184
    refine WL.y (Y.move rfl) rfl ?_
    refine WL.y (Y.extract rfl rfl) rfl ?_
    refine WL.y (Y.extract rfl rfl) rfl ?_
    refine WL.alloc (O := O182) 16 [vi 0, .slice none 0 0] ty25 rfl rfl ?_
    intro p188 O189 wd190 hst191 hb187
    have hf192 := hf186.mono (frs_st hst191 rfl)
    have hh196 := h
    obtain ⟨p193, m194, c195, rfl⟩ := hf192.shape
    have h := hh196
    refine WL.store (v := .agg [vi r174.Offset, (.slice p193 m194 c195)].toArray) (cells' := [vi r174.Offset, (.slice p193 m194 c195)]) ty25 rfl rfl hb187 rfl (Nat.le_of_ble_eq_true rfl) rfl rfl ?_
    intro wd197 hst198 hb199
    refine WL.y (Y.assign rfl) rfl ?_
    refine WL.nil ?_
    refine At.then ?_
    refine WC.seq ?_
    refine WC.seq ?_
    refine WC.region ?_
    refine WL.y (Y.move rfl) rfl ?_
    refine WL.y (Y.not rfl) rfl ?_
    refine WL.y (Y.move rfl) rfl ?_
    refine WL.cut 3 (σ := Unit) (fun _ w' => wd197 = w') (fun _ => [(4, .pointer (some ⟨p44, 0, none⟩)), (6, .pointer (some ⟨p83, 0, none⟩)), (7, .pointer (some ⟨p151, 0, none⟩)), (9, .pointer (some ⟨p188, 0, none⟩)), (45, .bool ((!r138) || (!r175)))]) ?_ ?_
    · refine WL.part 42 rfl (fun hE200 => ?_) (fun hE200 => ?_)
      · refine WL.gS rfl rfl rfl rfl ?_
        refine WL.gS rfl rfl rfl rfl ?_
        refine WL.y (Y.pick (b := true) rfl rfl) rfl ?_
        refine WL.ren (v' := .bool ((!r138) || (!r175))) 45 rfl (congrArg Value.bool (orT hE200)) ?_
        exact WL.nil (At.join () rfl (.cons rfl (.cons rfl (.cons rfl (.cons rfl (.cons rfl .nil))))))
      · refine WL.ung rfl rfl ?_
        refine WL.y (Y.move rfl) rfl ?_
        refine WL.ung rfl rfl ?_
        refine WL.y (Y.not rfl) rfl ?_
        refine WL.y (Y.pick (b := false) rfl rfl) rfl ?_
        refine WL.ren (v' := .bool ((!r138) || (!r175))) 45 rfl (congrArg Value.bool (orF hE200)) ?_
        exact WL.nil (At.join () rfl (.cons rfl (.cons rfl (.cons rfl (.cons rfl (.cons rfl .nil))))))
    · rintro _ _ rfl
      refine (show WL _ _ _ _ _ [(4, .pointer (some ⟨p44, 0, none⟩)), (6, .pointer (some ⟨p83, 0, none⟩)), (7, .pointer (some ⟨p151, 0, none⟩)), (9, .pointer (some ⟨p188, 0, none⟩)), (45, .bool ((!r138) || (!r175)))] _ from ?_)
      refine WL.y (Y.move rfl) rfl ?_
      refine WL.cut 8 (σ := Unit) (fun _ w' => wd197 = w') (fun _ => [(4, .pointer (some ⟨p44, 0, none⟩)), (6, .pointer (some ⟨p83, 0, none⟩)), (7, .pointer (some ⟨p151, 0, none⟩)), (9, .pointer (some ⟨p188, 0, none⟩)), (54, .bool (((!r138) || (!r175)) || (decide (r61.X.Zero < r61.Y.Zero))))]) ?_ ?_
      · refine WL.part 46 rfl (fun hE201 => ?_) (fun hE201 => ?_)
        · refine WL.gS rfl rfl rfl rfl ?_
          refine WL.gS rfl rfl rfl rfl ?_
          refine WL.gS rfl rfl rfl rfl ?_
          refine WL.gS rfl rfl rfl rfl ?_
          refine WL.gS rfl rfl rfl rfl ?_
          refine WL.gS rfl rfl rfl rfl ?_
          refine WL.gS rfl rfl rfl rfl ?_
          refine WL.y (Y.pick (b := true) rfl rfl) rfl ?_
          refine WL.ren (v' := .bool (((!r138) || (!r175)) || (decide (r61.X.Zero < r61.Y.Zero)))) 54 rfl (congrArg Value.bool (orT hE201)) ?_
          exact WL.nil (At.join () rfl (.cons rfl (.cons rfl (.cons rfl (.cons rfl (.cons rfl .nil))))))
        · refine WL.ung rfl rfl ?_
          refine WL.y (Y.fieldAddr fo55_1 rfl) rfl ?_
          refine WL.ung rfl rfl ?_
          refine WL.y (Y.fieldAddr fo27_1 rfl) rfl ?_
          refine WL.ung rfl rfl ?_
          have hf202 := hf165.st hst185 rfl
          have hf203 := hf202.st hst191 rfl
          have hf204 := hf203.st hst198 rfl
          refine WL.y (Y.loadSc ty22 rfl rfl (hf204.cell 7 _ rfl)) rfl ?_
          refine WL.ung rfl rfl ?_
          refine WL.y (Y.fieldAddr fo55_0 rfl) rfl ?_
          refine WL.ung rfl rfl ?_
          refine WL.y (Y.fieldAddr fo27_1 rfl) rfl ?_
          refine WL.ung rfl rfl ?_
          refine WL.y (Y.loadSc ty22 rfl rfl (hf204.cell 1 _ rfl)) rfl ?_
          refine WL.ung rfl rfl ?_
          refine WL.y (Y.gtr_u rfl rfl) rfl ?_
          refine WL.y (Y.pick (b := false) rfl rfl) rfl ?_
          refine WL.ren (v' := .bool (((!r138) || (!r175)) || (decide (r61.X.Zero < r61.Y.Zero)))) 54 rfl (congrArg Value.bool (orF hE201)) ?_
          exact WL.nil (At.join () rfl (.cons rfl (.cons rfl (.cons rfl (.cons rfl (.cons rfl .nil))))))
      · rintro _ _ rfl
        refine (show WL _ _ _ _ _ [(4, .pointer (some ⟨p44, 0, none⟩)), (6, .pointer (some ⟨p83, 0, none⟩)), (7, .pointer (some ⟨p151, 0, none⟩)), (9, .pointer (some ⟨p188, 0, none⟩)), (54, .bool (((!r138) || (!r175)) || (decide (r61.X.Zero < r61.Y.Zero))))] _ from ?_)
        refine WL.nil ?_
        refine At.then ?_
        rcases cnd h with ⟨hc205, h⟩ | ⟨hc205, h⟩
        · refine WC.condT' rfl hc205 ?_
          refine WC.seq ?_
          refine WC.region ?_
          refine WL.y (Y.build (vals := []) (cells := [vi 0, vu 0, vi 0, .slice none 0 0, vi 0, .slice none 0 0]) (Fits.evalp rfl) (by kernel_rfl)) rfl ?_
          have hf206 := hb43.st hst77 rfl
          have hf207 := hf206.st hst86 rfl
          have hf208 := hf207.st hst108 rfl
          have hf209 := hf208.st hst148 rfl
          have hf210 := hf209.st hst154 rfl
          have hf211 := hf210.st hst161 rfl
          have hf212 := hf211.st hst185 rfl
          have hf213 := hf212.st hst191 rfl
          have hf214 := hf213.st hst198 rfl
          refine WL.store (v := .agg [vi 0, vu 0, vi 0, .slice none 0 0, vi 0, .slice none 0 0].toArray) (cells' := [vi 0, vu 0, vi 0, .slice none 0 0, vi 0, .slice none 0 0]) ty27 rfl rfl hf214 rfl (Nat.le_of_ble_eq_true rfl) rfl rfl ?_
          intro wd215 hst216 hb217
          refine WL.y (Y.assign rfl) rfl ?_
          refine WL.nil ?_
          refine At.then ?_
          refine WC.ret ?_
          refine At.thenR ?_
          obtain ⟨rfl, rfl⟩ := tup2 h
          have hs218 : Stp [13, 14, 15, 16] (Lg.O0 A) w O189 wd215 := (Stp.trans (Stp.up hst27 rfl) (Stp.trans (Stp.up hst42 rfl) (Stp.trans (Stp.up hst47 rfl) (Stp.trans (Stp.up hst77 rfl) (Stp.trans (Stp.up hst86 rfl) (Stp.trans (Stp.up hst108 rfl) (Stp.trans (Stp.up hst148 rfl) (Stp.trans (Stp.up hst154 rfl) (Stp.trans (Stp.up hst161 rfl) (Stp.trans (Stp.up hst185 rfl) (Stp.trans (Stp.up hst191 rfl) (Stp.trans (Stp.up hst198 rfl) (Stp.up hst216 rfl)))))))))))))
          exact At.res (.inl rfl) rfl (.cell rfl (hb217.runAg 0 [vi 0, vu 0, vi 0, .slice none 0 0, vi 0, .slice none 0 0] ty27 rfl rfl rfl) (.tmp rfl .nil)) ⟨.slice none 0 0, .slice none 0 0, rfl, (Stp.ext hs218 rfl rfl), (Or.inl ⟨rfl, rfl⟩), (Or.inl ⟨rfl, rfl⟩)⟩
        · refine WC.condF' rfl hc205 ?_
          refine WC.skip ?_
          refine At.then ?_
          refine WC.seq ?_
          refine WC.region ?_
          refine WL.y (Y.fieldAddr fo55_0 rfl) rfl ?_
          refine WL.y (Y.fieldAddr fo27_0 rfl) rfl ?_
          have hf219 := hf165.st hst185 rfl
          have hf220 := hf219.st hst191 rfl
          have hf221 := hf220.st hst198 rfl
          refine WL.y (Y.loadSc ty3 rfl rfl (hf221.cell 0 _ rfl)) rfl ?_
          refine WL.y (Y.fieldAddr fo55_0 rfl) rfl ?_
          refine WL.y (Y.fieldAddr fo27_1 rfl) rfl ?_
          refine WL.y (Y.loadSc ty22 rfl rfl (hf221.cell 1 _ rfl)) rfl ?_
          refine WL.y (Y.fieldAddr fo55_1 rfl) rfl ?_
          refine WL.y (Y.fieldAddr fo27_1 rfl) rfl ?_
          refine WL.y (Y.loadSc ty22 rfl rfl (hf221.cell 7 _ rfl)) rfl ?_
          refine WL.y (Y.sub_u rfl rfl) rfl ?_
          have hf222 := hb162.st hst185 rfl
          have hf223 := hf222.st hst191 rfl
          have hf224 := hf223.st hst198 rfl
          refine WL.y (Y.loadAg ty25 rfl rfl (hf224.cells 0 [vi r137.Offset, (.slice p156 m157 c158)] rfl) rfl) rfl ?_
          refine WL.y (Y.loadAg ty25 rfl rfl (hb199.cells 0 [vi r174.Offset, (.slice p193 m194 c195)] rfl) rfl) rfl ?_
          refine WL.y (Y.build (vals := [(0, vi r61.X.Scale), (1, vu (r61.X.Zero - r61.Y.Zero)), (2, .agg [vi r137.Offset, (.slice p156 m157 c158)].toArray), (3, .agg [vi r174.Offset, (.slice p193 m194 c195)].toArray)]) (cells := [vi r61.X.Scale, vu (r61.X.Zero - r61.Y.Zero), vi r137.Offset, (.slice p156 m157 c158), vi r174.Offset, (.slice p193 m194 c195)]) (Fits.evalp rfl) (by kernel_rfl)) rfl ?_
          have hf225 := hb43.st hst77 rfl
          have hf226 := hf225.st hst86 rfl
          have hf227 := hf226.st hst108 rfl
          have hf228 := hf227.st hst148 rfl
          have hf229 := hf228.st hst154 rfl
          have hf230 := hf229.st hst161 rfl
          have hf231 := hf230.st hst185 rfl
          have hf232 := hf231.st hst191 rfl
          have hf233 := hf232.st hst198 rfl
          refine WL.store (v := .agg [vi r61.X.Scale, vu (r61.X.Zero - r61.Y.Zero), vi r137.Offset, (.slice p156 m157 c158), vi r174.Offset, (.slice p193 m194 c195)].toArray) (cells' := [vi r61.X.Scale, vu (r61.X.Zero - r61.Y.Zero), vi r137.Offset, (.slice p156 m157 c158), vi r174.Offset, (.slice p193 m194 c195)]) ty27 rfl rfl hf233 rfl (Nat.le_of_ble_eq_true rfl) rfl rfl ?_
          intro wd234 hst235 hb236
          refine WL.y (Y.assign rfl) rfl ?_
          refine WL.nil ?_
          refine At.then ?_
          refine WC.ret ?_
          obtain ⟨rfl, rfl⟩ := tup2 h
          have hs237 : Stp [13, 14, 15, 16] (Lg.O0 A) w O189 wd234 := (Stp.trans (Stp.up hst27 rfl) (Stp.trans (Stp.up hst42 rfl) (Stp.trans (Stp.up hst47 rfl) (Stp.trans (Stp.up hst77 rfl) (Stp.trans (Stp.up hst86 rfl) (Stp.trans (Stp.up hst108 rfl) (Stp.trans (Stp.up hst148 rfl) (Stp.trans (Stp.up hst154 rfl) (Stp.trans (Stp.up hst161 rfl) (Stp.trans (Stp.up hst185 rfl) (Stp.trans (Stp.up hst191 rfl) (Stp.trans (Stp.up hst198 rfl) (Stp.up hst235 rfl)))))))))))))
          have hf238 := hf155.mono (frs_st hst161 rfl)
          have hf239 := hf238.mono (frs_st hst185 rfl)
          have hf240 := hf239.mono (frs_st hst191 rfl)
          have hf241 := hf240.mono (frs_st hst198 rfl)
          have hf242 := hf241.mono (frs_st hst235 rfl)
          have hf243 := hf192.mono (frs_st hst198 rfl)
          have hf244 := hf243.mono (frs_st hst235 rfl)
          exact At.res (.inl rfl) rfl (.cell rfl (hb236.runAg 0 [vi r61.X.Scale, vu (r61.X.Zero - r61.Y.Zero), vi r137.Offset, (.slice p156 m157 c158), vi r174.Offset, (.slice p193 m194 c195)] ty27 rfl rfl rfl) (.tmp rfl .nil)) ⟨(.slice p156 m157 c158), (.slice p193 m194 c195), rfl, (Stp.ext hs237 rfl rfl), (Sl.outF hf242 hs237 low0), (Sl.outF hf244 hs237 low0)⟩

theorem c_law09_FoldMerges {A : Nat → Prop} {v0_3 : Value} {v0_5 : Value} {a0 : api_Hist} {v1_3 : Value} {v1_5 : Value} {a1 : api_Hist} {w : World} (hs0_3 : Sl Rep.u w A v0_3 a0.Pos.Counts) (hs0_5 : Sl Rep.u w A v0_5 a0.Neg.Counts) (hs1_3 : Sl Rep.u w A v1_3 a1.Pos.Counts) (hs1_5 : Sl Rep.u w A v1_5 a1.Neg.Counts) {r0 : Bool} (h : law09_FoldMerges a0 a1 = some r0) : Rets Try.prog 10 [.agg [vi a0.Scale, vu a0.Zero, vi a0.Pos.Offset, v0_3, vi a0.Neg.Offset, v0_5].toArray, .agg [vi a1.Scale, vu a1.Zero, vi a1.Pos.Offset, v1_3, vi a1.Neg.Offset, v1_5].toArray] w (fun v w' => v = .bool r0 ∧ Ext w w') := by
  unfold law09_FoldMerges at h
  refine Rets.enter Try.func10 rfl rfl ?_
  have hf11 : Sl Rep.u w (imm (Lg.O0 A)) v0_3 a0.Pos.Counts := (Sl.start hs0_3)
  have hf12 : Sl Rep.u w (imm (Lg.O0 A)) v0_5 a0.Neg.Counts := (Sl.start hs0_5)
  have hf13 : Sl Rep.u w (imm (Lg.O0 A)) v1_3 a1.Pos.Counts := (Sl.start hs1_3)
  have hf14 : Sl Rep.u w (imm (Lg.O0 A)) v1_5 a1.Neg.Counts := (Sl.start hs1_5)
  refine (show WC _ _ _ _ [(0, .agg [vi a0.Scale, vu a0.Zero, vi a0.Pos.Offset, v0_3, vi a0.Neg.Offset, v0_5].toArray), (1, .agg [vi a1.Scale, vu a1.Zero, vi a1.Pos.Offset, v1_3, vi a1.Neg.Offset, v1_5].toArray)] _ from ?_)
  refine WC.seq ?_
  refine WC.region ?_
  have hh18 := h
  obtain ⟨p15, m16, c17, rfl⟩ := hf11.shape
  have h := hh18
  have hh22 := h
  obtain ⟨p19, m20, c21, rfl⟩ := hf12.shape
  have h := hh22
  refine WL.box (O := (Lg.O0 A)) 11 [vi a0.Scale, vu a0.Zero, vi a0.Pos.Offset, (.slice p15 m16 c17), vi a0.Neg.Offset, (.slice p19 m20 c21)] rfl rfl rfl ?_
  intro p24 O25 wd26 hst27 hb23
  have hf28 := hf13.mono (imm_st hst27 rfl rfl)
  have hh32 := h
  obtain ⟨p29, m30, c31, rfl⟩ := hf28.shape
  have h := hh32
  have hf33 := hf14.mono (imm_st hst27 rfl rfl)
  have hh37 := h
  obtain ⟨p34, m35, c36, rfl⟩ := hf33.shape
  have h := hh37
  refine WL.box (O := O25) 12 [vi a1.Scale, vu a1.Zero, vi a1.Pos.Offset, (.slice p29 m30 c31), vi a1.Neg.Offset, (.slice p34 m35 c36)] rfl rfl rfl ?_
  intro p39 O40 wd41 hst42 hb38
  refine WL.y (Y.assign rfl) rfl ?_
  refine WL.nil ?_
  refine At.then ?_
  refine WC.seq ?_
  refine WC.seq ?_
  refine WC.region ?_
  obtain ⟨r43, hp44, h⟩ := bnd h
  refine WL.call (vals := []) kok37 rfl rfl (c_law09_awake hp44) ?_
  rintro vr47 wd46 ⟨rfl, hm45⟩
  obtain ⟨O48, hold49, hnew50, hst51⟩ := adoptE O40 (fun k => 1) hm45
  refine WL.y (Y.not rfl) rfl ?_
  refine WL.nil ?_
  refine At.then ?_
  rcases cnd h with ⟨hc52, h⟩ | ⟨hc52, h⟩
  · refine WC.condT' rfl hc52 ?_
    refine WC.seq ?_
    refine WC.region ?_
    refine WL.y (Y.assign rfl) rfl ?_
    refine WL.nil ?_
    refine At.then ?_
    refine WC.ret ?_
    refine At.thenR ?_
    obtain rfl := some1 h
    have hs53 : Stp [] (Lg.O0 A) w O48 wd46 := (Stp.trans (Stp.up hst27 rfl) (Stp.trans (Stp.up hst42 rfl) (Stp.up hst51 rfl)))
    exact At.res (.inl rfl) rfl (.tmp rfl .nil) ⟨rfl, (Stp.ext hs53 rfl rfl)⟩
  · refine WC.condF' rfl hc52 ?_
    refine WC.skip ?_
    refine At.then ?_
    refine WC.seq ?_
    refine WC.seq ?_
    refine WC.region ?_
    have hf54 := hb23.st hst42 rfl
    have hf55 := hf54.st hst51 rfl
    refine WL.y (Y.loadAg ty27 rfl rfl (hf55.cells 0 [vi a0.Scale, vu a0.Zero, vi a0.Pos.Offset, (.slice p15 m16 c17), vi a0.Neg.Offset, (.slice p19 m20 c21)] rfl) rfl) rfl ?_
    have hf56 := hf11.mono (imm_st hst27 rfl rfl)
    have hf57 := hf56.mono (imm_st hst42 rfl rfl)
    have hf58 := hf57.mono (imm_st hst51 rfl rfl)
    have hf59 := hf12.mono (imm_st hst27 rfl rfl)
    have hf60 := hf59.mono (imm_st hst42 rfl rfl)
    have hf61 := hf60.mono (imm_st hst51 rfl rfl)
    obtain ⟨r62, hp63, h⟩ := bnd h
    refine WL.call (vals := [.agg [vi a0.Scale, vu a0.Zero, vi a0.Pos.Offset, (.slice p15 m16 c17), vi a0.Neg.Offset, (.slice p19 m20 c21)].toArray]) kok16 rfl rfl (c_ref08_Light (A := fun _ => True) (a0 := a0) (Sl.all hf58) (Sl.all hf61) hp63) ?_
    rintro vr66 wd65 ⟨rfl, hm64⟩
    obtain ⟨O67, hold68, hnew69, hst70⟩ := adoptE O48 (fun k => 1) hm64
    refine WL.y (Y.not rfl) rfl ?_
    refine WL.y (Y.move rfl) rfl ?_
    obtain ⟨p75, h, hk76⟩ := bnd h
    refine WL.cut 4 (σ := (Bool × Own)) (fun x w' => x.1 = p75 ∧ Stp [] O67 wd65 x.2 w') (fun x => [(2, .pointer (some ⟨p24, 0, none⟩)), (3, .pointer (some ⟨p39, 0, none⟩)), (22, .bool x.1)]) ?_ ?_
    · rcases cnd h with ⟨hE77, h⟩ | ⟨hE77, h⟩
      · refine WL.ren 18 rfl (congrArg Value.bool hE77) ?_
        refine WL.gS rfl rfl rfl rfl ?_
        refine WL.gS rfl rfl rfl rfl ?_
        refine WL.gS rfl rfl rfl rfl ?_
        refine WL.y (Y.pick (b := true) rfl rfl) rfl ?_
        exact WL.nil (At.join (σ := (Bool × Own)) (true, O67) ⟨some1 h, (Stp.refl _ _ _)⟩ (.cons rfl (.cons rfl (.cons rfl .nil))))
      · refine WL.ren 18 rfl (congrArg Value.bool hE77) ?_
        refine WL.ung rfl rfl ?_
        have hf78 := hb38.st hst51 rfl
        have hf79 := hf78.st hst70 rfl
        refine WL.y (Y.loadAg ty27 rfl rfl (hf79.cells 0 [vi a1.Scale, vu a1.Zero, vi a1.Pos.Offset, (.slice p29 m30 c31), vi a1.Neg.Offset, (.slice p34 m35 c36)] rfl) rfl) rfl ?_
        refine WL.ung rfl rfl ?_
        have hf80 := hf28.mono (imm_st hst42 rfl rfl)
        have hf81 := hf80.mono (imm_st hst51 rfl rfl)
        have hf82 := hf81.mono (imm_st hst70 rfl rfl)
        have hf83 := hf33.mono (imm_st hst42 rfl rfl)
        have hf84 := hf83.mono (imm_st hst51 rfl rfl)
        have hf85 := hf84.mono (imm_st hst70 rfl rfl)
        obtain ⟨r86, hp87, h⟩ := bnd h
        refine WL.call (vals := [.agg [vi a1.Scale, vu a1.Zero, vi a1.Pos.Offset, (.slice p29 m30 c31), vi a1.Neg.Offset, (.slice p34 m35 c36)].toArray]) kok16 rfl rfl (c_ref08_Light (A := fun _ => True) (a0 := a1) (Sl.all hf82) (Sl.all hf85) hp87) ?_
        rintro vr90 wd89 ⟨rfl, hm88⟩
        obtain ⟨O91, hold92, hnew93, hst94⟩ := adoptE O67 (fun k => 1) hm88
        refine WL.ung rfl rfl ?_
        refine WL.y (Y.not rfl) rfl ?_
        refine WL.y (Y.pick (b := false) rfl rfl) rfl ?_
        exact WL.nil (At.join (σ := (Bool × Own)) ((!r86), O91) ⟨some1 h, (Stp.up hst94 rfl)⟩ (.cons rfl (.cons rfl (.cons rfl .nil))))
    · rintro ⟨x71, O72⟩ wd73 ⟨rfl, hst74⟩
      replace h := hk76
      try dsimp only at h hst74
      refine (show WL _ _ _ _ _ [(2, .pointer (some ⟨p24, 0, none⟩)), (3, .pointer (some ⟨p39, 0, none⟩)), (22, .bool x71)] _ from ?_)
      refine WL.nil ?_
      refine At.then ?_
      rcases cnd h with ⟨hc95, h⟩ | ⟨hc95, h⟩
      · refine WC.condT' rfl hc95 ?_
        refine WC.seq ?_
        refine WC.region ?_
        refine WL.y (Y.assign rfl) rfl ?_
        refine WL.nil ?_
        refine At.then ?_
        refine WC.ret ?_
        refine At.thenR ?_
        obtain rfl := some1 h
        have hs96 : Stp [] (Lg.O0 A) w O72 wd73 := (Stp.trans (Stp.up hst27 rfl) (Stp.trans (Stp.up hst42 rfl) (Stp.trans (Stp.up hst51 rfl) (Stp.trans (Stp.up hst70 rfl) (Stp.up hst74 rfl)))))
        exact At.res (.inl rfl) rfl (.tmp rfl .nil) ⟨rfl, (Stp.ext hs96 rfl rfl)⟩
      · refine WC.condF' rfl hc95 ?_
        refine WC.skip ?_
        refine At.then ?_
        refine WC.seq ?_
        refine WC.region ?_
        have hf97 := hf55.st hst70 rfl
        have hf98 := hf97.st hst74 rfl
        refine WL.y (Y.loadAg ty27 rfl rfl (hf98.cells 0 [vi a0.Scale, vu a0.Zero, vi a0.Pos.Offset, (.slice p15 m16 c17), vi a0.Neg.Offset, (.slice p19 m20 c21)] rfl) rfl) rfl ?_
        have hf99 := hb38.st hst51 rfl
        have hf100 := hf99.st hst70 rfl
        have hf101 := hf100.st hst74 rfl
        refine WL.y (Y.loadAg ty27 rfl rfl (hf101.cells 0 [vi a1.Scale, vu a1.Zero, vi a1.Pos.Offset, (.slice p29 m30 c31), vi a1.Neg.Offset, (.slice p34 m35 c36)] rfl) rfl) rfl ?_
        have hf102 := hf58.mono (imm_st hst70 rfl rfl)
        have hf103 := hf102.mono (imm_st hst74 rfl rfl)
        have hf104 := hf61.mono (imm_st hst70 rfl rfl)
        have hf105 := hf104.mono (imm_st hst74 rfl rfl)
        have hf106 := hf28.mono (imm_st hst42 rfl rfl)
        have hf107 := hf106.mono (imm_st hst51 rfl rfl)
        have hf108 := hf107.mono (imm_st hst70 rfl rfl)
        have hf109 := hf108.mono (imm_st hst74 rfl rfl)
        have hf110 := hf33.mono (imm_st hst42 rfl rfl)
        have hf111 := hf110.mono (imm_st hst51 rfl rfl)
        have hf112 := hf111.mono (imm_st hst70 rfl rfl)
        have hf113 := hf112.mono (imm_st hst74 rfl rfl)
        obtain ⟨⟨r114, r115⟩, hp116, h⟩ := bnd h
        refine WL.call (vals := [.agg [vi a0.Scale, vu a0.Zero, vi a0.Pos.Offset, (.slice p15 m16 c17), vi a0.Neg.Offset, (.slice p19 m20 c21)].toArray, .agg [vi a1.Scale, vu a1.Zero, vi a1.Pos.Offset, (.slice p29 m30 c31), vi a1.Neg.Offset, (.slice p34 m35 c36)].toArray]) kok40 rfl rfl (c_fold_Merge (A := fun _ => True) (a0 := a0) (a1 := a1) (Sl.all hf103) (Sl.all hf105) (Sl.all hf109) (Sl.all hf113) hp116) ?_
        rintro vr123 wd122 ⟨u117, u118, rfl, hm121, f119, f120⟩
        obtain ⟨O124, hold125, hnew126, hst127⟩ := adoptE O72 (fun k => 1) hm121
        have hf128 : Sl Rep.u wd122 (frs O124) u117 r114.Pos.Counts := Sl.adoptF f119 (fun k hk => ⟨hk, rfl⟩) hnew126
        have hf129 : Sl Rep.u wd122 (frs O124) u118 r114.Neg.Counts := Sl.adoptF f120 (fun k hk => ⟨hk, rfl⟩) hnew126
        refine WL.y (Y.move rfl) rfl ?_
        refine WL.y (Y.extract rfl rfl) rfl ?_
        refine WL.y (Y.extract rfl rfl) rfl ?_
        refine WL.alloc (O := O124) 13 [vi 0, vu 0, vi 0, .slice none 0 0, vi 0, .slice none 0 0] ty27 rfl rfl ?_
        intro p131 O132 wd133 hst134 hb130
        have hf135 := hf128.mono (frs_st hst134 rfl)
        have hh139 := h
        obtain ⟨p136, m137, c138, rfl⟩ := hf135.shape
        have h := hh139
        have hf140 := hf129.mono (frs_st hst134 rfl)
        have hh144 := h
        obtain ⟨p141, m142, c143, rfl⟩ := hf140.shape
        have h := hh144
        refine WL.store (v := .agg [vi r114.Scale, vu r114.Zero, vi r114.Pos.Offset, (.slice p136 m137 c138), vi r114.Neg.Offset, (.slice p141 m142 c143)].toArray) (cells' := [vi r114.Scale, vu r114.Zero, vi r114.Pos.Offset, (.slice p136 m137 c138), vi r114.Neg.Offset, (.slice p141 m142 c143)]) ty27 rfl rfl hb130 rfl (Nat.le_of_ble_eq_true rfl) rfl rfl ?_
        intro wd145 hst146 hb147
        refine WL.y (Y.assign rfl) rfl ?_
        refine WL.nil ?_
        refine At.then ?_
        refine WC.seq ?_
        refine WC.region ?_
        have hf148 := hf98.st hst127 rfl
        have hf149 := hf148.st hst134 rfl
        have hf150 := hf149.st hst146 rfl
        refine WL.y (Y.loadAg ty27 rfl rfl (hf150.cells 0 [vi a0.Scale, vu a0.Zero, vi a0.Pos.Offset, (.slice p15 m16 c17), vi a0.Neg.Offset, (.slice p19 m20 c21)] rfl) rfl) rfl ?_
        have hf151 := hf101.st hst127 rfl
        have hf152 := hf151.st hst134 rfl
        have hf153 := hf152.st hst146 rfl
        refine WL.y (Y.loadAg ty27 rfl rfl (hf153.cells 0 [vi a1.Scale, vu a1.Zero, vi a1.Pos.Offset, (.slice p29 m30 c31), vi a1.Neg.Offset, (.slice p34 m35 c36)] rfl) rfl) rfl ?_
        have hf154 := hf103.mono (imm_st hst127 rfl rfl)
        have hf155 := hf154.mono (imm_st hst134 rfl rfl)
        have hf156 := hf155.mono (imm_st hst146 rfl rfl)
        have hf157 := hf105.mono (imm_st hst127 rfl rfl)
        have hf158 := hf157.mono (imm_st hst134 rfl rfl)
        have hf159 := hf158.mono (imm_st hst146 rfl rfl)
        have hf160 := hf109.mono (imm_st hst127 rfl rfl)
        have hf161 := hf160.mono (imm_st hst134 rfl rfl)
        have hf162 := hf161.mono (imm_st hst146 rfl rfl)
        have hf163 := hf113.mono (imm_st hst127 rfl rfl)
        have hf164 := hf163.mono (imm_st hst134 rfl rfl)
        have hf165 := hf164.mono (imm_st hst146 rfl rfl)
        obtain ⟨⟨r166, r167⟩, hp168, h⟩ := bnd h
        refine WL.call (vals := [.agg [vi a0.Scale, vu a0.Zero, vi a0.Pos.Offset, (.slice p15 m16 c17), vi a0.Neg.Offset, (.slice p19 m20 c21)].toArray, .agg [vi a1.Scale, vu a1.Zero, vi a1.Pos.Offset, (.slice p29 m30 c31), vi a1.Neg.Offset, (.slice p34 m35 c36)].toArray]) kok41 rfl rfl (c_ref09_Merge (A := fun _ => True) (a0 := a0) (a1 := a1) (Sl.all hf156) (Sl.all hf159) (Sl.all hf162) (Sl.all hf165) hp168) ?_
        rintro vr175 wd174 ⟨u169, u170, rfl, hm173, f171, f172⟩
        obtain ⟨O176, hold177, hnew178, hst179⟩ := adoptE O132 (fun k => 1) hm173
        have hf180 : Sl Rep.u wd174 (frs O176) u169 r166.Pos.Counts := Sl.adoptF f171 (fun k hk => ⟨hk, rfl⟩) hnew178
        have hf181 : Sl Rep.u wd174 (frs O176) u170 r166.Neg.Counts := Sl.adoptF f172 (fun k hk => ⟨hk, rfl⟩) hnew178
        refine WL.y (Y.move rfl) rfl ?_
        refine WL.y (Y.extract rfl rfl) rfl ?_
        refine WL.y (Y.extract rfl rfl) rfl ?_
        refine WL.alloc (O := O176) 14 [vi 0, vu 0, vi 0, .slice none 0 0, vi 0, .slice none 0 0] ty27 rfl rfl ?_
        intro p183 O184 wd185 hst186 hb182
        have hf187 := hf180.mono (frs_st hst186 rfl)
        have hh191 := h
        obtain ⟨p188, m189, c190, rfl⟩ := hf187.shape
        have h := hh191
        have hf192 := hf181.mono (frs_st hst186 rfl)
        have hh196 := h
        obtain ⟨p193, m194, c195, rfl⟩ := hf192.shape
        have h := hh196
        refine WL.store (v := .agg [vi r166.Scale, vu r166.Zero, vi r166.Pos.Offset, (.slice p188 m189 c190), vi r166.Neg.Offset, (.slice p193 m194 c195)].toArray) (cells' := [vi r166.Scale, vu r166.Zero, vi r166.Pos.Offset, (.slice p188 m189 c190), vi r166.Neg.Offset, (.slice p193 m194 c195)]) ty27 rfl rfl hb182 rfl (Nat.le_of_ble_eq_true rfl) rfl rfl ?_
        intro wd197 hst198 hb199
        refine WL.y (Y.assign rfl) rfl ?_
        refine WL.nil ?_
        refine At.then ?_
        refine WC.seq ?_
        refine WC.region ?_
        have hf200 := hf150.st hst179 rfl
        have hf201 := hf200.st hst186 rfl
        have hf202 := hf201.st hst198 rfl
        refine WL.y (Y.loadAg ty27 rfl rfl (hf202.cells 0 [vi a0.Scale, vu a0.Zero, vi a0.Pos.Offset, (.slice p15 m16 c17), vi a0.Neg.Offset, (.slice p19 m20 c21)] rfl) rfl) rfl ?_
        have hf203 := hf153.st hst179 rfl
        have hf204 := hf203.st hst186 rfl
        have hf205 := hf204.st hst198 rfl
        refine WL.y (Y.loadAg ty27 rfl rfl (hf205.cells 0 [vi a1.Scale, vu a1.Zero, vi a1.Pos.Offset, (.slice p29 m30 c31), vi a1.Neg.Offset, (.slice p34 m35 c36)] rfl) rfl) rfl ?_
        have hf206 := hf156.mono (imm_st hst179 rfl rfl)
        have hf207 := hf206.mono (imm_st hst186 rfl rfl)
        have hf208 := hf207.mono (imm_st hst198 rfl rfl)
        have hf209 := hf159.mono (imm_st hst179 rfl rfl)
        have hf210 := hf209.mono (imm_st hst186 rfl rfl)
        have hf211 := hf210.mono (imm_st hst198 rfl rfl)
        have hf212 := hf162.mono (imm_st hst179 rfl rfl)
        have hf213 := hf212.mono (imm_st hst186 rfl rfl)
        have hf214 := hf213.mono (imm_st hst198 rfl rfl)
        have hf215 := hf165.mono (imm_st hst179 rfl rfl)
        have hf216 := hf215.mono (imm_st hst186 rfl rfl)
        have hf217 := hf216.mono (imm_st hst198 rfl rfl)
        obtain ⟨⟨r218, r219⟩, hp220, h⟩ := bnd h
        refine WL.call (vals := [.agg [vi a0.Scale, vu a0.Zero, vi a0.Pos.Offset, (.slice p15 m16 c17), vi a0.Neg.Offset, (.slice p19 m20 c21)].toArray, .agg [vi a1.Scale, vu a1.Zero, vi a1.Pos.Offset, (.slice p29 m30 c31), vi a1.Neg.Offset, (.slice p34 m35 c36)].toArray]) kok42 rfl rfl (c_fold_Sub (A := fun _ => True) (a0 := a0) (a1 := a1) (Sl.all hf208) (Sl.all hf211) (Sl.all hf214) (Sl.all hf217) hp220) ?_
        rintro vr227 wd226 ⟨u221, u222, rfl, hm225, f223, f224⟩
        obtain ⟨O228, hold229, hnew230, hst231⟩ := adoptE O184 (fun k => 1) hm225
        have hf232 : Sl Rep.u wd226 (frs O228) u221 r218.Pos.Counts := Sl.adoptF f223 (fun k hk => ⟨hk, rfl⟩) hnew230
        have hf233 : Sl Rep.u wd226 (frs O228) u222 r218.Neg.Counts := Sl.adoptF f224 (fun k hk => ⟨hk, rfl⟩) hnew230
        refine WL.y (Y.move rfl) rfl ?_
        refine WL.y (Y.extract rfl rfl) rfl ?_
        refine WL.y (Y.extract rfl rfl) rfl ?_
        refine WL.alloc (O := O228) 15 [vi 0, vu 0, vi 0, .slice none 0 0, vi 0, .slice none 0 0] ty27 rfl rfl ?_
        intro p235 O236 wd237 hst238 hb234
        have hf239 := hf232.mono (frs_st hst238 rfl)
        have hh243 := h
        obtain ⟨p240, m241, c242, rfl⟩ := hf239.shape
        have h := hh243
        have hf244 := hf233.mono (frs_st hst238 rfl)
        have hh248 := h
        obtain ⟨p245, m246, c247, rfl⟩ := hf244.shape
        have h := hh248
        refine WL.store (v := .agg [vi r218.Scale, vu r218.Zero, vi r218.Pos.Offset, (.slice p240 m241 c242), vi r218.Neg.Offset, (.slice p245 m246 c247)].toArray) (cells' := [vi r218.Scale, vu r218.Zero, vi r218.Pos.Offset, (.slice p240 m241 c242), vi r218.Neg.Offset, (.slice p245 m246 c247)]) ty27 rfl rfl hb234 rfl (Nat.le_of_ble_eq_true rfl) rfl rfl ?_
        intro wd249 hst250 hb251
        refine WL.y (Y.assign rfl) rfl ?_
        refine WL.nil ?_
        refine At.then ?_
        refine WC.seq ?_
        refine WC.region ?_
        have hf252 := hf202.st hst231 rfl
        have hf253 := hf252.st hst238 rfl
        have hf254 := hf253.st hst250 rfl
        refine WL.y (Y.loadAg ty27 rfl rfl (hf254.cells 0 [vi a0.Scale, vu a0.Zero, vi a0.Pos.Offset, (.slice p15 m16 c17), vi a0.Neg.Offset, (.slice p19 m20 c21)] rfl) rfl) rfl ?_
        have hf255 := hf205.st hst231 rfl
        have hf256 := hf255.st hst238 rfl
        have hf257 := hf256.st hst250 rfl
        refine WL.y (Y.loadAg ty27 rfl rfl (hf257.cells 0 [vi a1.Scale, vu a1.Zero, vi a1.Pos.Offset, (.slice p29 m30 c31), vi a1.Neg.Offset, (.slice p34 m35 c36)] rfl) rfl) rfl ?_
        have hf258 := hf208.mono (imm_st hst231 rfl rfl)
        have hf259 := hf258.mono (imm_st hst238 rfl rfl)
        have hf260 := hf259.mono (imm_st hst250 rfl rfl)
        have hf261 := hf211.mono (imm_st hst231 rfl rfl)
        have hf262 := hf261.mono (imm_st hst238 rfl rfl)
        have hf263 := hf262.mono (imm_st hst250 rfl rfl)
        have hf264 := hf214.mono (imm_st hst231 rfl rfl)
        have hf265 := hf264.mono (imm_st hst238 rfl rfl)
        have hf266 := hf265.mono (imm_st hst250 rfl rfl)
        have hf267 := hf217.mono (imm_st hst231 rfl rfl)
        have hf268 := hf267.mono (imm_st hst238 rfl rfl)
        have hf269 := hf268.mono (imm_st hst250 rfl rfl)
        obtain ⟨⟨r270, r271⟩, hp272, h⟩ := bnd h
        refine WL.call (vals := [.agg [vi a0.Scale, vu a0.Zero, vi a0.Pos.Offset, (.slice p15 m16 c17), vi a0.Neg.Offset, (.slice p19 m20 c21)].toArray, .agg [vi a1.Scale, vu a1.Zero, vi a1.Pos.Offset, (.slice p29 m30 c31), vi a1.Neg.Offset, (.slice p34 m35 c36)].toArray]) kok43 rfl rfl (c_ref09_Sub (A := fun _ => True) (a0 := a0) (a1 := a1) (Sl.all hf260) (Sl.all hf263) (Sl.all hf266) (Sl.all hf269) hp272) ?_
        rintro vr279 wd278 ⟨u273, u274, rfl, hm277, f275, f276⟩
        obtain ⟨O280, hold281, hnew282, hst283⟩ := adoptE O236 (fun k => 1) hm277
        have hf284 : Sl Rep.u wd278 (frs O280) u273 r270.Pos.Counts := Sl.adoptF f275 (fun k hk => ⟨hk, rfl⟩) hnew282
        have hf285 : Sl Rep.u wd278 (frs O280) u274 r270.Neg.Counts := Sl.adoptF f276 (fun k hk => ⟨hk, rfl⟩) hnew282
        refine WL.y (Y.move rfl) rfl ?_
        refine WL.y (Y.extract rfl rfl) rfl ?_
        refine WL.y (Y.extract rfl rfl) rfl ?_
        refine WL.alloc (O := O280) 16 [vi 0, vu 0, vi 0, .slice none 0 0, vi 0, .slice none 0 0] ty27 rfl rfl ?_
        intro p287 O288 wd289 hst290 hb286
        have hf291 := hf284.mono (frs_st hst290 rfl)
        have hh295 := h
        obtain ⟨p292, m293, c294, rfl⟩ := hf291.shape
        have h := hh295
        have hf296 := hf285.mono (frs_st hst290 rfl)
        have hh300 := h
        obtain ⟨p297, m298, c299, rfl⟩ := hf296.shape
        have h := hh300
        refine WL.store (v := .agg [vi r270.Scale, vu r270.Zero, vi r270.Pos.Offset, (.slice p292 m293 c294), vi r270.Neg.Offset, (.slice p297 m298 c299)].toArray) (cells' := [vi r270.Scale, vu r270.Zero, vi r270.Pos.Offset, (.slice p292 m293 c294), vi r270.Neg.Offset, (.slice p297 m298 c299)]) ty27 rfl rfl hb286 rfl (Nat.le_of_ble_eq_true rfl) rfl rfl ?_
        intro wd301 hst302 hb303
        refine WL.y (Y.assign rfl) rfl ?_
        refine WL.nil ?_
        refine At.then ?_
        refine WC.seq ?_
        refine WC.drawH [] [0, 1, 2, 3, 4, 5, 6, 7, 8, 9, 10, 11, 12, 13, 14, 15, 16, 17, 18, 19, 20, 21, 22, 23, 24, 25, 26, 27, 28, 29, 30, 31, 32, 33, 34, 35, 36, 37, 38, 39, 40] O288 41 fmix rfl (by kernel_rfl) ?_
        intro wd304 hst305
        refine WD.y 0 rfl (by kernel_rfl) (fun wd307 O306 hst308 => have hf309 := hb147.st hst179 rfl; have hf310 := hf309.st hst186 rfl; have hf311 := hf310.st hst198 rfl; have hf312 := hf311.st hst231 rfl; have hf313 := hf312.st hst238 rfl; have hf314 := hf313.st hst250 rfl; have hf315 := hf314.st hst283 rfl; have hf316 := hf315.st hst290 rfl; have hf317 := hf316.st hst302 rfl; have hf318 := hf317.st hst305 rfl; have hf319 := hf318.st hst308 rfl; Y.loadAg ty27 rfl rfl (hf319.cells 0 [vi r114.Scale, vu r114.Zero, vi r114.Pos.Offset, (.slice p136 m137 c138), vi r114.Neg.Offset, (.slice p141 m142 c143)] rfl) rfl) rfl ?_
        refine WD.y 1 rfl (by kernel_rfl) (fun wd321 O320 hst322 => have hf323 := hb199.st hst231 rfl; have hf324 := hf323.st hst238 rfl; have hf325 := hf324.st hst250 rfl; have hf326 := hf325.st hst283 rfl; have hf327 := hf326.st hst290 rfl; have hf328 := hf327.st hst302 rfl; have hf329 := hf328.st hst305 rfl; have hf330 := hf329.st hst322 rfl; Y.loadAg ty27 rfl rfl (hf330.cells 0 [vi r166.Scale, vu r166.Zero, vi r166.Pos.Offset, (.slice p188 m189 c190), vi r166.Neg.Offset, (.slice p193 m194 c195)] rfl) rfl) rfl ?_
        refine WD.heavy 2 rfl (by kernel_rfl) ?_
        have hf331 := hf135.mono (frs_st hst146 rfl)
        have hf332 := hf331.mono (frs_st hst179 rfl)
        have hf333 := hf332.mono (frs_st hst186 rfl)
        have hf334 := hf333.mono (frs_st hst198 rfl)
        have hf335 := hf334.mono (frs_st hst231 rfl)
        have hf336 := hf335.mono (frs_st hst238 rfl)
        have hf337 := hf336.mono (frs_st hst250 rfl)
        have hf338 := hf337.mono (frs_st hst283 rfl)
        have hf339 := hf338.mono (frs_st hst290 rfl)
        have hf340 := hf339.mono (frs_st hst302 rfl)
        have hf341 := hf340.mono (frs_st hst305 rfl)
        have hf342 := hf140.mono (frs_st hst146 rfl)
        have hf343 := hf342.mono (frs_st hst179 rfl)
        have hf344 := hf343.mono (frs_st hst186 rfl)
        have hf345 := hf344.mono (frs_st hst198 rfl)
        have hf346 := hf345.mono (frs_st hst231 rfl)
        have hf347 := hf346.mono (frs_st hst238 rfl)
        have hf348 := hf347.mono (frs_st hst250 rfl)
        have hf349 := hf348.mono (frs_st hst283 rfl)
        have hf350 := hf349.mono (frs_st hst290 rfl)
        have hf351 := hf350.mono (frs_st hst302 rfl)
        have hf352 := hf351.mono (frs_st hst305 rfl)
        have hf353 := hf187.mono (frs_st hst198 rfl)
        have hf354 := hf353.mono (frs_st hst231 rfl)
        have hf355 := hf354.mono (frs_st hst238 rfl)
        have hf356 := hf355.mono (frs_st hst250 rfl)
        have hf357 := hf356.mono (frs_st hst283 rfl)
        have hf358 := hf357.mono (frs_st hst290 rfl)
        have hf359 := hf358.mono (frs_st hst302 rfl)
        have hf360 := hf359.mono (frs_st hst305 rfl)
        have hf361 := hf192.mono (frs_st hst198 rfl)
        have hf362 := hf361.mono (frs_st hst231 rfl)
        have hf363 := hf362.mono (frs_st hst238 rfl)
        have hf364 := hf363.mono (frs_st hst250 rfl)
        have hf365 := hf364.mono (frs_st hst283 rfl)
        have hf366 := hf365.mono (frs_st hst290 rfl)
        have hf367 := hf366.mono (frs_st hst302 rfl)
        have hf368 := hf367.mono (frs_st hst305 rfl)
        obtain ⟨r369, hp370, h⟩ := bnd h
        refine WL.call (vals := [.agg [vi r114.Scale, vu r114.Zero, vi r114.Pos.Offset, (.slice p136 m137 c138), vi r114.Neg.Offset, (.slice p141 m142 c143)].toArray, .agg [vi r166.Scale, vu r166.Zero, vi r166.Pos.Offset, (.slice p188 m189 c190), vi r166.Neg.Offset, (.slice p193 m194 c195)].toArray]) kok22 rfl rfl (c_ref08_Same (A := fun _ => True) (a0 := r114) (a1 := r166) (Sl.all hf341) (Sl.all hf352) (Sl.all hf360) (Sl.all hf368) hp370) ?_
        rintro vr373 wd372 ⟨rfl, hm371⟩
        obtain ⟨O374, hold375, hnew376, hst377⟩ := adoptE O288 (fun k => 1) hm371
        refine WL.nil ?_
        refine At.dq (Stp.up hst377 rfl) ?_
        refine WD.y 3 rfl (by kernel_rfl) (fun _ _ _ => Y.move rfl) rfl ?_
        refine WD.join (σ := Unit) (f' := 33) [7, 6, 5, 4, 3, 2, 1, 0] (fun _ O' w' => O374 = O' ∧ wd372 = w') (fun _ => [(2, .pointer (some ⟨p24, 0, none⟩)), (9, .pointer (some ⟨p235, 0, none⟩)), (10, vi r219), (11, .pointer (some ⟨p287, 0, none⟩)), (12, vi r271), (54, .bool (r369 && (decide (r115 = r167))))]) (fun hJ381 => ?_) ?_
        · refine WD.part 50 rfl (fun hE382 => ?_) (fun hE382 => ?_)
          · refine WD.gT 4 rfl (by kernel_rfl) rfl rfl (fun _ _ _ => Y.move rfl) rfl ?_
            refine WD.gT 5 rfl (by kernel_rfl) rfl rfl (fun _ _ _ => Y.move rfl) rfl ?_
            refine WD.gT 6 rfl (by kernel_rfl) rfl rfl (fun _ _ _ => Y.eql_i rfl rfl) rfl ?_
            refine WD.y 7 rfl (by kernel_rfl) (fun _ _ _ => Y.pick (b := true) rfl rfl) rfl ?_
            refine WD.ren (v' := .bool (r369 && (decide (r115 = r167)))) 54 rfl (congrArg Value.bool (andT hE382)) ?_
            exact hJ381 () _ _ _ ⟨rfl, rfl⟩ (.cons rfl (.cons rfl (.cons rfl (.cons rfl (.cons rfl (.cons rfl .nil))))))
          · refine WD.gS 4 rfl (by kernel_rfl) rfl rfl rfl rfl ?_
            refine WD.gS 5 rfl (by kernel_rfl) rfl rfl rfl rfl ?_
            refine WD.gS 6 rfl (by kernel_rfl) rfl rfl rfl rfl ?_
            refine WD.y 7 rfl (by kernel_rfl) (fun _ _ _ => Y.pick (b := false) rfl rfl) rfl ?_
            refine WD.ren (v' := .bool (r369 && (decide (r115 = r167)))) 54 rfl (congrArg Value.bool (andF hE382)) ?_
            exact hJ381 () _ _ _ ⟨rfl, rfl⟩ (.cons rfl (.cons rfl (.cons rfl (.cons rfl (.cons rfl (.cons rfl .nil))))))
        · rintro _ _ _ ⟨rfl, rfl⟩
          refine (show WD _ _ _ _ _ _ _ _ [(2, .pointer (some ⟨p24, 0, none⟩)), (9, .pointer (some ⟨p235, 0, none⟩)), (10, vi r219), (11, .pointer (some ⟨p287, 0, none⟩)), (12, vi r271), (54, .bool (r369 && (decide (r115 = r167))))] _ _ from ?_)
          refine WD.y 8 rfl (by kernel_rfl) (fun _ _ _ => Y.move rfl) rfl ?_
          obtain ⟨p405, h, hk406⟩ := bnd h
          refine WD.join (σ := (Bool × Own)) (f' := 28) [12, 11, 10, 9, 8, 7, 6, 5, 4, 3, 2, 1, 0] (fun x O' w' => x.1 = p405 ∧ Stp [] O374 wd372 x.2 w' ∧ x.2 = O') (fun x => [(2, .pointer (some ⟨p24, 0, none⟩)), (10, vi r219), (12, vi r271), (59, .bool x.1)]) (fun hJ407 => ?_) ?_
          · rcases cnd h with ⟨hE408, h⟩ | ⟨hE408, h⟩
            · refine WD.ren 55 rfl (congrArg Value.bool hE408) ?_
              refine WD.gT 9 rfl (by kernel_rfl) rfl rfl (fun wd410 O409 hst411 => have hf412 := hb251.st hst283 rfl; have hf413 := hf412.st hst290 rfl; have hf414 := hf413.st hst302 rfl; have hf415 := hf414.st hst305 rfl; have hf416 := hf415.st hst377 rfl; have hf417 := hf416.st hst411 rfl; Y.loadAg ty27 rfl rfl (hf417.cells 0 [vi r218.Scale, vu r218.Zero, vi r218.Pos.Offset, (.slice p240 m241 c242), vi r218.Neg.Offset, (.slice p245 m246 c247)] rfl) rfl) rfl ?_
              refine WD.gT 10 rfl (by kernel_rfl) rfl rfl (fun wd419 O418 hst420 => have hf421 := hb303.st hst305 rfl; have hf422 := hf421.st hst377 rfl; have hf423 := hf422.st hst420 rfl; Y.loadAg ty27 rfl rfl (hf423.cells 0 [vi r270.Scale, vu r270.Zero, vi r270.Pos.Offset, (.slice p292 m293 c294), vi r270.Neg.Offset, (.slice p297 m298 c299)] rfl) rfl) rfl ?_
              refine WD.heavy 11 rfl (by kernel_rfl) ?_
              refine WL.ung rfl rfl ?_
              have hf424 := hf239.mono (frs_st hst250 rfl)
              have hf425 := hf424.mono (frs_st hst283 rfl)
              have hf426 := hf425.mono (frs_st hst290 rfl)
              have hf427 := hf426.mono (frs_st hst302 rfl)
              have hf428 := hf427.mono (frs_st hst305 rfl)
              have hf429 := hf428.mono (frs_st hst377 rfl)
              have hf430 := hf244.mono (frs_st hst250 rfl)
              have hf431 := hf430.mono (frs_st hst283 rfl)
              have hf432 := hf431.mono (frs_st hst290 rfl)
              have hf433 := hf432.mono (frs_st hst302 rfl)
              have hf434 := hf433.mono (frs_st hst305 rfl)
              have hf435 := hf434.mono (frs_st hst377 rfl)
              have hf436 := hf291.mono (frs_st hst302 rfl)
              have hf437 := hf436.mono (frs_st hst305 rfl)
              have hf438 := hf437.mono (frs_st hst377 rfl)
              have hf439 := hf296.mono (frs_st hst302 rfl)
              have hf440 := hf439.mono (frs_st hst305 rfl)
              have hf441 := hf440.mono (frs_st hst377 rfl)
              obtain ⟨r442, hp443, h⟩ := bnd h
              refine WL.call (vals := [.agg [vi r218.Scale, vu r218.Zero, vi r218.Pos.Offset, (.slice p240 m241 c242), vi r218.Neg.Offset, (.slice p245 m246 c247)].toArray, .agg [vi r270.Scale, vu r270.Zero, vi r270.Pos.Offset, (.slice p292 m293 c294), vi r270.Neg.Offset, (.slice p297 m298 c299)].toArray]) kok22 rfl rfl (c_ref08_Same (A := fun _ => True) (a0 := r218) (a1 := r270) (Sl.all hf429) (Sl.all hf435) (Sl.all hf438) (Sl.all hf441) hp443) ?_
              rintro vr446 wd445 ⟨rfl, hm444⟩
              obtain ⟨O447, hold448, hnew449, hst450⟩ := adoptE O374 (fun k => 1) hm444
              refine WL.nil ?_
              refine At.dq (Stp.up hst450 rfl) ?_
              refine WD.y 12 rfl (by kernel_rfl) (fun _ _ _ => Y.pick (b := true) rfl rfl) rfl ?_
              refine WD.ren 55 rfl (congrArg Value.bool hE408.symm) ?_
              exact hJ407 (r442, O447) _ _ _ ⟨some1 h, (Stp.up hst450 rfl), rfl⟩ (.cons rfl (.cons rfl (.cons rfl (.cons rfl .nil))))
            · refine WD.ren 55 rfl (congrArg Value.bool hE408) ?_
              refine WD.gS 9 rfl (by kernel_rfl) rfl rfl rfl rfl ?_
              refine WD.gS 10 rfl (by kernel_rfl) rfl rfl rfl rfl ?_
              refine WD.heavy 11 rfl (by kernel_rfl) ?_
              refine WL.gS rfl rfl rfl rfl ?_
              refine WL.nil ?_
              refine At.dq (Stp.refl _ _ _) ?_
              refine WD.y 12 rfl (by kernel_rfl) (fun _ _ _ => Y.pick (b := false) rfl rfl) rfl ?_
              refine WD.ren 55 rfl (congrArg Value.bool hE408.symm) ?_
              exact hJ407 (false, O374) _ _ _ ⟨some1 h, (Stp.refl _ _ _), rfl⟩ (.cons rfl (.cons rfl (.cons rfl (.cons rfl .nil))))
          · rintro ⟨x401, O402⟩ _ wd403 ⟨rfl, hst404, rfl⟩
            replace h := hk406
            try dsimp only at h hst404
            refine (show WD _ _ _ _ _ _ _ _ [(2, .pointer (some ⟨p24, 0, none⟩)), (10, vi r219), (12, vi r271), (59, .bool x401)] _ _ from ?_)
            refine WD.y 13 rfl (by kernel_rfl) (fun _ _ _ => Y.move rfl) rfl ?_
            refine WD.join (σ := Unit) (f' := 23) [17, 16, 15, 14, 13, 12, 11, 10, 9, 8, 7, 6, 5, 4, 3, 2, 1, 0] (fun _ O' w' => O402 = O' ∧ wd403 = w') (fun _ => [(2, .pointer (some ⟨p24, 0, none⟩)), (64, .bool (x401 && (decide (r219 = r271))))]) (fun hJ460 => ?_) ?_
            · refine WD.part 60 rfl (fun hE461 => ?_) (fun hE461 => ?_)
              · refine WD.gT 14 rfl (by kernel_rfl) rfl rfl (fun _ _ _ => Y.move rfl) rfl ?_
                refine WD.gT 15 rfl (by kernel_rfl) rfl rfl (fun _ _ _ => Y.move rfl) rfl ?_
                refine WD.gT 16 rfl (by kernel_rfl) rfl rfl (fun _ _ _ => Y.eql_i rfl rfl) rfl ?_
                refine WD.y 17 rfl (by kernel_rfl) (fun _ _ _ => Y.pick (b := true) rfl rfl) rfl ?_
                refine WD.ren (v' := .bool (x401 && (decide (r219 = r271)))) 64 rfl (congrArg Value.bool (andT hE461)) ?_
                exact hJ460 () _ _ _ ⟨rfl, rfl⟩ (.cons rfl (.cons rfl .nil))
              · refine WD.gS 14 rfl (by kernel_rfl) rfl rfl rfl rfl ?_
                refine WD.gS 15 rfl (by kernel_rfl) rfl rfl rfl rfl ?_
                refine WD.gS 16 rfl (by kernel_rfl) rfl rfl rfl rfl ?_
                refine WD.y 17 rfl (by kernel_rfl) (fun _ _ _ => Y.pick (b := false) rfl rfl) rfl ?_
                refine WD.ren (v' := .bool (x401 && (decide (r219 = r271)))) 64 rfl (congrArg Value.bool (andF hE461)) ?_
                exact hJ460 () _ _ _ ⟨rfl, rfl⟩ (.cons rfl (.cons rfl .nil))
            · rintro _ _ _ ⟨rfl, rfl⟩
              refine (show WD _ _ _ _ _ _ _ _ [(2, .pointer (some ⟨p24, 0, none⟩)), (64, .bool (x401 && (decide (r219 = r271))))] _ _ from ?_)
              refine WD.y 18 rfl (by kernel_rfl) (fun _ _ _ => Y.move rfl) rfl ?_
              obtain ⟨p484, h, hk485⟩ := bnd h
              refine WD.join (σ := (Bool × Own)) (f' := 1) [39, 38, 37, 36, 35, 34, 33, 32, 31, 30, 29, 28, 27, 26, 25, 24, 20, 23, 22, 21, 19, 18, 17, 16, 15, 14, 13, 12, 11, 10, 9, 8, 7, 6, 5, 4, 3, 2, 1, 0] (fun x O' w' => x.1 = p484 ∧ Stp [] O402 wd403 x.2 w' ∧ x.2 = O') (fun x => [(86, .bool x.1)]) (fun hJ486 => ?_) ?_
              · rcases cnd h with ⟨hE487, h⟩ | ⟨hE487, h⟩
                · refine WD.ren 65 rfl (congrArg Value.bool hE487) ?_
                  refine WD.gT 19 rfl (by kernel_rfl) rfl rfl (fun wd489 O488 hst490 => have hf491 := hf254.st hst283 rfl; have hf492 := hf491.st hst290 rfl; have hf493 := hf492.st hst302 rfl; have hf494 := hf493.st hst305 rfl; have hf495 := hf494.st hst377 rfl; have hf496 := hf495.st hst404 rfl; have hf497 := hf496.st hst490 rfl; Y.loadAg ty27 rfl rfl (hf497.cells 0 [vi a0.Scale, vu a0.Zero, vi a0.Pos.Offset, (.slice p15 m16 c17), vi a0.Neg.Offset, (.slice p19 m20 c21)] rfl) rfl) rfl ?_
                  refine WD.gT 21 rfl (by kernel_rfl) rfl rfl (fun _ _ _ => Y.fieldAddr fo27_1 rfl) rfl ?_
                  refine WD.gT 22 rfl (by kernel_rfl) rfl rfl (fun wd502 O501 hst503 => have hf504 := hf254.st hst283 rfl; have hf505 := hf504.st hst290 rfl; have hf506 := hf505.st hst302 rfl; have hf507 := hf506.st hst305 rfl; have hf508 := hf507.st hst377 rfl; have hf509 := hf508.st hst404 rfl; have hf510 := hf509.st hst503 rfl; Y.loadSc ty22 rfl rfl (hf510.cell 1 _ rfl)) rfl ?_
                  refine WD.gT 23 rfl (by kernel_rfl) rfl rfl (fun _ _ _ => Y.eql_u (b := 0) rfl rfl) rfl ?_
                  refine WD.heavy 20 rfl (by kernel_rfl) ?_
                  refine WL.ung rfl rfl ?_
                  have hf514 := hf260.mono (imm_st hst283 rfl rfl)
                  have hf515 := hf514.mono (imm_st hst290 rfl rfl)
                  have hf516 := hf515.mono (imm_st hst302 rfl rfl)
                  have hf517 := hf516.mono (imm_st hst305 rfl rfl)
                  have hf518 := hf517.mono (imm_st hst377 rfl rfl)
                  have hf519 := hf518.mono (imm_st hst404 rfl rfl)
                  have hf520 := hf263.mono (imm_st hst283 rfl rfl)
                  have hf521 := hf520.mono (imm_st hst290 rfl rfl)
                  have hf522 := hf521.mono (imm_st hst302 rfl rfl)
                  have hf523 := hf522.mono (imm_st hst305 rfl rfl)
                  have hf524 := hf523.mono (imm_st hst377 rfl rfl)
                  have hf525 := hf524.mono (imm_st hst404 rfl rfl)
                  obtain ⟨r526, hp527, h⟩ := bnd h
                  refine WL.call (vals := [.agg [vi a0.Scale, vu a0.Zero, vi a0.Pos.Offset, (.slice p15 m16 c17), vi a0.Neg.Offset, (.slice p19 m20 c21)].toArray]) kok44 rfl rfl (c_fold_Empty (A := fun _ => True) (a0 := a0) (Sl.all hf519) (Sl.all hf525) hp527) ?_
                  rintro vr530 wd529 ⟨rfl, hm528⟩
                  obtain ⟨O531, hold532, hnew533, hst534⟩ := adoptE O402 (fun k => 1) hm528
                  refine WL.nil ?_
                  refine At.dq (Stp.up hst534 rfl) ?_
                  refine WD.gT 24 rfl (by kernel_rfl) rfl rfl (fun _ _ _ => Y.move rfl) rfl ?_
                  refine WD.join (σ := Unit) (f' := 10) [30, 29, 28, 27, 26, 25, 24, 20, 23, 22, 21, 19, 18, 17, 16, 15, 14, 13, 12, 11, 10, 9, 8, 7, 6, 5, 4, 3, 2, 1, 0] (fun _ O' w' => O531 = O' ∧ wd529 = w') (fun _ => [(2, .pointer (some ⟨p24, 0, none⟩)), (65, .bool true), (67, .bool r526), (77, .bool ((decide (a0.Zero = 0)) && (decide ((a0.Pos.Counts.length : Int) = 0))))]) (fun hJ538 => ?_) ?_
                  · refine WD.part 71 rfl (fun hE539 => ?_) (fun hE539 => ?_)
                    · refine WD.gT 25 rfl (by kernel_rfl) rfl rfl (fun _ _ _ => Y.fieldAddr fo27_2 rfl) rfl ?_
                      refine WD.gT 26 rfl (by kernel_rfl) rfl rfl (fun _ _ _ => Y.fieldAddr fo25_1 rfl) rfl ?_
                      refine WD.gT 27 rfl (by kernel_rfl) rfl rfl (fun wd547 O546 hst548 => have hf549 := hf254.st hst283 rfl; have hf550 := hf549.st hst290 rfl; have hf551 := hf550.st hst302 rfl; have hf552 := hf551.st hst305 rfl; have hf553 := hf552.st hst377 rfl; have hf554 := hf553.st hst404 rfl; have hf555 := hf554.st hst534 rfl; have hf556 := hf555.st hst548 rfl; Y.loadSc ty23 rfl rfl (hf556.cell 3 _ rfl)) rfl ?_
                      refine WD.gT 28 rfl (by kernel_rfl) rfl rfl (fun wd558 O557 hst559 => have hf560 := hf519.mono (imm_st hst534 rfl rfl); have hf561 := hf560.mono (imm_st hst559 rfl rfl); Y.len ty23 rfl hf561) rfl ?_
                      refine WD.gT 29 rfl (by kernel_rfl) rfl rfl (fun _ _ _ => Y.eql_i rfl rfl) rfl ?_
                      refine WD.gT 30 rfl (by kernel_rfl) rfl rfl (fun _ _ _ => Y.pick (b := true) rfl rfl) rfl ?_
                      refine WD.ren (v' := .bool ((decide (a0.Zero = 0)) && (decide ((a0.Pos.Counts.length : Int) = 0)))) 77 rfl (congrArg Value.bool (andT hE539)) ?_
                      exact hJ538 () _ _ _ ⟨rfl, rfl⟩ (.cons rfl (.cons rfl (.cons rfl (.cons rfl .nil))))
                    · refine WD.gS 25 rfl (by kernel_rfl) rfl rfl rfl rfl ?_
                      refine WD.gS 26 rfl (by kernel_rfl) rfl rfl rfl rfl ?_
                      refine WD.gS 27 rfl (by kernel_rfl) rfl rfl rfl rfl ?_
                      refine WD.gS 28 rfl (by kernel_rfl) rfl rfl rfl rfl ?_
                      refine WD.gS 29 rfl (by kernel_rfl) rfl rfl rfl rfl ?_
                      refine WD.gT 30 rfl (by kernel_rfl) rfl rfl (fun _ _ _ => Y.pick (b := false) rfl rfl) rfl ?_
                      refine WD.ren (v' := .bool ((decide (a0.Zero = 0)) && (decide ((a0.Pos.Counts.length : Int) = 0)))) 77 rfl (congrArg Value.bool (andF hE539)) ?_
                      exact hJ538 () _ _ _ ⟨rfl, rfl⟩ (.cons rfl (.cons rfl (.cons rfl (.cons rfl .nil))))
                  · rintro _ _ _ ⟨rfl, rfl⟩
                    refine (show WD _ _ _ _ _ _ _ _ [(2, .pointer (some ⟨p24, 0, none⟩)), (65, .bool true), (67, .bool r526), (77, .bool ((decide (a0.Zero = 0)) && (decide ((a0.Pos.Counts.length : Int) = 0))))] _ _ from ?_)
                    refine WD.gT 31 rfl (by kernel_rfl) rfl rfl (fun _ _ _ => Y.move rfl) rfl ?_
                    refine WD.join (σ := Unit) (f' := 3) [37, 36, 35, 34, 33, 32, 31, 30, 29, 28, 27, 26, 25, 24, 20, 23, 22, 21, 19, 18, 17, 16, 15, 14, 13, 12, 11, 10, 9, 8, 7, 6, 5, 4, 3, 2, 1, 0] (fun _ O' w' => O531 = O' ∧ wd529 = w') (fun _ => [(65, .bool true), (67, .bool r526), (84, .bool (((decide (a0.Zero = 0)) && (decide ((a0.Pos.Counts.length : Int) = 0))) && (decide ((a0.Neg.Counts.length : Int) = 0))))]) (fun hJ574 => ?_) ?_
                    · refine WD.part 78 rfl (fun hE575 => ?_) (fun hE575 => ?_)
                      · refine WD.gT 32 rfl (by kernel_rfl) rfl rfl (fun _ _ _ => Y.fieldAddr fo27_3 rfl) rfl ?_
                        refine WD.gT 33 rfl (by kernel_rfl) rfl rfl (fun _ _ _ => Y.fieldAddr fo25_1 rfl) rfl ?_
                        refine WD.gT 34 rfl (by kernel_rfl) rfl rfl (fun wd583 O582 hst584 => have hf585 := hf254.st hst283 rfl; have hf586 := hf585.st hst290 rfl; have hf587 := hf586.st hst302 rfl; have hf588 := hf587.st hst305 rfl; have hf589 := hf588.st hst377 rfl; have hf590 := hf589.st hst404 rfl; have hf591 := hf590.st hst534 rfl; have hf592 := hf591.st hst584 rfl; Y.loadSc ty23 rfl rfl (hf592.cell 5 _ rfl)) rfl ?_
                        refine WD.gT 35 rfl (by kernel_rfl) rfl rfl (fun wd594 O593 hst595 => have hf596 := hf525.mono (imm_st hst534 rfl rfl); have hf597 := hf596.mono (imm_st hst595 rfl rfl); Y.len ty23 rfl hf597) rfl ?_
                        refine WD.gT 36 rfl (by kernel_rfl) rfl rfl (fun _ _ _ => Y.eql_i rfl rfl) rfl ?_
                        refine WD.gT 37 rfl (by kernel_rfl) rfl rfl (fun _ _ _ => Y.pick (b := true) rfl rfl) rfl ?_
                        refine WD.ren (v' := .bool (((decide (a0.Zero = 0)) && (decide ((a0.Pos.Counts.length : Int) = 0))) && (decide ((a0.Neg.Counts.length : Int) = 0)))) 84 rfl (congrArg Value.bool (andT hE575)) ?_
                        exact hJ574 () _ _ _ ⟨rfl, rfl⟩ (.cons rfl (.cons rfl (.cons rfl .nil)))
                      · refine WD.gS 32 rfl (by kernel_rfl) rfl rfl rfl rfl ?_
                        refine WD.gS 33 rfl (by kernel_rfl) rfl rfl rfl rfl ?_
                        refine WD.gS 34 rfl (by kernel_rfl) rfl rfl rfl rfl ?_
                        refine WD.gS 35 rfl (by kernel_rfl) rfl rfl rfl rfl ?_
                        refine WD.gS 36 rfl (by kernel_rfl) rfl rfl rfl rfl ?_
                        refine WD.gT 37 rfl (by kernel_rfl) rfl rfl (fun _ _ _ => Y.pick (b := false) rfl rfl) rfl ?_
                        refine WD.ren (v' := .bool (((decide (a0.Zero = 0)) && (decide ((a0.Pos.Counts.length : Int) = 0))) && (decide ((a0.Neg.Counts.length : Int) = 0)))) 84 rfl (congrArg Value.bool (andF hE575)) ?_
                        exact hJ574 () _ _ _ ⟨rfl, rfl⟩ (.cons rfl (.cons rfl (.cons rfl .nil)))
                    · rintro _ _ _ ⟨rfl, rfl⟩
                      refine (show WD _ _ _ _ _ _ _ _ [(65, .bool true), (67, .bool r526), (84, .bool (((decide (a0.Zero = 0)) && (decide ((a0.Pos.Counts.length : Int) = 0))) && (decide ((a0.Neg.Counts.length : Int) = 0))))] _ _ from ?_)
                      refine WD.gT 38 rfl (by kernel_rfl) rfl rfl (fun _ _ _ => Y.eqlB rfl rfl ty4.u) rfl ?_
                      refine WD.y 39 rfl (by kernel_rfl) (fun _ _ _ => Y.pick (b := true) rfl rfl) rfl ?_
                      refine WD.ren 65 rfl (congrArg Value.bool hE487.symm) ?_
                      exact hJ486 (decide (r526 = (((decide (a0.Zero = 0)) && (decide ((a0.Pos.Counts.length : Int) = 0))) && (decide ((a0.Neg.Counts.length : Int) = 0)))), O531) _ _ _ ⟨some1 h, (Stp.up hst534 rfl), rfl⟩ (.cons rfl .nil)
                · refine WD.ren 65 rfl (congrArg Value.bool hE487) ?_
                  refine WD.gS 19 rfl (by kernel_rfl) rfl rfl rfl rfl ?_
                  refine WD.gS 21 rfl (by kernel_rfl) rfl rfl rfl rfl ?_
                  refine WD.gS 22 rfl (by kernel_rfl) rfl rfl rfl rfl ?_
                  refine WD.gS 23 rfl (by kernel_rfl) rfl rfl rfl rfl ?_
                  refine WD.heavy 20 rfl (by kernel_rfl) ?_
                  refine WL.gS rfl rfl rfl rfl ?_
                  refine WL.nil ?_
                  refine At.dq (Stp.refl _ _ _) ?_
                  refine WD.gS 24 rfl (by kernel_rfl) rfl rfl rfl rfl ?_
                  refine WD.gS 25 rfl (by kernel_rfl) rfl rfl rfl rfl ?_
                  refine WD.gS 26 rfl (by kernel_rfl) rfl rfl rfl rfl ?_
                  refine WD.gS 27 rfl (by kernel_rfl) rfl rfl rfl rfl ?_
                  refine WD.gS 28 rfl (by kernel_rfl) rfl rfl rfl rfl ?_
                  refine WD.gS 29 rfl (by kernel_rfl) rfl rfl rfl rfl ?_
                  refine WD.gS 30 rfl (by kernel_rfl) rfl rfl rfl rfl ?_
                  refine WD.gS 31 rfl (by kernel_rfl) rfl rfl rfl rfl ?_
                  refine WD.gS 32 rfl (by kernel_rfl) rfl rfl rfl rfl ?_
                  refine WD.gS 33 rfl (by kernel_rfl) rfl rfl rfl rfl ?_
                  refine WD.gS 34 rfl (by kernel_rfl) rfl rfl rfl rfl ?_
                  refine WD.gS 35 rfl (by kernel_rfl) rfl rfl rfl rfl ?_
                  refine WD.gS 36 rfl (by kernel_rfl) rfl rfl rfl rfl ?_
                  refine WD.gS 37 rfl (by kernel_rfl) rfl rfl rfl rfl ?_
                  refine WD.gS 38 rfl (by kernel_rfl) rfl rfl rfl rfl ?_
                  refine WD.y 39 rfl (by kernel_rfl) (fun _ _ _ => Y.pick (b := false) rfl rfl) rfl ?_
                  refine WD.ren 65 rfl (congrArg Value.bool hE487.symm) ?_
                  exact hJ486 (false, O402) _ _ _ ⟨some1 h, (Stp.refl _ _ _), rfl⟩ (.cons rfl .nil)
              · rintro ⟨x480, O481⟩ _ wd482 ⟨rfl, hst483, rfl⟩
                replace h := hk485
                try dsimp only at h hst483
                refine (show WD _ _ _ _ _ _ _ _ [(86, .bool x480)] _ _ from ?_)
                refine WD.y 40 rfl (by kernel_rfl) (fun _ _ _ => Y.assign rfl) rfl ?_
                refine WD.done_ (by kernel_rfl) ?_
                refine At.then ?_
                refine WC.ret ?_
                obtain rfl := some1 h
                have hs619 : Stp [13, 14, 15, 16] (Lg.O0 A) w O481 wd482 := (Stp.trans (Stp.up hst27 rfl) (Stp.trans (Stp.up hst42 rfl) (Stp.trans (Stp.up hst51 rfl) (Stp.trans (Stp.up hst70 rfl) (Stp.trans (Stp.up hst74 rfl) (Stp.trans (Stp.up hst127 rfl) (Stp.trans (Stp.up hst134 rfl) (Stp.trans (Stp.up hst146 rfl) (Stp.trans (Stp.up hst179 rfl) (Stp.trans (Stp.up hst186 rfl) (Stp.trans (Stp.up hst198 rfl) (Stp.trans (Stp.up hst231 rfl) (Stp.trans (Stp.up hst238 rfl) (Stp.trans (Stp.up hst250 rfl) (Stp.trans (Stp.up hst283 rfl) (Stp.trans (Stp.up hst290 rfl) (Stp.trans (Stp.up hst302 rfl) (Stp.trans (Stp.up hst305 rfl) (Stp.trans (Stp.up hst377 rfl) (Stp.trans (Stp.up hst404 rfl) (Stp.up hst483 rfl)))))))))))))))))))))
                exact At.res (.inl rfl) rfl (.tmp rfl .nil) ⟨rfl, (Stp.ext hs619 rfl rfl)⟩

end Go.Lg
