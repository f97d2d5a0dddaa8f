/- The walks of HistDowns and of what it calls, printed by gen.py. -/
import Derived.Test.YtdpokdaeekanjaaLgHistWHistDownsx0
set_option linter.unusedVariables false
namespace Go.Lg
open Go Go.Proofs
set_option maxRecDepth 100000
theorem c_law08_HistDowns {A : Nat → Prop} {v0_3 : Value} {v0_5 : Value} {a0 : api_Hist} {a1 : Int} {a2 : Int} {w : World} (hs0_3 : Sl Rep.u w A v0_3 a0.Pos.Counts) (hs0_5 : Sl Rep.u w A v0_5 a0.Neg.Counts) {r0 : Bool} (h : law08_HistDowns a0 a1 a2 = some r0) : Rets Try.prog 5 [.agg [vi a0.Scale, vu a0.Zero, vi a0.Pos.Offset, v0_3, vi a0.Neg.Offset, v0_5].toArray, vi a1, vi a2] w (fun v w' => v = .bool r0 ∧ Ext w w') := by
  unfold law08_HistDowns at h
  refine Rets.enter Try.func5 rfl rfl ?_
  have hf11 : Sl Rep.u w (imm (Lg.O0 A)) v0_3 a0.Pos.Counts := (Sl.start hs0_3)
  have hf12 : Sl Rep.u w (imm (Lg.O0 A)) v0_5 a0.Neg.Counts := (Sl.start hs0_5)
  refine (show WC _ _ _ _ [(0, .agg [vi a0.Scale, vu a0.Zero, vi a0.Pos.Offset, v0_3, vi a0.Neg.Offset, v0_5].toArray), (1, vi a1), (2, vi a2)] _ from ?_)
  refine WC.seq ?_
  refine WC.region ?_
  have hh16 := h
  obtain ⟨p13, m14, c15, rfl⟩ := hf11.shape
  have h := hh16
  have hh20 := h
  obtain ⟨p17, m18, c19, rfl⟩ := hf12.shape
  have h := hh20
  refine WL.box (O := (Lg.O0 A)) 11 [vi a0.Scale, vu a0.Zero, vi a0.Pos.Offset, (.slice p13 m14 c15), vi a0.Neg.Offset, (.slice p17 m18 c19)] rfl rfl rfl ?_
  intro p22 O23 wd24 hst25 hb21
  refine WL.y (Y.assign rfl) rfl ?_
  refine WL.nil ?_
  refine At.then ?_
  refine WC.seq ?_
  refine WC.seq ?_
  refine WC.region ?_
  obtain ⟨r26, hp27, h⟩ := bnd h
  refine WL.call (vals := []) kok15 rfl rfl (c_law08_awake hp27) ?_
  rintro vr30 wd29 ⟨rfl, hm28⟩
  obtain ⟨O31, hold32, hnew33, hst34⟩ := adoptE O23 (fun k => 1) hm28
  refine WL.y (Y.not rfl) rfl ?_
  refine WL.nil ?_
  refine At.then ?_
  rcases cnd h with ⟨hc35, h⟩ | ⟨hc35, h⟩
  · refine WC.condT' rfl hc35 ?_
    refine WC.seq ?_
    refine WC.region ?_
    refine WL.y (Y.assign rfl) rfl ?_
    refine WL.nil ?_
    refine At.then ?_
    refine WC.ret ?_
    refine At.thenR ?_
    obtain rfl := some1 h
    have hs36 : Stp [] (Lg.O0 A) w O31 wd29 := (Stp.trans (Stp.up hst25 rfl) (Stp.up hst34 rfl))
    exact At.res (.inl rfl) rfl (.tmp rfl .nil) ⟨rfl, (Stp.ext hs36 rfl rfl)⟩
  · refine WC.condF' rfl hc35 ?_
    refine WC.skip ?_
    refine At.then ?_
    refine WC.seq ?_
    refine WC.seq ?_
    refine WC.region ?_
    have hf37 := hb21.st hst34 rfl
    refine WL.y (Y.loadAg ty27 rfl rfl (hf37.cells 0 [vi a0.Scale, vu a0.Zero, vi a0.Pos.Offset, (.slice p13 m14 c15), vi a0.Neg.Offset, (.slice p17 m18 c19)] rfl) rfl) rfl ?_
    have hf38 := hf11.mono (imm_st hst25 rfl rfl)
    have hf39 := hf38.mono (imm_st hst34 rfl rfl)
    have hf40 := hf12.mono (imm_st hst25 rfl rfl)
    have hf41 := hf40.mono (imm_st hst34 rfl rfl)
    obtain ⟨r42, hp43, h⟩ := bnd h
    refine WL.call (vals := [.agg [vi a0.Scale, vu a0.Zero, vi a0.Pos.Offset, (.slice p13 m14 c15), vi a0.Neg.Offset, (.slice p17 m18 c19)].toArray]) kok16 rfl rfl (c_ref08_Light (A := fun _ => True) (a0 := a0) (Sl.all hf39) (Sl.all hf41) hp43) ?_
    rintro vr46 wd45 ⟨rfl, hm44⟩
    obtain ⟨O47, hold48, hnew49, hst50⟩ := adoptE O31 (fun k => 1) hm44
    refine WL.y (Y.not rfl) rfl ?_
    refine WL.nil ?_
    refine At.then ?_
    rcases cnd h with ⟨hc51, h⟩ | ⟨hc51, h⟩
    · refine WC.condT' rfl hc51 ?_
      refine WC.seq ?_
      refine WC.region ?_
      refine WL.y (Y.assign rfl) rfl ?_
      refine WL.nil ?_
      refine At.then ?_
      refine WC.ret ?_
      refine At.thenR ?_
      obtain rfl := some1 h
      have hs52 : Stp [] (Lg.O0 A) w O47 wd45 := (Stp.trans (Stp.up hst25 rfl) (Stp.trans (Stp.up hst34 rfl) (Stp.up hst50 rfl)))
      exact At.res (.inl rfl) rfl (.tmp rfl .nil) ⟨rfl, (Stp.ext hs52 rfl rfl)⟩
    · refine WC.condF' rfl hc51 ?_
      refine WC.skip ?_
      refine At.then ?_
      refine WC.seq ?_
      refine WC.region ?_
      have hf53 := hf37.st hst50 rfl
      refine WL.y (Y.loadAg ty27 rfl rfl (hf53.cells 0 [vi a0.Scale, vu a0.Zero, vi a0.Pos.Offset, (.slice p13 m14 c15), vi a0.Neg.Offset, (.slice p17 m18 c19)] rfl) rfl) rfl ?_
      refine WL.y (Y.move rfl) rfl ?_
      have hf54 := hf39.mono (imm_st hst50 rfl rfl)
      have hf55 := hf41.mono (imm_st hst50 rfl rfl)
      obtain ⟨⟨r56, r57⟩, hp58, h⟩ := bnd h
      refine WL.call (vals := [.agg [vi a0.Scale, vu a0.Zero, vi a0.Pos.Offset, (.slice p13 m14 c15), vi a0.Neg.Offset, (.slice p17 m18 c19)].toArray, vi a1]) kok21 rfl rfl (c_hist_Down (A := fun _ => True) (a0 := a0) (Sl.all hf54) (Sl.all hf55) hp58) ?_
      rintro vr65 wd64 ⟨u59, u60, rfl, hm63, f61, f62⟩
      obtain ⟨O66, hold67, hnew68, hst69⟩ := adoptE O47 (fun k => 1) hm63
      have hf70 : Sl Rep.u wd64 (frs O66) u59 r56.Pos.Counts := Sl.adoptF f61 (fun k hk => ⟨hk, rfl⟩) hnew68
      have hf71 : Sl Rep.u wd64 (frs O66) u60 r56.Neg.Counts := Sl.adoptF f62 (fun k hk => ⟨hk, rfl⟩) hnew68
      refine WL.y (Y.move rfl) rfl ?_
      refine WL.y (Y.extract rfl rfl) rfl ?_
      refine WL.y (Y.extract rfl rfl) rfl ?_
      refine WL.alloc (O := O66) 12 [vi 0, vu 0, vi 0, .slice none 0 0, vi 0, .slice none 0 0] ty27 rfl rfl ?_
      intro p73 O74 wd75 hst76 hb72
      have hf77 := hf70.mono (frs_st hst76 rfl)
      have hh81 := h
      obtain ⟨p78, m79, c80, rfl⟩ := hf77.shape
      have h := hh81
      have hf82 := hf71.mono (frs_st hst76 rfl)
      have hh86 := h
      obtain ⟨p83, m84, c85, rfl⟩ := hf82.shape
      have h := hh86
      refine WL.store (v := .agg [vi r56.Scale, vu r56.Zero, vi r56.Pos.Offset, (.slice p78 m79 c80), vi r56.Neg.Offset, (.slice p83 m84 c85)].toArray) (cells' := [vi r56.Scale, vu r56.Zero, vi r56.Pos.Offset, (.slice p78 m79 c80), vi r56.Neg.Offset, (.slice p83 m84 c85)]) ty27 rfl rfl hb72 rfl (Nat.le_of_ble_eq_true rfl) rfl rfl ?_
      intro wd87 hst88 hb89
      refine WL.y (Y.assign rfl) rfl ?_
      refine WL.nil ?_
      refine At.then ?_
      refine WC.seq ?_
      refine WC.region ?_
      have hf90 := hf53.st hst69 rfl
      have hf91 := hf90.st hst76 rfl
      have hf92 := hf91.st hst88 rfl
      refine WL.y (Y.loadAg ty27 rfl rfl (hf92.cells 0 [vi a0.Scale, vu a0.Zero, vi a0.Pos.Offset, (.slice p13 m14 c15), vi a0.Neg.Offset, (.slice p17 m18 c19)] rfl) rfl) rfl ?_
      refine WL.y (Y.move rfl) rfl ?_
      have hf93 := hf54.mono (imm_st hst69 rfl rfl)
      have hf94 := hf93.mono (imm_st hst76 rfl rfl)
      have hf95 := hf94.mono (imm_st hst88 rfl rfl)
      have hf96 := hf55.mono (imm_st hst69 rfl rfl)
      have hf97 := hf96.mono (imm_st hst76 rfl rfl)
      have hf98 := hf97.mono (imm_st hst88 rfl rfl)
      obtain ⟨⟨r99, r100⟩, hp101, h⟩ := bnd h
      refine WL.call (vals := [.agg [vi a0.Scale, vu a0.Zero, vi a0.Pos.Offset, (.slice p13 m14 c15), vi a0.Neg.Offset, (.slice p17 m18 c19)].toArray, vi a1]) kok24 rfl rfl (c_ref08_Down (A := fun _ => True) (a0 := a0) (Sl.all hf95) (Sl.all hf98) hp101) ?_
      rintro vr108 wd107 ⟨u102, u103, rfl, hm106, f104, f105⟩
      obtain ⟨O109, hold110, hnew111, hst112⟩ := adoptE O74 (fun k => 1) hm106
      have hf113 : Sl Rep.u wd107 (frs O109) u102 r99.Pos.Counts := Sl.adoptF f104 (fun k hk => ⟨hk, rfl⟩) hnew111
      have hf114 : Sl Rep.u wd107 (frs O109) u103 r99.Neg.Counts := Sl.adoptF f105 (fun k hk => ⟨hk, rfl⟩) hnew111
      refine WL.y (Y.move rfl) rfl ?_
      refine WL.y (Y.extract rfl rfl) rfl ?_
      refine WL.y (Y.extract rfl rfl) rfl ?_
      refine WL.alloc (O := O109) 13 [vi 0, vu 0, vi 0, .slice none 0 0, vi 0, .slice none 0 0] ty27 rfl rfl ?_
      intro p116 O117 wd118 hst119 hb115
      have hf120 := hf113.mono (frs_st hst119 rfl)
      have hh124 := h
      obtain ⟨p121, m122, c123, rfl⟩ := hf120.shape
      have h := hh124
      have hf125 := hf114.mono (frs_st hst119 rfl)
      have hh129 := h
      obtain ⟨p126, m127, c128, rfl⟩ := hf125.shape
      have h := hh129
      refine WL.store (v := .agg [vi r99.Scale, vu r99.Zero, vi r99.Pos.Offset, (.slice p121 m122 c123), vi r99.Neg.Offset, (.slice p126 m127 c128)].toArray) (cells' := [vi r99.Scale, vu r99.Zero, vi r99.Pos.Offset, (.slice p121 m122 c123), vi r99.Neg.Offset, (.slice p126 m127 c128)]) ty27 rfl rfl hb115 rfl (Nat.le_of_ble_eq_true rfl) rfl rfl ?_
      intro wd130 hst131 hb132
      refine WL.y (Y.assign rfl) rfl ?_
      refine WL.nil ?_
      refine At.then ?_
      refine WC.seq ?_
      refine WC.region ?_
      have hf133 := hf92.st hst112 rfl
      have hf134 := hf133.st hst119 rfl
      have hf135 := hf134.st hst131 rfl
      refine WL.y (Y.loadAg ty27 rfl rfl (hf135.cells 0 [vi a0.Scale, vu a0.Zero, vi a0.Pos.Offset, (.slice p13 m14 c15), vi a0.Neg.Offset, (.slice p17 m18 c19)] rfl) rfl) rfl ?_
      refine WL.y (Y.move rfl) rfl ?_
      have hf136 := hf95.mono (imm_st hst112 rfl rfl)
      have hf137 := hf136.mono (imm_st hst119 rfl rfl)
      have hf138 := hf137.mono (imm_st hst131 rfl rfl)
      have hf139 := hf98.mono (imm_st hst112 rfl rfl)
      have hf140 := hf139.mono (imm_st hst119 rfl rfl)
      have hf141 := hf140.mono (imm_st hst131 rfl rfl)
      obtain ⟨⟨r142, r143⟩, hp144, h⟩ := bnd h
      refine WL.call (vals := [.agg [vi a0.Scale, vu a0.Zero, vi a0.Pos.Offset, (.slice p13 m14 c15), vi a0.Neg.Offset, (.slice p17 m18 c19)].toArray, vi a2]) kok25 rfl rfl (c_hist_Fit (A := fun _ => True) (a0 := a0) (Sl.all hf138) (Sl.all hf141) hp144) ?_
      rintro vr151 wd150 ⟨u145, u146, rfl, hm149, f147, f148⟩
      obtain ⟨O152, hold153, hnew154, hst155⟩ := adoptE O117 (fun k => 1) hm149
      have hf156 : Sl Rep.u wd150 (frs O152) u145 r142.Pos.Counts := Sl.adoptF f147 (fun k hk => ⟨hk, rfl⟩) hnew154
      have hf157 : Sl Rep.u wd150 (frs O152) u146 r142.Neg.Counts := Sl.adoptF f148 (fun k hk => ⟨hk, rfl⟩) hnew154
      refine WL.y (Y.move rfl) rfl ?_
      refine WL.y (Y.extract rfl rfl) rfl ?_
      refine WL.y (Y.extract rfl rfl) rfl ?_
      refine WL.alloc (O := O152) 14 [vi 0, vu 0, vi 0, .slice none 0 0, vi 0, .slice none 0 0] ty27 rfl rfl ?_
      intro p159 O160 wd161 hst162 hb158
      have hf163 := hf156.mono (frs_st hst162 rfl)
      have hh167 := h
      obtain ⟨p164, m165, c166, rfl⟩ := hf163.shape
      have h := hh167
      have hf168 := hf157.mono (frs_st hst162 rfl)
      have hh172 := h
      obtain ⟨p169, m170, c171, rfl⟩ := hf168.shape
      have h := hh172
      refine WL.store (v := .agg [vi r142.Scale, vu r142.Zero, vi r142.Pos.Offset, (.slice p164 m165 c166), vi r142.Neg.Offset, (.slice p169 m170 c171)].toArray) (cells' := [vi r142.Scale, vu r142.Zero, vi r142.Pos.Offset, (.slice p164 m165 c166), vi r142.Neg.Offset, (.slice p169 m170 c171)]) ty27 rfl rfl hb158 rfl (Nat.le_of_ble_eq_true rfl) rfl rfl ?_
      intro wd173 hst174 hb175
      refine WL.y (Y.assign rfl) rfl ?_
      refine WL.nil ?_
      refine At.then ?_
      refine WC.seq ?_
      refine WC.region ?_
      have hf176 := hf135.st hst155 rfl
      have hf177 := hf176.st hst162 rfl
      have hf178 := hf177.st hst174 rfl
      refine WL.y (Y.loadAg ty27 rfl rfl (hf178.cells 0 [vi a0.Scale, vu a0.Zero, vi a0.Pos.Offset, (.slice p13 m14 c15), vi a0.Neg.Offset, (.slice p17 m18 c19)] rfl) rfl) rfl ?_
      refine WL.y (Y.move rfl) rfl ?_
      have hf179 := hf138.mono (imm_st hst155 rfl rfl)
      have hf180 := hf179.mono (imm_st hst162 rfl rfl)
      have hf181 := hf180.mono (imm_st hst174 rfl rfl)
      have hf182 := hf141.mono (imm_st hst155 rfl rfl)
      have hf183 := hf182.mono (imm_st hst162 rfl rfl)
      have hf184 := hf183.mono (imm_st hst174 rfl rfl)
      obtain ⟨⟨r185, r186⟩, hp187, h⟩ := bnd h
      refine WL.call (vals := [.agg [vi a0.Scale, vu a0.Zero, vi a0.Pos.Offset, (.slice p13 m14 c15), vi a0.Neg.Offset, (.slice p17 m18 c19)].toArray, vi a2]) kok26 rfl rfl (c_ref08_Fit (A := fun _ => True) (a0 := a0) (Sl.all hf181) (Sl.all hf184) hp187) ?_
      rintro vr194 wd193 ⟨u188, u189, rfl, hm192, f190, f191⟩
      obtain ⟨O195, hold196, hnew197, hst198⟩ := adoptE O160 (fun k => 1) hm192
      have hf199 : Sl Rep.u wd193 (frs O195) u188 r185.Pos.Counts := Sl.adoptF f190 (fun k hk => ⟨hk, rfl⟩) hnew197
      have hf200 : Sl Rep.u wd193 (frs O195) u189 r185.Neg.Counts := Sl.adoptF f191 (fun k hk => ⟨hk, rfl⟩) hnew197
      refine WL.y (Y.move rfl) rfl ?_
      refine WL.y (Y.extract rfl rfl) rfl ?_
      refine WL.y (Y.extract rfl rfl) rfl ?_
      refine WL.alloc (O := O195) 15 [vi 0, vu 0, vi 0, .slice none 0 0, vi 0, .slice none 0 0] ty27 rfl rfl ?_
      intro p202 O203 wd204 hst205 hb201
      have hf206 := hf199.mono (frs_st hst205 rfl)
      have hh210 := h
      obtain ⟨p207, m208, c209, rfl⟩ := hf206.shape
      have h := hh210
      have hf211 := hf200.mono (frs_st hst205 rfl)
      have hh215 := h
      obtain ⟨p212, m213, c214, rfl⟩ := hf211.shape
      have h := hh215
      refine WL.store (v := .agg [vi r185.Scale, vu r185.Zero, vi r185.Pos.Offset, (.slice p207 m208 c209), vi r185.Neg.Offset, (.slice p212 m213 c214)].toArray) (cells' := [vi r185.Scale, vu r185.Zero, vi r185.Pos.Offset, (.slice p207 m208 c209), vi r185.Neg.Offset, (.slice p212 m213 c214)]) ty27 rfl rfl hb201 rfl (Nat.le_of_ble_eq_true rfl) rfl rfl ?_
      intro wd216 hst217 hb218
      refine WL.y (Y.assign rfl) rfl ?_
      refine WL.nil ?_
      refine At.then ?_
      refine WC.seq ?_
      refine WC.region ?_
      have hf219 := hb89.st hst112 rfl
      have hf220 := hf219.st hst119 rfl
      have hf221 := hf220.st hst131 rfl
      have hf222 := hf221.st hst155 rfl
      have hf223 := hf222.st hst162 rfl
      have hf224 := hf223.st hst174 rfl
      have hf225 := hf224.st hst198 rfl
      have hf226 := hf225.st hst205 rfl
      have hf227 := hf226.st hst217 rfl
      refine WL.y (Y.loadAg ty27 rfl rfl (hf227.cells 0 [vi r56.Scale, vu r56.Zero, vi r56.Pos.Offset, (.slice p78 m79 c80), vi r56.Neg.Offset, (.slice p83 m84 c85)] rfl) rfl) rfl ?_
      have hf228 := hb132.st hst155 rfl
      have hf229 := hf228.st hst162 rfl
      have hf230 := hf229.st hst174 rfl
      have hf231 := hf230.st hst198 rfl
      have hf232 := hf231.st hst205 rfl
      have hf233 := hf232.st hst217 rfl
      refine WL.y (Y.loadAg ty27 rfl rfl (hf233.cells 0 [vi r99.Scale, vu r99.Zero, vi r99.Pos.Offset, (.slice p121 m122 c123), vi r99.Neg.Offset, (.slice p126 m127 c128)] rfl) rfl) rfl ?_
      have hf234 := hf77.mono (frs_st hst88 rfl)
      have hf235 := hf234.mono (frs_st hst112 rfl)
      have hf236 := hf235.mono (frs_st hst119 rfl)
      have hf237 := hf236.mono (frs_st hst131 rfl)
      have hf238 := hf237.mono (frs_st hst155 rfl)
      have hf239 := hf238.mono (frs_st hst162 rfl)
      have hf240 := hf239.mono (frs_st hst174 rfl)
      have hf241 := hf240.mono (frs_st hst198 rfl)
      have hf242 := hf241.mono (frs_st hst205 rfl)
      have hf243 := hf242.mono (frs_st hst217 rfl)
      have hf244 := hf82.mono (frs_st hst88 rfl)
      have hf245 := hf244.mono (frs_st hst112 rfl)
      have hf246 := hf245.mono (frs_st hst119 rfl)
      have hf247 := hf246.mono (frs_st hst131 rfl)
      have hf248 := hf247.mono (frs_st hst155 rfl)
      have hf249 := hf248.mono (frs_st hst162 rfl)
      have hf250 := hf249.mono (frs_st hst174 rfl)
      have hf251 := hf250.mono (frs_st hst198 rfl)
      have hf252 := hf251.mono (frs_st hst205 rfl)
      have hf253 := hf252.mono (frs_st hst217 rfl)
      have hf254 := hf120.mono (frs_st hst131 rfl)
      have hf255 := hf254.mono (frs_st hst155 rfl)
      have hf256 := hf255.mono (frs_st hst162 rfl)
      have hf257 := hf256.mono (frs_st hst174 rfl)
      have hf258 := hf257.mono (frs_st hst198 rfl)
      have hf259 := hf258.mono (frs_st hst205 rfl)
      have hf260 := hf259.mono (frs_st hst217 rfl)
      have hf261 := hf125.mono (frs_st hst131 rfl)
      have hf262 := hf261.mono (frs_st hst155 rfl)
      have hf263 := hf262.mono (frs_st hst162 rfl)
      have hf264 := hf263.mono (frs_st hst174 rfl)
      have hf265 := hf264.mono (frs_st hst198 rfl)
      have hf266 := hf265.mono (frs_st hst205 rfl)
      have hf267 := hf266.mono (frs_st hst217 rfl)
      obtain ⟨r268, hp269, h⟩ := bnd h
      refine WL.call (vals := [.agg [vi r56.Scale, vu r56.Zero, vi r56.Pos.Offset, (.slice p78 m79 c80), vi r56.Neg.Offset, (.slice p83 m84 c85)].toArray, .agg [vi r99.Scale, vu r99.Zero, vi r99.Pos.Offset, (.slice p121 m122 c123), vi r99.Neg.Offset, (.slice p126 m127 c128)].toArray]) kok22 rfl rfl (c_ref08_Same (A := fun _ => True) (a0 := r56) (a1 := r99) (Sl.all hf243) (Sl.all hf253) (Sl.all hf260) (Sl.all hf267) hp269) ?_
      rintro vr272 wd271 ⟨rfl, hm270⟩
      obtain ⟨O273, hold274, hnew275, hst276⟩ := adoptE O203 (fun k => 1) hm270
      refine WL.y (Y.move rfl) rfl ?_
      refine WL.cut 4 (σ := Unit) (fun _ w' => wd271 = w') (fun _ => [(11, .pointer (some ⟨p159, 0, none⟩)), (12, vi r143), (13, .pointer (some ⟨p202, 0, none⟩)), (14, vi r186), (51, .bool (r268 && (decide (r57 = r100))))]) ?_ ?_
      · refine WL.part 47 rfl (fun hE277 => ?_) (fun hE277 => ?_)
        · refine WL.ung rfl rfl ?_
          refine WL.y (Y.move rfl) rfl ?_
          refine WL.ung rfl rfl ?_
          refine WL.y (Y.move rfl) rfl ?_
          refine WL.ung rfl rfl ?_
          refine WL.y (Y.eql_i rfl rfl) rfl ?_
          refine WL.y (Y.pick (b := true) rfl rfl) rfl ?_
          refine WL.ren (v' := .bool (r268 && (decide (r57 = r100)))) 51 rfl (congrArg Value.bool (andT hE277)) ?_
          exact WL.nil (At.join () rfl (.cons rfl (.cons rfl (.cons rfl (.cons rfl (.cons rfl .nil))))))
        · refine WL.gS rfl rfl rfl rfl ?_
          refine WL.gS rfl rfl rfl rfl ?_
          refine WL.gS rfl rfl rfl rfl ?_
          refine WL.y (Y.pick (b := false) rfl rfl) rfl ?_
          refine WL.ren (v' := .bool (r268 && (decide (r57 = r100)))) 51 rfl (congrArg Value.bool (andF hE277)) ?_
          exact WL.nil (At.join () rfl (.cons rfl (.cons rfl (.cons rfl (.cons rfl (.cons rfl .nil))))))
      · rintro _ _ rfl
        refine (show WL _ _ _ _ _ [(11, .pointer (some ⟨p159, 0, none⟩)), (12, vi r143), (13, .pointer (some ⟨p202, 0, none⟩)), (14, vi r186), (51, .bool (r268 && (decide (r57 = r100))))] _ from ?_)
        refine WL.y (Y.move rfl) rfl ?_
        obtain ⟨p282, h, hk283⟩ := bnd h
        refine WL.cut 4 (σ := (Bool × Own)) (fun x w' => x.1 = p282 ∧ Stp [] O273 wd271 x.2 w') (fun x => [(12, vi r143), (14, vi r186), (56, .bool x.1)]) ?_ ?_
        · rcases cnd h with ⟨hE284, h⟩ | ⟨hE284, h⟩
          · refine WL.ren 52 rfl (congrArg Value.bool hE284) ?_
            refine WL.ung rfl rfl ?_
            have hf285 := hb175.st hst198 rfl
            have hf286 := hf285.st hst205 rfl
            have hf287 := hf286.st hst217 rfl
            have hf288 := hf287.st hst276 rfl
            refine WL.y (Y.loadAg ty27 rfl rfl (hf288.cells 0 [vi r142.Scale, vu r142.Zero, vi r142.Pos.Offset, (.slice p164 m165 c166), vi r142.Neg.Offset, (.slice p169 m170 c171)] rfl) rfl) rfl ?_
            refine WL.ung rfl rfl ?_
            have hf289 := hb218.st hst276 rfl
            refine WL.y (Y.loadAg ty27 rfl rfl (hf289.cells 0 [vi r185.Scale, vu r185.Zero, vi r185.Pos.Offset, (.slice p207 m208 c209), vi r185.Neg.Offset, (.slice p212 m213 c214)] rfl) rfl) rfl ?_
            refine WL.ung rfl rfl ?_
            have hf290 := hf163.mono (frs_st hst174 rfl)
            have hf291 := hf290.mono (frs_st hst198 rfl)
            have hf292 := hf291.mono (frs_st hst205 rfl)
            have hf293 := hf292.mono (frs_st hst217 rfl)
            have hf294 := hf293.mono (frs_st hst276 rfl)
            have hf295 := hf168.mono (frs_st hst174 rfl)
            have hf296 := hf295.mono (frs_st hst198 rfl)
            have hf297 := hf296.mono (frs_st hst205 rfl)
            have hf298 := hf297.mono (frs_st hst217 rfl)
            have hf299 := hf298.mono (frs_st hst276 rfl)
            have hf300 := hf206.mono (frs_st hst217 rfl)
            have hf301 := hf300.mono (frs_st hst276 rfl)
            have hf302 := hf211.mono (frs_st hst217 rfl)
            have hf303 := hf302.mono (frs_st hst276 rfl)
            obtain ⟨r304, hp305, h⟩ := bnd h
            refine WL.call (vals := [.agg [vi r142.Scale, vu r142.Zero, vi r142.Pos.Offset, (.slice p164 m165 c166), vi r142.Neg.Offset, (.slice p169 m170 c171)].toArray, .agg [vi r185.Scale, vu r185.Zero, vi r185.Pos.Offset, (.slice p207 m208 c209), vi r185.Neg.Offset, (.slice p212 m213 c214)].toArray]) kok22 rfl rfl (c_ref08_Same (A := fun _ => True) (a0 := r142) (a1 := r185) (Sl.all hf294) (Sl.all hf299) (Sl.all hf301) (Sl.all hf303) hp305) ?_
            rintro vr308 wd307 ⟨rfl, hm306⟩
            obtain ⟨O309, hold310, hnew311, hst312⟩ := adoptE O273 (fun k => 1) hm306
            refine WL.y (Y.pick (b := true) rfl rfl) rfl ?_
            exact WL.nil (At.join (σ := (Bool × Own)) (r304, O309) ⟨some1 h, (Stp.up hst312 rfl)⟩ (.cons rfl (.cons rfl (.cons rfl .nil))))
          · refine WL.ren 52 rfl (congrArg Value.bool hE284) ?_
            refine WL.gS rfl rfl rfl rfl ?_
            refine WL.gS rfl rfl rfl rfl ?_
            refine WL.gS rfl rfl rfl rfl ?_
            refine WL.y (Y.pick (b := false) rfl rfl) rfl ?_
            exact WL.nil (At.join (σ := (Bool × Own)) (false, O273) ⟨some1 h, (Stp.refl _ _ _)⟩ (.cons rfl (.cons rfl (.cons rfl .nil))))
        · rintro ⟨x278, O279⟩ wd280 ⟨rfl, hst281⟩
          replace h := hk283
          try dsimp only at h hst281
          refine (show WL _ _ _ _ _ [(12, vi r143), (14, vi r186), (56, .bool x278)] _ from ?_)
          refine WL.y (Y.move rfl) rfl ?_
          refine WL.cut 4 (σ := Unit) (fun _ w' => wd280 = w') (fun _ => [(61, .bool (x278 && (decide (r143 = r186))))]) ?_ ?_
          · refine WL.part 57 rfl (fun hE313 => ?_) (fun hE313 => ?_)
            · refine WL.ung rfl rfl ?_
              refine WL.y (Y.move rfl) rfl ?_
              refine WL.ung rfl rfl ?_
              refine WL.y (Y.move rfl) rfl ?_
              refine WL.ung rfl rfl ?_
              refine WL.y (Y.eql_i rfl rfl) rfl ?_
              refine WL.y (Y.pick (b := true) rfl rfl) rfl ?_
              refine WL.ren (v' := .bool (x278 && (decide (r143 = r186)))) 61 rfl (congrArg Value.bool (andT hE313)) ?_
              exact WL.nil (At.join () rfl (.cons rfl .nil))
            · refine WL.gS rfl rfl rfl rfl ?_
              refine WL.gS rfl rfl rfl rfl ?_
              refine WL.gS rfl rfl rfl rfl ?_
              refine WL.y (Y.pick (b := false) rfl rfl) rfl ?_
              refine WL.ren (v' := .bool (x278 && (decide (r143 = r186)))) 61 rfl (congrArg Value.bool (andF hE313)) ?_
              exact WL.nil (At.join () rfl (.cons rfl .nil))
          · rintro _ _ rfl
            refine (show WL _ _ _ _ _ [(61, .bool (x278 && (decide (r143 = r186))))] _ from ?_)
            obtain ⟨t314, ht314, h⟩ := lt1 h
            refine WL.yE (Y.assign rfl) (congrArg Value.bool ht314.symm) rfl ?_
            refine WL.nil ?_
            refine At.then ?_
            refine WC.ret ?_
            obtain rfl := some1 h
            have hs315 : Stp [12, 13, 14, 15] (Lg.O0 A) w O279 wd280 := (Stp.trans (Stp.up hst25 rfl) (Stp.trans (Stp.up hst34 rfl) (Stp.trans (Stp.up hst50 rfl) (Stp.trans (Stp.up hst69 rfl) (Stp.trans (Stp.up hst76 rfl) (Stp.trans (Stp.up hst88 rfl) (Stp.trans (Stp.up hst112 rfl) (Stp.trans (Stp.up hst119 rfl) (Stp.trans (Stp.up hst131 rfl) (Stp.trans (Stp.up hst155 rfl) (Stp.trans (Stp.up hst162 rfl) (Stp.trans (Stp.up hst174 rfl) (Stp.trans (Stp.up hst198 rfl) (Stp.trans (Stp.up hst205 rfl) (Stp.trans (Stp.up hst217 rfl) (Stp.trans (Stp.up hst276 rfl) (Stp.up hst281 rfl)))))))))))))))))
            exact At.res (.inl rfl) rfl (.tmp rfl .nil) ⟨rfl, (Stp.ext hs315 rfl rfl)⟩

end Go.Lg
