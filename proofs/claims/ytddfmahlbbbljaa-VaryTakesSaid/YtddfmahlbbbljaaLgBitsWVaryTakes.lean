/- The walks of VaryTakes and of what it calls, printed by gen.py. -/
import Derived.Test.YtddfmahlbbbljaaLgBitsWVaryTakesx0
set_option linter.unusedVariables false
namespace Go.Lg
open Go Go.Proofs
set_option maxRecDepth 100000
theorem c_vary_step {A : Nat → Prop} {v0_0 : Value} {a0 : bitio_Reader} {b0 : Nat} {w : World} (hs0_0 : Sl Rep.b w A v0_0 a0.b) (hb0 : w.heap[b0]? = some (.cells (List.toArray [v0_0, vi a0.n, vi a0.at_]) 77 (0, 0))) (hA : ∀ k, A k → k ≠ b0) {r0 : Int} {r1 : Int} {q0 : bitio_Reader} (h : vary_step a0 = some (r0, r1, q0)) : Rets Try.prog 56 [.pointer (some ⟨b0, 0, none⟩)] w (fun v w' => ∃ (z0_0 : Value), v = .tuple (List.toArray [vi r0, vi r1]) ∧ Mod (fun k => k = b0) w w' ∧ Sl Rep.b w' (fun k => A k ∨ w.heap.size ≤ k) z0_0 q0.b ∧ w'.heap[b0]? = some (.cells (List.toArray [z0_0, vi q0.n, vi q0.at_]) 77 (0, 0))) := by
  unfold vary_step at h
  refine Rets.enter Try.func56 rfl rfl ?_
  have hf11 : Sl Rep.b w (imm (Lg.OB b0 3 (Lg.O0 A))) v0_0 a0.b := (Sl.OB (Sl.start hs0_0) (fun k hk => (hA k (O0_A k hk))))
  have hb12 : Blk 3 (Lg.OB b0 3 (Lg.O0 A)) w b0 77 [v0_0, vi a0.n, vi a0.at_] := ⟨(if_pos rfl), hb0⟩
  refine (show WC _ _ _ _ [(0, .pointer (some ⟨b0, 0, none⟩))] _ from ?_)
  refine WC.seq ?_
  refine WC.region ?_
  refine WL.y (Y.assign rfl) rfl ?_
  refine WL.y (Y.assign rfl) rfl ?_
  refine WL.nil ?_
  refine At.then ?_
  refine WC.seq ?_
  refine WC.region ?_
  refine WL.y (Y.move rfl) rfl ?_
  refine WL.y (Y.nilCheck rfl) rfl ?_
  refine WL.y (Y.loadAg ty77 rfl rfl (hb12.cells 0 [v0_0, vi a0.n, vi a0.at_] rfl) rfl) rfl ?_
  refine WL.alloc (O := (Lg.OB b0 3 (Lg.O0 A))) 11 [.slice none 0 0, vi 0, vi 0] ty77 rfl rfl ?_
  intro p14 O15 wd16 hst17 hb13
  have hf18 := hf11.mono (imm_st hst17 rfl rfl)
  have hh22 := h
  obtain ⟨p19, m20, c21, rfl⟩ := hf18.shape
  have h := hh22
  refine WL.store (v := .agg [(.slice p19 m20 c21), vi a0.n, vi a0.at_].toArray) (cells' := [(.slice p19 m20 c21), vi a0.n, vi a0.at_]) ty77 rfl rfl hb13 rfl (Nat.le_of_ble_eq_true rfl) rfl rfl ?_
  intro wd23 hst24 hb25
  refine WL.nil ?_
  refine At.then ?_
  refine WC.seq ?_
  refine WC.region ?_
  refine WL.y (Y.assign rfl) rfl ?_
  refine WL.nil ?_
  refine At.then ?_
  refine WC.seq ?_
  obtain ⟨p36, h, hk37⟩ := flow1 h
  refine WC.join (σ := (List UInt8 × Int × Int × Int × Own × Value)) (fun x w' => p36 = .go (x.1, x.2.1, x.2.2.1, x.2.2.2.1) ∧ Stp [11] O15 wd23 x.2.2.2.2.1 w' ∧ Sl Rep.b w' (imm x.2.2.2.2.1) x.2.2.2.2.2 x.1 ∧ Blk 11 x.2.2.2.2.1 w' p14 77 [x.2.2.2.2.2, vi x.2.1, vi x.2.2.1]) (fun x => [(0, .pointer (some ⟨b0, 0, none⟩)), (4, .pointer (some ⟨p14, 0, none⟩)), (5, vi x.2.2.2.1)]) ?_ ?_
  · refine WC.block ?_
    obtain ⟨p58, h, hk60⟩ := flow1 h
    obtain ⟨k59, h⟩ := loop_some h
    refine WC.joinB 0 (σ := (List UInt8 × Int × Int × Int × Own × Value)) (fun x w' => p58 = .go (x.1, x.2.1, x.2.2.1, x.2.2.2.1) ∧ Stp [11] O15 wd23 x.2.2.2.2.1 w' ∧ Sl Rep.b w' (imm x.2.2.2.2.1) x.2.2.2.2.2 x.1 ∧ Blk 11 x.2.2.2.2.1 w' p14 77 [x.2.2.2.2.2, vi x.2.1, vi x.2.2.1]) (fun x => [(0, .pointer (some ⟨b0, 0, none⟩)), (4, .pointer (some ⟨p14, 0, none⟩)), (5, vi x.2.2.2.1)]) ?_ ?_
    · have hf61 := hf18.mono (imm_st hst24 rfl rfl)
      refine WC.loop (σ := (List UInt8 × Int × Int × Int × Own × Value)) (fun x k w' => loopN k (vary_step_lp1 a0) (x.1, x.2.1, x.2.2.1, x.2.2.2.1) = some p58 ∧ Stp [11] O15 wd23 x.2.2.2.2.1 w' ∧ Sl Rep.b w' (imm x.2.2.2.2.1) x.2.2.2.2.2 x.1 ∧ Blk 11 x.2.2.2.2.1 w' p14 77 [x.2.2.2.2.2, vi x.2.1, vi x.2.2.1]) (fun x => [(0, .pointer (some ⟨b0, 0, none⟩)), (4, .pointer (some ⟨p14, 0, none⟩)), (5, vi x.2.2.2.1)]) (a0.b, a0.n, a0.at_, 0, O15, (.slice p19 m20 c21)) k59 (.cons rfl (.cons rfl (.cons rfl .nil))) ⟨h, (Stp.refl _ _ _), hf61, hb25⟩ ?_
      rintro ⟨c39, c42, c43, k44, O45, v40⟩ k59 wd46 ⟨h, hst47, hf41, hb38⟩
      obtain ⟨j62, q63, rfl, h, hn64⟩ := rnd1 h
      unfold vary_step_lp1 at h
      try dsimp only at h hst47 hf41 hb38
      refine (show WC _ _ _ _ [(0, .pointer (some ⟨b0, 0, none⟩)), (4, .pointer (some ⟨p14, 0, none⟩)), (5, vi k44)] _ from ?_)
      refine WC.seq ?_
      refine WC.seq ?_
      refine WC.region ?_
      refine WL.y (Y.move rfl) rfl ?_
      refine WL.y (Y.lss_i rfl rfl) rfl ?_
      refine WL.nil ?_
      refine At.then ?_
      rcases cnd h with ⟨hc65, h⟩ | ⟨hc65, h⟩
      · refine WC.condT' rfl hc65 ?_
        refine WC.skip ?_
        refine At.then ?_
        refine WC.block ?_
        refine WC.seq ?_
        refine WC.region ?_
        obtain ⟨⟨r66, r67, r68⟩, hp69, h⟩ := bnd h
        refine WL.call (vals := [.pointer (some ⟨p14, 0, none⟩), vi 1]) kok17 rfl rfl (c_bitio_Reader_Take (A := imm O45) (a0 := (bitio_Reader.mk c39 c42 c43)) hf41 hb38.blk (fun k hk => imm_ne hb38.lab rfl k hk) hp69) ?_
        rintro vr75 wd74 ⟨z70, rfl, hm73, f71, f72⟩
        obtain ⟨O76, hold77, hnew78, hst79⟩ := adopt O45 (fun k => 1) [11] hm73 (memB hb38.lab rfl)
        have hf80 : Sl Rep.b wd74 (imm O76) z70 r68.b := Sl.adoptI (O := O45) f71 (fun _ hk => hk) (fun _ _ => Nat.le_refl _) hold77 hnew78
        have hb81 : Blk 11 O76 wd74 p14 77 [z70, vi r68.n, vi r68.at_] := Blk.adopt hb38 hold77 f72
        refine WL.y (Y.move rfl) rfl ?_
        refine WL.y (Y.extract rfl rfl) rfl ?_
        refine WL.y (Y.extract rfl rfl) rfl ?_
        refine WL.y (Y.assign rfl) rfl ?_
        refine WL.y (Y.assign rfl) rfl ?_
        refine WL.nil ?_
        refine At.then ?_
        refine WC.seq ?_
        refine WC.seq ?_
        refine WC.region ?_
        refine WL.y (Y.move rfl) rfl ?_
        refine WL.y (Y.not rfl) rfl ?_
        refine WL.nil ?_
        refine At.then ?_
        rcases cnd h with ⟨hc82, h⟩ | ⟨hc82, h⟩
        · refine WC.condT' rfl hc82 ?_
          refine WC.seq ?_
          refine WC.region ?_
          refine WL.y (Y.assign rfl) rfl ?_
          refine WL.y (Y.assign rfl) rfl ?_
          refine WL.nil ?_
          refine At.then ?_
          refine WC.ret ?_
          refine At.thenR ?_
          refine At.inBlockR ?_
          refine At.loopR ?_
          have h := outr1 h hn64 hk60
          refine At.joinBR ?_
          refine At.inBlockR ?_
          have h := outs1 h hk37
          refine At.joinR ?_
          refine At.thenR ?_
          obtain ⟨rfl, rfl, rfl⟩ := tup3 h
          have hs83 : Stp [11] (Lg.OB b0 3 (Lg.O0 A)) w O76 wd74 := (Stp.trans (Stp.up hst17 rfl) (Stp.trans (Stp.up hst24 rfl) (Stp.trans (Stp.up hst47 rfl) (Stp.up hst79 rfl))))
          have hf84 := hb12.st hst17 rfl
          have hf85 := hf84.st hst24 rfl
          have hf86 := hf85.st hst47 rfl
          have hf87 := hf86.st hst79 rfl
          have hf88 := hf18.mono (imm_st hst24 rfl rfl)
          have hf89 := hf88.mono (imm_st hst47 rfl rfl)
          have hf90 := hf89.mono (imm_st hst79 rfl rfl)
          exact At.res (.inl rfl) rfl (.tmp rfl (.tmp rfl .nil)) ⟨(.slice p19 m20 c21), rfl, (Stp.modL hs83 sB1 rfl rfl), (Sl.outI hf90 hs83 (lowB low0 rfl rfl) (aB O0_A rfl)), hf87.blk⟩
        · refine WC.condF' rfl hc82 ?_
          refine WC.skip ?_
          refine At.then ?_
          refine WC.seq ?_
          refine WC.seq ?_
          refine WC.region ?_
          refine WL.y (Y.move rfl) rfl ?_
          refine WL.y (Y.eql_u (b := 0) rfl rfl) rfl ?_
          refine WL.nil ?_
          refine At.then ?_
          rcases cnd h with ⟨hc91, h⟩ | ⟨hc91, h⟩
          · refine WC.condT' rfl hc91 ?_
            refine WC.exit ?_
            refine At.thenX ?_
            refine At.inBlockMiss rfl ?_
            refine At.loopX ?_
            exact At.hitB (σ := (List UInt8 × Int × Int × Int × Own × Value)) (r68.b, r68.n, r68.at_, k44, O76, z70) ⟨brk1 h hn64, (Stp.trans (Stp.up hst47 rfl) (Stp.up hst79 rfl)), hf80, hb81⟩ (.cons rfl (.cons rfl (.cons rfl .nil)))
          · refine WC.condF' rfl hc91 ?_
            refine WC.skip ?_
            refine At.then ?_
            refine WC.region ?_
            refine WL.y (Y.move rfl) rfl ?_
            refine WL.y (Y.add_i rfl rfl) rfl ?_
            obtain ⟨k92, hk92, h⟩ := lt1 h
            refine WL.yE (Y.assign rfl) (congrArg vi hk92.symm) rfl ?_
            refine WL.nil ?_
            refine At.inBlock ?_
            exact At.round (r68.b, r68.n, r68.at_, k92, O76, z70) j62 (Nat.lt_succ_self _) ⟨next1 h hn64, (Stp.trans (Stp.up hst47 rfl) (Stp.up hst79 rfl)), hf80, hb81⟩ (.cons rfl (.cons rfl (.cons rfl .nil)))
      · refine WC.condF' rfl hc65 ?_
        refine WC.exit ?_
        refine At.thenX ?_
        refine At.loopX ?_
        exact At.hitB (σ := (List UInt8 × Int × Int × Int × Own × Value)) (c39, c42, c43, k44, O45, v40) ⟨brk1 h hn64, (Stp.up hst47 rfl), hf41, hb38⟩ (.cons rfl (.cons rfl (.cons rfl .nil)))
    · rintro ⟨c49, c52, c53, k54, O55, v50⟩ wd56 ⟨rfl, hst57, hf51, hb48⟩
      replace h := flowK_go hk60
      try dsimp only at h hst57 hf51 hb48
      refine (show At _ _ _ [(0, .pointer (some ⟨b0, 0, none⟩)), (4, .pointer (some ⟨p14, 0, none⟩)), (5, vi k54)] _ from ?_)
      refine At.inBlockHit ?_
      exact At.join (σ := (List UInt8 × Int × Int × Int × Own × Value)) (c49, c52, c53, k54, O55, v50) ⟨go2 h, (Stp.up hst57 rfl), hf51, hb48⟩ (.cons rfl (.cons rfl (.cons rfl .nil)))
  · rintro ⟨c27, c30, c31, k32, O33, v28⟩ wd34 ⟨rfl, hst35, hf29, hb26⟩
    replace h := flowK_go hk37
    try dsimp only at h hst35 hf29 hb26
    refine (show At _ _ _ [(0, .pointer (some ⟨b0, 0, none⟩)), (4, .pointer (some ⟨p14, 0, none⟩)), (5, vi k32)] _ from ?_)
    refine At.then ?_
    refine WC.seq ?_
    refine WC.region ?_
    obtain ⟨r93, hp94, h⟩ := bnd h
    refine WL.call (vals := []) kok59 rfl rfl (c_vary_widths hp94) ?_
    rintro vr100 wd99 ⟨cs95, rfl, hm98, f96, f97⟩
    obtain ⟨O101, hold102, hnew103, hst104⟩ := adoptE O33 (fun k => 1) hm98
    have hf105 := Rows'.adoptF f96 (fun k hk => ⟨hk, rfl⟩) hnew103
    refine WL.y (Y.move rfl) rfl ?_
    obtain ⟨e106, he106, h⟩ := bnd h
    obtain ⟨cs107, hcs108, hok109⟩ := arrAt (R := Rep.i) (w := wd99) (A := imm O101) (cells := cs95) hf105 he106
    obtain rfl := hok109
    replace hcs108 : _ = [vi e106] := hcs108
    refine WL.y (Y.indexArrSc ty85 ty3 rfl rfl hcs108 he106 f97) rfl ?_
    refine WL.y (Y.assign rfl) rfl ?_
    refine WL.nil ?_
    refine At.then ?_
    refine WC.seq ?_
    refine WC.region ?_
    refine WL.y (Y.move rfl) rfl ?_
    have hf110 := hb26.st hst104 rfl
    have hf111 := hf29.mono (imm_st hst104 rfl rfl)
    obtain ⟨⟨r112, r113, r114⟩, hp115, h⟩ := bnd h
    refine WL.call (vals := [.pointer (some ⟨p14, 0, none⟩), vi e106]) kok17 rfl rfl (c_bitio_Reader_Take (A := imm O101) (a0 := (bitio_Reader.mk c27 c30 c31)) hf111 hf110.blk (fun k hk => imm_ne hf110.lab rfl k hk) hp115) ?_
    rintro vr121 wd120 ⟨z116, rfl, hm119, f117, f118⟩
    obtain ⟨O122, hold123, hnew124, hst125⟩ := adopt O101 (fun k => 1) [11] hm119 (memB hf110.lab rfl)
    have hf126 : Sl Rep.b wd120 (imm O122) z116 r114.b := Sl.adoptI (O := O101) f117 (fun _ hk => hk) (fun _ _ => Nat.le_refl _) hold123 hnew124
    have hb127 : Blk 11 O122 wd120 p14 77 [z116, vi r114.n, vi r114.at_] := Blk.adopt hf110 hold123 f118
    refine WL.y (Y.move rfl) rfl ?_
    refine WL.y (Y.extract rfl rfl) rfl ?_
    refine WL.y (Y.extract rfl rfl) rfl ?_
    refine WL.y (Y.assign rfl) rfl ?_
    refine WL.y (Y.assign rfl) rfl ?_
    refine WL.nil ?_
    refine At.then ?_
    refine WC.seq ?_
    refine WC.seq ?_
    refine WC.region ?_
    refine WL.y (Y.move rfl) rfl ?_
    refine WL.y (Y.not rfl) rfl ?_
    refine WL.nil ?_
    refine At.then ?_
    rcases cnd h with ⟨hc128, h⟩ | ⟨hc128, h⟩
    · refine WC.condT' rfl hc128 ?_
      refine WC.seq ?_
      refine WC.region ?_
      refine WL.y (Y.assign rfl) rfl ?_
      refine WL.y (Y.assign rfl) rfl ?_
      refine WL.nil ?_
      refine At.then ?_
      refine WC.ret ?_
      refine At.thenR ?_
      obtain ⟨rfl, rfl, rfl⟩ := tup3 h
      have hs129 : Stp [11] (Lg.OB b0 3 (Lg.O0 A)) w O122 wd120 := (Stp.trans (Stp.up hst17 rfl) (Stp.trans (Stp.up hst24 rfl) (Stp.trans (Stp.up hst35 rfl) (Stp.trans (Stp.up hst104 rfl) (Stp.up hst125 rfl)))))
      have hf130 := hb12.st hst17 rfl
      have hf131 := hf130.st hst24 rfl
      have hf132 := hf131.st hst35 rfl
      have hf133 := hf132.st hst104 rfl
      have hf134 := hf133.st hst125 rfl
      have hf135 := hf18.mono (imm_st hst24 rfl rfl)
      have hf136 := hf135.mono (imm_st hst35 rfl rfl)
      have hf137 := hf136.mono (imm_st hst104 rfl rfl)
      have hf138 := hf137.mono (imm_st hst125 rfl rfl)
      exact At.res (.inl rfl) rfl (.tmp rfl (.tmp rfl .nil)) ⟨(.slice p19 m20 c21), rfl, (Stp.modL hs129 sB1 rfl rfl), (Sl.outI hf138 hs129 (lowB low0 rfl rfl) (aB O0_A rfl)), hf134.blk⟩
    · refine WC.condF' rfl hc128 ?_
      refine WC.skip ?_
      refine At.then ?_
      refine WC.seq ?_
      refine WC.region ?_
      refine WL.y (Y.move rfl) rfl ?_
      refine WL.y (Y.move rfl) rfl ?_
      refine WL.y (Y.sub_i rfl rfl) rfl ?_
      refine WL.y (Y.conv_iu ty3.u ty74.u rfl) rfl ?_
      refine WL.y (Y.shl_uu rfl rfl) rfl ?_
      refine WL.y (Y.conv_ui ty29.u ty3.u rfl) rfl ?_
      refine WL.y (Y.move rfl) rfl ?_
      refine WL.y (Y.sub_i rfl rfl) rfl ?_
      refine WL.y (Y.conv_iu ty3.u ty74.u rfl) rfl ?_
      refine WL.y (Y.shr_iu rfl rfl) rfl ?_
      obtain ⟨d139, hd139, h⟩ := lt1 h
      refine WL.yE (Y.assign rfl) (congrArg vi hd139.symm) rfl ?_
      refine WL.nil ?_
      refine At.then ?_
      refine WC.seq ?_
      refine WC.seq ?_
      refine WC.region ?_
      refine WL.y (Y.move rfl) rfl ?_
      obtain ⟨r140, hp141, h⟩ := bnd h
      refine WL.call (vals := [vi d139]) kok58 rfl rfl (c_vary_way hp141) ?_
      rintro vr144 wd143 ⟨rfl, hm142⟩
      obtain ⟨O145, hold146, hnew147, hst148⟩ := adoptE O122 (fun k => 1) hm142
      refine WL.y (Y.move rfl) rfl ?_
      refine WL.y (Y.neq_i rfl rfl) rfl ?_
      refine WL.nil ?_
      refine At.then ?_
      rcases cnd h with ⟨hc149, h⟩ | ⟨hc149, h⟩
      · refine WC.condT' rfl hc149 ?_
        refine WC.seq ?_
        refine WC.region ?_
        refine WL.y (Y.assign rfl) rfl ?_
        refine WL.y (Y.assign rfl) rfl ?_
        refine WL.nil ?_
        refine At.then ?_
        refine WC.ret ?_
        refine At.thenR ?_
        obtain ⟨rfl, rfl, rfl⟩ := tup3 h
        have hs150 : Stp [11] (Lg.OB b0 3 (Lg.O0 A)) w O145 wd143 := (Stp.trans (Stp.up hst17 rfl) (Stp.trans (Stp.up hst24 rfl) (Stp.trans (Stp.up hst35 rfl) (Stp.trans (Stp.up hst104 rfl) (Stp.trans (Stp.up hst125 rfl) (Stp.up hst148 rfl))))))
        have hf151 := hb12.st hst17 rfl
        have hf152 := hf151.st hst24 rfl
        have hf153 := hf152.st hst35 rfl
        have hf154 := hf153.st hst104 rfl
        have hf155 := hf154.st hst125 rfl
        have hf156 := hf155.st hst148 rfl
        have hf157 := hf18.mono (imm_st hst24 rfl rfl)
        have hf158 := hf157.mono (imm_st hst35 rfl rfl)
        have hf159 := hf158.mono (imm_st hst104 rfl rfl)
        have hf160 := hf159.mono (imm_st hst125 rfl rfl)
        have hf161 := hf160.mono (imm_st hst148 rfl rfl)
        exact At.res (.inl rfl) rfl (.tmp rfl (.tmp rfl .nil)) ⟨(.slice p19 m20 c21), rfl, (Stp.modL hs150 sB1 rfl rfl), (Sl.outI hf161 hs150 (lowB low0 rfl rfl) (aB O0_A rfl)), hf156.blk⟩
      · refine WC.condF' rfl hc149 ?_
        refine WC.skip ?_
        refine At.then ?_
        refine WC.seq ?_
        refine WC.region ?_
        refine WL.y (Y.move rfl) rfl ?_
        have hf162 := hb127.st hst148 rfl
        have hf163 := hf126.mono (imm_st hst148 rfl rfl)
        obtain ⟨r164, hp165, h⟩ := bnd h
        refine WL.call (vals := [.pointer (some ⟨p14, 0, none⟩)]) kok20 rfl rfl (c_bitio_Reader_At (A := fun _ => True) (a0 := r114) (Sl.all hf163) hf162.blk trivial hp165) ?_
        rintro vr168 wd167 ⟨rfl, hm166⟩
        obtain ⟨O169, hold170, hnew171, hst172⟩ := adoptE O145 (fun k => 1) hm166
        refine WL.y (Y.move rfl) rfl ?_
        have hf173 := hb12.st hst17 rfl
        have hf174 := hf173.st hst24 rfl
        have hf175 := hf174.st hst35 rfl
        have hf176 := hf175.st hst104 rfl
        have hf177 := hf176.st hst125 rfl
        have hf178 := hf177.st hst148 rfl
        have hf179 := hf178.st hst172 rfl
        have hf180 := hf18.mono (imm_st hst24 rfl rfl)
        have hf181 := hf180.mono (imm_st hst35 rfl rfl)
        have hf182 := hf181.mono (imm_st hst104 rfl rfl)
        have hf183 := hf182.mono (imm_st hst125 rfl rfl)
        have hf184 := hf183.mono (imm_st hst148 rfl rfl)
        have hf185 := hf184.mono (imm_st hst172 rfl rfl)
        obtain ⟨r186, hp187, h⟩ := bnd h
        refine WL.call (vals := [.pointer (some ⟨b0, 0, none⟩)]) kok20 rfl rfl (c_bitio_Reader_At (A := fun _ => True) (a0 := a0) (Sl.all hf185) hf179.blk trivial hp187) ?_
        rintro vr190 wd189 ⟨rfl, hm188⟩
        obtain ⟨O191, hold192, hnew193, hst194⟩ := adoptE O169 (fun k => 1) hm188
        refine WL.y (Y.sub_i rfl rfl) rfl ?_
        have hf195 := hf179.st hst194 rfl
        have hf196 := hf185.mono (imm_st hst194 rfl rfl)
        obtain ⟨⟨r197, r198⟩, hp199, h⟩ := bnd h
        refine WL.call (vals := [.pointer (some ⟨b0, 0, none⟩), vi (w64 (r164 - r186))]) kok22 rfl rfl (c_bitio_Reader_Skip (A := imm O191) (a0 := a0) hf196 hf195.blk (fun k hk => imm_ne hf195.lab rfl k hk) hp199) ?_
        rintro vr205 wd204 ⟨z200, rfl, hm203, f201, f202⟩
        obtain ⟨O206, hold207, hnew208, hst209⟩ := adopt O191 (fun k => 1) [3] hm203 (memB hf195.lab rfl)
        have hf210 : Sl Rep.b wd204 (imm O206) z200 r198.b := Sl.adoptI (O := O191) f201 (fun _ hk => hk) (fun _ _ => Nat.le_refl _) hold207 hnew208
        have hb211 : Blk 3 O206 wd204 b0 77 [z200, vi r198.n, vi r198.at_] := Blk.adopt hf195 hold207 f202
        refine WL.nil ?_
        refine At.then ?_
        refine WC.seq ?_
        refine WC.region ?_
        refine WL.y (Y.move rfl) rfl ?_
        refine WL.y (Y.assign rfl) rfl ?_
        refine WL.y (Y.assign rfl) rfl ?_
        refine WL.nil ?_
        refine At.then ?_
        refine WC.ret ?_
        obtain ⟨rfl, rfl, rfl⟩ := tup3 h
        have hs212 : Stp [3, 11] (Lg.OB b0 3 (Lg.O0 A)) w O206 wd204 := (Stp.trans (Stp.up hst17 rfl) (Stp.trans (Stp.up hst24 rfl) (Stp.trans (Stp.up hst35 rfl) (Stp.trans (Stp.up hst104 rfl) (Stp.trans (Stp.up hst125 rfl) (Stp.trans (Stp.up hst148 rfl) (Stp.trans (Stp.up hst172 rfl) (Stp.trans (Stp.up hst194 rfl) (Stp.up hst209 rfl)))))))))
        exact At.res (.inl rfl) rfl (.tmp rfl (.tmp rfl .nil)) ⟨z200, rfl, (Stp.modL hs212 sB1 rfl rfl), (Sl.outI hf210 hs212 (lowB low0 rfl rfl) (aB O0_A rfl)), hb211.blk⟩

theorem c_vary_Row_Get {A : Nat → Prop} {a0 : vary_Row} {b0 : Nat} {v1_0 : Value} {a1 : bitio_Reader} {b1 : Nat} {w : World} (hb0 : w.heap[b0]? = some (.cells (List.toArray [vi a0.n, vu a0.last, vu a0.step]) 83 (0, 0))) (hs1_0 : Sl Rep.b w A v1_0 a1.b) (hb1 : w.heap[b1]? = some (.cells (List.toArray [v1_0, vi a1.n, vi a1.at_]) 77 (0, 0))) (hne0_1 : b0 ≠ b1) (hA : ∀ k, A k → k ≠ b0 ∧ k ≠ b1) {r0 : Int} {r1 : Int} {q0 : vary_Row} {q1 : bitio_Reader} (h : vary_Row_Get a0 a1 = some (r0, r1, q0, q1)) : Rets Try.prog 41 [.pointer (some ⟨b0, 0, none⟩), .pointer (some ⟨b1, 0, none⟩)] w (fun v w' => ∃ (z1_0 : Value), v = .tuple (List.toArray [vi r0, vi r1]) ∧ Mod (fun k => k = b0 ∨ k = b1) w w' ∧ w'.heap[b0]? = some (.cells (List.toArray [vi q0.n, vu q0.last, vu q0.step]) 83 (0, 0)) ∧ Sl Rep.b w' (fun k => A k ∨ w.heap.size ≤ k) z1_0 q1.b ∧ w'.heap[b1]? = some (.cells (List.toArray [z1_0, vi q1.n, vi q1.at_]) 77 (0, 0))) := by
  unfold vary_Row_Get at h
  refine Rets.enter Try.func41 rfl rfl ?_
  have hb11 : Blk 3 (Lg.OB b0 3 (Lg.OB b1 4 (Lg.O0 A))) w b0 83 [vi a0.n, vu a0.last, vu a0.step] := ⟨(if_pos rfl), hb0⟩
  have hf12 : Sl Rep.b w (imm (Lg.OB b0 3 (Lg.OB b1 4 (Lg.O0 A)))) v1_0 a1.b := (Sl.OB (Sl.OB (Sl.start hs1_0) (fun k hk => (hA k (O0_A k hk)).2)) (fun k hk => (hA k ((aB O0_A rfl) k hk)).1))
  have hb13 : Blk 4 (Lg.OB b0 3 (Lg.OB b1 4 (Lg.O0 A))) w b1 77 [v1_0, vi a1.n, vi a1.at_] := ⟨((if_neg (fun (e : b1 = b0) => hne0_1 e.symm)).trans (if_pos rfl)), hb1⟩
  refine (show WC _ _ _ _ [(0, .pointer (some ⟨b0, 0, none⟩)), (1, .pointer (some ⟨b1, 0, none⟩))] _ from ?_)
  refine WC.seq ?_
  refine WC.region ?_
  refine WL.y (Y.assign rfl) rfl ?_
  refine WL.y (Y.assign rfl) rfl ?_
  refine WL.nil ?_
  refine At.then ?_
  refine WC.seq ?_
  refine WC.region ?_
  refine WL.y (Y.assign (v := vu 0) rfl) rfl ?_
  refine WL.nil ?_
  refine At.then ?_
  refine WC.seq ?_
  obtain ⟨p24, h, hk25⟩ := flow1 h
  refine WC.join (σ := (List UInt8 × Int × Int × UInt64 × Own × Value)) (fun x w' => p24 = .go (x.1, x.2.1, x.2.2.1, x.2.2.2.1) ∧ Stp [4] (Lg.OB b0 3 (Lg.OB b1 4 (Lg.O0 A))) w x.2.2.2.2.1 w' ∧ Sl Rep.b w' (imm x.2.2.2.2.1) x.2.2.2.2.2 x.1 ∧ Blk 4 x.2.2.2.2.1 w' b1 77 [x.2.2.2.2.2, vi x.2.1, vi x.2.2.1]) (fun x => [(0, .pointer (some ⟨b0, 0, none⟩)), (6, vu x.2.2.2.1)]) ?_ ?_
  · refine WC.seq ?_
    refine WC.region ?_
    refine WL.y (Y.move rfl) rfl ?_
    refine WL.y (Y.nilCheck rfl) rfl ?_
    refine WL.y (Y.fieldAddr fo83_0 rfl) rfl ?_
    refine WL.y (Y.loadSc ty3 rfl rfl (hb11.cell 0 _ rfl)) rfl ?_
    refine WL.y (Y.lss_i rfl rfl) rfl ?_
    refine WL.nil ?_
    refine At.then ?_
    rcases cnd h with ⟨hc26, h⟩ | ⟨hc26, h⟩
    · refine WC.condT' rfl hc26 ?_
      refine WC.seq ?_
      refine WC.region ?_
      refine WL.y (Y.move rfl) rfl ?_
      obtain ⟨⟨r27, r28, r29⟩, hp30, h⟩ := bnd h
      refine WL.call (vals := [.pointer (some ⟨b1, 0, none⟩)]) kok36 rfl rfl (c_vary_GetInt (A := imm (Lg.OB b0 3 (Lg.OB b1 4 (Lg.O0 A)))) (a0 := a1) hf12 hb13.blk (fun k hk => imm_ne hb13.lab rfl k hk) hp30) ?_
      rintro vr36 wd35 ⟨z31, rfl, hm34, f32, f33⟩
      obtain ⟨O37, hold38, hnew39, hst40⟩ := adopt (Lg.OB b0 3 (Lg.OB b1 4 (Lg.O0 A))) (fun k => 1) [4] hm34 (memB hb13.lab rfl)
      have hf41 : Sl Rep.b wd35 (imm O37) z31 r29.b := Sl.adoptI (O := (Lg.OB b0 3 (Lg.OB b1 4 (Lg.O0 A)))) f32 (fun _ hk => hk) (fun _ _ => Nat.le_refl _) hold38 hnew39
      have hb42 : Blk 4 O37 wd35 b1 77 [z31, vi r29.n, vi r29.at_] := Blk.adopt hb13 hold38 f33
      refine WL.y (Y.move rfl) rfl ?_
      refine WL.y (Y.extract rfl rfl) rfl ?_
      refine WL.y (Y.extract rfl rfl) rfl ?_
      refine WL.y (Y.assign rfl) rfl ?_
      refine WL.y (Y.assign rfl) rfl ?_
      refine WL.nil ?_
      refine At.then ?_
      refine WC.seq ?_
      refine WC.seq ?_
      refine WC.region ?_
      refine WL.y (Y.move rfl) rfl ?_
      refine WL.y (Y.neq_i rfl rfl) rfl ?_
      refine WL.nil ?_
      refine At.then ?_
      rcases cnd h with ⟨hc43, h⟩ | ⟨hc43, h⟩
      · refine WC.condT' rfl hc43 ?_
        refine WC.seq ?_
        refine WC.region ?_
        refine WL.y (Y.move rfl) rfl ?_
        refine WL.y (Y.assign rfl) rfl ?_
        refine WL.y (Y.assign rfl) rfl ?_
        refine WL.nil ?_
        refine At.then ?_
        refine WC.ret ?_
        refine At.thenR ?_
        have h := outs1 h hk25
        refine At.joinR ?_
        refine At.thenR ?_
        obtain ⟨rfl, rfl, rfl, rfl⟩ := tup4 h
        have hs44 : Stp [4] (Lg.OB b0 3 (Lg.OB b1 4 (Lg.O0 A))) w O37 wd35 := (Stp.up hst40 rfl)
        have hf45 := hb11.st hst40 rfl
        exact At.res (.inl rfl) rfl (.tmp rfl (.tmp rfl .nil)) ⟨z31, rfl, (Stp.modL hs44 (sB sB1) rfl rfl), hf45.blk, (Sl.outI hf41 hs44 (lowB (lowB low0 rfl rfl) rfl rfl) (aB (aB O0_A rfl) rfl)), hb42.blk⟩
      · refine WC.condF' rfl hc43 ?_
        refine WC.skip ?_
        refine At.then ?_
        refine WC.region ?_
        refine WL.y (Y.move rfl) rfl ?_
        refine WL.y (Y.nilCheck rfl) rfl ?_
        refine WL.y (Y.fieldAddr fo83_1 rfl) rfl ?_
        have hf46 := hb11.st hst40 rfl
        refine WL.y (Y.loadSc ty29 rfl rfl (hf46.cell 1 _ rfl)) rfl ?_
        refine WL.y (Y.move rfl) rfl ?_
        refine WL.y (Y.conv_iu ty3.u ty29.u rfl) rfl ?_
        refine WL.y (Y.add_u rfl rfl) rfl ?_
        obtain ⟨v47, hv47, h⟩ := lt1 h
        refine WL.yE (Y.assign rfl) (congrArg vu hv47.symm) rfl ?_
        refine WL.nil ?_
        exact At.join (σ := (List UInt8 × Int × Int × UInt64 × Own × Value)) (r29.b, r29.n, r29.at_, v47, O37, z31) ⟨go2 h, (Stp.up hst40 rfl), hf41, hb42⟩ (.cons rfl (.cons rfl .nil))
    · refine WC.condF' rfl hc26 ?_
      refine WC.seq ?_
      refine WC.region ?_
      refine WL.y (Y.move rfl) rfl ?_
      obtain ⟨⟨r48, r49, r50⟩, hp51, h⟩ := bnd h
      refine WL.call (vals := [.pointer (some ⟨b1, 0, none⟩)]) kok56 rfl rfl (c_vary_step (A := imm (Lg.OB b0 3 (Lg.OB b1 4 (Lg.O0 A)))) (a0 := a1) hf12 hb13.blk (fun k hk => imm_ne hb13.lab rfl k hk) hp51) ?_
      rintro vr57 wd56 ⟨z52, rfl, hm55, f53, f54⟩
      obtain ⟨O58, hold59, hnew60, hst61⟩ := adopt (Lg.OB b0 3 (Lg.OB b1 4 (Lg.O0 A))) (fun k => 1) [4] hm55 (memB hb13.lab rfl)
      have hf62 : Sl Rep.b wd56 (imm O58) z52 r50.b := Sl.adoptI (O := (Lg.OB b0 3 (Lg.OB b1 4 (Lg.O0 A)))) f53 (fun _ hk => hk) (fun _ _ => Nat.le_refl _) hold59 hnew60
      have hb63 : Blk 4 O58 wd56 b1 77 [z52, vi r50.n, vi r50.at_] := Blk.adopt hb13 hold59 f54
      refine WL.y (Y.move rfl) rfl ?_
      refine WL.y (Y.extract rfl rfl) rfl ?_
      refine WL.y (Y.extract rfl rfl) rfl ?_
      refine WL.y (Y.assign rfl) rfl ?_
      refine WL.y (Y.assign rfl) rfl ?_
      refine WL.nil ?_
      refine At.then ?_
      refine WC.seq ?_
      refine WC.seq ?_
      refine WC.region ?_
      refine WL.y (Y.move rfl) rfl ?_
      refine WL.y (Y.neq_i rfl rfl) rfl ?_
      refine WL.nil ?_
      refine At.then ?_
      rcases cnd h with ⟨hc64, h⟩ | ⟨hc64, h⟩
      · refine WC.condT' rfl hc64 ?_
        refine WC.seq ?_
        refine WC.region ?_
        refine WL.y (Y.move rfl) rfl ?_
        refine WL.y (Y.assign rfl) rfl ?_
        refine WL.y (Y.assign rfl) rfl ?_
        refine WL.nil ?_
        refine At.then ?_
        refine WC.ret ?_
        refine At.thenR ?_
        have h := outs1 h hk25
        refine At.joinR ?_
        refine At.thenR ?_
        obtain ⟨rfl, rfl, rfl, rfl⟩ := tup4 h
        have hs65 : Stp [4] (Lg.OB b0 3 (Lg.OB b1 4 (Lg.O0 A))) w O58 wd56 := (Stp.up hst61 rfl)
        have hf66 := hb11.st hst61 rfl
        exact At.res (.inl rfl) rfl (.tmp rfl (.tmp rfl .nil)) ⟨z52, rfl, (Stp.modL hs65 (sB sB1) rfl rfl), hf66.blk, (Sl.outI hf62 hs65 (lowB (lowB low0 rfl rfl) rfl rfl) (aB (aB O0_A rfl) rfl)), hb63.blk⟩
      · refine WC.condF' rfl hc64 ?_
        refine WC.skip ?_
        refine At.then ?_
        refine WC.draw 12 O58 fmix (by kernel_rfl) ?_
        intro wd67 hst68
        refine WS.y (Y.move rfl) rfl ?_
        refine WS.y (Y.nilCheck rfl) rfl ?_
        refine WS.y (Y.fieldAddr fo83_1 rfl) rfl ?_
        have hf69 := hb11.st hst61 rfl
        have hf70 := hf69.st hst68 rfl
        refine WS.y (Y.loadSc ty29 rfl rfl (hf70.cell 1 _ rfl)) rfl ?_
        refine WS.y (Y.move rfl) rfl ?_
        refine WS.y (Y.nilCheck rfl) rfl ?_
        refine WS.y (Y.fieldAddr fo83_2 rfl) rfl ?_
        refine WS.y (Y.loadSc ty29 rfl rfl (hf70.cell 2 _ rfl)) rfl ?_
        refine WS.y (Y.add_u rfl rfl) rfl ?_
        refine WS.y (Y.move rfl) rfl ?_
        refine WS.y (Y.conv_iu ty3.u ty29.u rfl) rfl ?_
        refine WS.y (Y.add_u rfl rfl) rfl ?_
        refine WS.tail ?_
        obtain ⟨v71, hv71, h⟩ := lt1 h
        refine WL.yE (Y.assign rfl) (congrArg vu hv71.symm) rfl ?_
        refine WL.nil ?_
        have hf72 := hf62.mono (imm_st hst68 rfl rfl)
        have hf73 := hb63.st hst68 rfl
        exact At.join (σ := (List UInt8 × Int × Int × UInt64 × Own × Value)) (r50.b, r50.n, r50.at_, v71, O58, z52) ⟨go2 h, (Stp.trans (Stp.up hst61 rfl) (Stp.up hst68 rfl)), hf72, hf73⟩ (.cons rfl (.cons rfl .nil))
  · rintro ⟨c15, c18, c19, v20, O21, v16⟩ wd22 ⟨rfl, hst23, hf17, hb14⟩
    replace h := flowK_go hk25
    try dsimp only at h hst23 hf17 hb14
    refine (show At _ _ _ [(0, .pointer (some ⟨b0, 0, none⟩)), (6, vu v20)] _ from ?_)
    refine At.then ?_
    refine WC.seq ?_
    refine WC.region ?_
    refine WL.y (Y.move rfl) rfl ?_
    refine WL.y (Y.move rfl) rfl ?_
    have hf74 := hb11.st hst23 rfl
    obtain ⟨r75, hp76, h⟩ := bnd h
    refine WL.call (vals := [.pointer (some ⟨b0, 0, none⟩), vu v20]) kok57 rfl rfl (c_vary_Row_follow (a0 := a0) hf74.blk hp76) ?_
    rintro vr80 wd79 ⟨rfl, hm78, f77⟩
    obtain ⟨O81, hold82, hnew83, hst84⟩ := adopt O21 (fun k => 1) [3] hm78 (memB hf74.lab rfl)
    have hb85 : Blk 3 O81 wd79 b0 83 [vi r75.n, vu r75.last, vu r75.step] := Blk.adopt hf74 hold82 f77
    refine WL.nil ?_
    refine At.then ?_
    refine WC.seq ?_
    refine WC.region ?_
    refine WL.y (Y.move rfl) rfl ?_
    refine WL.y (Y.conv_ui ty29.u ty3.u rfl) rfl ?_
    obtain ⟨t86, ht86, h⟩ := lt1 h
    refine WL.yE (Y.assign rfl) (congrArg vi ht86.symm) rfl ?_
    refine WL.y (Y.assign rfl) rfl ?_
    refine WL.nil ?_
    refine At.then ?_
    refine WC.ret ?_
    obtain ⟨rfl, rfl, rfl, rfl⟩ := tup4 h
    have hs87 : Stp [3, 4] (Lg.OB b0 3 (Lg.OB b1 4 (Lg.O0 A))) w O81 wd79 := (Stp.trans (Stp.up hst23 rfl) (Stp.up hst84 rfl))
    have hf88 := hb14.st hst84 rfl
    have hf89 := hf17.mono (imm_st hst84 rfl rfl)
    exact At.res (.inl rfl) rfl (.tmp rfl (.tmp rfl .nil)) ⟨v16, rfl, (Stp.modL hs87 (sB sB1) rfl rfl), hb85.blk, (Sl.outI hf89 hs87 (lowB (lowB low0 rfl rfl) rfl rfl) (aB (aB O0_A rfl) rfl)), hf88.blk⟩

theorem c_law06_VaryTakes {A : Nat → Prop} {a0 : List UInt8} {v0 : Value} {a1 : Int} {w : World} (hs0 : Sl Rep.b w A v0 a0) {r0 : Bool} (h : law06_VaryTakes a0 a1 = some r0) : Rets Try.prog 9 [v0, vi a1] w (fun v w' => v = .bool r0 ∧ Ext w w') := by
  unfold law06_VaryTakes at h
  refine Rets.enter Try.func9 rfl rfl ?_
  have hf11 : Sl Rep.b w (imm (Lg.O0 A)) v0 a0 := (Sl.start hs0)
  refine (show WC _ _ _ _ [(0, v0), (1, vi a1)] _ from ?_)
  refine WC.seq ?_
  refine WC.region ?_
  refine WL.y (Y.assign rfl) rfl ?_
  refine WL.nil ?_
  refine At.then ?_
  refine WC.seq ?_
  refine WC.seq ?_
  refine WC.region ?_
  obtain ⟨r12, hp13, h⟩ := bnd h
  refine WL.call (vals := []) kok30 rfl rfl (c_law06_awake hp13) ?_
  rintro vr16 wd15 ⟨rfl, hm14⟩
  obtain ⟨O17, hold18, hnew19, hst20⟩ := adoptE (Lg.O0 A) (fun k => 1) hm14
  refine WL.y (Y.not rfl) rfl ?_
  refine WL.nil ?_
  refine At.then ?_
  rcases cnd h with ⟨hc21, h⟩ | ⟨hc21, h⟩
  · refine WC.condT' rfl hc21 ?_
    refine WC.seq ?_
    refine WC.region ?_
    refine WL.y (Y.assign rfl) rfl ?_
    refine WL.nil ?_
    refine At.then ?_
    refine WC.ret ?_
    refine At.thenR ?_
    obtain rfl := some1 h
    have hs22 : Stp [] (Lg.O0 A) w O17 wd15 := (Stp.up hst20 rfl)
    exact At.res (.inl rfl) rfl (.tmp rfl .nil) ⟨rfl, (Stp.ext hs22 rfl rfl)⟩
  · refine WC.condF' rfl hc21 ?_
    refine WC.skip ?_
    refine At.then ?_
    refine WC.seq ?_
    refine WC.seq ?_
    refine WC.region ?_
    refine WL.y (Y.move rfl) rfl ?_
    have hf23 := hf11.mono (imm_st hst20 rfl rfl)
    refine WL.y (Y.len ty30 rfl hf23) rfl ?_
    refine WL.y (Y.gtr_i rfl rfl) rfl ?_
    refine WL.y (Y.move rfl) rfl ?_
    refine WL.cut 3 (σ := Unit) (fun _ w' => wd15 = w') (fun _ => [(0, v0), (1, vi a1), (26, .bool ((decide (60 < (a0.length : Int))) || (decide (a1 < 0))))]) ?_ ?_
    · refine WL.part 23 rfl (fun hE24 => ?_) (fun hE24 => ?_)
      · refine WL.gS rfl rfl rfl rfl ?_
        refine WL.gS rfl rfl rfl rfl ?_
        refine WL.y (Y.pick (b := true) rfl rfl) rfl ?_
        refine WL.ren (v' := .bool ((decide (60 < (a0.length : Int))) || (decide (a1 < 0)))) 26 rfl (congrArg Value.bool (orT hE24)) ?_
        exact WL.nil (At.join () rfl (.cons rfl (.cons rfl (.cons rfl .nil))))
      · refine WL.ung rfl rfl ?_
        refine WL.y (Y.move rfl) rfl ?_
        refine WL.ung rfl rfl ?_
        refine WL.y (Y.lss_i rfl rfl) rfl ?_
        refine WL.y (Y.pick (b := false) rfl rfl) rfl ?_
        refine WL.ren (v' := .bool ((decide (60 < (a0.length : Int))) || (decide (a1 < 0)))) 26 rfl (congrArg Value.bool (orF hE24)) ?_
        exact WL.nil (At.join () rfl (.cons rfl (.cons rfl (.cons rfl .nil))))
    · rintro _ _ rfl
      refine (show WL _ _ _ _ _ [(0, v0), (1, vi a1), (26, .bool ((decide (60 < (a0.length : Int))) || (decide (a1 < 0))))] _ from ?_)
      refine WL.y (Y.move rfl) rfl ?_
      refine WL.cut 3 (σ := Unit) (fun _ w' => wd15 = w') (fun _ => [(0, v0), (1, vi a1), (30, .bool (((decide (60 < (a0.length : Int))) || (decide (a1 < 0))) || (decide (100 < a1))))]) ?_ ?_
      · refine WL.part 27 rfl (fun hE25 => ?_) (fun hE25 => ?_)
        · refine WL.gS rfl rfl rfl rfl ?_
          refine WL.gS rfl rfl rfl rfl ?_
          refine WL.y (Y.pick (b := true) rfl rfl) rfl ?_
          refine WL.ren (v' := .bool (((decide (60 < (a0.length : Int))) || (decide (a1 < 0))) || (decide (100 < a1)))) 30 rfl (congrArg Value.bool (orT hE25)) ?_
          exact WL.nil (At.join () rfl (.cons rfl (.cons rfl (.cons rfl .nil))))
        · refine WL.ung rfl rfl ?_
          refine WL.y (Y.move rfl) rfl ?_
          refine WL.ung rfl rfl ?_
          refine WL.y (Y.gtr_i rfl rfl) rfl ?_
          refine WL.y (Y.pick (b := false) rfl rfl) rfl ?_
          refine WL.ren (v' := .bool (((decide (60 < (a0.length : Int))) || (decide (a1 < 0))) || (decide (100 < a1)))) 30 rfl (congrArg Value.bool (orF hE25)) ?_
          exact WL.nil (At.join () rfl (.cons rfl (.cons rfl (.cons rfl .nil))))
      · rintro _ _ rfl
        refine (show WL _ _ _ _ _ [(0, v0), (1, vi a1), (30, .bool (((decide (60 < (a0.length : Int))) || (decide (a1 < 0))) || (decide (100 < a1))))] _ from ?_)
        refine WL.nil ?_
        refine At.then ?_
        rcases cnd h with ⟨hc26, h⟩ | ⟨hc26, h⟩
        · refine WC.condT' rfl hc26 ?_
          refine WC.seq ?_
          refine WC.region ?_
          refine WL.y (Y.assign rfl) rfl ?_
          refine WL.nil ?_
          refine At.then ?_
          refine WC.ret ?_
          refine At.thenR ?_
          obtain rfl := some1 h
          have hs27 : Stp [] (Lg.O0 A) w O17 wd15 := (Stp.up hst20 rfl)
          exact At.res (.inl rfl) rfl (.tmp rfl .nil) ⟨rfl, (Stp.ext hs27 rfl rfl)⟩
        · refine WC.condF' rfl hc26 ?_
          refine WC.skip ?_
          refine At.then ?_
          refine WC.seq ?_
          refine WC.region ?_
          refine WL.y (Y.move rfl) rfl ?_
          refine WL.y (Y.move rfl) rfl ?_
          refine WL.y (Y.len ty30 rfl hf23) rfl ?_
          refine WL.y (Y.mul_i rfl rfl) rfl ?_
          obtain ⟨⟨r28, r29⟩, hp30, h⟩ := bnd h
          refine WL.call (vals := [v0, vi (w64 (8 * (a0.length : Int)))]) kok15 rfl rfl (c_bitio_NewReader (A := fun _ => True) (Sl.all hf23) hp30) ?_
          rintro vr35 wd34 ⟨u31, rfl, hm33, f32⟩
          obtain ⟨O36, hold37, hnew38, hst39⟩ := adoptE O17 (labP u31 11) hm33
          refine WL.y (Y.move rfl) rfl ?_
          refine WL.y (Y.extract rfl rfl) rfl ?_
          refine WL.y (Y.extract rfl rfl) rfl ?_
          refine WL.y (Y.assign rfl) rfl ?_
          refine WL.y (Y.assign rfl) rfl ?_
          refine WL.nil ?_
          refine At.then ?_
          refine WC.seq ?_
          refine WC.seq ?_
          refine WC.region ?_
          refine WL.y (Y.move rfl) rfl ?_
          refine WL.y (Y.eql_opt ty32.u rfl rfl f32 (fun d hd => by obtain ⟨_, _, e, _⟩ := hd; exact ⟨_, e⟩)) rfl ?_
          refine WL.nil ?_
          refine At.then ?_
          rcases cnd h with ⟨hc40, h⟩ | ⟨hc40, h⟩
          · refine WC.condT' rfl hc40 ?_
            refine WC.seq ?_
            refine WC.region ?_
            refine WL.y (Y.assign rfl) rfl ?_
            refine WL.nil ?_
            refine At.then ?_
            refine WC.ret ?_
            refine At.thenR ?_
            obtain rfl := some1 h
            have hs41 : Stp [] (Lg.O0 A) w O36 wd34 := (Stp.trans (Stp.up hst20 rfl) (Stp.up hst39 rfl))
            exact At.res (.inl rfl) rfl (.tmp rfl .nil) ⟨rfl, (Stp.ext hs41 rfl rfl)⟩
          · refine WC.condF' rfl hc40 ?_
            refine WC.skip ?_
            refine At.then ?_
            refine WC.seq ?_
            refine WC.region ?_
            refine WL.y (Y.move rfl) rfl ?_
            have hf42 := hf23.mono (imm_st hst39 rfl rfl)
            obtain ⟨r43, hp44, h⟩ := bnd h
            refine WL.call (vals := [v0]) kok21 rfl rfl (c_ref01_Bits (A := fun _ => True) (Sl.all hf42) hp44) ?_
            rintro vr49 wd48 ⟨_, rfl, hm47, f46⟩
            obtain ⟨O50, hold51, hnew52, hst53⟩ := adoptE O36 (fun k => if Value.ownBlock vr49 = some k then 12 else 1) hm47
            have hf54 : OwnSl 12 Rep.i 3 O50 wd48 vr49 r43 := RowF.adopt 12 Flat.i f46 hnew52 (fun k hk => if_pos hk)
            refine WL.y (Y.assign rfl) rfl ?_
            refine WL.nil ?_
            refine At.then ?_
            refine WC.seq ?_
            refine WC.region ?_
            obtain ⟨r55, hp56, h⟩ := bnd h
            refine WL.call (vals := []) kok39 rfl rfl (c_vary_NewRow hp56) ?_
            rintro vr61 wd60 ⟨p57, rfl, hm59, f58⟩
            obtain ⟨O62, hold63, hnew64, hst65⟩ := adoptE O50 (fun k => if k = p57 then 13 else 1) hm59
            have hb66 : Blk 13 O62 wd60 p57 83 [vi r55.n, vu r55.last, vu r55.step] := Blk.new f58 hnew64 (if_pos rfl)
            refine WL.y (Y.assign rfl) rfl ?_
            refine WL.nil ?_
            refine At.then ?_
            refine WC.seq ?_
            refine WC.region ?_
            refine WL.y (Y.assign rfl) rfl ?_
            refine WL.nil ?_
            refine At.then ?_
            refine WC.seq ?_
            refine WC.region ?_
            refine WL.y (Y.assign rfl) rfl ?_
            refine WL.nil ?_
            refine At.then ?_
            refine WC.seq ?_
            refine WC.seq ?_
            refine WC.region ?_
            refine WL.y (Y.assign rfl) rfl ?_
            refine WL.nil ?_
            refine At.then ?_
            obtain ⟨p77, h, hk78⟩ := flow1 h
            refine WC.join (σ := (List Int × List Int × Int × Own × Value)) (fun x w' => p77 = .go (x.1, x.2.1, x.2.2.1) ∧ Stp [11, 12, 13, 14, 16, 1001, 1002] O62 wd60 x.2.2.2.1 w' ∧ Sl Rep.i w' (frs x.2.2.2.1) vr49 x.1 ∧ OwnSl 1004 Rep.i 3 x.2.2.2.1 w' x.2.2.2.2 x.2.1) (fun x => [(7, vr49), (9, x.2.2.2.2), (10, vi x.2.2.1)]) ?_ ?_
            · refine WC.block ?_
              obtain ⟨d79, hd79, h⟩ := bnd h
              obtain ⟨p80, v81, rfl, fb83, f82⟩ := OptP.some f32 hd79
              have hf84 : Sl Rep.b wd34 (frs O36) v81 d79.b := Sl.adoptF f82 (fun k hk => ⟨hk.1, labP_ne hk.2⟩) hnew38
              have hb85 : Blk 11 O36 wd34 p80 77 [v81, vi d79.n, vi d79.at_] := Blk.new fb83 hnew38 (labP_at p80 11)
              obtain ⟨p117, h, hk119⟩ := flow1 h
              obtain ⟨k118, h⟩ := loop_some h
              refine WC.joinB 0 (σ := (List Int × List Int × Int × Own × Value)) (fun x w' => p117 = .go (x.1, x.2.1, x.2.2.1) ∧ Stp [11, 12, 13, 14, 16, 1001] O62 wd60 x.2.2.2.1 w' ∧ Sl Rep.i w' (frs x.2.2.2.1) vr49 x.1 ∧ OwnSl 1002 Rep.i 3 x.2.2.2.1 w' x.2.2.2.2 x.2.1) (fun x => [(7, vr49), (9, x.2.2.2.2), (10, vi x.2.2.1)]) ?_ ?_
              · have hf120 := hf54.st hst65 rfl rfl rfl
                obtain ⟨O121, hst122, hf123⟩ := OwnSl.giveF rfl Flat.i hf120
                have hf124 := hf84.mono (frs_st hst53 rfl)
                have hf125 := hf124.mono (frs_st hst65 rfl)
                have hf126 := hf125.mono (frs_st hst122 rfl)
                have hf127 := hb85.st hst53 rfl
                have hf128 := hf127.st hst65 rfl
                have hf129 := hf128.st hst122 rfl
                have hf130 := hb66.st hst122 rfl
                refine WC.loop (σ := (List UInt8 × Int × Int × List Int × Int × UInt64 × UInt64 × List Int × Int × Int × Own × Value × Value)) (fun x k w' => loopN k (law06_VaryTakes_lp1 a1) (x.1, x.2.1, x.2.2.1, x.2.2.2.1, x.2.2.2.2.1, x.2.2.2.2.2.1, x.2.2.2.2.2.2.1, x.2.2.2.2.2.2.2.1, x.2.2.2.2.2.2.2.2.1, x.2.2.2.2.2.2.2.2.2.1) = some p117 ∧ Stp [11, 12, 13, 14, 16, 1001] O62 wd60 x.2.2.2.2.2.2.2.2.2.2.1 w' ∧ Sl Rep.b w' (imm x.2.2.2.2.2.2.2.2.2.2.1) x.2.2.2.2.2.2.2.2.2.2.2.1 x.1 ∧ Blk 11 x.2.2.2.2.2.2.2.2.2.2.1 w' p80 77 [x.2.2.2.2.2.2.2.2.2.2.2.1, vi x.2.1, vi x.2.2.1] ∧ Sl Rep.i w' (frs x.2.2.2.2.2.2.2.2.2.2.1) vr49 x.2.2.2.1 ∧ Blk 13 x.2.2.2.2.2.2.2.2.2.2.1 w' p57 83 [vi x.2.2.2.2.1, vu x.2.2.2.2.2.1, vu x.2.2.2.2.2.2.1] ∧ OwnSl 1001 Rep.i 3 x.2.2.2.2.2.2.2.2.2.2.1 w' x.2.2.2.2.2.2.2.2.2.2.2.2 x.2.2.2.2.2.2.2.1) (fun x => [(1, vi a1), (5, .pointer (some ⟨p80, 0, none⟩)), (7, vr49), (8, .pointer (some ⟨p57, 0, none⟩)), (9, x.2.2.2.2.2.2.2.2.2.2.2.2), (10, vi x.2.2.2.2.2.2.2.2.1), (11, vi x.2.2.2.2.2.2.2.2.2.1)]) (d79.b, d79.n, d79.at_, r43, r55.n, r55.last, r55.step, [], 0, 0, O121, v81, .slice none 0 0) k118 (.cons rfl (.cons rfl (.cons rfl (.cons rfl (.cons rfl (.cons rfl (.cons rfl .nil))))))) ⟨h, (Stp.up hst122 rfl), (Sl.mono hf126 frs_imm), hf129, hf123, hf130, (OwnSl.nil 1001 Rep.i 3)⟩ ?_
                rintro ⟨c87, c90, c91, l92, c96, c97, c98, row99, at102, i103, O104, v88, v100⟩ k118 wd105 ⟨h, hst106, hf89, hb86, hf94, hb95, hf101⟩
                obtain ⟨j131, q132, rfl, h, hn133⟩ := rnd1 h
                unfold law06_VaryTakes_lp1 at h
                try dsimp only at h hst106 hf89 hb86 hf94 hb95 hf101
                refine (show WC _ _ _ _ [(1, vi a1), (5, .pointer (some ⟨p80, 0, none⟩)), (7, vr49), (8, .pointer (some ⟨p57, 0, none⟩)), (9, v100), (10, vi at102), (11, vi i103)] _ from ?_)
                refine WC.seq ?_
                refine WC.seq ?_
                refine WC.region ?_
                refine WL.y (Y.move rfl) rfl ?_
                refine WL.y (Y.move rfl) rfl ?_
                refine WL.y (Y.lss_i rfl rfl) rfl ?_
                refine WL.nil ?_
                refine At.then ?_
                rcases cnd h with ⟨hc134, h⟩ | ⟨hc134, h⟩
                · refine WC.condT' rfl hc134 ?_
                  refine WC.skip ?_
                  refine At.then ?_
                  refine WC.seq ?_
                  refine WC.block ?_
                  refine WC.seq ?_
                  refine WC.region ?_
                  refine WL.y (Y.move rfl) rfl ?_
                  refine WL.y (Y.move rfl) rfl ?_
                  refine WL.y (Y.move rfl) rfl ?_
                  obtain ⟨t135, ht135, h⟩ := bnd h
                  obtain ⟨v136, hY138, hf137⟩ := Sl.slice (ρ := [(50, vr49), (51, vi at102)]) (x := (.tmp 50)) (lo := (some (.tmp 51))) (hi := none) ty23 ty3 rfl rfl rfl hf94 ht135
                  refine WL.y (Y.sub (.cons rfl (.cons rfl .nil)) (hY138 _ _)) rfl ?_
                  obtain ⟨r139, hp140, h⟩ := bnd h
                  refine WL.call (vals := [v100, v136]) kok40 rfl rfl (c_ref06_Next (A := fun _ => True) (hf101.src.sl) (Sl.all hf137) hp140) ?_
                  rintro vr143 wd142 ⟨rfl, hm141⟩
                  obtain ⟨O144, hold145, hnew146, hst147⟩ := adoptE O104 (fun k => 1) hm141
                  refine WL.alloc (O := O144) 14 [vu 0, vi 0, vi 0] ty59 rfl rfl ?_
                  intro p149 O150 wd151 hst152 hb148
                  refine WL.store (v := .agg [vu r139.V, vi r139.N, vi r139.E].toArray) (cells' := [vu r139.V, vi r139.N, vi r139.E]) ty59 rfl rfl hb148 rfl (Nat.le_of_ble_eq_true rfl) rfl rfl ?_
                  intro wd153 hst154 hb155
                  refine WL.nil ?_
                  refine At.then ?_
                  refine WC.seq ?_
                  refine WC.region ?_
                  refine WL.y (Y.move rfl) rfl ?_
                  refine WL.y (Y.move rfl) rfl ?_
                  have hf156 := hb95.st hst147 rfl
                  have hf157 := hf156.st hst152 rfl
                  have hf158 := hf157.st hst154 rfl
                  have hf159 := hb86.st hst147 rfl
                  have hf160 := hf159.st hst152 rfl
                  have hf161 := hf160.st hst154 rfl
                  have hf162 := hf89.mono (imm_st hst147 rfl rfl)
                  have hf163 := hf162.mono (imm_st hst152 rfl rfl)
                  have hf164 := hf163.mono (imm_st hst154 rfl rfl)
                  obtain ⟨⟨r165, r166, r167, r168⟩, hp169, h⟩ := bnd h
                  refine WL.call (vals := [.pointer (some ⟨p57, 0, none⟩), .pointer (some ⟨p80, 0, none⟩)]) kok41 rfl rfl (c_vary_Row_Get (A := imm O150) (a0 := (vary_Row.mk c96 c97 c98)) (a1 := (bitio_Reader.mk c87 c90 c91)) hf158.blk hf164 hf161.blk (ne_blk hf158.lab hf161.lab rfl) (fun k hk => ⟨imm_ne hf158.lab rfl k hk, imm_ne hf161.lab rfl k hk⟩) hp169) ?_
                  rintro vr176 wd175 ⟨z170, rfl, hm174, f171, f172, f173⟩
                  obtain ⟨O177, hold178, hnew179, hst180⟩ := adopt O150 (fun k => 1) [13, 11] hm174 (memOr (memB hf158.lab rfl) (memB hf161.lab rfl))
                  have hb181 : Blk 13 O177 wd175 p57 83 [vi r167.n, vu r167.last, vu r167.step] := Blk.adopt hf158 hold178 f171
                  have hf182 : Sl Rep.b wd175 (imm O177) z170 r168.b := Sl.adoptI (O := O150) f172 (fun _ hk => hk) (fun _ _ => Nat.le_refl _) hold178 hnew179
                  have hb183 : Blk 11 O177 wd175 p80 77 [z170, vi r168.n, vi r168.at_] := Blk.adopt hf161 hold178 f173
                  refine WL.y (Y.move rfl) rfl ?_
                  refine WL.y (Y.extract rfl rfl) rfl ?_
                  refine WL.y (Y.extract rfl rfl) rfl ?_
                  refine WL.y (Y.assign rfl) rfl ?_
                  refine WL.y (Y.assign rfl) rfl ?_
                  refine WL.nil ?_
                  refine At.then ?_
                  refine WC.seq ?_
                  refine WC.seq ?_
                  refine WC.drawH [] O177 20 fmix rfl ?_
                  intro wd184 hst185
                  refine WD.y 0 rfl (by kernel_rfl) (fun _ _ _ => Y.move rfl) rfl ?_
                  refine WD.y 1 rfl (by kernel_rfl) (fun _ _ _ => Y.fieldAddr fo59_2 rfl) rfl ?_
                  refine WD.y 2 rfl (by kernel_rfl) (fun wd193 O192 hst194 => have hf195 := hb155.st hst180 rfl; have hf196 := hf195.st hst185 rfl; have hf197 := hf196.st hst194 rfl; Y.loadSc ty33 rfl rfl (hf197.cell 2 _ rfl)) rfl ?_
                  refine WD.y 3 rfl (by kernel_rfl) (fun _ _ _ => Y.neq_i rfl rfl) rfl ?_
                  refine WD.y 4 rfl (by kernel_rfl) (fun _ _ _ => Y.move rfl) rfl ?_
                  refine WD.join (σ := Unit) (f' := 9) [10, 9, 8, 7, 6, 5, 4, 3, 2, 1, 0] (fun _ O' w' => O177 = O' ∧ wd184 = w') (fun _ => [(1, vi a1), (5, .pointer (some ⟨p80, 0, none⟩)), (7, vr49), (8, .pointer (some ⟨p57, 0, none⟩)), (9, v100), (10, vi at102), (11, vi i103), (12, .pointer (some ⟨p149, 0, none⟩)), (13, vi r165), (14, vi r166), (70, .bool ((!decide (r166 = r139.E)) || (!decide (toU64 r165 = r139.V))))]) (fun hJ204 => ?_) ?_
                  · refine WD.part 64 rfl (fun hE205 => ?_) (fun hE205 => ?_)
                    · refine WD.gS 5 rfl (by kernel_rfl) rfl rfl rfl rfl ?_
                      refine WD.gS 6 rfl (by kernel_rfl) rfl rfl rfl rfl ?_
                      refine WD.gS 7 rfl (by kernel_rfl) rfl rfl rfl rfl ?_
                      refine WD.gS 8 rfl (by kernel_rfl) rfl rfl rfl rfl ?_
                      refine WD.gS 9 rfl (by kernel_rfl) rfl rfl rfl rfl ?_
                      refine WD.y 10 rfl (by kernel_rfl) (fun _ _ _ => Y.pick (b := true) rfl rfl) rfl ?_
                      refine WD.ren (v' := .bool ((!decide (r166 = r139.E)) || (!decide (toU64 r165 = r139.V)))) 70 rfl (congrArg Value.bool (orT hE205)) ?_
                      exact hJ204 () _ _ _ ⟨rfl, rfl⟩ (.cons rfl (.cons rfl (.cons rfl (.cons rfl (.cons rfl (.cons rfl (.cons rfl (.cons rfl (.cons rfl (.cons rfl (.cons rfl .nil)))))))))))
                    · refine WD.gT 5 rfl (by kernel_rfl) rfl rfl (fun _ _ _ => Y.move rfl) rfl ?_
                      refine WD.gT 6 rfl (by kernel_rfl) rfl rfl (fun _ _ _ => Y.conv_iu ty3.u ty29.u rfl) rfl ?_
                      refine WD.gT 7 rfl (by kernel_rfl) rfl rfl (fun _ _ _ => Y.fieldAddr fo59_0 rfl) rfl ?_
                      refine WD.gT 8 rfl (by kernel_rfl) rfl rfl (fun wd219 O218 hst220 => have hf221 := hb155.st hst180 rfl; have hf222 := hf221.st hst185 rfl; have hf223 := hf222.st hst220 rfl; Y.loadSc ty29 rfl rfl (hf223.cell 0 _ rfl)) rfl ?_
                      refine WD.gT 9 rfl (by kernel_rfl) rfl rfl (fun _ _ _ => Y.neq_u rfl rfl) rfl ?_
                      refine WD.y 10 rfl (by kernel_rfl) (fun _ _ _ => Y.pick (b := false) rfl rfl) rfl ?_
                      refine WD.ren (v' := .bool ((!decide (r166 = r139.E)) || (!decide (toU64 r165 = r139.V)))) 70 rfl (congrArg Value.bool (orF hE205)) ?_
                      exact hJ204 () _ _ _ ⟨rfl, rfl⟩ (.cons rfl (.cons rfl (.cons rfl (.cons rfl (.cons rfl (.cons rfl (.cons rfl (.cons rfl (.cons rfl (.cons rfl (.cons rfl .nil)))))))))))
                  · rintro _ _ _ ⟨rfl, rfl⟩
                    refine (show WD _ _ _ _ _ _ _ [(1, vi a1), (5, .pointer (some ⟨p80, 0, none⟩)), (7, vr49), (8, .pointer (some ⟨p57, 0, none⟩)), (9, v100), (10, vi at102), (11, vi i103), (12, .pointer (some ⟨p149, 0, none⟩)), (13, vi r165), (14, vi r166), (70, .bool ((!decide (r166 = r139.E)) || (!decide (toU64 r165 = r139.V))))] _ _ from ?_)
                    refine WD.y 11 rfl (by kernel_rfl) (fun _ _ _ => Y.move rfl) rfl ?_
                    obtain ⟨p237, h, hk238⟩ := bnd h
                    refine WD.join (σ := (Bool × Own)) (f' := 0) [19, 18, 13, 17, 16, 15, 14, 12, 11, 10, 9, 8, 7, 6, 5, 4, 3, 2, 1, 0] (fun x O' w' => x.1 = p237 ∧ Stp [] O177 wd184 x.2 w' ∧ x.2 = O') (fun x => [(1, vi a1), (5, .pointer (some ⟨p80, 0, none⟩)), (7, vr49), (8, .pointer (some ⟨p57, 0, none⟩)), (9, v100), (10, vi at102), (11, vi i103), (12, .pointer (some ⟨p149, 0, none⟩)), (13, vi r165), (14, vi r166), (79, .bool x.1)]) (fun hJ239 => ?_) ?_
                    · rcases cnd h with ⟨hE240, h⟩ | ⟨hE240, h⟩
                      · refine WD.ren 71 rfl (congrArg Value.bool hE240) ?_
                        refine WD.gS 12 rfl (by kernel_rfl) rfl rfl rfl rfl ?_
                        refine WD.gS 14 rfl (by kernel_rfl) rfl rfl rfl rfl ?_
                        refine WD.gS 15 rfl (by kernel_rfl) rfl rfl rfl rfl ?_
                        refine WD.gS 16 rfl (by kernel_rfl) rfl rfl rfl rfl ?_
                        refine WD.gS 17 rfl (by kernel_rfl) rfl rfl rfl rfl ?_
                        refine WD.heavy 13 rfl (by kernel_rfl) ?_
                        refine WL.gS rfl rfl rfl rfl ?_
                        refine WL.nil ?_
                        refine At.dq (Stp.refl _ _ _) ?_
                        refine WD.gS 18 rfl (by kernel_rfl) rfl rfl rfl rfl ?_
                        refine WD.y 19 rfl (by kernel_rfl) (fun _ _ _ => Y.pick (b := true) rfl rfl) rfl ?_
                        refine WD.ren 71 rfl (congrArg Value.bool hE240.symm) ?_
                        exact hJ239 (true, O177) _ _ _ ⟨some1 h, (Stp.refl _ _ _), rfl⟩ (.cons rfl (.cons rfl (.cons rfl (.cons rfl (.cons rfl (.cons rfl (.cons rfl (.cons rfl (.cons rfl (.cons rfl (.cons rfl .nil)))))))))))
                      · refine WD.ren 71 rfl (congrArg Value.bool hE240) ?_
                        refine WD.gT 12 rfl (by kernel_rfl) rfl rfl (fun _ _ _ => Y.move rfl) rfl ?_
                        refine WD.gT 14 rfl (by kernel_rfl) rfl rfl (fun _ _ _ => Y.move rfl) rfl ?_
                        refine WD.gT 15 rfl (by kernel_rfl) rfl rfl (fun _ _ _ => Y.fieldAddr fo59_1 rfl) rfl ?_
                        refine WD.gT 16 rfl (by kernel_rfl) rfl rfl (fun wd254 O253 hst255 => have hf256 := hb155.st hst180 rfl; have hf257 := hf256.st hst185 rfl; have hf258 := hf257.st hst255 rfl; Y.loadSc ty3 rfl rfl (hf258.cell 1 _ rfl)) rfl ?_
                        refine WD.gT 17 rfl (by kernel_rfl) rfl rfl (fun _ _ _ => Y.add_i rfl rfl) rfl ?_
                        refine WD.heavy 13 rfl (by kernel_rfl) ?_
                        refine WL.ung rfl rfl ?_
                        have hf262 := hb183.st hst185 rfl
                        have hf263 := hf182.mono (imm_st hst185 rfl rfl)
                        obtain ⟨r264, hp265, h⟩ := bnd h
                        refine WL.call (vals := [.pointer (some ⟨p80, 0, none⟩)]) kok20 rfl rfl (c_bitio_Reader_At (A := fun _ => True) (a0 := r168) (Sl.all hf263) hf262.blk trivial hp265) ?_
                        rintro vr268 wd267 ⟨rfl, hm266⟩
                        obtain ⟨O269, hold270, hnew271, hst272⟩ := adoptE O177 (fun k => 1) hm266
                        refine WL.nil ?_
                        refine At.dq (Stp.up hst272 rfl) ?_
                        refine WD.gT 18 rfl (by kernel_rfl) rfl rfl (fun _ _ _ => Y.neq_i rfl rfl) rfl ?_
                        refine WD.y 19 rfl (by kernel_rfl) (fun _ _ _ => Y.pick (b := false) rfl rfl) rfl ?_
                        refine WD.ren 71 rfl (congrArg Value.bool hE240.symm) ?_
                        exact hJ239 ((!decide (r264 = w64 (at102 + r139.N))), O269) _ _ _ ⟨some1 h, (Stp.up hst272 rfl), rfl⟩ (.cons rfl (.cons rfl (.cons rfl (.cons rfl (.cons rfl (.cons rfl (.cons rfl (.cons rfl (.cons rfl (.cons rfl (.cons rfl .nil)))))))))))
                    · rintro ⟨x233, O234⟩ _ wd235 ⟨rfl, hst236, rfl⟩
                      replace h := hk238
                      try dsimp only at h hst236
                      refine (show WD _ _ _ _ _ _ _ [(1, vi a1), (5, .pointer (some ⟨p80, 0, none⟩)), (7, vr49), (8, .pointer (some ⟨p57, 0, none⟩)), (9, v100), (10, vi at102), (11, vi i103), (12, .pointer (some ⟨p149, 0, none⟩)), (13, vi r165), (14, vi r166), (79, .bool x233)] _ _ from ?_)
                      refine WD.done_ (by kernel_rfl) ?_
                      refine At.then ?_
                      rcases cnd h with ⟨hc279, h⟩ | ⟨hc279, h⟩
                      · refine WC.condT' rfl hc279 ?_
                        refine WC.seq ?_
                        refine WC.region ?_
                        refine WL.y (Y.assign rfl) rfl ?_
                        refine WL.nil ?_
                        refine At.then ?_
                        refine WC.ret ?_
                        refine At.thenR ?_
                        refine At.inBlockR ?_
                        refine At.thenR ?_
                        refine At.loopR ?_
                        have h := outr1 h hn133 hk119
                        refine At.joinBR ?_
                        refine At.inBlockR ?_
                        have h := outs1 h hk78
                        refine At.joinR ?_
                        refine At.thenR ?_
                        obtain rfl := some1 h
                        have hs280 : Stp [11, 12, 13, 14, 16, 1001] (Lg.O0 A) w O234 wd235 := (Stp.trans (Stp.up hst20 rfl) (Stp.trans (Stp.up hst39 rfl) (Stp.trans (Stp.up hst53 rfl) (Stp.trans (Stp.up hst65 rfl) (Stp.trans (Stp.up hst106 rfl) (Stp.trans (Stp.up hst147 rfl) (Stp.trans (Stp.up hst152 rfl) (Stp.trans (Stp.up hst154 rfl) (Stp.trans (Stp.up hst180 rfl) (Stp.trans (Stp.up hst185 rfl) (Stp.up hst236 rfl)))))))))))
                        exact At.res (.inl rfl) rfl (.tmp rfl .nil) ⟨rfl, (Stp.ext hs280 rfl rfl)⟩
                      · refine WC.condF' rfl hc279 ?_
                        refine WC.skip ?_
                        refine At.then ?_
                        refine WC.seq ?_
                        refine WC.seq ?_
                        refine WC.region ?_
                        refine WL.y (Y.move rfl) rfl ?_
                        refine WL.y (Y.neq_i rfl rfl) rfl ?_
                        refine WL.nil ?_
                        refine At.then ?_
                        rcases cnd h with ⟨hc281, h⟩ | ⟨hc281, h⟩
                        · refine WC.condT' rfl hc281 ?_
                          refine WC.seq ?_
                          refine WC.region ?_
                          refine WL.y (Y.move rfl) rfl ?_
                          refine WL.y (Y.move rfl) rfl ?_
                          have hf282 := hb181.st hst185 rfl
                          have hf283 := hf282.st hst236 rfl
                          have hf284 := hb183.st hst185 rfl
                          have hf285 := hf284.st hst236 rfl
                          have hf286 := hf182.mono (imm_st hst185 rfl rfl)
                          have hf287 := hf286.mono (imm_st hst236 rfl rfl)
                          obtain ⟨⟨r288, r289, r290, r291⟩, hp292, h⟩ := bnd h
                          refine WL.call (vals := [.pointer (some ⟨p57, 0, none⟩), .pointer (some ⟨p80, 0, none⟩)]) kok41 rfl rfl (c_vary_Row_Get (A := imm O234) (a0 := r167) (a1 := r168) hf283.blk hf287 hf285.blk (ne_blk hf283.lab hf285.lab rfl) (fun k hk => ⟨imm_ne hf283.lab rfl k hk, imm_ne hf285.lab rfl k hk⟩) hp292) ?_
                          rintro vr299 wd298 ⟨z293, rfl, hm297, f294, f295, f296⟩
                          obtain ⟨O300, hold301, hnew302, hst303⟩ := adopt O234 (fun k => 1) [13, 11] hm297 (memOr (memB hf283.lab rfl) (memB hf285.lab rfl))
                          have hb304 : Blk 13 O300 wd298 p57 83 [vi r290.n, vu r290.last, vu r290.step] := Blk.adopt hf283 hold301 f294
                          have hf305 : Sl Rep.b wd298 (imm O300) z293 r291.b := Sl.adoptI (O := O234) f295 (fun _ hk => hk) (fun _ _ => Nat.le_refl _) hold301 hnew302
                          have hb306 : Blk 11 O300 wd298 p80 77 [z293, vi r291.n, vi r291.at_] := Blk.adopt hf285 hold301 f296
                          refine WL.y (Y.move rfl) rfl ?_
                          refine WL.y (Y.extract rfl rfl) rfl ?_
                          refine WL.y (Y.extract rfl rfl) rfl ?_
                          refine WL.y (Y.assign rfl) rfl ?_
                          refine WL.nil ?_
                          refine At.then ?_
                          refine WC.seq ?_
                          refine WC.seq ?_
                          refine WC.region ?_
                          refine WL.y (Y.move rfl) rfl ?_
                          refine WL.y (Y.fieldAddr fo59_2 rfl) rfl ?_
                          have hf307 := hb155.st hst180 rfl
                          have hf308 := hf307.st hst185 rfl
                          have hf309 := hf308.st hst236 rfl
                          have hf310 := hf309.st hst303 rfl
                          refine WL.y (Y.loadSc ty33 rfl rfl (hf310.cell 2 _ rfl)) rfl ?_
                          refine WL.y (Y.neq_i rfl rfl) rfl ?_
                          refine WL.y (Y.move rfl) rfl ?_
                          obtain ⟨p315, h, hk316⟩ := bnd h
                          refine WL.cut 6 (σ := (Bool × Own)) (fun x w' => x.1 = p315 ∧ Stp [] O300 wd298 x.2 w') (fun x => [(7, vr49), (9, v100), (10, vi at102), (98, .bool x.1)]) ?_ ?_
                          · rcases cnd h with ⟨hE317, h⟩ | ⟨hE317, h⟩
                            · refine WL.ren 92 rfl (congrArg Value.bool hE317) ?_
                              refine WL.gS rfl rfl rfl rfl ?_
                              refine WL.gS rfl rfl rfl rfl ?_
                              refine WL.gS rfl rfl rfl rfl ?_
                              refine WL.gS rfl rfl rfl rfl ?_
                              refine WL.gS rfl rfl rfl rfl ?_
                              refine WL.y (Y.pick (b := true) rfl rfl) rfl ?_
                              exact WL.nil (At.join (σ := (Bool × Own)) (true, O300) ⟨some1 h, (Stp.refl _ _ _)⟩ (.cons rfl (.cons rfl (.cons rfl (.cons rfl .nil)))))
                            · refine WL.ren 92 rfl (congrArg Value.bool hE317) ?_
                              refine WL.ung rfl rfl ?_
                              refine WL.y (Y.move rfl) rfl ?_
                              refine WL.ung rfl rfl ?_
                              obtain ⟨r318, hp319, h⟩ := bnd h
                              refine WL.call (vals := [.pointer (some ⟨p57, 0, none⟩)]) kok42 rfl rfl (c_vary_Row_Len (A := fun _ => True) (a0 := r290) hb304.blk trivial hp319) ?_
                              rintro vr322 wd321 ⟨rfl, hm320⟩
                              obtain ⟨O323, hold324, hnew325, hst326⟩ := adoptE O300 (fun k => 1) hm320
                              refine WL.ung rfl rfl ?_
                              refine WL.y (Y.move rfl) rfl ?_
                              refine WL.ung rfl rfl ?_
                              have hf327 := hf101.st hst147 rfl rfl rfl
                              have hf328 := hf327.st hst152 rfl rfl rfl
                              have hf329 := hf328.st hst154 rfl rfl rfl
                              have hf330 := hf329.st hst180 rfl rfl rfl
                              have hf331 := hf330.st hst185 rfl rfl rfl
                              have hf332 := hf331.st hst236 rfl rfl rfl
                              have hf333 := hf332.st hst303 rfl rfl rfl
                              have hf334 := hf333.st hst326 rfl rfl rfl
                              refine WL.y (Y.len ty23 rfl hf334.src.sl) rfl ?_
                              refine WL.ung rfl rfl ?_
                              refine WL.y (Y.neq_i rfl rfl) rfl ?_
                              refine WL.y (Y.pick (b := false) rfl rfl) rfl ?_
                              exact WL.nil (At.join (σ := (Bool × Own)) ((!decide (r318 = (row99.length : Int))), O323) ⟨some1 h, (Stp.up hst326 rfl)⟩ (.cons rfl (.cons rfl (.cons rfl (.cons rfl .nil)))))
                          · rintro ⟨x311, O312⟩ wd313 ⟨rfl, hst314⟩
                            replace h := hk316
                            try dsimp only at h hst314
                            refine (show WL _ _ _ _ _ [(7, vr49), (9, v100), (10, vi at102), (98, .bool x311)] _ from ?_)
                            refine WL.nil ?_
                            refine At.then ?_
                            rcases cnd h with ⟨hc335, h⟩ | ⟨hc335, h⟩
                            · refine WC.condT' rfl hc335 ?_
                              refine WC.seq ?_
                              refine WC.region ?_
                              refine WL.y (Y.assign rfl) rfl ?_
                              refine WL.nil ?_
                              refine At.then ?_
                              refine WC.ret ?_
                              refine At.thenR ?_
                              refine At.thenR ?_
                              refine At.inBlockR ?_
                              refine At.thenR ?_
                              refine At.loopR ?_
                              have h := outr1 h hn133 hk119
                              refine At.joinBR ?_
                              refine At.inBlockR ?_
                              have h := outs1 h hk78
                              refine At.joinR ?_
                              refine At.thenR ?_
                              obtain rfl := some1 h
                              have hs336 : Stp [11, 12, 13, 14, 16, 1001] (Lg.O0 A) w O312 wd313 := (Stp.trans (Stp.up hst20 rfl) (Stp.trans (Stp.up hst39 rfl) (Stp.trans (Stp.up hst53 rfl) (Stp.trans (Stp.up hst65 rfl) (Stp.trans (Stp.up hst106 rfl) (Stp.trans (Stp.up hst147 rfl) (Stp.trans (Stp.up hst152 rfl) (Stp.trans (Stp.up hst154 rfl) (Stp.trans (Stp.up hst180 rfl) (Stp.trans (Stp.up hst185 rfl) (Stp.trans (Stp.up hst236 rfl) (Stp.trans (Stp.up hst303 rfl) (Stp.up hst314 rfl)))))))))))))
                              exact At.res (.inl rfl) rfl (.tmp rfl .nil) ⟨rfl, (Stp.ext hs336 rfl rfl)⟩
                            · refine WC.condF' rfl hc335 ?_
                              refine WC.skip ?_
                              refine At.then ?_
                              refine WC.exit ?_
                              refine At.thenX ?_
                              refine At.inBlockMiss rfl ?_
                              refine At.thenX ?_
                              refine At.loopX ?_
                              have hf337 := hf101.st hst147 rfl rfl rfl
                              have hf338 := hf337.st hst152 rfl rfl rfl
                              have hf339 := hf338.st hst154 rfl rfl rfl
                              have hf340 := hf339.st hst180 rfl rfl rfl
                              have hf341 := hf340.st hst185 rfl rfl rfl
                              have hf342 := hf341.st hst236 rfl rfl rfl
                              have hf343 := hf342.st hst303 rfl rfl rfl
                              have hf344 := hf343.st hst314 rfl rfl rfl
                              obtain ⟨O345, hst346, ho347⟩ := OwnSl.rlb 1002 rfl hf344
                              have hf348 := hf94.mono (frs_st hst147 rfl)
                              have hf349 := hf348.mono (frs_st hst152 rfl)
                              have hf350 := hf349.mono (frs_st hst154 rfl)
                              have hf351 := hf350.mono (frs_st hst180 rfl)
                              have hf352 := hf351.mono (frs_st hst185 rfl)
                              have hf353 := hf352.mono (frs_st hst236 rfl)
                              have hf354 := hf353.mono (frs_st hst303 rfl)
                              have hf355 := hf354.mono (frs_st hst314 rfl)
                              have hf356 := hf355.mono (frs_st hst346 rfl)
                              exact At.hitB (σ := (List Int × List Int × Int × Own × Value)) (l92, row99, at102, O345, v100) ⟨brk1 h hn133, (Stp.trans (Stp.up hst106 rfl) (Stp.trans (Stp.up hst147 rfl) (Stp.trans (Stp.up hst152 rfl) (Stp.trans (Stp.up hst154 rfl) (Stp.trans (Stp.up hst180 rfl) (Stp.trans (Stp.up hst185 rfl) (Stp.trans (Stp.up hst236 rfl) (Stp.trans (Stp.up hst303 rfl) (Stp.trans (Stp.up hst314 rfl) (Stp.up hst346 rfl)))))))))), hf356, ho347⟩ (.cons rfl (.cons rfl (.cons rfl .nil)))
                        · refine WC.condF' rfl hc281 ?_
                          refine WC.skip ?_
                          refine At.then ?_
                          refine WC.seq ?_
                          refine WC.region ?_
                          refine WL.y (Y.move rfl) rfl ?_
                          refine WL.y (Y.fieldAddr fo59_1 rfl) rfl ?_
                          have hf357 := hb155.st hst180 rfl
                          have hf358 := hf357.st hst185 rfl
                          have hf359 := hf358.st hst236 rfl
                          refine WL.y (Y.loadSc ty3 rfl rfl (hf359.cell 1 _ rfl)) rfl ?_
                          refine WL.y (Y.add_i rfl rfl) rfl ?_
                          obtain ⟨at360, hat360, h⟩ := lt1 h
                          refine WL.yE (Y.assign rfl) (congrArg vi hat360.symm) rfl ?_
                          refine WL.nil ?_
                          refine At.then ?_
                          refine WC.region ?_
                          refine WL.y (Y.move rfl) rfl ?_
                          refine WL.y (Y.move rfl) rfl ?_
                          refine WL.buildSlice (O := O234) (R := Rep.i) (vals := [(0, vi r165)]) 15 [vi r165] (xs := [r165]) (by decide) ty23 ty3 (by decide) (by decide) (Fits.evalp rfl) (by kernel_rfl) rfl ⟨[vi r165], [], rfl, rfl, rfl⟩ rfl ?_
                          intro v361 O363 wd364 hst365 ho362
                          obtain ⟨xs366, hxs366, h⟩ := bnd h
                          have hf367 := hf101.st hst147 rfl rfl rfl
                          have hf368 := hf367.st hst152 rfl rfl rfl
                          have hf369 := hf368.st hst154 rfl rfl rfl
                          have hf370 := hf369.st hst180 rfl rfl rfl
                          have hf371 := hf370.st hst185 rfl rfl rfl
                          have hf372 := hf371.st hst236 rfl rfl rfl
                          have hf373 := hf372.st hst365 rfl rfl rfl
                          refine WL.append (by decide) ty23 ty3 rfl (by decide) rfl rfl hf373 ho362.src hxs366 rfl ?_
                          intro v377 O374 wd375 hst376 ho378
                          refine WL.y (Y.assign rfl) rfl ?_
                          refine WL.nil ?_
                          refine At.inBlock ?_
                          refine At.then ?_
                          refine WC.region ?_
                          refine WL.y (Y.move rfl) rfl ?_
                          refine WL.y (Y.add_i rfl rfl) rfl ?_
                          obtain ⟨i379, hi379, h⟩ := lt1 h
                          refine WL.yE (Y.assign rfl) (congrArg vi hi379.symm) rfl ?_
                          refine WL.nil ?_
                          have hf380 := hf182.mono (imm_st hst185 rfl rfl)
                          have hf381 := hf380.mono (imm_st hst236 rfl rfl)
                          have hf382 := hf381.mono (imm_st hst365 rfl rfl)
                          have hf383 := hf382.mono (imm_st hst376 rfl rfl)
                          have hf384 := hb183.st hst185 rfl
                          have hf385 := hf384.st hst236 rfl
                          have hf386 := hf385.st hst365 rfl
                          have hf387 := hf386.st hst376 rfl
                          have hf388 := hf94.mono (frs_st hst147 rfl)
                          have hf389 := hf388.mono (frs_st hst152 rfl)
                          have hf390 := hf389.mono (frs_st hst154 rfl)
                          have hf391 := hf390.mono (frs_st hst180 rfl)
                          have hf392 := hf391.mono (frs_st hst185 rfl)
                          have hf393 := hf392.mono (frs_st hst236 rfl)
                          have hf394 := hf393.mono (frs_st hst365 rfl)
                          have hf395 := hf394.mono (frs_st hst376 rfl)
                          have hf396 := hb181.st hst185 rfl
                          have hf397 := hf396.st hst236 rfl
                          have hf398 := hf397.st hst365 rfl
                          have hf399 := hf398.st hst376 rfl
                          exact At.round (r168.b, r168.n, r168.at_, l92, r167.n, r167.last, r167.step, xs366, at360, i379, O374, z170, v377) j131 (Nat.lt_succ_self _) ⟨next1 h hn133, (Stp.trans (Stp.up hst106 rfl) (Stp.trans (Stp.up hst147 rfl) (Stp.trans (Stp.up hst152 rfl) (Stp.trans (Stp.up hst154 rfl) (Stp.trans (Stp.up hst180 rfl) (Stp.trans (Stp.up hst185 rfl) (Stp.trans (Stp.up hst236 rfl) (Stp.trans (Stp.up hst365 rfl) (Stp.up hst376 rfl))))))))), hf383, hf387, hf395, hf399, ho378⟩ (.cons rfl (.cons rfl (.cons rfl (.cons rfl (.cons rfl (.cons rfl (.cons rfl .nil)))))))
                · refine WC.condF' rfl hc134 ?_
                  refine WC.exit ?_
                  refine At.thenX ?_
                  refine At.loopX ?_
                  obtain ⟨O400, hst401, ho402⟩ := OwnSl.rlb 1002 rfl hf101
                  have hf403 := hf94.mono (frs_st hst401 rfl)
                  exact At.hitB (σ := (List Int × List Int × Int × Own × Value)) (l92, row99, at102, O400, v100) ⟨brk1 h hn133, (Stp.trans (Stp.up hst106 rfl) (Stp.up hst401 rfl)), hf403, ho402⟩ (.cons rfl (.cons rfl (.cons rfl .nil)))
              · rintro ⟨l107, row110, at113, O114, v111⟩ wd115 ⟨rfl, hst116, hf109, hf112⟩
                replace h := flowK_go hk119
                try dsimp only at h hst116 hf109 hf112
                refine (show At _ _ _ [(7, vr49), (9, v111), (10, vi at113)] _ from ?_)
                refine At.inBlockHit ?_
                obtain ⟨O404, hst405, ho406⟩ := OwnSl.rlb 1004 rfl hf112
                have hf407 := hf109.mono (frs_st hst405 rfl)
                exact At.join (σ := (List Int × List Int × Int × Own × Value)) (l107, row110, at113, O404, v111) ⟨go2 h, (Stp.trans (Stp.up hst116 rfl) (Stp.up hst405 rfl)), hf407, ho406⟩ (.cons rfl (.cons rfl (.cons rfl .nil)))
            · rintro ⟨l67, row70, at73, O74, v71⟩ wd75 ⟨rfl, hst76, hf69, hf72⟩
              replace h := flowK_go hk78
              try dsimp only at h hst76 hf69 hf72
              refine (show At _ _ _ [(7, vr49), (9, v71), (10, vi at73)] _ from ?_)
              refine At.then ?_
              refine WC.seq ?_
              refine WC.region ?_
              obtain ⟨r408, hp409, h⟩ := bnd h
              refine WL.call (vals := []) kok12 rfl rfl (c_bitio_NewWriter hp409) ?_
              rintro vr416 wd415 ⟨p410, u411, rfl, hm414, f412, f413⟩
              obtain ⟨O417, hold418, hnew419, hst420⟩ := adoptE O74 (fun k => if k = p410 then 16 else if Value.ownBlock u411 = some k then 17 else 1) hm414
              have hf422 : OwnSl 17 Rep.b 5 O417 wd415 u411 r408.b := RowF.adopt 17 Flat.b f413.1 hnew419 (fun k hk => (if_neg (fun (e : k = p410) => f413.2 (e ▸ hk))).trans (if_pos hk))
              have hb421 : Blk 16 O417 wd415 p410 73 [u411, vi r408.n] := Blk.new f412 hnew419 (if_pos rfl)
              refine WL.y (Y.assign rfl) rfl ?_
              refine WL.nil ?_
              refine At.then ?_
              refine WC.seq ?_
              refine WC.region ?_
              obtain ⟨r423, hp424, h⟩ := bnd h
              refine WL.call (vals := []) kok39 rfl rfl (c_vary_NewRow hp424) ?_
              rintro vr429 wd428 ⟨p425, rfl, hm427, f426⟩
              obtain ⟨O430, hold431, hnew432, hst433⟩ := adoptE O417 (fun k => if k = p425 then 18 else 1) hm427
              have hb434 : Blk 18 O430 wd428 p425 83 [vi r423.n, vu r423.last, vu r423.step] := Blk.new f426 hnew432 (if_pos rfl)
              refine WL.y (Y.assign rfl) rfl ?_
              refine WL.nil ?_
              refine At.then ?_
              refine WC.seq ?_
              refine WC.seq ?_
              refine WC.region ?_
              refine WL.y (Y.assign rfl) rfl ?_
              refine WL.nil ?_
              refine At.then ?_
              obtain ⟨p443, h, hk444⟩ := bnd h
              refine WC.join (σ := (List UInt8 × Int × Own × Value)) (fun x w' => (x.1, x.2.1) = p443 ∧ Stp [16, 17, 18, 1005, 1006] O430 wd428 x.2.2.1 w' ∧ OwnSl 1008 Rep.b 5 x.2.2.1 w' x.2.2.2 x.1 ∧ Blk 16 x.2.2.1 w' p410 73 [x.2.2.2, vi x.2.1]) (fun x => [(7, vr49), (10, vi at73), (15, .pointer (some ⟨p410, 0, none⟩))]) ?_ ?_
              · refine WC.block ?_
                obtain ⟨p466, h, hk468⟩ := flow1 h
                obtain ⟨k467, h⟩ := loop_some h
                refine WC.joinB 2 (σ := (List UInt8 × Int × Own × Value)) (fun x w' => p466 = .go (x.1, x.2.1) ∧ Stp [16, 17, 18, 1005] O430 wd428 x.2.2.1 w' ∧ OwnSl 1006 Rep.b 5 x.2.2.1 w' x.2.2.2 x.1 ∧ Blk 16 x.2.2.1 w' p410 73 [x.2.2.2, vi x.2.1]) (fun x => [(7, vr49), (10, vi at73), (15, .pointer (some ⟨p410, 0, none⟩))]) ?_ ?_
                · have hf469 := hf422.st hst433 rfl rfl rfl
                  obtain ⟨O470, hst471, ho472⟩ := OwnSl.rlb 1005 rfl hf469
                  have hf473 := hb421.st hst433 rfl
                  have hf474 := hf473.st hst471 rfl
                  have hf475 := hb434.st hst471 rfl
                  refine WC.loop (σ := (List UInt8 × Int × Int × UInt64 × UInt64 × Int × Own × Value)) (fun x k w' => loopN k (law06_VaryTakes_lp2 row70) (x.1, x.2.1, x.2.2.1, x.2.2.2.1, x.2.2.2.2.1, x.2.2.2.2.2.1) = some p466 ∧ Stp [16, 17, 18, 1005] O430 wd428 x.2.2.2.2.2.2.1 w' ∧ OwnSl 1005 Rep.b 5 x.2.2.2.2.2.2.1 w' x.2.2.2.2.2.2.2 x.1 ∧ Blk 16 x.2.2.2.2.2.2.1 w' p410 73 [x.2.2.2.2.2.2.2, vi x.2.1] ∧ Blk 18 x.2.2.2.2.2.2.1 w' p425 83 [vi x.2.2.1, vu x.2.2.2.1, vu x.2.2.2.2.1]) (fun x => [(7, vr49), (9, v71), (10, vi at73), (15, .pointer (some ⟨p410, 0, none⟩)), (16, .pointer (some ⟨p425, 0, none⟩)), (17, vi x.2.2.2.2.2.1)]) (r408.b, r408.n, r423.n, r423.last, r423.step, 0, O470, u411) k467 (.cons rfl (.cons rfl (.cons rfl (.cons rfl (.cons rfl (.cons rfl .nil)))))) ⟨h, (Stp.up hst471 rfl), ho472, hf474, hf475⟩ ?_
                  rintro ⟨c446, c449, c451, c452, c453, i454, O455, v447⟩ k467 wd456 ⟨h, hst457, hf448, hb445, hb450⟩
                  obtain ⟨j476, q477, rfl, h, hn478⟩ := rnd1 h
                  unfold law06_VaryTakes_lp2 at h
                  try dsimp only at h hst457 hf448 hb445 hb450
                  refine (show WC _ _ _ _ [(7, vr49), (9, v71), (10, vi at73), (15, .pointer (some ⟨p410, 0, none⟩)), (16, .pointer (some ⟨p425, 0, none⟩)), (17, vi i454)] _ from ?_)
                  refine WC.seq ?_
                  refine WC.seq ?_
                  refine WC.region ?_
                  refine WL.y (Y.move rfl) rfl ?_
                  refine WL.y (Y.move rfl) rfl ?_
                  have hf479 := hf72.st hst420 rfl rfl rfl
                  have hf480 := hf479.st hst433 rfl rfl rfl
                  have hf481 := hf480.st hst457 rfl rfl rfl
                  refine WL.y (Y.len ty23 rfl hf481.src.sl) rfl ?_
                  refine WL.y (Y.lss_i rfl rfl) rfl ?_
                  refine WL.nil ?_
                  refine At.then ?_
                  rcases cnd h with ⟨hc482, h⟩ | ⟨hc482, h⟩
                  · refine WC.condT' rfl hc482 ?_
                    refine WC.skip ?_
                    refine At.then ?_
                    refine WC.seq ?_
                    refine WC.block ?_
                    refine WC.region ?_
                    refine WL.y (Y.move rfl) rfl ?_
                    refine WL.y (Y.move rfl) rfl ?_
                    refine WL.y (Y.move rfl) rfl ?_
                    refine WL.y (Y.move rfl) rfl ?_
                    obtain ⟨e483, he483, h⟩ := bnd h
                    obtain ⟨b484, cap491, cs490, hv485, hi486, hl487, hc488, hok489⟩ := OwnSl.at hf481 he483
                    obtain rfl := hok489
                    replace hc488 : CellsAt _ _ _ [vi e483] := hc488
                    have hca492 := CAt.own hf481 hv485 hc488
                    refine WL.y (Y.indexAddr ty23 ty3 rfl hv485 rfl hi486 hl487) rfl ?_
                    refine WL.y (Y.loadSc ty3 rfl rfl hca492.at_) rfl ?_
                    obtain ⟨⟨r493, r494⟩, hp495, h⟩ := bnd h
                    refine WL.call (vals := [.pointer (some ⟨p425, 0, none⟩), .pointer (some ⟨p410, 0, none⟩), vi e483]) kok43 rfl rfl (c_vary_Row_Put (a0 := (vary_Row.mk c451 c452 c453)) (a1 := (bitio_Writer.mk c446 c449)) hb450.blk hf448.row hb445.blk (ne_blk hb450.lab hb445.lab rfl) (ne_lab hf448 hb450.lab rfl) (ne_lab hf448 hb445.lab rfl) hp495) ?_
                    rintro vr502 wd501 ⟨z496, rfl, hm500, f497, f498, f499⟩
                    obtain ⟨O503, hold504, hnew505, hst506⟩ := adopt O455 (fun k => if Value.ownBlock z496 = some k then 1005 else 1) [18, 16, 1005] hm500 (memOr (memB hb450.lab rfl) (memOr (memB hb445.lab rfl) (memV hf448.labs rfl)))
                    have hb507 : Blk 18 O503 wd501 p425 83 [vi r493.n, vu r493.last, vu r493.step] := Blk.adopt hb450 hold504 f497
                    have ho508 : OwnSl 1005 Rep.b 5 O503 wd501 z496 r494.b := RowG.adopt Flat.b hf448.labs f498 hold504 hnew505 (fun k hk => if_pos hk)
                    have hb509 : Blk 16 O503 wd501 p410 73 [z496, vi r494.n] := Blk.adopt hb445 hold504 f499
                    refine WL.nil ?_
                    refine At.inBlock ?_
                    refine At.then ?_
                    refine WC.region ?_
                    refine WL.y (Y.move rfl) rfl ?_
                    refine WL.y (Y.add_i rfl rfl) rfl ?_
                    obtain ⟨i510, hi510, h⟩ := lt1 h
                    refine WL.yE (Y.assign rfl) (congrArg vi hi510.symm) rfl ?_
                    refine WL.nil ?_
                    exact At.round (r494.b, r494.n, r493.n, r493.last, r493.step, i510, O503, z496) j476 (Nat.lt_succ_self _) ⟨next1 h hn478, (Stp.trans (Stp.up hst457 rfl) (Stp.up hst506 rfl)), ho508, hb509, hb507⟩ (.cons rfl (.cons rfl (.cons rfl (.cons rfl (.cons rfl (.cons rfl .nil))))))
                  · refine WC.condF' rfl hc482 ?_
                    refine WC.exit ?_
                    refine At.thenX ?_
                    refine At.loopX ?_
                    obtain ⟨O511, hst512, ho513⟩ := OwnSl.rlb 1006 rfl hf448
                    have hf514 := hb445.st hst512 rfl
                    exact At.hitB (σ := (List UInt8 × Int × Own × Value)) (c446, c449, O511, v447) ⟨brk1 h hn478, (Stp.trans (Stp.up hst457 rfl) (Stp.up hst512 rfl)), ho513, hf514⟩ (.cons rfl (.cons rfl (.cons rfl .nil)))
                · rintro ⟨c459, c462, O463, v460⟩ wd464 ⟨rfl, hst465, hf461, hb458⟩
                  replace h := flowK_go hk468
                  try dsimp only at h hst465 hf461 hb458
                  refine (show At _ _ _ [(7, vr49), (10, vi at73), (15, .pointer (some ⟨p410, 0, none⟩))] _ from ?_)
                  refine At.inBlockHit ?_
                  obtain ⟨O515, hst516, ho517⟩ := OwnSl.rlb 1008 rfl hf461
                  have hf518 := hb458.st hst516 rfl
                  exact At.join (σ := (List UInt8 × Int × Own × Value)) (c459, c462, O515, v460) ⟨some1 h, (Stp.trans (Stp.up hst465 rfl) (Stp.up hst516 rfl)), ho517, hf518⟩ (.cons rfl (.cons rfl (.cons rfl .nil)))
              · rintro ⟨c436, c439, O440, v437⟩ wd441 ⟨rfl, hst442, hf438, hb435⟩
                replace h := hk444
                try dsimp only at h hst442 hf438 hb435
                refine (show At _ _ _ [(7, vr49), (10, vi at73), (15, .pointer (some ⟨p410, 0, none⟩))] _ from ?_)
                refine At.then ?_
                refine WC.seq ?_
                refine WC.drawH [] O440 16 fmix rfl ?_
                intro wd519 hst520
                refine WD.y 0 rfl (by kernel_rfl) (fun _ _ _ => Y.move rfl) rfl ?_
                refine WD.y 2 rfl (by kernel_rfl) (fun _ _ _ => Y.move rfl) rfl ?_
                refine WD.heavy 1 rfl (by kernel_rfl) ?_
                have hf527 := hb435.st hst520 rfl
                have hf528 := hf438.st hst520 rfl rfl rfl
                obtain ⟨r529, hp530, h⟩ := bnd h
                refine WL.call (vals := [.pointer (some ⟨p410, 0, none⟩)]) kok16 rfl rfl (c_bitio_Writer_Len (A := fun _ => True) (a0 := (bitio_Writer.mk c436 c439)) (hf528.src.sl) hf527.blk trivial hp530) ?_
                rintro vr533 wd532 ⟨rfl, hm531⟩
                obtain ⟨O534, hold535, hnew536, hst537⟩ := adoptE O440 (fun k => 1) hm531
                refine WL.nil ?_
                refine At.dq (Stp.up hst537 rfl) ?_
                refine WD.y 3 rfl (by kernel_rfl) (fun _ _ _ => Y.eql_i rfl rfl) rfl ?_
                refine WD.y 4 rfl (by kernel_rfl) (fun _ _ _ => Y.move rfl) rfl ?_
                obtain ⟨p548, h, hk549⟩ := bnd h
                refine WD.join (σ := (Bool × Own)) (f' := 1) [14, 13, 12, 11, 7, 6, 10, 9, 8, 5, 4, 3, 1, 2, 0] (fun x O' w' => x.1 = p548 ∧ Stp [] O534 wd532 x.2 w' ∧ x.2 = O') (fun x => [(136, .bool x.1)]) (fun hJ550 => ?_) ?_
                · rcases cnd h with ⟨hE551, h⟩ | ⟨hE551, h⟩
                  · refine WD.ren 126 rfl (congrArg Value.bool hE551) ?_
                    refine WD.gT 5 rfl (by kernel_rfl) rfl rfl (fun _ _ _ => Y.move rfl) rfl ?_
                    refine WD.gT 8 rfl (by kernel_rfl) rfl rfl (fun _ _ _ => Y.move rfl) rfl ?_
                    refine WD.gT 9 rfl (by kernel_rfl) rfl rfl (fun _ _ _ => Y.move rfl) rfl ?_
                    obtain ⟨t561, ht561, h⟩ := bnd h
                    have hf564 := hf69.mono (frs_st hst420 rfl)
                    have hf565 := hf564.mono (frs_st hst433 rfl)
                    have hf566 := hf565.mono (frs_st hst442 rfl)
                    have hf567 := hf566.mono (frs_st hst520 rfl)
                    have hf568 := hf567.mono (frs_st hst537 rfl)
                    obtain ⟨v562, hY569, hf563⟩ := Sl.slice (ρ := [(130, vr49), (131, vi at73)]) (x := (.tmp 130)) (lo := none) (hi := (some (.tmp 131))) ty23 ty3 rfl rfl rfl hf568 ht561
                    refine WD.gT 10 rfl (by kernel_rfl) rfl rfl (fun _ _ _ => Y.sub (.cons rfl (.cons rfl .nil)) (hY569 _ _)) rfl ?_
                    refine WD.heavy 6 rfl (by kernel_rfl) ?_
                    refine WL.ung rfl rfl ?_
                    have hf573 := hf527.st hst537 rfl
                    have hf574 := hf528.st hst537 rfl rfl rfl
                    obtain ⟨r575, hp576, h⟩ := bnd h
                    refine WL.call (vals := [.pointer (some ⟨p410, 0, none⟩)]) kok14 rfl rfl (c_bitio_Writer_Bytes (A := fun _ => True) (a0 := (bitio_Writer.mk c436 c439)) (hf574.src.sl) hf573.blk trivial hp576) ?_
                    rintro vr581 wd580 ⟨_, rfl, hm579, f578⟩
                    obtain ⟨O582, hold583, hnew584, hst585⟩ := adoptE O534 (fun k => if Value.ownBlock vr581 = some k then 19 else 1) hm579
                    have hf586 : OwnSl 19 Rep.b 5 O582 wd580 vr581 r575 := RowF.adopt 19 Flat.b f578 hnew584 (fun k hk => if_pos hk)
                    refine WL.nil ?_
                    refine At.dq (Stp.up hst585 rfl) ?_
                    refine WD.gT 7 rfl (by kernel_rfl) rfl rfl (fun wd588 O587 hst589 => have hf590 := hf586.st hst589 rfl rfl rfl; Y.b2s ty30 ty5 ty9 rfl hf590.src.sl) rfl ?_
                    refine WD.heavy 11 rfl (by kernel_rfl) ?_
                    refine WL.ung rfl rfl ?_
                    have hf591 := hf563.mono (frs_st hst585 rfl)
                    obtain ⟨r592, hp593, h⟩ := bnd h
                    refine WL.call (vals := [v562]) kok29 rfl rfl (c_ref01_Bytes (A := fun _ => True) (Sl.all hf591) hp593) ?_
                    rintro vr598 wd597 ⟨_, rfl, hm596, f595⟩
                    obtain ⟨O599, hold600, hnew601, hst602⟩ := adoptE O582 (fun k => if Value.ownBlock vr598 = some k then 20 else 1) hm596
                    have hf603 : OwnSl 20 Rep.b 5 O599 wd597 vr598 r592 := RowF.adopt 20 Flat.b f595 hnew601 (fun k hk => if_pos hk)
                    refine WL.nil ?_
                    refine At.dq (Stp.up hst602 rfl) ?_
                    refine WD.gT 12 rfl (by kernel_rfl) rfl rfl (fun wd605 O604 hst606 => have hf607 := hf603.st hst606 rfl rfl rfl; Y.b2s ty30 ty5 ty9 rfl hf607.src.sl) rfl ?_
                    refine WD.gT 13 rfl (by kernel_rfl) rfl rfl (fun _ _ _ => Y.eql_s rfl rfl) rfl ?_
                    refine WD.y 14 rfl (by kernel_rfl) (fun _ _ _ => Y.pick (b := true) rfl rfl) rfl ?_
                    refine WD.ren 126 rfl (congrArg Value.bool hE551.symm) ?_
                    exact hJ550 (decide (r575 = r592), O599) _ _ _ ⟨some1 h, (Stp.trans (Stp.up hst585 rfl) (Stp.up hst602 rfl)), rfl⟩ (.cons rfl .nil)
                  · refine WD.ren 126 rfl (congrArg Value.bool hE551) ?_
                    refine WD.gS 5 rfl (by kernel_rfl) rfl rfl rfl rfl ?_
                    refine WD.gS 8 rfl (by kernel_rfl) rfl rfl rfl rfl ?_
                    refine WD.gS 9 rfl (by kernel_rfl) rfl rfl rfl rfl ?_
                    refine WD.gS 10 rfl (by kernel_rfl) rfl rfl rfl rfl ?_
                    refine WD.heavy 6 rfl (by kernel_rfl) ?_
                    refine WL.gS rfl rfl rfl rfl ?_
                    refine WL.nil ?_
                    refine At.dq (Stp.refl _ _ _) ?_
                    refine WD.gS 7 rfl (by kernel_rfl) rfl rfl rfl rfl ?_
                    refine WD.heavy 11 rfl (by kernel_rfl) ?_
                    refine WL.gS rfl rfl rfl rfl ?_
                    refine WL.nil ?_
                    refine At.dq (Stp.refl _ _ _) ?_
                    refine WD.gS 12 rfl (by kernel_rfl) rfl rfl rfl rfl ?_
                    refine WD.gS 13 rfl (by kernel_rfl) rfl rfl rfl rfl ?_
                    refine WD.y 14 rfl (by kernel_rfl) (fun _ _ _ => Y.pick (b := false) rfl rfl) rfl ?_
                    refine WD.ren 126 rfl (congrArg Value.bool hE551.symm) ?_
                    exact hJ550 (false, O534) _ _ _ ⟨some1 h, (Stp.refl _ _ _), rfl⟩ (.cons rfl .nil)
                · rintro ⟨x544, O545⟩ _ wd546 ⟨rfl, hst547, rfl⟩
                  replace h := hk549
                  try dsimp only at h hst547
                  refine (show WD _ _ _ _ _ _ _ [(136, .bool x544)] _ _ from ?_)
                  refine WD.y 15 rfl (by kernel_rfl) (fun _ _ _ => Y.assign rfl) rfl ?_
                  refine WD.done_ (by kernel_rfl) ?_
                  refine At.then ?_
                  refine WC.ret ?_
                  obtain rfl := some1 h
                  have hs620 : Stp [11, 12, 13, 14, 16, 17, 18, 1001, 1002, 1005, 1006] (Lg.O0 A) w O545 wd546 := (Stp.trans (Stp.up hst20 rfl) (Stp.trans (Stp.up hst39 rfl) (Stp.trans (Stp.up hst53 rfl) (Stp.trans (Stp.up hst65 rfl) (Stp.trans (Stp.up hst76 rfl) (Stp.trans (Stp.up hst420 rfl) (Stp.trans (Stp.up hst433 rfl) (Stp.trans (Stp.up hst442 rfl) (Stp.trans (Stp.up hst520 rfl) (Stp.trans (Stp.up hst537 rfl) (Stp.up hst547 rfl)))))))))))
                  exact At.res (.inl rfl) rfl (.tmp rfl .nil) ⟨rfl, (Stp.ext hs620 rfl rfl)⟩

end Go.Lg
