/- The walks of VaryRows and of what it calls, printed by gen.py. -/
import Derived.Test.YtddfmahlbbbljaaLgBitsWVaryRowsx0
set_option linter.unusedVariables false
namespace Go.Lg
open Go Go.Proofs
set_option maxRecDepth 100000
theorem c_ref06_Row {A : Nat → Prop} {a0 : List Int} {v0 : Value} {w : World} (hs0 : Sl Rep.i w A v0 a0) {r0 : List Int} (h : ref06_Row a0 = some r0) : Rets Try.prog 45 [v0] w (fun v w' => ∃ (u0 : Value), v = u0 ∧ Ext w w' ∧ RowF Rep.i 3 w w' u0 r0) := by
  unfold ref06_Row at h
  refine Rets.enter Try.func45 rfl rfl ?_
  have hf11 : Sl Rep.i w (imm (Lg.O0 A)) v0 a0 := (Sl.start hs0)
  refine (show WC _ _ _ _ [(0, v0)] _ from ?_)
  refine WC.seq ?_
  refine WC.region ?_
  refine WL.y (Y.assign rfl) rfl ?_
  refine WL.nil ?_
  refine At.then ?_
  refine WC.seq ?_
  refine WC.region ?_
  refine WL.y (Y.assign rfl) rfl ?_
  refine WL.nil ?_
  refine At.then ?_
  refine WC.seq ?_
  refine WC.seq ?_
  refine WC.region ?_
  refine WL.y (Y.assign rfl) rfl ?_
  refine WL.nil ?_
  refine At.then ?_
  refine WC.block ?_
  obtain ⟨p25, h, hk27⟩ := flow1 h
  obtain ⟨k26, h⟩ := loop_some h
  refine WC.joinB 0 (σ := (List Int × Own × Value)) (fun x w' => p25 = .go x.1 ∧ Stp [12, 14, 16, 1002, 1004] (Lg.O0 A) w x.2.1 w' ∧ OwnSl 1008 Rep.i 3 x.2.1 w' x.2.2 x.1) (fun x => [(3, x.2.2)]) ?_ ?_
  · refine WC.loop (σ := (List Int × Int × Own × Value)) (fun x k w' => loopN k (ref06_Row_lp1 a0) (x.1, x.2.1) = some p25 ∧ Stp [12, 14, 16, 1002, 1004] (Lg.O0 A) w x.2.2.1 w' ∧ OwnSl 1004 Rep.i 3 x.2.2.1 w' x.2.2.2 x.1) (fun x => [(0, v0), (3, x.2.2.2), (4, vi x.2.1)]) ([], 0, (Lg.O0 A), .slice none 0 0) k26 (.cons rfl (.cons rfl (.cons rfl .nil))) ⟨h, (Stp.refl _ _ _), (OwnSl.nil 1004 Rep.i 3)⟩ ?_
    rintro ⟨out12, i15, O16, v13⟩ k26 wd17 ⟨h, hst18, hf14⟩
    obtain ⟨j28, q29, rfl, h, hn30⟩ := rnd1 h
    unfold ref06_Row_lp1 at h
    try dsimp only at h hst18 hf14
    refine (show WC _ _ _ _ [(0, v0), (3, v13), (4, vi i15)] _ from ?_)
    refine WC.seq ?_
    refine WC.seq ?_
    refine WC.region ?_
    refine WL.y (Y.move rfl) rfl ?_
    refine WL.y (Y.move rfl) rfl ?_
    have hf31 := hf11.mono (imm_st hst18 rfl rfl)
    refine WL.y (Y.len ty23 rfl hf31) rfl ?_
    refine WL.y (Y.lss_i rfl rfl) rfl ?_
    refine WL.nil ?_
    refine At.then ?_
    rcases cnd h with ⟨hc32, h⟩ | ⟨hc32, h⟩
    · refine WC.condT' rfl hc32 ?_
      refine WC.skip ?_
      refine At.then ?_
      refine WC.seq ?_
      refine WC.block ?_
      refine WC.seq ?_
      refine WC.region ?_
      refine WL.y (Y.move rfl) rfl ?_
      refine WL.nil ?_
      refine At.then ?_
      obtain ⟨p39, h, hk40⟩ := bnd h
      refine WC.join (σ := (List Int × Own × Value)) (fun x w' => x.1 = p39 ∧ Stp [1004] O16 wd17 x.2.1 w' ∧ OwnSl 1002 Rep.i 3 x.2.1 w' x.2.2 x.1) (fun x => [(0, v0), (3, x.2.2), (4, vi i15)]) ?_ ?_
      · refine WC.block ?_
        refine WC.seq ?_
        refine WC.region ?_
        refine WL.y (Y.eql_i rfl rfl) rfl ?_
        obtain ⟨t41, ht41, h⟩ := lt1 h
        refine WL.yE (Y.assign rfl) (congrArg Value.bool ht41.symm) rfl ?_
        refine WL.nil ?_
        refine At.then ?_
        rcases cnd h with ⟨hc42, h⟩ | ⟨hc42, h⟩
        · refine WC.condT' rfl hc42 ?_
          refine WC.region ?_
          refine WL.y (Y.move rfl) rfl ?_
          refine WL.y (Y.move rfl) rfl ?_
          obtain ⟨e43, he43, h⟩ := bnd h
          obtain ⟨b44, off52, cap51, cs50, hv45, hi46, hl47, hc48, hok49, hA53⟩ := Sl.at2 hf31 he43
          obtain rfl := hok49
          replace hc48 : CellsAt _ _ _ [vi e43] := hc48
          have hca54 := CAt.imm hc48 hA53
          refine WL.y (Y.indexAddr ty23 ty3 rfl hv45 rfl hi46 hl47) rfl ?_
          refine WL.y (Y.loadSc ty3 rfl rfl hca54.at_) rfl ?_
          obtain ⟨r55, hp56, h⟩ := bnd h
          refine WL.call (vals := [vi e43]) kok34 rfl rfl (c_ref02_Zig hp56) ?_
          rintro vr59 wd58 ⟨rfl, hm57⟩
          obtain ⟨O60, hold61, hnew62, hst63⟩ := adoptE O16 (fun k => 1) hm57
          obtain ⟨r64, hp65, h⟩ := bnd h
          refine WL.call (vals := [vu r55]) kok33 rfl rfl (c_ref06_Small hp65) ?_
          rintro vr70 wd69 ⟨_, rfl, hm68, f67⟩
          obtain ⟨O71, hold72, hnew73, hst74⟩ := adoptE O60 (fun k => if Value.ownBlock vr70 = some k then 11 else 1) hm68
          have hf75 : OwnSl 11 Rep.i 3 O71 wd69 vr70 r64 := RowF.adopt 11 Flat.i f67 hnew73 (fun k hk => if_pos hk)
          obtain ⟨xs76, hxs76, h⟩ := bnd h
          have hf77 := hf14.st hst63 rfl rfl rfl
          have hf78 := hf77.st hst74 rfl rfl rfl
          refine WL.append (by decide) ty23 ty3 rfl (by decide) rfl rfl hf78 hf75.src hxs76 rfl ?_
          intro v82 O79 wd80 hst81 ho83
          refine WL.y (Y.assign rfl) rfl ?_
          refine WL.nil ?_
          refine At.inBlock ?_
          obtain ⟨O84, hst85, ho86⟩ := OwnSl.rlb 1002 rfl ho83
          exact At.join (σ := (List Int × Own × Value)) (xs76, O84, v82) ⟨some1 h, (Stp.trans (Stp.up hst63 rfl) (Stp.trans (Stp.up hst74 rfl) (Stp.trans (Stp.up hst81 rfl) (Stp.up hst85 rfl)))), ho86⟩ (.cons rfl (.cons rfl (.cons rfl .nil)))
        · refine WC.condF' rfl hc42 ?_
          refine WC.seq ?_
          refine WC.region ?_
          refine WL.y (Y.eql_i rfl rfl) rfl ?_
          obtain ⟨t87, ht87, h⟩ := lt1 h
          refine WL.yE (Y.assign rfl) (congrArg Value.bool ht87.symm) rfl ?_
          refine WL.nil ?_
          refine At.then ?_
          rcases cnd h with ⟨hc88, h⟩ | ⟨hc88, h⟩
          · refine WC.condT' rfl hc88 ?_
            refine WC.drawH [1004] O16 15 fmix rfl ?_
            intro wd89 hst90
            refine WD.y 0 rfl (by kernel_rfl) (fun _ _ _ => Y.move rfl) rfl ?_
            refine WD.y 1 rfl (by kernel_rfl) (fun _ _ _ => Y.move rfl) rfl ?_
            obtain ⟨e97, he97, h⟩ := bnd h
            have hf106 := hf31.mono (imm_st hst90 rfl rfl)
            obtain ⟨b98, off107, cap105, cs104, hv99, hi100, hl101, hc102, hok103, hA108⟩ := Sl.at2 hf106 he97
            obtain rfl := hok103
            replace hc102 : CellsAt _ _ _ [vi e97] := hc102
            have hca109 := CAt.imm hc102 hA108
            refine WD.y 2 rfl (by kernel_rfl) (fun _ _ _ => Y.indexAddr ty23 ty3 rfl hv99 rfl hi100 hl101) rfl ?_
            refine WD.y 3 rfl (by kernel_rfl) (fun wd114 O113 hst115 => have hf116 := hca109.st hst115 rfl; Y.loadSc ty3 rfl rfl hf116.at_) rfl ?_
            refine WD.y 4 rfl (by kernel_rfl) (fun _ _ _ => Y.conv_iu ty3.u ty29.u rfl) rfl ?_
            refine WD.y 5 rfl (by kernel_rfl) (fun _ _ _ => Y.move rfl) rfl ?_
            obtain ⟨e123, he123, h⟩ := bnd h
            obtain ⟨b124, off132, cap131, cs130, hv125, hi126, hl127, hc128, hok129, hA133⟩ := Sl.at2 hf106 he123
            obtain rfl := hok129
            replace hc128 : CellsAt _ _ _ [vi e123] := hc128
            have hca134 := CAt.imm hc128 hA133
            refine WD.y 6 rfl (by kernel_rfl) (fun _ _ _ => Y.indexAddr ty23 ty3 rfl hv125 rfl hi126 hl127) rfl ?_
            refine WD.y 7 rfl (by kernel_rfl) (fun wd139 O138 hst140 => have hf141 := hca134.st hst140 rfl; Y.loadSc ty3 rfl rfl hf141.at_) rfl ?_
            refine WD.y 8 rfl (by kernel_rfl) (fun _ _ _ => Y.conv_iu ty3.u ty29.u rfl) rfl ?_
            refine WD.y 9 rfl (by kernel_rfl) (fun _ _ _ => Y.sub_u rfl rfl) rfl ?_
            refine WD.y 10 rfl (by kernel_rfl) (fun _ _ _ => Y.conv_ui ty29.u ty3.u rfl) rfl ?_
            refine WD.heavy 11 rfl (by kernel_rfl) ?_
            obtain ⟨r151, hp152, h⟩ := bnd h
            refine WL.call (vals := [vi (w64 (((toU64 e97) - (toU64 e123)).toNat : Int))]) kok34 rfl rfl (c_ref02_Zig hp152) ?_
            rintro vr155 wd154 ⟨rfl, hm153⟩
            obtain ⟨O156, hold157, hnew158, hst159⟩ := adoptE O16 (fun k => 1) hm153
            refine WL.nil ?_
            refine At.dq (Stp.up hst159 rfl) ?_
            refine WD.heavy 12 rfl (by kernel_rfl) ?_
            obtain ⟨r160, hp161, h⟩ := bnd h
            refine WL.call (vals := [vu r151]) kok33 rfl rfl (c_ref06_Small hp161) ?_
            rintro vr166 wd165 ⟨_, rfl, hm164, f163⟩
            obtain ⟨O167, hold168, hnew169, hst170⟩ := adoptE O156 (fun k => if Value.ownBlock vr166 = some k then 12 else 1) hm164
            have hf171 : OwnSl 12 Rep.i 3 O167 wd165 vr166 r160 := RowF.adopt 12 Flat.i f163 hnew169 (fun k hk => if_pos hk)
            refine WL.nil ?_
            refine At.dq (Stp.up hst170 rfl) ?_
            refine WD.heavy 13 rfl (by kernel_rfl) ?_
            obtain ⟨xs172, hxs172, h⟩ := bnd h
            have hf173 := hf14.st hst90 rfl rfl rfl
            have hf174 := hf173.st hst159 rfl rfl rfl
            have hf175 := hf174.st hst170 rfl rfl rfl
            refine WL.append (by decide) ty23 ty3 rfl (by decide) rfl rfl hf175 hf171.src hxs172 rfl ?_
            intro v179 O176 wd177 hst178 ho180
            refine WL.nil ?_
            refine At.dq (Stp.up hst178 rfl) ?_
            refine WD.y 14 rfl (by kernel_rfl) (fun _ _ _ => Y.assign rfl) rfl ?_
            refine WD.done_ (by kernel_rfl) ?_
            refine At.inBlock ?_
            obtain ⟨O184, hst185, ho186⟩ := OwnSl.rlb 1002 rfl ho180
            exact At.join (σ := (List Int × Own × Value)) (xs172, O184, v179) ⟨some1 h, (Stp.trans (Stp.up hst90 rfl) (Stp.trans (Stp.up hst159 rfl) (Stp.trans (Stp.up hst170 rfl) (Stp.trans (Stp.up hst178 rfl) (Stp.up hst185 rfl))))), ho186⟩ (.cons rfl (.cons rfl (.cons rfl .nil)))
          · refine WC.condF' rfl hc88 ?_
            refine WC.drawH [1004] O16 25 fmix rfl ?_
            intro wd187 hst188
            refine WD.y 0 rfl (by kernel_rfl) (fun _ _ _ => Y.move rfl) rfl ?_
            refine WD.y 1 rfl (by kernel_rfl) (fun _ _ _ => Y.move rfl) rfl ?_
            refine WD.y 2 rfl (by kernel_rfl) (fun _ _ _ => Y.move rfl) rfl ?_
            obtain ⟨e198, he198, h⟩ := bnd h
            have hf207 := hf31.mono (imm_st hst188 rfl rfl)
            obtain ⟨b199, off208, cap206, cs205, hv200, hi201, hl202, hc203, hok204, hA209⟩ := Sl.at2 hf207 he198
            obtain rfl := hok204
            replace hc203 : CellsAt _ _ _ [vi e198] := hc203
            have hca210 := CAt.imm hc203 hA209
            refine WD.y 3 rfl (by kernel_rfl) (fun _ _ _ => Y.indexAddr ty23 ty3 rfl hv200 rfl hi201 hl202) rfl ?_
            refine WD.y 4 rfl (by kernel_rfl) (fun wd215 O214 hst216 => have hf217 := hca210.st hst216 rfl; Y.loadSc ty3 rfl rfl hf217.at_) rfl ?_
            refine WD.y 5 rfl (by kernel_rfl) (fun _ _ _ => Y.conv_iu ty3.u ty29.u rfl) rfl ?_
            refine WD.y 6 rfl (by kernel_rfl) (fun _ _ _ => Y.move rfl) rfl ?_
            refine WD.y 7 rfl (by kernel_rfl) (fun _ _ _ => Y.move rfl) rfl ?_
            refine WD.y 8 rfl (by kernel_rfl) (fun _ _ _ => Y.sub_i rfl rfl) rfl ?_
            obtain ⟨e230, he230, h⟩ := bnd h
            obtain ⟨b231, off239, cap238, cs237, hv232, hi233, hl234, hc235, hok236, hA240⟩ := Sl.at2 hf207 he230
            obtain rfl := hok236
            replace hc235 : CellsAt _ _ _ [vi e230] := hc235
            have hca241 := CAt.imm hc235 hA240
            refine WD.y 9 rfl (by kernel_rfl) (fun _ _ _ => Y.indexAddr ty23 ty3 rfl hv232 rfl hi233 hl234) rfl ?_
            refine WD.y 10 rfl (by kernel_rfl) (fun wd246 O245 hst247 => have hf248 := hca241.st hst247 rfl; Y.loadSc ty3 rfl rfl hf248.at_) rfl ?_
            refine WD.y 11 rfl (by kernel_rfl) (fun _ _ _ => Y.conv_iu ty3.u ty29.u rfl) rfl ?_
            refine WD.y 12 rfl (by kernel_rfl) (fun _ _ _ => Y.mul_u (a := 2) rfl rfl) rfl ?_
            refine WD.y 13 rfl (by kernel_rfl) (fun _ _ _ => Y.sub_u rfl rfl) rfl ?_
            refine WD.y 14 rfl (by kernel_rfl) (fun _ _ _ => Y.move rfl) rfl ?_
            refine WD.y 15 rfl (by kernel_rfl) (fun _ _ _ => Y.move rfl) rfl ?_
            refine WD.y 16 rfl (by kernel_rfl) (fun _ _ _ => Y.sub_i rfl rfl) rfl ?_
            obtain ⟨e267, he267, h⟩ := bnd h
            obtain ⟨b268, off276, cap275, cs274, hv269, hi270, hl271, hc272, hok273, hA277⟩ := Sl.at2 hf207 he267
            obtain rfl := hok273
            replace hc272 : CellsAt _ _ _ [vi e267] := hc272
            have hca278 := CAt.imm hc272 hA277
            refine WD.y 17 rfl (by kernel_rfl) (fun _ _ _ => Y.indexAddr ty23 ty3 rfl hv269 rfl hi270 hl271) rfl ?_
            refine WD.y 18 rfl (by kernel_rfl) (fun wd283 O282 hst284 => have hf285 := hca278.st hst284 rfl; Y.loadSc ty3 rfl rfl hf285.at_) rfl ?_
            refine WD.y 19 rfl (by kernel_rfl) (fun _ _ _ => Y.conv_iu ty3.u ty29.u rfl) rfl ?_
            refine WD.y 20 rfl (by kernel_rfl) (fun _ _ _ => Y.add_u rfl rfl) rfl ?_
            refine WD.y 21 rfl (by kernel_rfl) (fun _ _ _ => Y.conv_ui ty29.u ty3.u rfl) rfl ?_
            refine WD.heavy 22 rfl (by kernel_rfl) ?_
            obtain ⟨r295, hp296, h⟩ := bnd h
            refine WL.call (vals := [vi (w64 ((((toU64 e198) - ((2 : UInt64) * (toU64 e230))) + (toU64 e267)).toNat : Int))]) kok60 rfl rfl (c_ref06_Step hp296) ?_
            rintro vr301 wd300 ⟨_, rfl, hm299, f298⟩
            obtain ⟨O302, hold303, hnew304, hst305⟩ := adoptE O16 (fun k => if Value.ownBlock vr301 = some k then 13 else 1) hm299
            have hf306 : OwnSl 13 Rep.i 3 O302 wd300 vr301 r295 := RowF.adopt 13 Flat.i f298 hnew304 (fun k hk => if_pos hk)
            refine WL.nil ?_
            refine At.dq (Stp.up hst305 rfl) ?_
            refine WD.heavy 23 rfl (by kernel_rfl) ?_
            obtain ⟨xs307, hxs307, h⟩ := bnd h
            have hf308 := hf14.st hst188 rfl rfl rfl
            have hf309 := hf308.st hst305 rfl rfl rfl
            refine WL.append (by decide) ty23 ty3 rfl (by decide) rfl rfl hf309 hf306.src hxs307 rfl ?_
            intro v313 O310 wd311 hst312 ho314
            refine WL.nil ?_
            refine At.dq (Stp.up hst312 rfl) ?_
            refine WD.y 24 rfl (by kernel_rfl) (fun _ _ _ => Y.assign rfl) rfl ?_
            refine WD.done_ (by kernel_rfl) ?_
            refine At.inBlock ?_
            obtain ⟨O318, hst319, ho320⟩ := OwnSl.rlb 1002 rfl ho314
            exact At.join (σ := (List Int × Own × Value)) (xs307, O318, v313) ⟨some1 h, (Stp.trans (Stp.up hst188 rfl) (Stp.trans (Stp.up hst305 rfl) (Stp.trans (Stp.up hst312 rfl) (Stp.up hst319 rfl)))), ho320⟩ (.cons rfl (.cons rfl (.cons rfl .nil)))
      · rintro ⟨out33, O36, v34⟩ wd37 ⟨rfl, hst38, hf35⟩
        replace h := hk40
        try dsimp only at h hst38 hf35
        refine (show At _ _ _ [(0, v0), (3, v34), (4, vi i15)] _ from ?_)
        refine At.inBlock ?_
        refine At.then ?_
        refine WC.region ?_
        refine WL.y (Y.move rfl) rfl ?_
        refine WL.y (Y.add_i rfl rfl) rfl ?_
        obtain ⟨i321, hi321, h⟩ := lt1 h
        refine WL.yE (Y.assign rfl) (congrArg vi hi321.symm) rfl ?_
        refine WL.nil ?_
        obtain ⟨O322, hst323, ho324⟩ := OwnSl.rlb 1004 rfl hf35
        exact At.round (out33, i321, O322, v34) j28 (Nat.lt_succ_self _) ⟨next1 h hn30, (Stp.trans (Stp.up hst18 rfl) (Stp.trans (Stp.up hst38 rfl) (Stp.up hst323 rfl))), ho324⟩ (.cons rfl (.cons rfl (.cons rfl .nil)))
    · refine WC.condF' rfl hc32 ?_
      refine WC.exit ?_
      refine At.thenX ?_
      refine At.loopX ?_
      obtain ⟨O325, hst326, ho327⟩ := OwnSl.rlb 1008 rfl hf14
      exact At.hitB (σ := (List Int × Own × Value)) (out12, O325, v13) ⟨brk1 h hn30, (Stp.trans (Stp.up hst18 rfl) (Stp.up hst326 rfl)), ho327⟩ (.cons rfl .nil)
  · rintro ⟨out19, O22, v20⟩ wd23 ⟨rfl, hst24, hf21⟩
    replace h := flowK_go hk27
    try dsimp only at h hst24 hf21
    refine (show At _ _ _ [(3, v20)] _ from ?_)
    refine At.inBlockHit ?_
    refine At.then ?_
    refine WC.seq ?_
    refine WC.region ?_
    refine WL.y (Y.move rfl) rfl ?_
    refine WL.y (Y.assign rfl) rfl ?_
    refine WL.nil ?_
    refine At.then ?_
    refine WC.ret ?_
    obtain rfl := some1 h
    have hs328 : Stp [12, 14, 16, 1002, 1004] (Lg.O0 A) w O22 wd23 := (Stp.up hst24 rfl)
    exact At.res (.inl rfl) rfl (.tmp rfl .nil) ⟨v20, rfl, (Stp.ext hs328 rfl rfl), (OwnSl.outF hf21 hs328 low0 rfl)⟩

theorem c_law06_VaryRows {A : Nat → Prop} {a0 : List Int} {v0 : Value} {a1 : Int} {w : World} (hs0 : Sl Rep.i w A v0 a0) {r0 : Bool} (h : law06_VaryRows a0 a1 = some r0) : Rets Try.prog 10 [v0, vi a1] w (fun v w' => v = .bool r0 ∧ Ext w w') := by
  unfold law06_VaryRows at h
  refine Rets.enter Try.func10 rfl rfl ?_
  have hf11 : Sl Rep.i w (imm (Lg.O0 A)) v0 a0 := (Sl.start hs0)
  refine (show WC _ _ _ _ [(0, v0), (1, vi a1)] _ from ?_)
  refine WC.seq ?_
  refine WC.region ?_
  refine WL.y (Y.assign rfl) rfl ?_
  refine WL.nil ?_
  refine At.then ?_
  refine WC.seq ?_
  refine WC.seq ?_
  refine WC.region ?_
  obtain ⟨r12, hp13, h⟩ := bnd h
  refine WL.call (vals := []) kok30 rfl rfl (c_law06_awake hp13) ?_
  rintro vr16 wd15 ⟨rfl, hm14⟩
  obtain ⟨O17, hold18, hnew19, hst20⟩ := adoptE (Lg.O0 A) (fun k => 1) hm14
  refine WL.y (Y.not rfl) rfl ?_
  refine WL.nil ?_
  refine At.then ?_
  rcases cnd h with ⟨hc21, h⟩ | ⟨hc21, h⟩
  · refine WC.condT' rfl hc21 ?_
    refine WC.seq ?_
    refine WC.region ?_
    refine WL.y (Y.assign rfl) rfl ?_
    refine WL.nil ?_
    refine At.then ?_
    refine WC.ret ?_
    refine At.thenR ?_
    obtain rfl := some1 h
    have hs22 : Stp [] (Lg.O0 A) w O17 wd15 := (Stp.up hst20 rfl)
    exact At.res (.inl rfl) rfl (.tmp rfl .nil) ⟨rfl, (Stp.ext hs22 rfl rfl)⟩
  · refine WC.condF' rfl hc21 ?_
    refine WC.skip ?_
    refine At.then ?_
    refine WC.seq ?_
    refine WC.seq ?_
    refine WC.region ?_
    refine WL.y (Y.move rfl) rfl ?_
    have hf23 := hf11.mono (imm_st hst20 rfl rfl)
    refine WL.y (Y.len ty23 rfl hf23) rfl ?_
    refine WL.y (Y.gtr_i rfl rfl) rfl ?_
    refine WL.nil ?_
    refine At.then ?_
    rcases cnd h with ⟨hc24, h⟩ | ⟨hc24, h⟩
    · refine WC.condT' rfl hc24 ?_
      refine WC.seq ?_
      refine WC.region ?_
      refine WL.y (Y.assign rfl) rfl ?_
      refine WL.nil ?_
      refine At.then ?_
      refine WC.ret ?_
      refine At.thenR ?_
      obtain rfl := some1 h
      have hs25 : Stp [] (Lg.O0 A) w O17 wd15 := (Stp.up hst20 rfl)
      exact At.res (.inl rfl) rfl (.tmp rfl .nil) ⟨rfl, (Stp.ext hs25 rfl rfl)⟩
    · refine WC.condF' rfl hc24 ?_
      refine WC.skip ?_
      refine At.then ?_
      refine WC.seq ?_
      refine WC.region ?_
      obtain ⟨r26, hp27, h⟩ := bnd h
      refine WL.call (vals := []) kok12 rfl rfl (c_bitio_NewWriter hp27) ?_
      rintro vr34 wd33 ⟨p28, u29, rfl, hm32, f30, f31⟩
      obtain ⟨O35, hold36, hnew37, hst38⟩ := adoptE O17 (fun k => if k = p28 then 11 else if Value.ownBlock u29 = some k then 12 else 1) hm32
      have hf40 : OwnSl 12 Rep.b 5 O35 wd33 u29 r26.b := RowF.adopt 12 Flat.b f31.1 hnew37 (fun k hk => (if_neg (fun (e : k = p28) => f31.2 (e ▸ hk))).trans (if_pos hk))
      have hb39 : Blk 11 O35 wd33 p28 73 [u29, vi r26.n] := Blk.new f30 hnew37 (if_pos rfl)
      refine WL.y (Y.assign rfl) rfl ?_
      refine WL.nil ?_
      refine At.then ?_
      refine WC.seq ?_
      refine WC.region ?_
      obtain ⟨r41, hp42, h⟩ := bnd h
      refine WL.call (vals := []) kok39 rfl rfl (c_vary_NewRow hp42) ?_
      rintro vr47 wd46 ⟨p43, rfl, hm45, f44⟩
      obtain ⟨O48, hold49, hnew50, hst51⟩ := adoptE O35 (fun k => if k = p43 then 13 else 1) hm45
      have hb52 : Blk 13 O48 wd46 p43 83 [vi r41.n, vu r41.last, vu r41.step] := Blk.new f44 hnew50 (if_pos rfl)
      refine WL.y (Y.assign rfl) rfl ?_
      refine WL.nil ?_
      refine At.then ?_
      refine WC.seq ?_
      refine WC.seq ?_
      refine WC.region ?_
      refine WL.y (Y.assign rfl) rfl ?_
      refine WL.nil ?_
      refine At.then ?_
      obtain ⟨p61, h, hk62⟩ := flow1 h
      refine WC.join (σ := (List UInt8 × Int × Own × Value)) (fun x w' => p61 = .go (x.1, x.2.1) ∧ Stp [11, 12, 13, 14, 15, 16, 1001, 1002] O48 wd46 x.2.2.1 w' ∧ OwnSl 1004 Rep.b 5 x.2.2.1 w' x.2.2.2 x.1 ∧ Blk 11 x.2.2.1 w' p28 73 [x.2.2.2, vi x.2.1]) (fun x => [(0, v0), (5, .pointer (some ⟨p28, 0, none⟩))]) ?_ ?_
      · refine WC.block ?_
        obtain ⟨p84, h, hk86⟩ := flow1 h
        obtain ⟨k85, h⟩ := loop_some h
        refine WC.joinB 0 (σ := (List UInt8 × Int × Own × Value)) (fun x w' => p84 = .go (x.1, x.2.1) ∧ Stp [11, 12, 13, 14, 15, 16, 1001] O48 wd46 x.2.2.1 w' ∧ OwnSl 1002 Rep.b 5 x.2.2.1 w' x.2.2.2 x.1 ∧ Blk 11 x.2.2.1 w' p28 73 [x.2.2.2, vi x.2.1]) (fun x => [(0, v0), (5, .pointer (some ⟨p28, 0, none⟩))]) ?_ ?_
        · have hf87 := hf40.st hst51 rfl rfl rfl
          obtain ⟨O88, hst89, ho90⟩ := OwnSl.rlb 1001 rfl hf87
          have hf91 := hb39.st hst51 rfl
          have hf92 := hf91.st hst89 rfl
          have hf93 := hb52.st hst89 rfl
          refine WC.loop (σ := (List UInt8 × Int × Int × UInt64 × UInt64 × Int × Own × Value)) (fun x k w' => loopN k (law06_VaryRows_lp1 a0 a1) (x.1, x.2.1, x.2.2.1, x.2.2.2.1, x.2.2.2.2.1, x.2.2.2.2.2.1) = some p84 ∧ Stp [11, 12, 13, 14, 15, 16, 1001] O48 wd46 x.2.2.2.2.2.2.1 w' ∧ OwnSl 1001 Rep.b 5 x.2.2.2.2.2.2.1 w' x.2.2.2.2.2.2.2 x.1 ∧ Blk 11 x.2.2.2.2.2.2.1 w' p28 73 [x.2.2.2.2.2.2.2, vi x.2.1] ∧ Blk 13 x.2.2.2.2.2.2.1 w' p43 83 [vi x.2.2.1, vu x.2.2.2.1, vu x.2.2.2.2.1]) (fun x => [(0, v0), (1, vi a1), (5, .pointer (some ⟨p28, 0, none⟩)), (6, .pointer (some ⟨p43, 0, none⟩)), (7, vi x.2.2.2.2.2.1)]) (r26.b, r26.n, r41.n, r41.last, r41.step, 0, O88, u29) k85 (.cons rfl (.cons rfl (.cons rfl (.cons rfl (.cons rfl .nil))))) ⟨h, (Stp.up hst89 rfl), ho90, hf92, hf93⟩ ?_
          rintro ⟨c64, c67, c69, c70, c71, i72, O73, v65⟩ k85 wd74 ⟨h, hst75, hf66, hb63, hb68⟩
          obtain ⟨j94, q95, rfl, h, hn96⟩ := rnd1 h
          unfold law06_VaryRows_lp1 at h
          try dsimp only at h hst75 hf66 hb63 hb68
          refine (show WC _ _ _ _ [(0, v0), (1, vi a1), (5, .pointer (some ⟨p28, 0, none⟩)), (6, .pointer (some ⟨p43, 0, none⟩)), (7, vi i72)] _ from ?_)
          refine WC.seq ?_
          refine WC.seq ?_
          refine WC.region ?_
          refine WL.y (Y.move rfl) rfl ?_
          refine WL.y (Y.move rfl) rfl ?_
          have hf97 := hf23.mono (imm_st hst38 rfl rfl)
          have hf98 := hf97.mono (imm_st hst51 rfl rfl)
          have hf99 := hf98.mono (imm_st hst75 rfl rfl)
          refine WL.y (Y.len ty23 rfl hf99) rfl ?_
          refine WL.y (Y.lss_i rfl rfl) rfl ?_
          refine WL.nil ?_
          refine At.then ?_
          rcases cnd h with ⟨hc100, h⟩ | ⟨hc100, h⟩
          · refine WC.condT' rfl hc100 ?_
            refine WC.skip ?_
            refine At.then ?_
            refine WC.seq ?_
            refine WC.block ?_
            refine WC.seq ?_
            refine WC.region ?_
            refine WL.y (Y.move rfl) rfl ?_
            obtain ⟨r101, hp102, h⟩ := bnd h
            refine WL.call (vals := [.pointer (some ⟨p43, 0, none⟩)]) kok44 rfl rfl (c_vary_Row_Clone (A := fun _ => True) (a0 := (vary_Row.mk c69 c70 c71)) hb68.blk trivial hp102) ?_
            rintro vr107 wd106 ⟨p103, rfl, hm105, f104⟩
            obtain ⟨O108, hold109, hnew110, hst111⟩ := adoptE O73 (fun k => if k = p103 then 14 else 1) hm105
            have hb112 : Blk 14 O108 wd106 p103 83 [vi r101.n, vu r101.last, vu r101.step] := Blk.new f104 hnew110 (if_pos rfl)
            refine WL.y (Y.assign rfl) rfl ?_
            refine WL.nil ?_
            refine At.then ?_
            refine WC.seq ?_
            refine WC.region ?_
            refine WL.y (Y.move rfl) rfl ?_
            obtain ⟨r113, hp114, h⟩ := bnd h
            refine WL.call (vals := []) kok12 rfl rfl (c_bitio_NewWriter hp114) ?_
            rintro vr121 wd120 ⟨p115, u116, rfl, hm119, f117, f118⟩
            obtain ⟨O122, hold123, hnew124, hst125⟩ := adoptE O108 (fun k => if k = p115 then 15 else if Value.ownBlock u116 = some k then 16 else 1) hm119
            have hf127 : OwnSl 16 Rep.b 5 O122 wd120 u116 r113.b := RowF.adopt 16 Flat.b f118.1 hnew124 (fun k hk => (if_neg (fun (e : k = p115) => f118.2 (e ▸ hk))).trans (if_pos hk))
            have hb126 : Blk 15 O122 wd120 p115 73 [u116, vi r113.n] := Blk.new f117 hnew124 (if_pos rfl)
            refine WL.y (Y.move rfl) rfl ?_
            have hf128 := hb112.st hst125 rfl
            obtain ⟨⟨r129, r130⟩, hp131, h⟩ := bnd h
            refine WL.call (vals := [.pointer (some ⟨p103, 0, none⟩), .pointer (some ⟨p115, 0, none⟩), vi a1]) kok43 rfl rfl (c_vary_Row_Put (a0 := r101) (a1 := r113) hf128.blk hf127.row hb126.blk (ne_blk hf128.lab hb126.lab rfl) (ne_lab hf127 hf128.lab rfl) (ne_lab hf127 hb126.lab rfl) hp131) ?_
            rintro vr138 wd137 ⟨z132, rfl, hm136, f133, f134, f135⟩
            obtain ⟨O139, hold140, hnew141, hst142⟩ := adopt O122 (fun k => if Value.ownBlock z132 = some k then 16 else 1) [14, 15, 16] hm136 (memOr (memB hf128.lab rfl) (memOr (memB hb126.lab rfl) (memV hf127.labs rfl)))
            have hb143 : Blk 14 O139 wd137 p103 83 [vi r129.n, vu r129.last, vu r129.step] := Blk.adopt hf128 hold140 f133
            have ho144 : OwnSl 16 Rep.b 5 O139 wd137 z132 r130.b := RowG.adopt Flat.b hf127.labs f134 hold140 hnew141 (fun k hk => if_pos hk)
            have hb145 : Blk 15 O139 wd137 p115 73 [z132, vi r130.n] := Blk.adopt hb126 hold140 f135
            refine WL.nil ?_
            refine At.then ?_
            refine WC.seq ?_
            refine WC.region ?_
            refine WL.y (Y.move rfl) rfl ?_
            refine WL.y (Y.move rfl) rfl ?_
            refine WL.y (Y.move rfl) rfl ?_
            refine WL.y (Y.move rfl) rfl ?_
            obtain ⟨e146, he146, h⟩ := bnd h
            have hf155 := hf99.mono (imm_st hst111 rfl rfl)
            have hf156 := hf155.mono (imm_st hst125 rfl rfl)
            have hf157 := hf156.mono (imm_st hst142 rfl rfl)
            obtain ⟨b147, off158, cap154, cs153, hv148, hi149, hl150, hc151, hok152, hA159⟩ := Sl.at2 hf157 he146
            obtain rfl := hok152
            replace hc151 : CellsAt _ _ _ [vi e146] := hc151
            have hca160 := CAt.imm hc151 hA159
            refine WL.y (Y.indexAddr ty23 ty3 rfl hv148 rfl hi149 hl150) rfl ?_
            refine WL.y (Y.loadSc ty3 rfl rfl hca160.at_) rfl ?_
            have hf161 := hf66.st hst111 rfl rfl rfl
            have hf162 := hf161.st hst125 rfl rfl rfl
            have hf163 := hf162.st hst142 rfl rfl rfl
            have hf164 := hb68.st hst111 rfl
            have hf165 := hf164.st hst125 rfl
            have hf166 := hf165.st hst142 rfl
            have hf167 := hb63.st hst111 rfl
            have hf168 := hf167.st hst125 rfl
            have hf169 := hf168.st hst142 rfl
            obtain ⟨⟨r170, r171⟩, hp172, h⟩ := bnd h
            refine WL.call (vals := [.pointer (some ⟨p43, 0, none⟩), .pointer (some ⟨p28, 0, none⟩), vi e146]) kok43 rfl rfl (c_vary_Row_Put (a0 := (vary_Row.mk c69 c70 c71)) (a1 := (bitio_Writer.mk c64 c67)) hf166.blk hf163.row hf169.blk (ne_blk hf166.lab hf169.lab rfl) (ne_lab hf163 hf166.lab rfl) (ne_lab hf163 hf169.lab rfl) hp172) ?_
            rintro vr179 wd178 ⟨z173, rfl, hm177, f174, f175, f176⟩
            obtain ⟨O180, hold181, hnew182, hst183⟩ := adopt O139 (fun k => if Value.ownBlock z173 = some k then 1001 else 1) [13, 11, 1001] hm177 (memOr (memB hf166.lab rfl) (memOr (memB hf169.lab rfl) (memV hf163.labs rfl)))
            have hb184 : Blk 13 O180 wd178 p43 83 [vi r170.n, vu r170.last, vu r170.step] := Blk.adopt hf166 hold181 f174
            have ho185 : OwnSl 1001 Rep.b 5 O180 wd178 z173 r171.b := RowG.adopt Flat.b hf163.labs f175 hold181 hnew182 (fun k hk => if_pos hk)
            have hb186 : Blk 11 O180 wd178 p28 73 [z173, vi r171.n] := Blk.adopt hf169 hold181 f176
            refine WL.nil ?_
            refine At.then ?_
            refine WC.seq ?_
            refine WC.region ?_
            refine WL.y (Y.move rfl) rfl ?_
            have hf187 := hb143.st hst183 rfl
            obtain ⟨r188, hp189, h⟩ := bnd h
            refine WL.call (vals := [.pointer (some ⟨p103, 0, none⟩)]) kok42 rfl rfl (c_vary_Row_Len (A := fun _ => True) (a0 := r129) hf187.blk trivial hp189) ?_
            rintro vr192 wd191 ⟨rfl, hm190⟩
            obtain ⟨O193, hold194, hnew195, hst196⟩ := adoptE O180 (fun k => 1) hm190
            refine WL.y (Y.move rfl) rfl ?_
            refine WL.y (Y.add_i rfl rfl) rfl ?_
            refine WL.y (Y.neq_i rfl rfl) rfl ?_
            refine WL.y (Y.move rfl) rfl ?_
            obtain ⟨p201, h, hk202⟩ := bnd h
            refine WL.cut 6 (σ := (Bool × Own)) (fun x w' => x.1 = p201 ∧ Stp [] O193 wd191 x.2 w') (fun x => [(0, v0), (1, vi a1), (5, .pointer (some ⟨p28, 0, none⟩)), (6, .pointer (some ⟨p43, 0, none⟩)), (7, vi i72), (52, .bool x.1)]) ?_ ?_
            · rcases cnd h with ⟨hE203, h⟩ | ⟨hE203, h⟩
              · refine WL.ren 46 rfl (congrArg Value.bool hE203) ?_
                refine WL.gS rfl rfl rfl rfl ?_
                refine WL.gS rfl rfl rfl rfl ?_
                refine WL.gS rfl rfl rfl rfl ?_
                refine WL.gS rfl rfl rfl rfl ?_
                refine WL.gS rfl rfl rfl rfl ?_
                refine WL.y (Y.pick (b := true) rfl rfl) rfl ?_
                exact WL.nil (At.join (σ := (Bool × Own)) (true, O193) ⟨some1 h, (Stp.refl _ _ _)⟩ (.cons rfl (.cons rfl (.cons rfl (.cons rfl (.cons rfl (.cons rfl .nil)))))))
              · refine WL.ren 46 rfl (congrArg Value.bool hE203) ?_
                refine WL.ung rfl rfl ?_
                refine WL.y (Y.move rfl) rfl ?_
                refine WL.ung rfl rfl ?_
                have hf204 := hb184.st hst196 rfl
                obtain ⟨r205, hp206, h⟩ := bnd h
                refine WL.call (vals := [.pointer (some ⟨p43, 0, none⟩)]) kok42 rfl rfl (c_vary_Row_Len (A := fun _ => True) (a0 := r170) hf204.blk trivial hp206) ?_
                rintro vr209 wd208 ⟨rfl, hm207⟩
                obtain ⟨O210, hold211, hnew212, hst213⟩ := adoptE O193 (fun k => 1) hm207
                refine WL.ung rfl rfl ?_
                refine WL.y (Y.move rfl) rfl ?_
                refine WL.ung rfl rfl ?_
                refine WL.y (Y.add_i rfl rfl) rfl ?_
                refine WL.ung rfl rfl ?_
                refine WL.y (Y.neq_i rfl rfl) rfl ?_
                refine WL.y (Y.pick (b := false) rfl rfl) rfl ?_
                exact WL.nil (At.join (σ := (Bool × Own)) ((!decide (r205 = w64 (i72 + 1))), O210) ⟨some1 h, (Stp.up hst213 rfl)⟩ (.cons rfl (.cons rfl (.cons rfl (.cons rfl (.cons rfl (.cons rfl .nil)))))))
            · rintro ⟨x197, O198⟩ wd199 ⟨rfl, hst200⟩
              replace h := hk202
              try dsimp only at h hst200
              refine (show WL _ _ _ _ _ [(0, v0), (1, vi a1), (5, .pointer (some ⟨p28, 0, none⟩)), (6, .pointer (some ⟨p43, 0, none⟩)), (7, vi i72), (52, .bool x197)] _ from ?_)
              refine WL.nil ?_
              refine At.then ?_
              rcases cnd h with ⟨hc214, h⟩ | ⟨hc214, h⟩
              · refine WC.condT' rfl hc214 ?_
                refine WC.seq ?_
                refine WC.region ?_
                refine WL.y (Y.assign rfl) rfl ?_
                refine WL.nil ?_
                refine At.then ?_
                refine WC.ret ?_
                refine At.inBlockR ?_
                refine At.thenR ?_
                refine At.loopR ?_
                have h := outr1 h hn96 hk86
                refine At.joinBR ?_
                refine At.inBlockR ?_
                have h := outs1 h hk62
                refine At.joinR ?_
                refine At.thenR ?_
                obtain rfl := some1 h
                have hs215 : Stp [11, 12, 13, 14, 15, 16, 1001] (Lg.O0 A) w O198 wd199 := (Stp.trans (Stp.up hst20 rfl) (Stp.trans (Stp.up hst38 rfl) (Stp.trans (Stp.up hst51 rfl) (Stp.trans (Stp.up hst75 rfl) (Stp.trans (Stp.up hst111 rfl) (Stp.trans (Stp.up hst125 rfl) (Stp.trans (Stp.up hst142 rfl) (Stp.trans (Stp.up hst183 rfl) (Stp.trans (Stp.up hst196 rfl) (Stp.up hst200 rfl))))))))))
                exact At.res (.inl rfl) rfl (.tmp rfl .nil) ⟨rfl, (Stp.ext hs215 rfl rfl)⟩
              · refine WC.condF' rfl hc214 ?_
                refine WC.skip ?_
                refine At.inBlock ?_
                refine At.then ?_
                refine WC.region ?_
                refine WL.y (Y.move rfl) rfl ?_
                refine WL.y (Y.add_i rfl rfl) rfl ?_
                obtain ⟨i216, hi216, h⟩ := lt1 h
                refine WL.yE (Y.assign rfl) (congrArg vi hi216.symm) rfl ?_
                refine WL.nil ?_
                have hf217 := ho185.st hst196 rfl rfl rfl
                have hf218 := hf217.st hst200 rfl rfl rfl
                have hf219 := hb186.st hst196 rfl
                have hf220 := hf219.st hst200 rfl
                have hf221 := hb184.st hst196 rfl
                have hf222 := hf221.st hst200 rfl
                exact At.round (r171.b, r171.n, r170.n, r170.last, r170.step, i216, O198, z173) j94 (Nat.lt_succ_self _) ⟨next1 h hn96, (Stp.trans (Stp.up hst75 rfl) (Stp.trans (Stp.up hst111 rfl) (Stp.trans (Stp.up hst125 rfl) (Stp.trans (Stp.up hst142 rfl) (Stp.trans (Stp.up hst183 rfl) (Stp.trans (Stp.up hst196 rfl) (Stp.up hst200 rfl))))))), hf218, hf220, hf222⟩ (.cons rfl (.cons rfl (.cons rfl (.cons rfl (.cons rfl .nil)))))
          · refine WC.condF' rfl hc100 ?_
            refine WC.exit ?_
            refine At.thenX ?_
            refine At.loopX ?_
            obtain ⟨O223, hst224, ho225⟩ := OwnSl.rlb 1002 rfl hf66
            have hf226 := hb63.st hst224 rfl
            exact At.hitB (σ := (List UInt8 × Int × Own × Value)) (c64, c67, O223, v65) ⟨brk1 h hn96, (Stp.trans (Stp.up hst75 rfl) (Stp.up hst224 rfl)), ho225, hf226⟩ (.cons rfl (.cons rfl .nil))
        · rintro ⟨c77, c80, O81, v78⟩ wd82 ⟨rfl, hst83, hf79, hb76⟩
          replace h := flowK_go hk86
          try dsimp only at h hst83 hf79 hb76
          refine (show At _ _ _ [(0, v0), (5, .pointer (some ⟨p28, 0, none⟩))] _ from ?_)
          refine At.inBlockHit ?_
          obtain ⟨O227, hst228, ho229⟩ := OwnSl.rlb 1004 rfl hf79
          have hf230 := hb76.st hst228 rfl
          exact At.join (σ := (List UInt8 × Int × Own × Value)) (c77, c80, O227, v78) ⟨go2 h, (Stp.trans (Stp.up hst83 rfl) (Stp.up hst228 rfl)), ho229, hf230⟩ (.cons rfl (.cons rfl .nil))
      · rintro ⟨c54, c57, O58, v55⟩ wd59 ⟨rfl, hst60, hf56, hb53⟩
        replace h := flowK_go hk62
        try dsimp only at h hst60 hf56 hb53
        refine (show At _ _ _ [(0, v0), (5, .pointer (some ⟨p28, 0, none⟩))] _ from ?_)
        refine At.then ?_
        refine WC.seq ?_
        refine WC.region ?_
        refine WL.y (Y.move rfl) rfl ?_
        have hf231 := hf23.mono (imm_st hst38 rfl rfl)
        have hf232 := hf231.mono (imm_st hst51 rfl rfl)
        have hf233 := hf232.mono (imm_st hst60 rfl rfl)
        obtain ⟨r234, hp235, h⟩ := bnd h
        refine WL.call (vals := [v0]) kok45 rfl rfl (c_ref06_Row (A := fun _ => True) (Sl.all hf233) hp235) ?_
        rintro vr240 wd239 ⟨_, rfl, hm238, f237⟩
        obtain ⟨O241, hold242, hnew243, hst244⟩ := adoptE O58 (fun k => if Value.ownBlock vr240 = some k then 17 else 1) hm238
        have hf245 : OwnSl 17 Rep.i 3 O241 wd239 vr240 r234 := RowF.adopt 17 Flat.i f237 hnew243 (fun k hk => if_pos hk)
        refine WL.y (Y.assign rfl) rfl ?_
        refine WL.nil ?_
        refine At.then ?_
        refine WC.seq ?_
        refine WC.seq ?_
        refine WC.drawH [] O241 14 fmix rfl ?_
        intro wd246 hst247
        refine WD.y 0 rfl (by kernel_rfl) (fun _ _ _ => Y.move rfl) rfl ?_
        refine WD.y 2 rfl (by kernel_rfl) (fun _ _ _ => Y.move rfl) rfl ?_
        refine WD.y 3 rfl (by kernel_rfl) (fun wd255 O254 hst256 => have hf257 := hf245.st hst247 rfl rfl rfl; have hf258 := hf257.st hst256 rfl rfl rfl; Y.len ty23 rfl hf258.src.sl) rfl ?_
        refine WD.heavy 1 rfl (by kernel_rfl) ?_
        have hf259 := hb53.st hst244 rfl
        have hf260 := hf259.st hst247 rfl
        have hf261 := hf56.st hst244 rfl rfl rfl
        have hf262 := hf261.st hst247 rfl rfl rfl
        obtain ⟨r263, hp264, h⟩ := bnd h
        refine WL.call (vals := [.pointer (some ⟨p28, 0, none⟩)]) kok16 rfl rfl (c_bitio_Writer_Len (A := fun _ => True) (a0 := (bitio_Writer.mk c54 c57)) (hf262.src.sl) hf260.blk trivial hp264) ?_
        rintro vr267 wd266 ⟨rfl, hm265⟩
        obtain ⟨O268, hold269, hnew270, hst271⟩ := adoptE O241 (fun k => 1) hm265
        refine WL.nil ?_
        refine At.dq (Stp.up hst271 rfl) ?_
        refine WD.y 4 rfl (by kernel_rfl) (fun _ _ _ => Y.neq_i rfl rfl) rfl ?_
        refine WD.y 5 rfl (by kernel_rfl) (fun _ _ _ => Y.move rfl) rfl ?_
        obtain ⟨p282, h, hk283⟩ := bnd h
        refine WD.join (σ := (Bool × Own)) (f' := 0) [13, 12, 11, 10, 8, 7, 9, 6, 5, 4, 1, 3, 2, 0] (fun x O' w' => x.1 = p282 ∧ Stp [] O268 wd266 x.2 w' ∧ x.2 = O') (fun x => [(0, v0), (5, .pointer (some ⟨p28, 0, none⟩)), (68, .bool x.1)]) (fun hJ284 => ?_) ?_
        · rcases cnd h with ⟨hE285, h⟩ | ⟨hE285, h⟩
          · refine WD.ren 60 rfl (congrArg Value.bool hE285) ?_
            refine WD.gS 6 rfl (by kernel_rfl) rfl rfl rfl rfl ?_
            refine WD.gS 9 rfl (by kernel_rfl) rfl rfl rfl rfl ?_
            refine WD.heavy 7 rfl (by kernel_rfl) ?_
            refine WL.gS rfl rfl rfl rfl ?_
            refine WL.nil ?_
            refine At.dq (Stp.refl _ _ _) ?_
            refine WD.gS 8 rfl (by kernel_rfl) rfl rfl rfl rfl ?_
            refine WD.heavy 10 rfl (by kernel_rfl) ?_
            refine WL.gS rfl rfl rfl rfl ?_
            refine WL.nil ?_
            refine At.dq (Stp.refl _ _ _) ?_
            refine WD.gS 11 rfl (by kernel_rfl) rfl rfl rfl rfl ?_
            refine WD.gS 12 rfl (by kernel_rfl) rfl rfl rfl rfl ?_
            refine WD.y 13 rfl (by kernel_rfl) (fun _ _ _ => Y.pick (b := true) rfl rfl) rfl ?_
            refine WD.ren 60 rfl (congrArg Value.bool hE285.symm) ?_
            exact hJ284 (true, O268) _ _ _ ⟨some1 h, (Stp.refl _ _ _), rfl⟩ (.cons rfl (.cons rfl (.cons rfl .nil)))
          · refine WD.ren 60 rfl (congrArg Value.bool hE285) ?_
            refine WD.gT 6 rfl (by kernel_rfl) rfl rfl (fun _ _ _ => Y.move rfl) rfl ?_
            refine WD.gT 9 rfl (by kernel_rfl) rfl rfl (fun _ _ _ => Y.move rfl) rfl ?_
            refine WD.heavy 7 rfl (by kernel_rfl) ?_
            refine WL.ung rfl rfl ?_
            have hf295 := hf260.st hst271 rfl
            have hf296 := hf262.st hst271 rfl rfl rfl
            obtain ⟨r297, hp298, h⟩ := bnd h
            refine WL.call (vals := [.pointer (some ⟨p28, 0, none⟩)]) kok14 rfl rfl (c_bitio_Writer_Bytes (A := fun _ => True) (a0 := (bitio_Writer.mk c54 c57)) (hf296.src.sl) hf295.blk trivial hp298) ?_
            rintro vr303 wd302 ⟨_, rfl, hm301, f300⟩
            obtain ⟨O304, hold305, hnew306, hst307⟩ := adoptE O268 (fun k => if Value.ownBlock vr303 = some k then 18 else 1) hm301
            have hf308 : OwnSl 18 Rep.b 5 O304 wd302 vr303 r297 := RowF.adopt 18 Flat.b f300 hnew306 (fun k hk => if_pos hk)
            refine WL.nil ?_
            refine At.dq (Stp.up hst307 rfl) ?_
            refine WD.gT 8 rfl (by kernel_rfl) rfl rfl (fun wd310 O309 hst311 => have hf312 := hf308.st hst311 rfl rfl rfl; Y.b2s ty30 ty5 ty9 rfl hf312.src.sl) rfl ?_
            refine WD.heavy 10 rfl (by kernel_rfl) ?_
            refine WL.ung rfl rfl ?_
            have hf313 := hf245.st hst247 rfl rfl rfl
            have hf314 := hf313.st hst271 rfl rfl rfl
            have hf315 := hf314.st hst307 rfl rfl rfl
            obtain ⟨r316, hp317, h⟩ := bnd h
            refine WL.call (vals := [vr240]) kok29 rfl rfl (c_ref01_Bytes (A := fun _ => True) (hf315.src.sl) hp317) ?_
            rintro vr322 wd321 ⟨_, rfl, hm320, f319⟩
            obtain ⟨O323, hold324, hnew325, hst326⟩ := adoptE O304 (fun k => if Value.ownBlock vr322 = some k then 19 else 1) hm320
            have hf327 : OwnSl 19 Rep.b 5 O323 wd321 vr322 r316 := RowF.adopt 19 Flat.b f319 hnew325 (fun k hk => if_pos hk)
            refine WL.nil ?_
            refine At.dq (Stp.up hst326 rfl) ?_
            refine WD.gT 11 rfl (by kernel_rfl) rfl rfl (fun wd329 O328 hst330 => have hf331 := hf327.st hst330 rfl rfl rfl; Y.b2s ty30 ty5 ty9 rfl hf331.src.sl) rfl ?_
            refine WD.gT 12 rfl (by kernel_rfl) rfl rfl (fun _ _ _ => Y.neq_s rfl rfl) rfl ?_
            refine WD.y 13 rfl (by kernel_rfl) (fun _ _ _ => Y.pick (b := false) rfl rfl) rfl ?_
            refine WD.ren 60 rfl (congrArg Value.bool hE285.symm) ?_
            exact hJ284 ((!decide (r297 = r316)), O323) _ _ _ ⟨some1 h, (Stp.trans (Stp.up hst307 rfl) (Stp.up hst326 rfl)), rfl⟩ (.cons rfl (.cons rfl (.cons rfl .nil)))
        · rintro ⟨x278, O279⟩ _ wd280 ⟨rfl, hst281, rfl⟩
          replace h := hk283
          try dsimp only at h hst281
          refine (show WD _ _ _ _ _ _ _ [(0, v0), (5, .pointer (some ⟨p28, 0, none⟩)), (68, .bool x278)] _ _ from ?_)
          refine WD.done_ (by kernel_rfl) ?_
          refine At.then ?_
          rcases cnd h with ⟨hc338, h⟩ | ⟨hc338, h⟩
          · refine WC.condT' rfl hc338 ?_
            refine WC.seq ?_
            refine WC.region ?_
            refine WL.y (Y.assign rfl) rfl ?_
            refine WL.nil ?_
            refine At.then ?_
            refine WC.ret ?_
            refine At.thenR ?_
            obtain rfl := some1 h
            have hs339 : Stp [11, 12, 13, 14, 15, 16, 1001, 1002] (Lg.O0 A) w O279 wd280 := (Stp.trans (Stp.up hst20 rfl) (Stp.trans (Stp.up hst38 rfl) (Stp.trans (Stp.up hst51 rfl) (Stp.trans (Stp.up hst60 rfl) (Stp.trans (Stp.up hst244 rfl) (Stp.trans (Stp.up hst247 rfl) (Stp.trans (Stp.up hst271 rfl) (Stp.up hst281 rfl))))))))
            exact At.res (.inl rfl) rfl (.tmp rfl .nil) ⟨rfl, (Stp.ext hs339 rfl rfl)⟩
          · refine WC.condF' rfl hc338 ?_
            refine WC.skip ?_
            refine At.then ?_
            refine WC.seq ?_
            refine WC.region ?_
            refine WL.y (Y.move rfl) rfl ?_
            have hf340 := hf260.st hst271 rfl
            have hf341 := hf340.st hst281 rfl
            have hf342 := hf262.st hst271 rfl rfl rfl
            have hf343 := hf342.st hst281 rfl rfl rfl
            obtain ⟨r344, hp345, h⟩ := bnd h
            refine WL.call (vals := [.pointer (some ⟨p28, 0, none⟩)]) kok14 rfl rfl (c_bitio_Writer_Bytes (A := fun _ => True) (a0 := (bitio_Writer.mk c54 c57)) (hf343.src.sl) hf341.blk trivial hp345) ?_
            rintro vr350 wd349 ⟨_, rfl, hm348, f347⟩
            obtain ⟨O351, hold352, hnew353, hst354⟩ := adoptE O279 (fun k => if Value.ownBlock vr350 = some k then 20 else 1) hm348
            have hf355 : OwnSl 20 Rep.b 5 O351 wd349 vr350 r344 := RowF.adopt 20 Flat.b f347 hnew353 (fun k hk => if_pos hk)
            refine WL.y (Y.move rfl) rfl ?_
            have hf356 := hf341.st hst354 rfl
            have hf357 := hf343.st hst354 rfl rfl rfl
            obtain ⟨r358, hp359, h⟩ := bnd h
            refine WL.call (vals := [.pointer (some ⟨p28, 0, none⟩)]) kok16 rfl rfl (c_bitio_Writer_Len (A := fun _ => True) (a0 := (bitio_Writer.mk c54 c57)) (hf357.src.sl) hf356.blk trivial hp359) ?_
            rintro vr362 wd361 ⟨rfl, hm360⟩
            obtain ⟨O363, hold364, hnew365, hst366⟩ := adoptE O351 (fun k => 1) hm360
            have hf367 := hf355.st hst366 rfl rfl rfl
            obtain ⟨⟨r368, r369⟩, hp370, h⟩ := bnd h
            refine WL.call (vals := [vr350, vi r358]) kok15 rfl rfl (c_bitio_NewReader (A := fun _ => True) (hf367.src.sl) hp370) ?_
            rintro vr375 wd374 ⟨u371, rfl, hm373, f372⟩
            obtain ⟨O376, hold377, hnew378, hst379⟩ := adoptE O363 (labP u371 21) hm373
            refine WL.y (Y.move rfl) rfl ?_
            refine WL.y (Y.extract rfl rfl) rfl ?_
            refine WL.y (Y.extract rfl rfl) rfl ?_
            refine WL.y (Y.assign rfl) rfl ?_
            refine WL.y (Y.assign rfl) rfl ?_
            refine WL.nil ?_
            refine At.then ?_
            refine WC.seq ?_
            refine WC.seq ?_
            refine WC.region ?_
            refine WL.y (Y.move rfl) rfl ?_
            refine WL.y (Y.eql_opt ty32.u rfl rfl f372 (fun d hd => by obtain ⟨_, _, e, _⟩ := hd; exact ⟨_, e⟩)) rfl ?_
            refine WL.nil ?_
            refine At.then ?_
            rcases cnd h with ⟨hc380, h⟩ | ⟨hc380, h⟩
            · refine WC.condT' rfl hc380 ?_
              refine WC.seq ?_
              refine WC.region ?_
              refine WL.y (Y.assign rfl) rfl ?_
              refine WL.nil ?_
              refine At.then ?_
              refine WC.ret ?_
              refine At.thenR ?_
              obtain rfl := some1 h
              have hs381 : Stp [11, 12, 13, 14, 15, 16, 1001, 1002] (Lg.O0 A) w O376 wd374 := (Stp.trans (Stp.up hst20 rfl) (Stp.trans (Stp.up hst38 rfl) (Stp.trans (Stp.up hst51 rfl) (Stp.trans (Stp.up hst60 rfl) (Stp.trans (Stp.up hst244 rfl) (Stp.trans (Stp.up hst247 rfl) (Stp.trans (Stp.up hst271 rfl) (Stp.trans (Stp.up hst281 rfl) (Stp.trans (Stp.up hst354 rfl) (Stp.trans (Stp.up hst366 rfl) (Stp.up hst379 rfl)))))))))))
              exact At.res (.inl rfl) rfl (.tmp rfl .nil) ⟨rfl, (Stp.ext hs381 rfl rfl)⟩
            · refine WC.condF' rfl hc380 ?_
              refine WC.skip ?_
              refine At.then ?_
              refine WC.seq ?_
              refine WC.region ?_
              obtain ⟨r382, hp383, h⟩ := bnd h
              refine WL.call (vals := []) kok39 rfl rfl (c_vary_NewRow hp383) ?_
              rintro vr388 wd387 ⟨p384, rfl, hm386, f385⟩
              obtain ⟨O389, hold390, hnew391, hst392⟩ := adoptE O376 (fun k => if k = p384 then 22 else 1) hm386
              have hb393 : Blk 22 O389 wd387 p384 83 [vi r382.n, vu r382.last, vu r382.step] := Blk.new f385 hnew391 (if_pos rfl)
              refine WL.y (Y.assign rfl) rfl ?_
              refine WL.nil ?_
              refine At.then ?_
              refine WC.seq ?_
              refine WC.seq ?_
              refine WC.region ?_
              refine WL.y (Y.assign rfl) rfl ?_
              refine WL.nil ?_
              refine At.then ?_
              obtain ⟨p404, h, hk405⟩ := flow1 h
              refine WC.join (σ := (List UInt8 × Int × Int × Own × Nat × Value)) (fun x w' => p404 = .go (x.1, x.2.1, x.2.2.1) ∧ Stp [21, 22] O389 wd387 x.2.2.2.1 w' ∧ Sl Rep.b w' (imm x.2.2.2.1) x.2.2.2.2.2 x.1 ∧ Blk 1006 x.2.2.2.1 w' x.2.2.2.2.1 77 [x.2.2.2.2.2, vi x.2.1, vi x.2.2.1]) (fun x => [(10, .pointer (some ⟨x.2.2.2.2.1, 0, none⟩))]) ?_ ?_
              · refine WC.block ?_
                obtain ⟨d406, hd406, h⟩ := bnd h
                obtain ⟨p407, v408, rfl, fb410, f409⟩ := OptP.some f372 hd406
                have hf411 : Sl Rep.b wd374 (frs O376) v408 d406.b := Sl.adoptF f409 (fun k hk => ⟨hk.1, labP_ne hk.2⟩) hnew378
                have hb412 : Blk 21 O376 wd374 p407 77 [v408, vi d406.n, vi d406.at_] := Blk.new fb410 hnew378 (labP_at p407 21)
                obtain ⟨p436, h, hk438⟩ := flow1 h
                obtain ⟨k437, h⟩ := loop_some h
                refine WC.joinB 2 (σ := (List UInt8 × Int × Int × Own × Value)) (fun x w' => p436 = .go (x.1, x.2.1, x.2.2.1) ∧ Stp [21, 22] O389 wd387 x.2.2.2.1 w' ∧ Sl Rep.b w' (imm x.2.2.2.1) x.2.2.2.2 x.1 ∧ Blk 21 x.2.2.2.1 w' p407 77 [x.2.2.2.2, vi x.2.1, vi x.2.2.1]) (fun x => [(10, .pointer (some ⟨p407, 0, none⟩))]) ?_ ?_
                · have hf439 := hf411.mono (frs_st hst392 rfl)
                  have hf440 := hb412.st hst392 rfl
                  refine WC.loop (σ := (Int × UInt64 × UInt64 × List UInt8 × Int × Int × Int × Own × Value)) (fun x k w' => loopN k (law06_VaryRows_lp2 a0) (x.1, x.2.1, x.2.2.1, x.2.2.2.1, x.2.2.2.2.1, x.2.2.2.2.2.1, x.2.2.2.2.2.2.1) = some p436 ∧ Stp [21, 22] O389 wd387 x.2.2.2.2.2.2.2.1 w' ∧ Blk 22 x.2.2.2.2.2.2.2.1 w' p384 83 [vi x.1, vu x.2.1, vu x.2.2.1] ∧ Sl Rep.b w' (imm x.2.2.2.2.2.2.2.1) x.2.2.2.2.2.2.2.2 x.2.2.2.1 ∧ Blk 21 x.2.2.2.2.2.2.2.1 w' p407 77 [x.2.2.2.2.2.2.2.2, vi x.2.2.2.2.1, vi x.2.2.2.2.2.1]) (fun x => [(0, v0), (6, .pointer (some ⟨p384, 0, none⟩)), (10, .pointer (some ⟨p407, 0, none⟩)), (12, vi x.2.2.2.2.2.2.1)]) (r382.n, r382.last, r382.step, d406.b, d406.n, d406.at_, 0, O389, v408) k437 (.cons rfl (.cons rfl (.cons rfl (.cons rfl .nil)))) ⟨h, (Stp.refl _ _ _), hb393, (Sl.mono hf439 frs_imm), hf440⟩ ?_
                  rintro ⟨c414, c415, c416, c418, c421, c422, i423, O424, v419⟩ k437 wd425 ⟨h, hst426, hb413, hf420, hb417⟩
                  obtain ⟨j441, q442, rfl, h, hn443⟩ := rnd1 h
                  unfold law06_VaryRows_lp2 at h
                  try dsimp only at h hst426 hb413 hf420 hb417
                  refine (show WC _ _ _ _ [(0, v0), (6, .pointer (some ⟨p384, 0, none⟩)), (10, .pointer (some ⟨p407, 0, none⟩)), (12, vi i423)] _ from ?_)
                  refine WC.seq ?_
                  refine WC.seq ?_
                  refine WC.region ?_
                  refine WL.y (Y.move rfl) rfl ?_
                  refine WL.y (Y.move rfl) rfl ?_
                  have hf444 := hf233.mono (imm_st hst244 rfl rfl)
                  have hf445 := hf444.mono (imm_st hst247 rfl rfl)
                  have hf446 := hf445.mono (imm_st hst271 rfl rfl)
                  have hf447 := hf446.mono (imm_st hst281 rfl rfl)
                  have hf448 := hf447.mono (imm_st hst354 rfl rfl)
                  have hf449 := hf448.mono (imm_st hst366 rfl rfl)
                  have hf450 := hf449.mono (imm_st hst379 rfl rfl)
                  have hf451 := hf450.mono (imm_st hst392 rfl rfl)
                  have hf452 := hf451.mono (imm_st hst426 rfl rfl)
                  refine WL.y (Y.len ty23 rfl hf452) rfl ?_
                  refine WL.y (Y.lss_i rfl rfl) rfl ?_
                  refine WL.nil ?_
                  refine At.then ?_
                  rcases cnd h with ⟨hc453, h⟩ | ⟨hc453, h⟩
                  · refine WC.condT' rfl hc453 ?_
                    refine WC.skip ?_
                    refine At.then ?_
                    refine WC.seq ?_
                    refine WC.block ?_
                    refine WC.seq ?_
                    refine WC.region ?_
                    refine WL.y (Y.move rfl) rfl ?_
                    refine WL.y (Y.move rfl) rfl ?_
                    obtain ⟨⟨r454, r455, r456, r457⟩, hp458, h⟩ := bnd h
                    refine WL.call (vals := [.pointer (some ⟨p384, 0, none⟩), .pointer (some ⟨p407, 0, none⟩)]) kok41 rfl rfl (c_vary_Row_Get (A := imm O424) (a0 := (vary_Row.mk c414 c415 c416)) (a1 := (bitio_Reader.mk c418 c421 c422)) hb413.blk hf420 hb417.blk (ne_blk hb413.lab hb417.lab rfl) (fun k hk => ⟨imm_ne hb413.lab rfl k hk, imm_ne hb417.lab rfl k hk⟩) hp458) ?_
                    rintro vr465 wd464 ⟨z459, rfl, hm463, f460, f461, f462⟩
                    obtain ⟨O466, hold467, hnew468, hst469⟩ := adopt O424 (fun k => 1) [22, 21] hm463 (memOr (memB hb413.lab rfl) (memB hb417.lab rfl))
                    have hb470 : Blk 22 O466 wd464 p384 83 [vi r456.n, vu r456.last, vu r456.step] := Blk.adopt hb413 hold467 f460
                    have hf471 : Sl Rep.b wd464 (imm O466) z459 r457.b := Sl.adoptI (O := O424) f461 (fun _ hk => hk) (fun _ _ => Nat.le_refl _) hold467 hnew468
                    have hb472 : Blk 21 O466 wd464 p407 77 [z459, vi r457.n, vi r457.at_] := Blk.adopt hb417 hold467 f462
                    refine WL.y (Y.move rfl) rfl ?_
                    refine WL.y (Y.extract rfl rfl) rfl ?_
                    refine WL.y (Y.extract rfl rfl) rfl ?_
                    refine WL.y (Y.assign rfl) rfl ?_
                    refine WL.y (Y.assign rfl) rfl ?_
                    refine WL.nil ?_
                    refine At.then ?_
                    refine WC.seq ?_
                    refine WC.region ?_
                    refine WL.y (Y.move rfl) rfl ?_
                    refine WL.y (Y.move rfl) rfl ?_
                    refine WL.y (Y.move rfl) rfl ?_
                    obtain ⟨e473, he473, h⟩ := bnd h
                    have hf482 := hf452.mono (imm_st hst469 rfl rfl)
                    obtain ⟨b474, off483, cap481, cs480, hv475, hi476, hl477, hc478, hok479, hA484⟩ := Sl.at2 hf482 he473
                    obtain rfl := hok479
                    replace hc478 : CellsAt _ _ _ [vi e473] := hc478
                    have hca485 := CAt.imm hc478 hA484
                    refine WL.y (Y.indexAddr ty23 ty3 rfl hv475 rfl hi476 hl477) rfl ?_
                    refine WL.y (Y.loadSc ty3 rfl rfl hca485.at_) rfl ?_
                    refine WL.y (Y.neq_i rfl rfl) rfl ?_
                    refine WL.y (Y.move rfl) rfl ?_
                    refine WL.cut 3 (σ := Unit) (fun _ w' => wd464 = w') (fun _ => [(0, v0), (6, .pointer (some ⟨p384, 0, none⟩)), (10, .pointer (some ⟨p407, 0, none⟩)), (12, vi i423), (101, .bool ((!decide (r454 = e473)) || (!decide (r455 = 0))))]) ?_ ?_
                    · refine WL.part 98 rfl (fun hE486 => ?_) (fun hE486 => ?_)
                      · refine WL.gS rfl rfl rfl rfl ?_
                        refine WL.gS rfl rfl rfl rfl ?_
                        refine WL.y (Y.pick (b := true) rfl rfl) rfl ?_
                        refine WL.ren (v' := .bool ((!decide (r454 = e473)) || (!decide (r455 = 0)))) 101 rfl (congrArg Value.bool (orT hE486)) ?_
                        exact WL.nil (At.join () rfl (.cons rfl (.cons rfl (.cons rfl (.cons rfl (.cons rfl .nil))))))
                      · refine WL.ung rfl rfl ?_
                        refine WL.y (Y.move rfl) rfl ?_
                        refine WL.ung rfl rfl ?_
                        refine WL.y (Y.neq_i rfl rfl) rfl ?_
                        refine WL.y (Y.pick (b := false) rfl rfl) rfl ?_
                        refine WL.ren (v' := .bool ((!decide (r454 = e473)) || (!decide (r455 = 0)))) 101 rfl (congrArg Value.bool (orF hE486)) ?_
                        exact WL.nil (At.join () rfl (.cons rfl (.cons rfl (.cons rfl (.cons rfl (.cons rfl .nil))))))
                    · rintro _ _ rfl
                      refine (show WL _ _ _ _ _ [(0, v0), (6, .pointer (some ⟨p384, 0, none⟩)), (10, .pointer (some ⟨p407, 0, none⟩)), (12, vi i423), (101, .bool ((!decide (r454 = e473)) || (!decide (r455 = 0))))] _ from ?_)
                      refine WL.nil ?_
                      refine At.then ?_
                      rcases cnd h with ⟨hc487, h⟩ | ⟨hc487, h⟩
                      · refine WC.condT' rfl hc487 ?_
                        refine WC.seq ?_
                        refine WC.region ?_
                        refine WL.y (Y.assign rfl) rfl ?_
                        refine WL.nil ?_
                        refine At.then ?_
                        refine WC.ret ?_
                        refine At.inBlockR ?_
                        refine At.thenR ?_
                        refine At.loopR ?_
                        have h := outr1 h hn443 hk438
                        refine At.joinBR ?_
                        refine At.inBlockR ?_
                        have h := outs1 h hk405
                        refine At.joinR ?_
                        refine At.thenR ?_
                        obtain rfl := some1 h
                        have hs488 : Stp [11, 12, 13, 14, 15, 16, 21, 22, 1001, 1002] (Lg.O0 A) w O466 wd464 := (Stp.trans (Stp.up hst20 rfl) (Stp.trans (Stp.up hst38 rfl) (Stp.trans (Stp.up hst51 rfl) (Stp.trans (Stp.up hst60 rfl) (Stp.trans (Stp.up hst244 rfl) (Stp.trans (Stp.up hst247 rfl) (Stp.trans (Stp.up hst271 rfl) (Stp.trans (Stp.up hst281 rfl) (Stp.trans (Stp.up hst354 rfl) (Stp.trans (Stp.up hst366 rfl) (Stp.trans (Stp.up hst379 rfl) (Stp.trans (Stp.up hst392 rfl) (Stp.trans (Stp.up hst426 rfl) (Stp.up hst469 rfl))))))))))))))
                        exact At.res (.inl rfl) rfl (.tmp rfl .nil) ⟨rfl, (Stp.ext hs488 rfl rfl)⟩
                      · refine WC.condF' rfl hc487 ?_
                        refine WC.skip ?_
                        refine At.inBlock ?_
                        refine At.then ?_
                        refine WC.region ?_
                        refine WL.y (Y.move rfl) rfl ?_
                        refine WL.y (Y.add_i rfl rfl) rfl ?_
                        obtain ⟨i489, hi489, h⟩ := lt1 h
                        refine WL.yE (Y.assign rfl) (congrArg vi hi489.symm) rfl ?_
                        refine WL.nil ?_
                        exact At.round (r456.n, r456.last, r456.step, r457.b, r457.n, r457.at_, i489, O466, z459) j441 (Nat.lt_succ_self _) ⟨next1 h hn443, (Stp.trans (Stp.up hst426 rfl) (Stp.up hst469 rfl)), hb470, hf471, hb472⟩ (.cons rfl (.cons rfl (.cons rfl (.cons rfl .nil))))
                  · refine WC.condF' rfl hc453 ?_
                    refine WC.exit ?_
                    refine At.thenX ?_
                    refine At.loopX ?_
                    exact At.hitB (σ := (List UInt8 × Int × Int × Own × Value)) (c418, c421, c422, O424, v419) ⟨brk1 h hn443, (Stp.up hst426 rfl), hf420, hb417⟩ (.cons rfl .nil)
                · rintro ⟨c428, c431, c432, O433, v429⟩ wd434 ⟨rfl, hst435, hf430, hb427⟩
                  replace h := flowK_go hk438
                  try dsimp only at h hst435 hf430 hb427
                  refine (show At _ _ _ [(10, .pointer (some ⟨p407, 0, none⟩))] _ from ?_)
                  refine At.inBlockHit ?_
                  obtain ⟨O490, hst491, hb492⟩ := Blk.rlb 1006 rfl hb427
                  have hf493 := hf430.mono (imm_st hst491 rfl rfl)
                  exact At.join (σ := (List UInt8 × Int × Int × Own × Nat × Value)) (c428, c431, c432, O490, p407, v429) ⟨go2 h, (Stp.trans (Stp.up hst435 rfl) (Stp.up hst491 rfl)), hf493, hb492⟩ (.cons rfl .nil)
              · rintro ⟨c396, c399, c400, O401, b394, v397⟩ wd402 ⟨rfl, hst403, hf398, hb395⟩
                replace h := flowK_go hk405
                try dsimp only at h hst403 hf398 hb395
                refine (show At _ _ _ [(10, .pointer (some ⟨b394, 0, none⟩))] _ from ?_)
                refine At.then ?_
                refine WC.seq ?_
                refine WC.region ?_
                refine WL.y (Y.move rfl) rfl ?_
                obtain ⟨r494, hp495, h⟩ := bnd h
                refine WL.call (vals := [.pointer (some ⟨b394, 0, none⟩)]) kok18 rfl rfl (c_bitio_Reader_Left (A := fun _ => True) (a0 := (bitio_Reader.mk c396 c399 c400)) (Sl.all hf398) hb395.blk trivial hp495) ?_
                rintro vr498 wd497 ⟨rfl, hm496⟩
                obtain ⟨O499, hold500, hnew501, hst502⟩ := adoptE O401 (fun k => 1) hm496
                refine WL.y (Y.eql_i rfl rfl) rfl ?_
                obtain ⟨t503, ht503, h⟩ := lt1 h
                refine WL.yE (Y.assign rfl) (congrArg Value.bool ht503.symm) rfl ?_
                refine WL.nil ?_
                refine At.then ?_
                refine WC.ret ?_
                obtain rfl := some1 h
                have hs504 : Stp [11, 12, 13, 14, 15, 16, 21, 22, 1001, 1002] (Lg.O0 A) w O499 wd497 := (Stp.trans (Stp.up hst20 rfl) (Stp.trans (Stp.up hst38 rfl) (Stp.trans (Stp.up hst51 rfl) (Stp.trans (Stp.up hst60 rfl) (Stp.trans (Stp.up hst244 rfl) (Stp.trans (Stp.up hst247 rfl) (Stp.trans (Stp.up hst271 rfl) (Stp.trans (Stp.up hst281 rfl) (Stp.trans (Stp.up hst354 rfl) (Stp.trans (Stp.up hst366 rfl) (Stp.trans (Stp.up hst379 rfl) (Stp.trans (Stp.up hst392 rfl) (Stp.trans (Stp.up hst403 rfl) (Stp.up hst502 rfl))))))))))))))
                exact At.res (.inl rfl) rfl (.tmp rfl .nil) ⟨rfl, (Stp.ext hs504 rfl rfl)⟩

end Go.Lg
