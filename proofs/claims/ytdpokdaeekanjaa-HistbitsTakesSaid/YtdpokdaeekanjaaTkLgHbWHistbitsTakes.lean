/- The walks of HistbitsTakes and of what it calls, printed by gen.py. -/
import Derived.Test.YtdpokdaeekanjaaTkLgHbWHistbitsTakesx2
set_option linter.unusedVariables false
namespace Go.Lg
open Go Go.Proofs
set_option maxRecDepth 100000
set_option maxHeartbeats 4000000
theorem c_ref01_Bytes {A : Nat → Prop} {a0 : List Int} {v0 : Value} {w : World} (hs0 : Sl Rep.i w A v0 a0) {r0 : List UInt8} (h : ref01_Bytes a0 = some r0) : Rets Try.prog 53 [v0] w (fun v w' => ∃ (u0 : Value), v = u0 ∧ Ext w w' ∧ RowF Rep.b 5 w w' u0 r0) := by
 unfold ref01_Bytes at h
 refine Rets.enter Try.func53 rfl rfl ?_
 have hf11 : Sl Rep.i w (imm (Lg.O0 A)) v0 a0 := (Sl.start hs0)
 refine (show WC _ _ _ _ [(0, v0)] _ from ?_)
 refine WC.seq ?_
 refine WC.region ?_
 refine WL.y (Y.assign rfl) rfl ?_
 refine WL.nil ?_
 refine At.then ?_
 refine WC.seq ?_
 refine WC.region ?_
 refine WL.y (Y.assign rfl) rfl ?_
 refine WL.nil ?_
 refine At.then ?_
 refine WC.seq ?_
 refine WC.seq ?_
 refine WC.region ?_
 refine WL.y (Y.assign rfl) rfl ?_
 refine WL.nil ?_
 refine At.then ?_
 refine WC.block ?_
 obtain ⟨p25, h, hk27⟩ := flow1 h
 obtain ⟨k26, h⟩ := loop_some h
 refine WC.joinB 0 (σ := (List UInt8 × Own × Value)) (fun x w' => p25 = .go x.1 ∧ Stp [12, 1001] (Lg.O0 A) w x.2.1 w' ∧ OwnSl 1002 Rep.b 5 x.2.1 w' x.2.2 x.1) (fun x => [(3, x.2.2)]) ?_ ?_
 ·refine WC.loop (σ := (List UInt8 × Int × Own × Value)) (fun x k w' => loopN k (ref01_Bytes_lp1 a0) (x.1, x.2.1) = some p25 ∧ Stp [12, 1001] (Lg.O0 A) w x.2.2.1 w' ∧ OwnSl 1001 Rep.b 5 x.2.2.1 w' x.2.2.2 x.1) (fun x => [(0, v0), (3, x.2.2.2), (4, vi x.2.1)]) ([], 0, (Lg.O0 A), Value.slice none 0 0) k26 (.cons rfl (.cons rfl (.cons rfl .nil))) ⟨h, (Stp.refl _ _ _), (OwnSl.nil 1001 Rep.b 5)⟩ ?_
  rintro ⟨out12, i15, O16, v13⟩ k26 wd17 ⟨h, hst18, hf14⟩
  obtain ⟨j28, q29, rfl, h, hn30⟩ := rnd1 h
  unfold ref01_Bytes_lp1 at h
  try dsimp only at h hst18 hf14
  refine (show WC _ _ _ _ [(0, v0), (3, v13), (4, vi i15)] _ from ?_)
  refine WC.seq ?_
  refine WC.seq ?_
  refine WC.region ?_
  refine WL.y (Y.move rfl) rfl ?_
  refine WL.y (Y.move rfl) rfl ?_
  have hf31 := hf11.mono (imm_st hst18 rfl rfl)
  refine WL.y (Y.len ty64 rfl hf31) rfl ?_
  refine WL.y (Y.lss_i rfl rfl) rfl ?_
  refine WL.nil ?_
  refine At.then ?_
  rcases cnd h with ⟨hc32, h⟩ | ⟨hc32, h⟩
  ·refine WC.condT' rfl hc32 ?_
   refine WC.skip ?_
   refine At.then ?_
   refine WC.seq ?_
   refine WC.block ?_
   refine WC.seq ?_
   refine WC.region ?_
   refine WL.y (Y.assign rfl) rfl ?_
   refine WL.nil ?_
   refine At.then ?_
   refine WC.seq ?_
   refine WC.seq ?_
   refine WC.region ?_
   refine WL.y (Y.assign rfl) rfl ?_
   refine WL.nil ?_
   refine At.then ?_
   obtain ⟨p34, h, hk35⟩ := bnd h
   refine WC.join (σ := Int) (fun x w' => x = p34 ∧ wd17 = w') (fun x => [(0, v0), (3, v13), (4, vi i15), (5, vi x)]) ?_ ?_
   ·refine WC.block ?_
    obtain ⟨p39, h, hk41⟩ := flow1 h
    obtain ⟨k40, h⟩ := loop_some h
    refine WC.joinB 2 (σ := Int) (fun x w' => p39 = .go x ∧ wd17 = w') (fun x => [(0, v0), (3, v13), (4, vi i15), (5, vi x)]) ?_ ?_
    ·refine WC.loop (σ := (Int × Int)) (fun x k w' => loopN k (ref01_Bytes_lp2 a0 i15) (x.1, x.2) = some p39 ∧ wd17 = w') (fun x => [(0, v0), (3, v13), (4, vi i15), (5, vi x.1), (6, vi x.2)]) (0, 0) k40 (.cons rfl (.cons rfl (.cons rfl (.cons rfl (.cons rfl .nil))))) ⟨h, rfl⟩ ?_
     rintro ⟨x36, k37⟩ k40 _ ⟨h, rfl⟩
     obtain ⟨j42, q43, rfl, h, hn44⟩ := rnd1 h
     unfold ref01_Bytes_lp2 at h
     try dsimp only at h
     refine (show WC _ _ _ _ [(0, v0), (3, v13), (4, vi i15), (5, vi x36), (6, vi k37)] _ from ?_)
     refine WC.seq ?_
     refine WC.seq ?_
     refine WC.region ?_
     refine WL.y (Y.move rfl) rfl ?_
     refine WL.y (Y.lss_i rfl rfl) rfl ?_
     refine WL.nil ?_
     refine At.then ?_
     rcases cnd h with ⟨hc45, h⟩ | ⟨hc45, h⟩
     ·refine WC.condT' rfl hc45 ?_
      refine WC.skip ?_
      refine At.then ?_
      refine WC.seq ?_
      obtain ⟨p47, h, hk48⟩ := bnd h
      refine WC.join (σ := Int) (fun x w' => x = p47 ∧ wd17 = w') (fun x => [(0, v0), (3, v13), (4, vi i15), (5, vi x), (6, vi k37)]) ?_ ?_
      ·refine WC.block ?_
       refine WC.seq ?_
       refine WC.region ?_
       refine WL.y (Y.move rfl) rfl ?_
       refine WL.y (Y.mul_i rfl rfl) rfl ?_
       obtain ⟨x49, hx49, h⟩ := lt1 h
       refine WL.yE (Y.assign rfl) (congrArg vi hx49.symm) rfl ?_
       refine WL.nil ?_
       refine At.then ?_
       refine WC.seq ?_
       refine WC.region ?_
       refine WL.y (Y.move rfl) rfl ?_
       refine WL.y (Y.move rfl) rfl ?_
       refine WL.y (Y.add_i rfl rfl) rfl ?_
       refine WL.y (Y.move rfl) rfl ?_
       refine WL.y (Y.len ty64 rfl hf31) rfl ?_
       refine WL.y (Y.lss_i rfl rfl) rfl ?_
       refine WL.nil ?_
       refine At.then ?_
       rcases cnd h with ⟨hc50, h⟩ | ⟨hc50, h⟩
       ·refine WC.condT' rfl hc50 ?_
        refine WC.region ?_
        refine WL.y (Y.move rfl) rfl ?_
        refine WL.y (Y.move rfl) rfl ?_
        refine WL.y (Y.move rfl) rfl ?_
        refine WL.y (Y.move rfl) rfl ?_
        refine WL.y (Y.add_i rfl rfl) rfl ?_
        obtain ⟨e51, he51, h⟩ := bnd h
        obtain ⟨b52, off60, cap59, cs58, hv53, hi54, hl55, hc56, hok57, hA61⟩ := Sl.at2 hf31 he51
        obtain rfl := hok57
        replace hc56 : CellsAt _ _ _ [vi e51] := hc56
        have hca62 := CAt.imm hc56 hA61
        refine WL.y (Y.indexAddr ty64 ty3 rfl hv53 rfl hi54 hl55) rfl ?_
        refine WL.y (Y.loadSc ty3 rfl rfl hca62.at_) rfl ?_
        refine WL.y (Y.add_i rfl rfl) rfl ?_
        obtain ⟨x63, hx63, h⟩ := lt1 h
        refine WL.yE (Y.assign rfl) (congrArg vi hx63.symm) rfl ?_
        refine WL.nil ?_
        refine At.inBlock ?_
        exact At.join (σ := Int) x63 ⟨some1 h, rfl⟩ (.cons rfl (.cons rfl (.cons rfl (.cons rfl (.cons rfl .nil)))))
       ·refine WC.condF' rfl hc50 ?_
        refine WC.skip ?_
        refine At.inBlock ?_
        exact At.join (σ := Int) x49 ⟨some1 h, rfl⟩ (.cons rfl (.cons rfl (.cons rfl (.cons rfl (.cons rfl .nil)))))
      ·rintro x46 _ ⟨rfl, rfl⟩
       replace h := hk48
       try dsimp only at h
       refine (show At _ _ _ [(0, v0), (3, v13), (4, vi i15), (5, vi x46), (6, vi k37)] _ from ?_)
       refine At.then ?_
       refine WC.region ?_
       refine WL.y (Y.move rfl) rfl ?_
       refine WL.y (Y.add_i rfl rfl) rfl ?_
       obtain ⟨k64, hk64, h⟩ := lt1 h
       refine WL.yE (Y.assign rfl) (congrArg vi hk64.symm) rfl ?_
       refine WL.nil ?_
       exact At.round (x46, k64) j42 (Nat.lt_succ_self _) ⟨next1 h hn44, rfl⟩ (.cons rfl (.cons rfl (.cons rfl (.cons rfl (.cons rfl .nil)))))
     ·refine WC.condF' rfl hc45 ?_
      refine WC.exit ?_
      refine At.thenX ?_
      refine At.loopX ?_
      exact At.hitB (σ := Int) x36 ⟨brk1 h hn44, rfl⟩ (.cons rfl (.cons rfl (.cons rfl (.cons rfl .nil))))
    ·rintro x38 _ ⟨rfl, rfl⟩
     replace h := flowK_go hk41
     try dsimp only at h
     refine (show At _ _ _ [(0, v0), (3, v13), (4, vi i15), (5, vi x38)] _ from ?_)
     refine At.inBlockHit ?_
     exact At.join (σ := Int) x38 ⟨some1 h, rfl⟩ (.cons rfl (.cons rfl (.cons rfl (.cons rfl .nil))))
   ·rintro x33 _ ⟨rfl, rfl⟩
    replace h := hk35
    try dsimp only at h
    refine (show At _ _ _ [(0, v0), (3, v13), (4, vi i15), (5, vi x33)] _ from ?_)
    refine At.then ?_
    refine WC.region ?_
    refine WL.y (Y.move rfl) rfl ?_
    refine WL.y (Y.move rfl) rfl ?_
    refine WL.y (Y.conv_ib ty3.u ty5.u rfl) rfl ?_
    refine WL.buildSlice (O := O16) (R := Rep.b) (vals := [(0, vb (toU8 x33))]) 11 [vb (toU8 x33)] (xs := [toU8 x33]) (by decide) ty60 ty5 (by decide) (by decide) (Fits.evalp rfl) (by kernel_rfl) rfl ⟨[vb (toU8 x33)], [], rfl, rfl, rfl⟩ rfl ?_
    intro v65 O67 wd68 hst69 ho66
    obtain ⟨xs70, hxs70, h⟩ := bnd h
    have hf71 := hf14.st hst69 rfl rfl rfl
    refine WL.append (by decide) ty60 ty5 rfl (by decide) rfl rfl hf71 ho66.src hxs70 rfl ?_
    intro v75 O72 wd73 hst74 ho76
    refine WL.y (Y.assign rfl) rfl ?_
    refine WL.nil ?_
    refine At.inBlock ?_
    refine At.then ?_
    refine WC.region ?_
    refine WL.y (Y.move rfl) rfl ?_
    refine WL.y (Y.add_i rfl rfl) rfl ?_
    obtain ⟨i77, hi77, h⟩ := lt1 h
    refine WL.yE (Y.assign rfl) (congrArg vi hi77.symm) rfl ?_
    refine WL.nil ?_
    exact At.round (xs70, i77, O72, v75) j28 (Nat.lt_succ_self _) ⟨next1 h hn30, (Stp.trans (Stp.up hst18 rfl) (Stp.trans (Stp.up hst69 rfl) (Stp.up hst74 rfl))), ho76⟩ (.cons rfl (.cons rfl (.cons rfl .nil)))
  ·refine WC.condF' rfl hc32 ?_
   refine WC.exit ?_
   refine At.thenX ?_
   refine At.loopX ?_
   obtain ⟨O78, hst79, ho80⟩ := OwnSl.rlb 1002 rfl hf14
   exact At.hitB (σ := (List UInt8 × Own × Value)) (out12, O78, v13) ⟨brk1 h hn30, (Stp.trans (Stp.up hst18 rfl) (Stp.up hst79 rfl)), ho80⟩ (.cons rfl .nil)
 ·rintro ⟨out19, O22, v20⟩ wd23 ⟨rfl, hst24, hf21⟩
  replace h := flowK_go hk27
  try dsimp only at h hst24 hf21
  refine (show At _ _ _ [(3, v20)] _ from ?_)
  refine At.inBlockHit ?_
  refine At.then ?_
  refine WC.seq ?_
  refine WC.region ?_
  refine WL.y (Y.move rfl) rfl ?_
  refine WL.y (Y.assign rfl) rfl ?_
  refine WL.nil ?_
  refine At.then ?_
  refine WC.ret ?_
  obtain rfl := some1 h
  have hs81 : Stp [12, 1001] (Lg.O0 A) w O22 wd23 := (Stp.up hst24 rfl)
  exact At.res (.inl rfl) rfl (.tmp rfl .nil) ⟨v20, rfl, (Stp.ext hs81 rfl rfl), (OwnSl.outF hf21 hs81 low0 rfl)⟩
theorem c_law10_HistbitsTakes {A : Nat → Prop} {a0 : List UInt8} {v0 : Value} {a1 : Int} {w : World} (hs0 : Sl Rep.b w A v0 a0) {r0 : Bool} (h : law10_HistbitsTakes a0 a1 = some r0) : Rets Try.prog 13 [v0, vi a1] w (fun v w' => v = Value.bool r0 ∧ Ext w w') := by
 unfold law10_HistbitsTakes at h
 refine Rets.enter Try.func13 rfl rfl ?_
 have hf11 : Sl Rep.b w (imm (Lg.O0 A)) v0 a0 := (Sl.start hs0)
 refine (show WC _ _ _ _ [(0, v0), (1, vi a1)] _ from ?_)
 refine WC.seq ?_
 refine WC.region ?_
 refine WL.y (Y.assign rfl) rfl ?_
 refine WL.nil ?_
 refine At.then ?_
 refine WC.seq ?_
 refine WC.seq ?_
 refine WC.region ?_
 obtain ⟨r12, hp13, h⟩ := bnd h
 refine WL.call (vals := []) kok30 rfl rfl (c_law10_awake hp13) ?_
 rintro vr16 wd15 ⟨rfl, hm14⟩
 obtain ⟨O17, hold18, hnew19, hst20⟩ := adoptE (Lg.O0 A) (fun k => 1) hm14
 refine WL.y (Y.not rfl) rfl ?_
 refine WL.nil ?_
 refine At.then ?_
 rcases cnd h with ⟨hc21, h⟩ | ⟨hc21, h⟩
 ·refine WC.condT' rfl hc21 ?_
  refine WC.seq ?_
  refine WC.region ?_
  refine WL.y (Y.assign rfl) rfl ?_
  refine WL.nil ?_
  refine At.then ?_
  refine WC.ret ?_
  refine At.thenR ?_
  obtain rfl := some1 h
  have hs22 : Stp [] (Lg.O0 A) w O17 wd15 := (Stp.up hst20 rfl)
  exact At.res (.inl rfl) rfl (.tmp rfl .nil) ⟨rfl, (Stp.ext hs22 rfl rfl)⟩
 ·refine WC.condF' rfl hc21 ?_
  refine WC.skip ?_
  refine At.then ?_
  refine WC.seq ?_
  refine WC.seq ?_
  refine WC.region ?_
  refine WL.y (Y.move rfl) rfl ?_
  have hf23 := hf11.mono (imm_st hst20 rfl rfl)
  refine WL.y (Y.len ty60 rfl hf23) rfl ?_
  refine WL.y (Y.gtr_i rfl rfl) rfl ?_
  refine WL.y (Y.move rfl) rfl ?_
  refine WL.cut 3 (σ := Unit) (fun _ w' => wd15 = w') (fun _ => [(0, v0), (1, vi a1), (25, Value.bool ((decide (120 < (a0.length : Int))) || (decide (a1 < 0))))]) ?_ ?_
  ·refine WL.part 22 rfl (fun hE24 => ?_) (fun hE24 => ?_)
   ·refine WL.gS rfl rfl rfl rfl ?_
    refine WL.gS rfl rfl rfl rfl ?_
    refine WL.y (Y.pick (b := true) rfl rfl) rfl ?_
    refine WL.ren (v' := Value.bool ((decide (120 < (a0.length : Int))) || (decide (a1 < 0)))) 25 rfl (congrArg Value.bool (orT hE24)) ?_
    exact WL.nil (At.join () rfl (.cons rfl (.cons rfl (.cons rfl .nil))))
   ·refine WL.ung rfl rfl ?_
    refine WL.y (Y.move rfl) rfl ?_
    refine WL.ung rfl rfl ?_
    refine WL.y (Y.lss_i rfl rfl) rfl ?_
    refine WL.y (Y.pick (b := false) rfl rfl) rfl ?_
    refine WL.ren (v' := Value.bool ((decide (120 < (a0.length : Int))) || (decide (a1 < 0)))) 25 rfl (congrArg Value.bool (orF hE24)) ?_
    exact WL.nil (At.join () rfl (.cons rfl (.cons rfl (.cons rfl .nil))))
  ·rintro _ _ rfl
   refine (show WL _ _ _ _ _ [(0, v0), (1, vi a1), (25, Value.bool ((decide (120 < (a0.length : Int))) || (decide (a1 < 0))))] _ from ?_)
   refine WL.y (Y.move rfl) rfl ?_
   refine WL.cut 3 (σ := Unit) (fun _ w' => wd15 = w') (fun _ => [(0, v0), (1, vi a1), (29, Value.bool (((decide (120 < (a0.length : Int))) || (decide (a1 < 0))) || (decide (30 < a1))))]) ?_ ?_
   ·refine WL.part 26 rfl (fun hE25 => ?_) (fun hE25 => ?_)
    ·refine WL.gS rfl rfl rfl rfl ?_
     refine WL.gS rfl rfl rfl rfl ?_
     refine WL.y (Y.pick (b := true) rfl rfl) rfl ?_
     refine WL.ren (v' := Value.bool (((decide (120 < (a0.length : Int))) || (decide (a1 < 0))) || (decide (30 < a1)))) 29 rfl (congrArg Value.bool (orT hE25)) ?_
     exact WL.nil (At.join () rfl (.cons rfl (.cons rfl (.cons rfl .nil))))
    ·refine WL.ung rfl rfl ?_
     refine WL.y (Y.move rfl) rfl ?_
     refine WL.ung rfl rfl ?_
     refine WL.y (Y.gtr_i rfl rfl) rfl ?_
     refine WL.y (Y.pick (b := false) rfl rfl) rfl ?_
     refine WL.ren (v' := Value.bool (((decide (120 < (a0.length : Int))) || (decide (a1 < 0))) || (decide (30 < a1)))) 29 rfl (congrArg Value.bool (orF hE25)) ?_
     exact WL.nil (At.join () rfl (.cons rfl (.cons rfl (.cons rfl .nil))))
   ·rintro _ _ rfl
    refine (show WL _ _ _ _ _ [(0, v0), (1, vi a1), (29, Value.bool (((decide (120 < (a0.length : Int))) || (decide (a1 < 0))) || (decide (30 < a1))))] _ from ?_)
    refine WL.nil ?_
    refine At.then ?_
    rcases cnd h with ⟨hc26, h⟩ | ⟨hc26, h⟩
    ·refine WC.condT' rfl hc26 ?_
     refine WC.seq ?_
     refine WC.region ?_
     refine WL.y (Y.assign rfl) rfl ?_
     refine WL.nil ?_
     refine At.then ?_
     refine WC.ret ?_
     refine At.thenR ?_
     obtain rfl := some1 h
     have hs27 : Stp [] (Lg.O0 A) w O17 wd15 := (Stp.up hst20 rfl)
     exact At.res (.inl rfl) rfl (.tmp rfl .nil) ⟨rfl, (Stp.ext hs27 rfl rfl)⟩
    ·refine WC.condF' rfl hc26 ?_
     refine WC.skip ?_
     refine At.then ?_
     refine WC.seq ?_
     refine WC.region ?_
     refine WL.y (Y.move rfl) rfl ?_
     refine WL.y (Y.move rfl) rfl ?_
     refine WL.y (Y.len ty60 rfl hf23) rfl ?_
     refine WL.y (Y.mul_i rfl rfl) rfl ?_
     obtain ⟨⟨r28, r29⟩, hp30, h⟩ := bnd h
     refine WL.call (vals := [v0, vi (w64 (8 * (a0.length : Int)))]) kok47 rfl rfl (c_bitio_NewReader (A := fun _ => True) (Sl.all hf23) hp30) ?_
     rintro vr35 wd34 ⟨u31, rfl, hm33, f32⟩
     obtain ⟨O36, hold37, hnew38, hst39⟩ := adoptE O17 (labP u31 11) hm33
     refine WL.y (Y.move rfl) rfl ?_
     refine WL.y (Y.extract rfl rfl) rfl ?_
     refine WL.y (Y.extract rfl rfl) rfl ?_
     refine WL.y (Y.assign rfl) rfl ?_
     refine WL.y (Y.assign rfl) rfl ?_
     refine WL.nil ?_
     refine At.then ?_
     refine WC.seq ?_
     refine WC.seq ?_
     refine WC.region ?_
     refine WL.y (Y.move rfl) rfl ?_
     refine WL.y (Y.eql_opt ty61.u rfl rfl f32 (fun d hd => by obtain ⟨_, _, e, _⟩ := hd; exact ⟨_, e⟩)) rfl ?_
     refine WL.nil ?_
     refine At.then ?_
     rcases cnd h with ⟨hc40, h⟩ | ⟨hc40, h⟩
     ·refine WC.condT' rfl hc40 ?_
      refine WC.seq ?_
      refine WC.region ?_
      refine WL.y (Y.assign rfl) rfl ?_
      refine WL.nil ?_
      refine At.then ?_
      refine WC.ret ?_
      refine At.thenR ?_
      obtain rfl := some1 h
      have hs41 : Stp [] (Lg.O0 A) w O36 wd34 := (Stp.trans (Stp.up hst20 rfl) (Stp.up hst39 rfl))
      exact At.res (.inl rfl) rfl (.tmp rfl .nil) ⟨rfl, (Stp.ext hs41 rfl rfl)⟩
     ·refine WC.condF' rfl hc40 ?_
      refine WC.skip ?_
      refine At.then ?_
      refine WC.seq ?_
      refine WC.region ?_
      refine WL.y (Y.move rfl) rfl ?_
      have hf42 := hf23.mono (imm_st hst39 rfl rfl)
      obtain ⟨r43, hp44, h⟩ := bnd h
      refine WL.call (vals := [v0]) kok48 rfl rfl (c_ref01_Bits (A := fun _ => True) (Sl.all hf42) hp44) ?_
      rintro vr49 wd48 ⟨_, rfl, hm47, f46⟩
      obtain ⟨O50, hold51, hnew52, hst53⟩ := adoptE O36 (fun k => if Value.ownBlock vr49 = some k then 12 else 1) hm47
      have hf54 : OwnSl 12 Rep.i 3 O50 wd48 vr49 r43 := RowF.adopt 12 Flat.i f46 hnew52 (fun k hk => if_pos hk)
      refine WL.y (Y.assign rfl) rfl ?_
      refine WL.nil ?_
      refine At.then ?_
      refine WC.seq ?_
      refine WC.region ?_
      obtain ⟨r55, hp56, h⟩ := bnd h
      refine WL.call (vals := []) kok33 rfl rfl (c_histbits_NewRow hp56) ?_
      rintro vr68 wd67 ⟨p57, u58, u59, rfl, hm66, f60, f61, f62, f63, f64, f65⟩
      obtain ⟨O69, hold70, hnew71, hst72⟩ := adoptE O50 (fun k => if k = p57 then 13 else if Value.ownBlock u58 = some k then 14 else if Value.ownBlock u59 = some k then 15 else 1) hm66
      have hf74 : OwnSl 14 Rep.u 22 O69 wd67 u58 r55.last.Pos.Counts := RowF.adopt 14 Flat.u f61 hnew71 (fun k hk => (if_neg (fun (e : k = p57) => f63 (e ▸ hk))).trans (if_pos hk))
      have hf75 : OwnSl 15 Rep.u 22 O69 wd67 u59 r55.last.Neg.Counts := RowF.adopt 15 Flat.u f62 hnew71 (fun k hk => (if_neg (fun (e : k = p57) => f64 (e ▸ hk))).trans ((if_neg (fun (e : Value.ownBlock u58 = some k) => f65 k e hk)).trans (if_pos hk)))
      have hb73 : Blk 13 O69 wd67 p57 88 [vi r55.n, vi r55.last.Scale, vu r55.last.Zero, vi r55.last.Pos.Offset, u58, vi r55.last.Neg.Offset, u59] := Blk.new f60 hnew71 (if_pos rfl)
      obtain ⟨r76, hp77, h⟩ := bnd h
      refine WL.call (vals := []) kok33 rfl rfl (c_histbits_NewRow hp77) ?_
      rintro vr89 wd88 ⟨p78, u79, u80, rfl, hm87, f81, f82, f83, f84, f85, f86⟩
      obtain ⟨O90, hold91, hnew92, hst93⟩ := adoptE O69 (fun k => if k = p78 then 16 else if Value.ownBlock u79 = some k then 17 else if Value.ownBlock u80 = some k then 18 else 1) hm87
      have hf95 : OwnSl 17 Rep.u 22 O90 wd88 u79 r76.last.Pos.Counts := RowF.adopt 17 Flat.u f82 hnew92 (fun k hk => (if_neg (fun (e : k = p78) => f84 (e ▸ hk))).trans (if_pos hk))
      have hf96 : OwnSl 18 Rep.u 22 O90 wd88 u80 r76.last.Neg.Counts := RowF.adopt 18 Flat.u f83 hnew92 (fun k hk => (if_neg (fun (e : k = p78) => f85 (e ▸ hk))).trans ((if_neg (fun (e : Value.ownBlock u79 = some k) => f86 k e hk)).trans (if_pos hk)))
      have hb94 : Blk 16 O90 wd88 p78 88 [vi r76.n, vi r76.last.Scale, vu r76.last.Zero, vi r76.last.Pos.Offset, u79, vi r76.last.Neg.Offset, u80] := Blk.new f81 hnew92 (if_pos rfl)
      refine WL.y (Y.assign rfl) rfl ?_
      refine WL.y (Y.assign rfl) rfl ?_
      refine WL.nil ?_
      refine At.then ?_
      refine WC.seq ?_
      refine WC.region ?_
      obtain ⟨r97, hp98, h⟩ := bnd h
      refine WL.call (vals := []) kok32 rfl rfl (c_bitio_NewWriter hp98) ?_
      rintro vr106 wd105 ⟨p99, u100, rfl, hm104, f101, f102, f103⟩
      obtain ⟨O107, hold108, hnew109, hst110⟩ := adoptE O90 (fun k => if k = p99 then 19 else if Value.ownBlock u100 = some k then 20 else 1) hm104
      have hf112 : OwnSl 20 Rep.b 5 O107 wd105 u100 r97.b := RowF.adopt 20 Flat.b f102 hnew109 (fun k hk => (if_neg (fun (e : k = p99) => f103 (e ▸ hk))).trans (if_pos hk))
      have hb111 : Blk 19 O107 wd105 p99 86 [u100, vi r97.n] := Blk.new f101 hnew109 (if_pos rfl)
      refine WL.y (Y.assign rfl) rfl ?_
      refine WL.nil ?_
      refine At.then ?_
      refine WC.seq ?_
      refine WC.region ?_
      refine WL.y (Y.assign rfl) rfl ?_
      refine WL.nil ?_
      refine At.then ?_
      refine WC.seq ?_
      refine WC.region ?_
      refine WL.y (Y.assign rfl) rfl ?_
      refine WL.nil ?_
      refine At.then ?_
      refine WC.seq ?_
      refine WC.seq ?_
      refine WC.region ?_
      refine WL.y (Y.assign rfl) rfl ?_
      refine WL.nil ?_
      refine At.then ?_
      obtain ⟨p125, h, hk126⟩ := flow1 h
      refine WC.join (σ := (List Int × List UInt8 × Int × Int × Own × Value)) (fun x w' => p125 = .go (x.1, x.2.1, x.2.2.1, x.2.2.2.1) ∧ Stp [11, 12, 13, 14, 15, 16, 17, 18, 19, 20, 21, 22, 23, 24, 28, 1001, 1002, 1003, 1004, 1005, 1006, 1007] O107 wd105 x.2.2.2.2.1 w' ∧ Sl Rep.i w' (frs x.2.2.2.2.1) vr49 x.1 ∧ OwnSl 1009 Rep.b 5 x.2.2.2.2.1 w' x.2.2.2.2.2 x.2.1 ∧ Blk 19 x.2.2.2.2.1 w' p99 86 [x.2.2.2.2.2, vi x.2.2.1]) (fun x => [(7, vr49), (10, Value.pointer (some ⟨p99, 0, none⟩)), (12, vi x.2.2.2.1)]) ?_ ?_
      ·refine WC.block ?_
       obtain ⟨d127, hd127, h⟩ := bnd h
       obtain ⟨p128, v129, rfl, fb131, f130⟩ := OptP.some f32 hd127
       have hf132 : Sl Rep.b wd34 (frs O36) v129 d127.b := Sl.adoptF f130 (fun k hk => ⟨hk.1, labP_ne hk.2⟩) hnew38
       have hb133 : Blk 11 O36 wd34 p128 107 [v129, vi d127.n, vi d127.at_] := Blk.new fb131 hnew38 (labP_at p128 11)
       obtain ⟨p192, h, hk194⟩ := flow1 h
       obtain ⟨k193, h⟩ := loop_some h
       refine WC.joinB 0 (σ := (List Int × List UInt8 × Int × Int × Own × Value)) (fun x w' => p192 = .go (x.1, x.2.1, x.2.2.1, x.2.2.2.1) ∧ Stp [11, 12, 13, 14, 15, 16, 17, 18, 19, 20, 21, 22, 23, 24, 28, 1001, 1002, 1003, 1004, 1005, 1006] O107 wd105 x.2.2.2.2.1 w' ∧ Sl Rep.i w' (frs x.2.2.2.2.1) vr49 x.1 ∧ OwnSl 1007 Rep.b 5 x.2.2.2.2.1 w' x.2.2.2.2.2 x.2.1 ∧ Blk 19 x.2.2.2.2.1 w' p99 86 [x.2.2.2.2.2, vi x.2.2.1]) (fun x => [(7, vr49), (10, Value.pointer (some ⟨p99, 0, none⟩)), (12, vi x.2.2.2.1)]) ?_ ?_
       ·have hf195 := hf54.st hst72 rfl rfl rfl
        have hf196 := hf195.st hst93 rfl rfl rfl
        have hf197 := hf196.st hst110 rfl rfl rfl
        obtain ⟨O198, hst199, hf200⟩ := OwnSl.giveF rfl Flat.i hf197
        have hf201 := hf74.st hst93 rfl rfl rfl
        have hf202 := hf201.st hst110 rfl rfl rfl
        have hf203 := hf202.st hst199 rfl rfl rfl
        obtain ⟨O204, hst205, ho206⟩ := OwnSl.rlb 1001 rfl hf203
        have hf207 := hf75.st hst93 rfl rfl rfl
        have hf208 := hf207.st hst110 rfl rfl rfl
        have hf209 := hf208.st hst199 rfl rfl rfl
        have hf210 := hf209.st hst205 rfl rfl rfl
        obtain ⟨O211, hst212, ho213⟩ := OwnSl.rlb 1002 rfl hf210
        have hf214 := hf95.st hst110 rfl rfl rfl
        have hf215 := hf214.st hst199 rfl rfl rfl
        have hf216 := hf215.st hst205 rfl rfl rfl
        have hf217 := hf216.st hst212 rfl rfl rfl
        obtain ⟨O218, hst219, ho220⟩ := OwnSl.rlb 1003 rfl hf217
        have hf221 := hf96.st hst110 rfl rfl rfl
        have hf222 := hf221.st hst199 rfl rfl rfl
        have hf223 := hf222.st hst205 rfl rfl rfl
        have hf224 := hf223.st hst212 rfl rfl rfl
        have hf225 := hf224.st hst219 rfl rfl rfl
        obtain ⟨O226, hst227, ho228⟩ := OwnSl.rlb 1004 rfl hf225
        have hf229 := hf112.st hst199 rfl rfl rfl
        have hf230 := hf229.st hst205 rfl rfl rfl
        have hf231 := hf230.st hst212 rfl rfl rfl
        have hf232 := hf231.st hst219 rfl rfl rfl
        have hf233 := hf232.st hst227 rfl rfl rfl
        obtain ⟨O234, hst235, ho236⟩ := OwnSl.rlb 1005 rfl hf233
        have hf237 := hf132.mono (frs_st hst53 rfl)
        have hf238 := hf237.mono (frs_st hst72 rfl)
        have hf239 := hf238.mono (frs_st hst93 rfl)
        have hf240 := hf239.mono (frs_st hst110 rfl)
        have hf241 := hf240.mono (frs_st hst199 rfl)
        have hf242 := hf241.mono (frs_st hst205 rfl)
        have hf243 := hf242.mono (frs_st hst212 rfl)
        have hf244 := hf243.mono (frs_st hst219 rfl)
        have hf245 := hf244.mono (frs_st hst227 rfl)
        have hf246 := hf245.mono (frs_st hst235 rfl)
        have hf247 := hb133.st hst53 rfl
        have hf248 := hf247.st hst72 rfl
        have hf249 := hf248.st hst93 rfl
        have hf250 := hf249.st hst110 rfl
        have hf251 := hf250.st hst199 rfl
        have hf252 := hf251.st hst205 rfl
        have hf253 := hf252.st hst212 rfl
        have hf254 := hf253.st hst219 rfl
        have hf255 := hf254.st hst227 rfl
        have hf256 := hf255.st hst235 rfl
        have hf257 := hf200.mono (frs_st hst205 rfl)
        have hf258 := hf257.mono (frs_st hst212 rfl)
        have hf259 := hf258.mono (frs_st hst219 rfl)
        have hf260 := hf259.mono (frs_st hst227 rfl)
        have hf261 := hf260.mono (frs_st hst235 rfl)
        have hf262 := ho206.st hst212 rfl rfl rfl
        have hf263 := hf262.st hst219 rfl rfl rfl
        have hf264 := hf263.st hst227 rfl rfl rfl
        have hf265 := hf264.st hst235 rfl rfl rfl
        have hf266 := ho213.st hst219 rfl rfl rfl
        have hf267 := hf266.st hst227 rfl rfl rfl
        have hf268 := hf267.st hst235 rfl rfl rfl
        have hf269 := hb73.st hst93 rfl
        have hf270 := hf269.st hst110 rfl
        have hf271 := hf270.st hst199 rfl
        have hf272 := hf271.st hst205 rfl
        have hf273 := hf272.st hst212 rfl
        have hf274 := hf273.st hst219 rfl
        have hf275 := hf274.st hst227 rfl
        have hf276 := hf275.st hst235 rfl
        have hf277 := ho220.st hst227 rfl rfl rfl
        have hf278 := hf277.st hst235 rfl rfl rfl
        have hf279 := ho228.st hst235 rfl rfl rfl
        have hf280 := hb94.st hst110 rfl
        have hf281 := hf280.st hst199 rfl
        have hf282 := hf281.st hst205 rfl
        have hf283 := hf282.st hst212 rfl
        have hf284 := hf283.st hst219 rfl
        have hf285 := hf284.st hst227 rfl
        have hf286 := hf285.st hst235 rfl
        have hf287 := hb111.st hst199 rfl
        have hf288 := hf287.st hst205 rfl
        have hf289 := hf288.st hst212 rfl
        have hf290 := hf289.st hst219 rfl
        have hf291 := hf290.st hst227 rfl
        have hf292 := hf291.st hst235 rfl
        refine WC.loop (σ := (List UInt8 × Int × Int × List Int × Int × Int × UInt64 × Int × List UInt64 × Int × List UInt64 × Int × Int × UInt64 × Int × List UInt64 × Int × List UInt64 × List UInt8 × Int × List api_Hist × Int × Int × Own × Value × Value × Value × Value × Value × Value × Value)) (fun x k w' => loopN k (law10_HistbitsTakes_lp1 a1) (x.1, x.2.1, x.2.2.1, x.2.2.2.1, x.2.2.2.2.1, x.2.2.2.2.2.1, x.2.2.2.2.2.2.1, x.2.2.2.2.2.2.2.1, x.2.2.2.2.2.2.2.2.1, x.2.2.2.2.2.2.2.2.2.1, x.2.2.2.2.2.2.2.2.2.2.1, x.2.2.2.2.2.2.2.2.2.2.2.1, x.2.2.2.2.2.2.2.2.2.2.2.2.1, x.2.2.2.2.2.2.2.2.2.2.2.2.2.1, x.2.2.2.2.2.2.2.2.2.2.2.2.2.2.1, x.2.2.2.2.2.2.2.2.2.2.2.2.2.2.2.1, x.2.2.2.2.2.2.2.2.2.2.2.2.2.2.2.2.1, x.2.2.2.2.2.2.2.2.2.2.2.2.2.2.2.2.2.1, x.2.2.2.2.2.2.2.2.2.2.2.2.2.2.2.2.2.2.1, x.2.2.2.2.2.2.2.2.2.2.2.2.2.2.2.2.2.2.2.1, x.2.2.2.2.2.2.2.2.2.2.2.2.2.2.2.2.2.2.2.2.1, x.2.2.2.2.2.2.2.2.2.2.2.2.2.2.2.2.2.2.2.2.2.1, x.2.2.2.2.2.2.2.2.2.2.2.2.2.2.2.2.2.2.2.2.2.2.1) = some p192 ∧ Stp [11, 12, 13, 14, 15, 16, 17, 18, 19, 20, 21, 22, 23, 24, 28, 1001, 1002, 1003, 1004, 1005, 1006] O107 wd105 x.2.2.2.2.2.2.2.2.2.2.2.2.2.2.2.2.2.2.2.2.2.2.2.1 w' ∧ Sl Rep.b w' (imm x.2.2.2.2.2.2.2.2.2.2.2.2.2.2.2.2.2.2.2.2.2.2.2.1) x.2.2.2.2.2.2.2.2.2.2.2.2.2.2.2.2.2.2.2.2.2.2.2.2.1 x.1 ∧ Blk 11 x.2.2.2.2.2.2.2.2.2.2.2.2.2.2.2.2.2.2.2.2.2.2.2.1 w' p128 107 [x.2.2.2.2.2.2.2.2.2.2.2.2.2.2.2.2.2.2.2.2.2.2.2.2.1, vi x.2.1, vi x.2.2.1] ∧ Sl Rep.i w' (frs x.2.2.2.2.2.2.2.2.2.2.2.2.2.2.2.2.2.2.2.2.2.2.2.1) vr49 x.2.2.2.1 ∧ OwnSl 1001 Rep.u 22 x.2.2.2.2.2.2.2.2.2.2.2.2.2.2.2.2.2.2.2.2.2.2.2.1 w' x.2.2.2.2.2.2.2.2.2.2.2.2.2.2.2.2.2.2.2.2.2.2.2.2.2.1 x.2.2.2.2.2.2.2.2.1 ∧ OwnSl 1002 Rep.u 22 x.2.2.2.2.2.2.2.2.2.2.2.2.2.2.2.2.2.2.2.2.2.2.2.1 w' x.2.2.2.2.2.2.2.2.2.2.2.2.2.2.2.2.2.2.2.2.2.2.2.2.2.2.1 x.2.2.2.2.2.2.2.2.2.2.1 ∧ Blk 13 x.2.2.2.2.2.2.2.2.2.2.2.2.2.2.2.2.2.2.2.2.2.2.2.1 w' p57 88 [vi x.2.2.2.2.1, vi x.2.2.2.2.2.1, vu x.2.2.2.2.2.2.1, vi x.2.2.2.2.2.2.2.1, x.2.2.2.2.2.2.2.2.2.2.2.2.2.2.2.2.2.2.2.2.2.2.2.2.2.1, vi x.2.2.2.2.2.2.2.2.2.1, x.2.2.2.2.2.2.2.2.2.2.2.2.2.2.2.2.2.2.2.2.2.2.2.2.2.2.1] ∧ OwnSl 1003 Rep.u 22 x.2.2.2.2.2.2.2.2.2.2.2.2.2.2.2.2.2.2.2.2.2.2.2.1 w' x.2.2.2.2.2.2.2.2.2.2.2.2.2.2.2.2.2.2.2.2.2.2.2.2.2.2.2.1 x.2.2.2.2.2.2.2.2.2.2.2.2.2.2.2.1 ∧ OwnSl 1004 Rep.u 22 x.2.2.2.2.2.2.2.2.2.2.2.2.2.2.2.2.2.2.2.2.2.2.2.1 w' x.2.2.2.2.2.2.2.2.2.2.2.2.2.2.2.2.2.2.2.2.2.2.2.2.2.2.2.2.1 x.2.2.2.2.2.2.2.2.2.2.2.2.2.2.2.2.2.1 ∧ Blk 16 x.2.2.2.2.2.2.2.2.2.2.2.2.2.2.2.2.2.2.2.2.2.2.2.1 w' p78 88 [vi x.2.2.2.2.2.2.2.2.2.2.2.1, vi x.2.2.2.2.2.2.2.2.2.2.2.2.1, vu x.2.2.2.2.2.2.2.2.2.2.2.2.2.1, vi x.2.2.2.2.2.2.2.2.2.2.2.2.2.2.1, x.2.2.2.2.2.2.2.2.2.2.2.2.2.2.2.2.2.2.2.2.2.2.2.2.2.2.2.1, vi x.2.2.2.2.2.2.2.2.2.2.2.2.2.2.2.2.1, x.2.2.2.2.2.2.2.2.2.2.2.2.2.2.2.2.2.2.2.2.2.2.2.2.2.2.2.2.1] ∧ OwnSl 1005 Rep.b 5 x.2.2.2.2.2.2.2.2.2.2.2.2.2.2.2.2.2.2.2.2.2.2.2.1 w' x.2.2.2.2.2.2.2.2.2.2.2.2.2.2.2.2.2.2.2.2.2.2.2.2.2.2.2.2.2.1 x.2.2.2.2.2.2.2.2.2.2.2.2.2.2.2.2.2.2.1 ∧ Blk 19 x.2.2.2.2.2.2.2.2.2.2.2.2.2.2.2.2.2.2.2.2.2.2.2.1 w' p99 86 [x.2.2.2.2.2.2.2.2.2.2.2.2.2.2.2.2.2.2.2.2.2.2.2.2.2.2.2.2.2.1, vi x.2.2.2.2.2.2.2.2.2.2.2.2.2.2.2.2.2.2.2.1] ∧ OwnSl 1006 rep_api_Hist 27 x.2.2.2.2.2.2.2.2.2.2.2.2.2.2.2.2.2.2.2.2.2.2.2.1 w' x.2.2.2.2.2.2.2.2.2.2.2.2.2.2.2.2.2.2.2.2.2.2.2.2.2.2.2.2.2.2 x.2.2.2.2.2.2.2.2.2.2.2.2.2.2.2.2.2.2.2.2.1) (fun x => [(1, vi a1), (5, Value.pointer (some ⟨p128, 0, none⟩)), (7, vr49), (8, Value.pointer (some ⟨p57, 0, none⟩)), (9, Value.pointer (some ⟨p78, 0, none⟩)), (10, Value.pointer (some ⟨p99, 0, none⟩)), (11, x.2.2.2.2.2.2.2.2.2.2.2.2.2.2.2.2.2.2.2.2.2.2.2.2.2.2.2.2.2.2), (12, vi x.2.2.2.2.2.2.2.2.2.2.2.2.2.2.2.2.2.2.2.2.2.1), (13, vi x.2.2.2.2.2.2.2.2.2.2.2.2.2.2.2.2.2.2.2.2.2.2.1)]) (d127.b, d127.n, d127.at_, r43, r55.n, r55.last.Scale, r55.last.Zero, r55.last.Pos.Offset, r55.last.Pos.Counts, r55.last.Neg.Offset, r55.last.Neg.Counts, r76.n, r76.last.Scale, r76.last.Zero, r76.last.Pos.Offset, r76.last.Pos.Counts, r76.last.Neg.Offset, r76.last.Neg.Counts, r97.b, r97.n, [], 0, 0, O234, v129, u58, u59, u79, u80, u100, Value.slice none 0 0) k193 (.cons rfl (.cons rfl (.cons rfl (.cons rfl (.cons rfl (.cons rfl (.cons rfl (.cons rfl (.cons rfl .nil))))))))) ⟨h, (Stp.trans (Stp.up hst199 rfl) (Stp.trans (Stp.up hst205 rfl) (Stp.trans (Stp.up hst212 rfl) (Stp.trans (Stp.up hst219 rfl) (Stp.trans (Stp.up hst227 rfl) (Stp.up hst235 rfl)))))), (Sl.mono hf246 frs_imm), hf256, hf261, hf265, hf268, hf276, hf278, hf279, hf286, ho236, hf292, (OwnSl.nil 1006 rep_api_Hist 27)⟩ ?_
        rintro ⟨c135, c138, c139, l140, c144, c145, c146, c147, c148, c151, c152, c156, c157, c158, c159, c160, c163, c164, c168, c171, row172, at175, i176, O177, v136, v149, v153, v161, v165, v169, v173⟩ k193 wd178 ⟨h, hst179, hf137, hb134, hf142, hf150, hf154, hb143, hf162, hf166, hb155, hf170, hb167, hf174⟩
        obtain ⟨j293, q294, rfl, h, hn295⟩ := rnd1 h
        unfold law10_HistbitsTakes_lp1 at h
        try dsimp only at h hst179 hf137 hb134 hf142 hf150 hf154 hb143 hf162 hf166 hb155 hf170 hb167 hf174
        refine (show WC _ _ _ _ [(1, vi a1), (5, Value.pointer (some ⟨p128, 0, none⟩)), (7, vr49), (8, Value.pointer (some ⟨p57, 0, none⟩)), (9, Value.pointer (some ⟨p78, 0, none⟩)), (10, Value.pointer (some ⟨p99, 0, none⟩)), (11, v173), (12, vi at175), (13, vi i176)] _ from ?_)
        refine WC.seq ?_
        refine WC.seq ?_
        refine WC.region ?_
        refine WL.y (Y.move rfl) rfl ?_
        refine WL.y (Y.move rfl) rfl ?_
        refine WL.y (Y.lss_i rfl rfl) rfl ?_
        refine WL.nil ?_
        refine At.then ?_
        rcases cnd h with ⟨hc296, h⟩ | ⟨hc296, h⟩
        ·refine WC.condT' rfl hc296 ?_
         refine WC.skip ?_
         refine At.then ?_
         refine WC.seq ?_
         refine WC.block ?_
         refine WC.seq ?_
         refine WC.region ?_
         refine WL.y (Y.move rfl) rfl ?_
         refine WL.y (Y.move rfl) rfl ?_
         refine WL.y (Y.move rfl) rfl ?_
         obtain ⟨t297, ht297, h⟩ := bnd h
         obtain ⟨v298, hY300, hf299⟩ := Sl.slice (ρ := [(51, vr49), (52, vi at175)]) (x := (.tmp 51)) (lo := (some (.tmp 52))) (hi := none) ty64 ty3 rfl rfl rfl hf142 ht297
         refine WL.y (Y.sub (.cons rfl (.cons rfl .nil)) (hY300 _ _)) rfl ?_
         obtain ⟨r301, hp302, h⟩ := bnd h
         refine WL.call (vals := [v173, v298]) kok49 rfl rfl (c_ref10_Get (A := fun _ => True) (hf174.src.sl) (Sl.all hf299) hp302) ?_
         rintro vr309 wd308 ⟨u303, u304, rfl, hm307, f305, f306⟩
         obtain ⟨O310, hold311, hnew312, hst313⟩ := adoptE O177 (fun k => 1) hm307
         have hf314 : Sl Rep.u wd308 (frs O310) u303 r301.H.Pos.Counts := Sl.adoptF f305 (fun k hk => ⟨hk, rfl⟩) hnew312
         have hf315 : Sl Rep.u wd308 (frs O310) u304 r301.H.Neg.Counts := Sl.adoptF f306 (fun k hk => ⟨hk, rfl⟩) hnew312
         refine WL.alloc (O := O310) 21 [vi 0, vu 0, vi 0, Value.slice none 0 0, vi 0, Value.slice none 0 0, vi 0, vi 0] ty67 rfl rfl ?_
         intro p317 O318 wd319 hst320 hb316
         have hf321 := hf314.mono (frs_st hst320 rfl)
         have hh325 := h
         obtain ⟨p322, m323, c324, rfl⟩ := hf321.shape
         have h := hh325
         have hf326 := hf315.mono (frs_st hst320 rfl)
         have hh330 := h
         obtain ⟨p327, m328, c329, rfl⟩ := hf326.shape
         have h := hh330
         refine WL.store (v := Value.agg (List.toArray [vi r301.H.Scale, vu r301.H.Zero, vi r301.H.Pos.Offset, (Value.slice p322 m323 c324), vi r301.H.Neg.Offset, (Value.slice p327 m328 c329), vi r301.N, vi r301.E])) (cells' := [vi r301.H.Scale, vu r301.H.Zero, vi r301.H.Pos.Offset, (Value.slice p322 m323 c324), vi r301.H.Neg.Offset, (Value.slice p327 m328 c329), vi r301.N, vi r301.E]) ty67 rfl rfl hb316 rfl (Nat.le_of_ble_eq_true rfl) rfl rfl ?_
         intro wd331 hst332 hb333
         refine WL.nil ?_
         refine At.then ?_
         refine WC.seq ?_
         refine WC.region ?_
         refine WL.y (Y.move rfl) rfl ?_
         refine WL.y (Y.move rfl) rfl ?_
         have hf334 := hf150.st hst313 rfl rfl rfl
         have hf335 := hf334.st hst320 rfl rfl rfl
         have hf336 := hf335.st hst332 rfl rfl rfl
         have hf337 := hf154.st hst313 rfl rfl rfl
         have hf338 := hf337.st hst320 rfl rfl rfl
         have hf339 := hf338.st hst332 rfl rfl rfl
         have hf340 := hb143.st hst313 rfl
         have hf341 := hf340.st hst320 rfl
         have hf342 := hf341.st hst332 rfl
         have hf343 := hb134.st hst313 rfl
         have hf344 := hf343.st hst320 rfl
         have hf345 := hf344.st hst332 rfl
         have hf346 := hf137.mono (imm_st hst313 rfl rfl)
         have hf347 := hf346.mono (imm_st hst320 rfl rfl)
         have hf348 := hf347.mono (imm_st hst332 rfl rfl)
         obtain ⟨⟨r349, r350, r351, r352⟩, hp353, h⟩ := bnd h
         refine WL.call (vals := [Value.pointer (some ⟨p57, 0, none⟩), Value.pointer (some ⟨p128, 0, none⟩)]) kok50 rfl rfl (c_histbits_Row_Get (A := imm O318) (a0 := (histbits_Row.mk c144 (api_Hist.mk c145 c146 (api_Side.mk c147 c148) (api_Side.mk c151 c152)))) (a1 := (bitio_Reader.mk c135 c138 c139)) hf336.row hf339.row hf342.blk hf348 hf345.blk (ne_lab hf336 hf342.lab rfl) (ne_lab hf339 hf342.lab rfl) (ne_blk hf342.lab hf345.lab rfl) (ne_own hf336 hf339 rfl) (ne_lab hf336 hf345.lab rfl) (ne_lab hf339 hf345.lab rfl) (fun k hk => ⟨imm_ne hf342.lab rfl k hk, imm_neV (w := wd331) hf336.labs rfl k hk, imm_neV (w := wd331) hf339.labs rfl k hk, imm_ne hf345.lab rfl k hk⟩) hp353) ?_
         rintro vr374 wd373 ⟨u354, u355, z356, z357, z358, rfl, hm372, f359, f360, f361, f362, f363, f364, f365, f366, f367, f368, f369, f370, f371⟩
         obtain ⟨O375, hold376, hnew377, hst378⟩ := adopt O318 (fun k => if Value.ownBlock u354 = some k then 22 else if Value.ownBlock u355 = some k then 23 else if Value.ownBlock z356 = some k then 1001 else if Value.ownBlock z357 = some k then 1002 else 1) [13, 1001, 1002, 11] hm372 (memOr (memB hf342.lab rfl) (memOr (memV hf336.labs rfl) (memOr (memV hf339.labs rfl) (memB hf345.lab rfl))))
         have hf379 : OwnSl 22 Rep.u 22 O375 wd373 u354 r349.Pos.Counts := RowF.adopt 22 Flat.u f359 hnew377 (fun k hk => if_pos hk)
         have hf380 : OwnSl 23 Rep.u 22 O375 wd373 u355 r349.Neg.Counts := RowF.adopt 23 Flat.u f360 hnew377 (fun k hk => (if_neg (fun (e : Value.ownBlock u354 = some k) => f366 k e hk)).trans (if_pos hk))
         have ho381 : OwnSl 1001 Rep.u 22 O375 wd373 z356 r351.last.Pos.Counts := RowG.adopt Flat.u hf336.labs f361 hold376 hnew377 (fun k hk => (if_neg (fun (e : Value.ownBlock u354 = some k) => f367 k e hk)).trans ((if_neg (fun (e : Value.ownBlock u355 = some k) => f368 k e hk)).trans (if_pos hk)))
         have ho382 : OwnSl 1002 Rep.u 22 O375 wd373 z357 r351.last.Neg.Counts := RowG.adopt Flat.u hf339.labs f362 hold376 hnew377 (fun k hk => (if_neg (fun (e : Value.ownBlock u354 = some k) => f369 k e hk)).trans ((if_neg (fun (e : Value.ownBlock u355 = some k) => f370 k e hk)).trans ((if_neg (fun (e : Value.ownBlock z356 = some k) => f371 k e hk)).trans (if_pos hk))))
         have hb383 : Blk 13 O375 wd373 p57 88 [vi r351.n, vi r351.last.Scale, vu r351.last.Zero, vi r351.last.Pos.Offset, z356, vi r351.last.Neg.Offset, z357] := Blk.adopt hf342 hold376 f363
         have hf384 : Sl Rep.b wd373 (imm O375) z358 r352.b := Sl.adoptIB (O := O318) f364 (fun _ hk => hk) (fun k hk => (if_neg hk.1).trans ((if_neg hk.2.1).trans ((if_neg hk.2.2.1).trans ((if_neg hk.2.2.2).trans rfl)))) hold376 hnew377
         have hb385 : Blk 11 O375 wd373 p128 107 [z358, vi r352.n, vi r352.at_] := Blk.adopt hf345 hold376 f365
         refine WL.y (Y.move rfl) rfl ?_
         refine WL.y (Y.extract rfl rfl) rfl ?_
         refine WL.y (Y.extract rfl rfl) rfl ?_
         refine WL.alloc (O := O375) 24 [vi 0, vu 0, vi 0, Value.slice none 0 0, vi 0, Value.slice none 0 0] ty27 rfl rfl ?_
         intro p387 O388 wd389 hst390 hb386
         have hf391 := hf379.st hst390 rfl rfl rfl
         have hh395 := h
         obtain ⟨p392, m393, c394, rfl⟩ := hf391.shape
         have h := hh395
         have hf396 := hf380.st hst390 rfl rfl rfl
         have hh400 := h
         obtain ⟨p397, m398, c399, rfl⟩ := hf396.shape
         have h := hh400
         refine WL.store (v := Value.agg (List.toArray [vi r349.Scale, vu r349.Zero, vi r349.Pos.Offset, (Value.slice p392 m393 c394), vi r349.Neg.Offset, (Value.slice p397 m398 c399)])) (cells' := [vi r349.Scale, vu r349.Zero, vi r349.Pos.Offset, (Value.slice p392 m393 c394), vi r349.Neg.Offset, (Value.slice p397 m398 c399)]) ty27 rfl rfl hb386 rfl (Nat.le_of_ble_eq_true rfl) rfl rfl ?_
         intro wd401 hst402 hb403
         refine WL.y (Y.assign rfl) rfl ?_
         refine WL.nil ?_
         refine At.then ?_
         refine WC.seq ?_
         refine WC.seq ?_
         refine WC.drawH [] [0, 1, 2, 3, 4, 5, 6, 7, 8, 9, 10, 11, 12, 13, 14, 15, 16, 17, 18, 19] O388 20 fmix rfl (by kernel_rfl) ?_
         intro wd404 hst405
         refine WD.y 0 rfl (by kernel_rfl) (fun _ _ _ => Y.move rfl) rfl ?_
         refine WD.y 1 rfl (by kernel_rfl) (fun _ _ _ => Y.fieldAddr fo67_2 rfl) rfl ?_
         refine WD.y 2 rfl (by kernel_rfl) (fun wd413 O412 hst414 => have hf415 := hb333.st hst378 rfl; have hf416 := hf415.st hst390 rfl; have hf417 := hf416.st hst402 rfl; have hf418 := hf417.st hst405 rfl; have hf419 := hf418.st hst414 rfl; Y.loadSc ty32 rfl rfl (hf419.cell 7 _ rfl)) rfl ?_
         refine WD.y 3 rfl (by kernel_rfl) (fun _ _ _ => Y.neq_i rfl rfl) rfl ?_
         refine WD.y 4 rfl (by kernel_rfl) (fun _ _ _ => Y.move rfl) rfl ?_
         obtain ⟨p430, h, hk431⟩ := bnd h
         refine WD.join (σ := (Bool × Own)) (f' := 9) [10, 9, 8, 7, 6, 5, 4, 3, 2, 1, 0] (fun x O' w' => x.1 = p430 ∧ Stp [] O388 wd404 x.2 w' ∧ x.2 = O') (fun x => [(1, vi a1), (5, Value.pointer (some ⟨p128, 0, none⟩)), (7, vr49), (8, Value.pointer (some ⟨p57, 0, none⟩)), (9, Value.pointer (some ⟨p78, 0, none⟩)), (10, Value.pointer (some ⟨p99, 0, none⟩)), (11, v173), (12, vi at175), (13, vi i176), (14, Value.pointer (some ⟨p317, 0, none⟩)), (15, Value.pointer (some ⟨p387, 0, none⟩)), (16, vi r350), (71, Value.bool x.1)]) (fun hJ432 => ?_) ?_
         ·rcases cnd h with ⟨hE433, h⟩ | ⟨hE433, h⟩
          ·refine WD.ren 65 rfl (congrArg Value.bool hE433) ?_
           refine WD.gS 5 rfl (by kernel_rfl) rfl rfl rfl rfl ?_
           refine WD.gS 6 rfl (by kernel_rfl) rfl rfl rfl rfl ?_
           refine WD.gS 7 rfl (by kernel_rfl) rfl rfl rfl rfl ?_
           refine WD.heavy 8 rfl (by kernel_rfl) ?_
           refine WL.gS rfl rfl rfl rfl ?_
           refine WL.nil ?_
           refine At.dq (Stp.refl _ _ _) ?_
           refine WD.gS 9 rfl (by kernel_rfl) rfl rfl rfl rfl ?_
           refine WD.y 10 rfl (by kernel_rfl) (fun _ _ _ => Y.pick (b := true) rfl rfl) rfl ?_
           refine WD.ren 65 rfl (congrArg Value.bool hE433.symm) ?_
           exact hJ432 (true, O388) _ _ _ ⟨some1 h, (Stp.refl _ _ _), rfl⟩ (.cons rfl (.cons rfl (.cons rfl (.cons rfl (.cons rfl (.cons rfl (.cons rfl (.cons rfl (.cons rfl (.cons rfl (.cons rfl (.cons rfl (.cons rfl .nil)))))))))))))
          ·refine WD.ren 65 rfl (congrArg Value.bool hE433) ?_
           refine WD.gT 5 rfl (by kernel_rfl) rfl rfl (fun wd438 O437 hst439 => have hf440 := hb403.st hst405 rfl; have hf441 := hf440.st hst439 rfl; Y.loadAg ty27 rfl rfl (hf441.cells 0 [vi r349.Scale, vu r349.Zero, vi r349.Pos.Offset, (Value.slice p392 m393 c394), vi r349.Neg.Offset, (Value.slice p397 m398 c399)] rfl) rfl) rfl ?_
           refine WD.gT 6 rfl (by kernel_rfl) rfl rfl (fun _ _ _ => Y.fieldAddr fo67_0 rfl) rfl ?_
           refine WD.gT 7 rfl (by kernel_rfl) rfl rfl (fun wd446 O445 hst447 => have hf448 := hb333.st hst378 rfl; have hf449 := hf448.st hst390 rfl; have hf450 := hf449.st hst402 rfl; have hf451 := hf450.st hst405 rfl; have hf452 := hf451.st hst447 rfl; Y.loadAg ty27 rfl rfl (hf452.cells 0 [vi r301.H.Scale, vu r301.H.Zero, vi r301.H.Pos.Offset, (Value.slice p322 m323 c324), vi r301.H.Neg.Offset, (Value.slice p327 m328 c329)] rfl) rfl) rfl ?_
           refine WD.heavy 8 rfl (by kernel_rfl) ?_
           refine WL.ung rfl rfl ?_
           have hf453 := hf391.st hst402 rfl rfl rfl
           have hf454 := hf453.st hst405 rfl rfl rfl
           have hf455 := hf396.st hst402 rfl rfl rfl
           have hf456 := hf455.st hst405 rfl rfl rfl
           have hf457 := hf321.mono (frs_st hst332 rfl)
           have hf458 := hf457.mono (frs_st hst378 rfl)
           have hf459 := hf458.mono (frs_st hst390 rfl)
           have hf460 := hf459.mono (frs_st hst402 rfl)
           have hf461 := hf460.mono (frs_st hst405 rfl)
           have hf462 := hf326.mono (frs_st hst332 rfl)
           have hf463 := hf462.mono (frs_st hst378 rfl)
           have hf464 := hf463.mono (frs_st hst390 rfl)
           have hf465 := hf464.mono (frs_st hst402 rfl)
           have hf466 := hf465.mono (frs_st hst405 rfl)
           obtain ⟨r467, hp468, h⟩ := bnd h
           refine WL.call (vals := [Value.agg (List.toArray [vi r349.Scale, vu r349.Zero, vi r349.Pos.Offset, (Value.slice p392 m393 c394), vi r349.Neg.Offset, (Value.slice p397 m398 c399)]), Value.agg (List.toArray [vi r301.H.Scale, vu r301.H.Zero, vi r301.H.Pos.Offset, (Value.slice p322 m323 c324), vi r301.H.Neg.Offset, (Value.slice p327 m328 c329)])]) kok22 rfl rfl (c_ref08_Same (A := fun _ => True) (a0 := r349) (a1 := r301.H) (hf454.src.sl) (hf456.src.sl) (Sl.all hf461) (Sl.all hf466) hp468) ?_
           rintro vr471 wd470 ⟨rfl, hm469⟩
           obtain ⟨O472, hold473, hnew474, hst475⟩ := adoptE O388 (fun k => 1) hm469
           refine WL.nil ?_
           refine At.dq (Stp.up hst475 rfl) ?_
           refine WD.gT 9 rfl (by kernel_rfl) rfl rfl (fun _ _ _ => Y.not rfl) rfl ?_
           refine WD.y 10 rfl (by kernel_rfl) (fun _ _ _ => Y.pick (b := false) rfl rfl) rfl ?_
           refine WD.ren 65 rfl (congrArg Value.bool hE433.symm) ?_
           exact hJ432 ((!r467), O472) _ _ _ ⟨some1 h, (Stp.up hst475 rfl), rfl⟩ (.cons rfl (.cons rfl (.cons rfl (.cons rfl (.cons rfl (.cons rfl (.cons rfl (.cons rfl (.cons rfl (.cons rfl (.cons rfl (.cons rfl (.cons rfl .nil)))))))))))))
         ·rintro ⟨x426, O427⟩ _ wd428 ⟨rfl, hst429, rfl⟩
          replace h := hk431
          try dsimp only at h hst429
          refine (show WD _ _ _ _ _ _ _ _ [(1, vi a1), (5, Value.pointer (some ⟨p128, 0, none⟩)), (7, vr49), (8, Value.pointer (some ⟨p57, 0, none⟩)), (9, Value.pointer (some ⟨p78, 0, none⟩)), (10, Value.pointer (some ⟨p99, 0, none⟩)), (11, v173), (12, vi at175), (13, vi i176), (14, Value.pointer (some ⟨p317, 0, none⟩)), (15, Value.pointer (some ⟨p387, 0, none⟩)), (16, vi r350), (71, Value.bool x426)] _ _ from ?_)
          refine WD.y 11 rfl (by kernel_rfl) (fun _ _ _ => Y.move rfl) rfl ?_
          obtain ⟨p489, h, hk490⟩ := bnd h
          refine WD.join (σ := (Bool × Own)) (f' := 0) [19, 18, 13, 17, 16, 15, 14, 12, 11, 10, 9, 8, 7, 6, 5, 4, 3, 2, 1, 0] (fun x O' w' => x.1 = p489 ∧ Stp [] O427 wd428 x.2 w' ∧ x.2 = O') (fun x => [(1, vi a1), (5, Value.pointer (some ⟨p128, 0, none⟩)), (7, vr49), (8, Value.pointer (some ⟨p57, 0, none⟩)), (9, Value.pointer (some ⟨p78, 0, none⟩)), (10, Value.pointer (some ⟨p99, 0, none⟩)), (11, v173), (12, vi at175), (13, vi i176), (14, Value.pointer (some ⟨p317, 0, none⟩)), (15, Value.pointer (some ⟨p387, 0, none⟩)), (16, vi r350), (80, Value.bool x.1)]) (fun hJ491 => ?_) ?_
          ·rcases cnd h with ⟨hE492, h⟩ | ⟨hE492, h⟩
           ·refine WD.ren 72 rfl (congrArg Value.bool hE492) ?_
            refine WD.gS 12 rfl (by kernel_rfl) rfl rfl rfl rfl ?_
            refine WD.gS 14 rfl (by kernel_rfl) rfl rfl rfl rfl ?_
            refine WD.gS 15 rfl (by kernel_rfl) rfl rfl rfl rfl ?_
            refine WD.gS 16 rfl (by kernel_rfl) rfl rfl rfl rfl ?_
            refine WD.gS 17 rfl (by kernel_rfl) rfl rfl rfl rfl ?_
            refine WD.heavy 13 rfl (by kernel_rfl) ?_
            refine WL.gS rfl rfl rfl rfl ?_
            refine WL.nil ?_
            refine At.dq (Stp.refl _ _ _) ?_
            refine WD.gS 18 rfl (by kernel_rfl) rfl rfl rfl rfl ?_
            refine WD.y 19 rfl (by kernel_rfl) (fun _ _ _ => Y.pick (b := true) rfl rfl) rfl ?_
            refine WD.ren 72 rfl (congrArg Value.bool hE492.symm) ?_
            exact hJ491 (true, O427) _ _ _ ⟨some1 h, (Stp.refl _ _ _), rfl⟩ (.cons rfl (.cons rfl (.cons rfl (.cons rfl (.cons rfl (.cons rfl (.cons rfl (.cons rfl (.cons rfl (.cons rfl (.cons rfl (.cons rfl (.cons rfl .nil)))))))))))))
           ·refine WD.ren 72 rfl (congrArg Value.bool hE492) ?_
            refine WD.gT 12 rfl (by kernel_rfl) rfl rfl (fun _ _ _ => Y.move rfl) rfl ?_
            refine WD.gT 14 rfl (by kernel_rfl) rfl rfl (fun _ _ _ => Y.move rfl) rfl ?_
            refine WD.gT 15 rfl (by kernel_rfl) rfl rfl (fun _ _ _ => Y.fieldAddr fo67_1 rfl) rfl ?_
            refine WD.gT 16 rfl (by kernel_rfl) rfl rfl (fun wd506 O505 hst507 => have hf508 := hb333.st hst378 rfl; have hf509 := hf508.st hst390 rfl; have hf510 := hf509.st hst402 rfl; have hf511 := hf510.st hst405 rfl; have hf512 := hf511.st hst429 rfl; have hf513 := hf512.st hst507 rfl; Y.loadSc ty3 rfl rfl (hf513.cell 6 _ rfl)) rfl ?_
            refine WD.gT 17 rfl (by kernel_rfl) rfl rfl (fun _ _ _ => Y.add_i rfl rfl) rfl ?_
            refine WD.heavy 13 rfl (by kernel_rfl) ?_
            refine WL.ung rfl rfl ?_
            have hf517 := hb385.st hst390 rfl
            have hf518 := hf517.st hst402 rfl
            have hf519 := hf518.st hst405 rfl
            have hf520 := hf519.st hst429 rfl
            have hf521 := hf384.mono (imm_st hst390 rfl rfl)
            have hf522 := hf521.mono (imm_st hst402 rfl rfl)
            have hf523 := hf522.mono (imm_st hst405 rfl rfl)
            have hf524 := hf523.mono (imm_st hst429 rfl rfl)
            obtain ⟨r525, hp526, h⟩ := bnd h
            refine WL.call (vals := [Value.pointer (some ⟨p128, 0, none⟩)]) kok51 rfl rfl (c_bitio_Reader_At (A := fun _ => True) (a0 := r352) (Sl.all hf524) hf520.blk trivial hp526) ?_
            rintro vr529 wd528 ⟨rfl, hm527⟩
            obtain ⟨O530, hold531, hnew532, hst533⟩ := adoptE O427 (fun k => 1) hm527
            refine WL.nil ?_
            refine At.dq (Stp.up hst533 rfl) ?_
            refine WD.gT 18 rfl (by kernel_rfl) rfl rfl (fun _ _ _ => Y.neq_i rfl rfl) rfl ?_
            refine WD.y 19 rfl (by kernel_rfl) (fun _ _ _ => Y.pick (b := false) rfl rfl) rfl ?_
            refine WD.ren 72 rfl (congrArg Value.bool hE492.symm) ?_
            exact hJ491 ((!decide (r525 = w64 (at175 + r301.N))), O530) _ _ _ ⟨some1 h, (Stp.up hst533 rfl), rfl⟩ (.cons rfl (.cons rfl (.cons rfl (.cons rfl (.cons rfl (.cons rfl (.cons rfl (.cons rfl (.cons rfl (.cons rfl (.cons rfl (.cons rfl (.cons rfl .nil)))))))))))))
          ·rintro ⟨x485, O486⟩ _ wd487 ⟨rfl, hst488, rfl⟩
           replace h := hk490
           try dsimp only at h hst488
           refine (show WD _ _ _ _ _ _ _ _ [(1, vi a1), (5, Value.pointer (some ⟨p128, 0, none⟩)), (7, vr49), (8, Value.pointer (some ⟨p57, 0, none⟩)), (9, Value.pointer (some ⟨p78, 0, none⟩)), (10, Value.pointer (some ⟨p99, 0, none⟩)), (11, v173), (12, vi at175), (13, vi i176), (14, Value.pointer (some ⟨p317, 0, none⟩)), (15, Value.pointer (some ⟨p387, 0, none⟩)), (16, vi r350), (80, Value.bool x485)] _ _ from ?_)
           refine WD.done_ (by kernel_rfl) ?_
           refine At.then ?_
           rcases cnd h with ⟨hc540, h⟩ | ⟨hc540, h⟩
           ·refine WC.condT' rfl hc540 ?_
            refine WC.seq ?_
            refine WC.region ?_
            refine WL.y (Y.assign rfl) rfl ?_
            refine WL.nil ?_
            refine At.then ?_
            refine WC.ret ?_
            refine At.thenR ?_
            refine At.inBlockR ?_
            refine At.thenR ?_
            refine At.loopR ?_
            have h := outr1 h hn295 hk194
            refine At.joinBR ?_
            refine At.inBlockR ?_
            have h := outs1 h hk126
            refine At.joinR ?_
            refine At.thenR ?_
            obtain rfl := some1 h
            have hs541 : Stp [11, 12, 13, 14, 15, 16, 17, 18, 19, 20, 21, 22, 23, 24, 28, 1001, 1002, 1003, 1004, 1005, 1006] (Lg.O0 A) w O486 wd487 := (Stp.trans (Stp.up hst20 rfl) (Stp.trans (Stp.up hst39 rfl) (Stp.trans (Stp.up hst53 rfl) (Stp.trans (Stp.up hst72 rfl) (Stp.trans (Stp.up hst93 rfl) (Stp.trans (Stp.up hst110 rfl) (Stp.trans (Stp.up hst179 rfl) (Stp.trans (Stp.up hst313 rfl) (Stp.trans (Stp.up hst320 rfl) (Stp.trans (Stp.up hst332 rfl) (Stp.trans (Stp.up hst378 rfl) (Stp.trans (Stp.up hst390 rfl) (Stp.trans (Stp.up hst402 rfl) (Stp.trans (Stp.up hst405 rfl) (Stp.trans (Stp.up hst429 rfl) (Stp.up hst488 rfl))))))))))))))))
            exact At.res (.inl rfl) rfl (.tmp rfl .nil) ⟨rfl, (Stp.ext hs541 rfl rfl)⟩
           ·refine WC.condF' rfl hc540 ?_
            refine WC.skip ?_
            refine At.then ?_
            refine WC.seq ?_
            refine WC.seq ?_
            refine WC.region ?_
            refine WL.y (Y.move rfl) rfl ?_
            refine WL.y (Y.neq_i rfl rfl) rfl ?_
            refine WL.nil ?_
            refine At.then ?_
            rcases cnd h with ⟨hc542, h⟩ | ⟨hc542, h⟩
            ·refine WC.condT' rfl hc542 ?_
             refine WC.seq ?_
             refine WC.region ?_
             refine WL.y (Y.move rfl) rfl ?_
             refine WL.y (Y.move rfl) rfl ?_
             have hf543 := ho381.st hst390 rfl rfl rfl
             have hf544 := hf543.st hst402 rfl rfl rfl
             have hf545 := hf544.st hst405 rfl rfl rfl
             have hf546 := hf545.st hst429 rfl rfl rfl
             have hf547 := hf546.st hst488 rfl rfl rfl
             have hf548 := ho382.st hst390 rfl rfl rfl
             have hf549 := hf548.st hst402 rfl rfl rfl
             have hf550 := hf549.st hst405 rfl rfl rfl
             have hf551 := hf550.st hst429 rfl rfl rfl
             have hf552 := hf551.st hst488 rfl rfl rfl
             have hf553 := hb383.st hst390 rfl
             have hf554 := hf553.st hst402 rfl
             have hf555 := hf554.st hst405 rfl
             have hf556 := hf555.st hst429 rfl
             have hf557 := hf556.st hst488 rfl
             have hf558 := hb385.st hst390 rfl
             have hf559 := hf558.st hst402 rfl
             have hf560 := hf559.st hst405 rfl
             have hf561 := hf560.st hst429 rfl
             have hf562 := hf561.st hst488 rfl
             have hf563 := hf384.mono (imm_st hst390 rfl rfl)
             have hf564 := hf563.mono (imm_st hst402 rfl rfl)
             have hf565 := hf564.mono (imm_st hst405 rfl rfl)
             have hf566 := hf565.mono (imm_st hst429 rfl rfl)
             have hf567 := hf566.mono (imm_st hst488 rfl rfl)
             obtain ⟨⟨r568, r569, r570, r571⟩, hp572, h⟩ := bnd h
             refine WL.call (vals := [Value.pointer (some ⟨p57, 0, none⟩), Value.pointer (some ⟨p128, 0, none⟩)]) kok50 rfl rfl (c_histbits_Row_Get (A := imm O486) (a0 := r351) (a1 := r352) hf547.row hf552.row hf557.blk hf567 hf562.blk (ne_lab hf547 hf557.lab rfl) (ne_lab hf552 hf557.lab rfl) (ne_blk hf557.lab hf562.lab rfl) (ne_own hf547 hf552 rfl) (ne_lab hf547 hf562.lab rfl) (ne_lab hf552 hf562.lab rfl) (fun k hk => ⟨imm_ne hf557.lab rfl k hk, imm_neV (w := wd487) hf547.labs rfl k hk, imm_neV (w := wd487) hf552.labs rfl k hk, imm_ne hf562.lab rfl k hk⟩) hp572) ?_
             rintro vr593 wd592 ⟨u573, u574, z575, z576, z577, rfl, hm591, f578, f579, f580, f581, f582, f583, f584, f585, f586, f587, f588, f589, f590⟩
             obtain ⟨O594, hold595, hnew596, hst597⟩ := adopt O486 (fun k => if Value.ownBlock u573 = some k then 25 else if Value.ownBlock u574 = some k then 26 else if Value.ownBlock z575 = some k then 1001 else if Value.ownBlock z576 = some k then 1002 else 1) [13, 1001, 1002, 11] hm591 (memOr (memB hf557.lab rfl) (memOr (memV hf547.labs rfl) (memOr (memV hf552.labs rfl) (memB hf562.lab rfl))))
             have hf598 : OwnSl 25 Rep.u 22 O594 wd592 u573 r568.Pos.Counts := RowF.adopt 25 Flat.u f578 hnew596 (fun k hk => if_pos hk)
             have hf599 : OwnSl 26 Rep.u 22 O594 wd592 u574 r568.Neg.Counts := RowF.adopt 26 Flat.u f579 hnew596 (fun k hk => (if_neg (fun (e : Value.ownBlock u573 = some k) => f585 k e hk)).trans (if_pos hk))
             have ho600 : OwnSl 1001 Rep.u 22 O594 wd592 z575 r570.last.Pos.Counts := RowG.adopt Flat.u hf547.labs f580 hold595 hnew596 (fun k hk => (if_neg (fun (e : Value.ownBlock u573 = some k) => f586 k e hk)).trans ((if_neg (fun (e : Value.ownBlock u574 = some k) => f587 k e hk)).trans (if_pos hk)))
             have ho601 : OwnSl 1002 Rep.u 22 O594 wd592 z576 r570.last.Neg.Counts := RowG.adopt Flat.u hf552.labs f581 hold595 hnew596 (fun k hk => (if_neg (fun (e : Value.ownBlock u573 = some k) => f588 k e hk)).trans ((if_neg (fun (e : Value.ownBlock u574 = some k) => f589 k e hk)).trans ((if_neg (fun (e : Value.ownBlock z575 = some k) => f590 k e hk)).trans (if_pos hk))))
             have hb602 : Blk 13 O594 wd592 p57 88 [vi r570.n, vi r570.last.Scale, vu r570.last.Zero, vi r570.last.Pos.Offset, z575, vi r570.last.Neg.Offset, z576] := Blk.adopt hf557 hold595 f582
             have hf603 : Sl Rep.b wd592 (imm O594) z577 r571.b := Sl.adoptIB (O := O486) f583 (fun _ hk => hk) (fun k hk => (if_neg hk.1).trans ((if_neg hk.2.1).trans ((if_neg hk.2.2.1).trans ((if_neg hk.2.2.2).trans rfl)))) hold595 hnew596
             have hb604 : Blk 11 O594 wd592 p128 107 [z577, vi r571.n, vi r571.at_] := Blk.adopt hf562 hold595 f584
             refine WL.y (Y.move rfl) rfl ?_
             refine WL.y (Y.extract rfl rfl) rfl ?_
             refine WL.y (Y.extract rfl rfl) rfl ?_
             refine WL.y (Y.assign rfl) rfl ?_
             refine WL.nil ?_
             refine At.then ?_
             refine WC.seq ?_
             refine WC.seq ?_
             refine WC.region ?_
             refine WL.y (Y.move rfl) rfl ?_
             refine WL.y (Y.fieldAddr fo67_2 rfl) rfl ?_
             have hf605 := hb333.st hst378 rfl
             have hf606 := hf605.st hst390 rfl
             have hf607 := hf606.st hst402 rfl
             have hf608 := hf607.st hst405 rfl
             have hf609 := hf608.st hst429 rfl
             have hf610 := hf609.st hst488 rfl
             have hf611 := hf610.st hst597 rfl
             refine WL.y (Y.loadSc ty32 rfl rfl (hf611.cell 7 _ rfl)) rfl ?_
             refine WL.y (Y.neq_i rfl rfl) rfl ?_
             refine WL.y (Y.move rfl) rfl ?_
             obtain ⟨p616, h, hk617⟩ := bnd h
             refine WL.cut 6 (σ := (Bool × Own)) (fun x w' => x.1 = p616 ∧ Stp [] O594 wd592 x.2 w') (fun x => [(7, vr49), (10, Value.pointer (some ⟨p99, 0, none⟩)), (12, vi at175), (99, Value.bool x.1)]) ?_ ?_
             ·rcases cnd h with ⟨hE618, h⟩ | ⟨hE618, h⟩
              ·refine WL.ren 93 rfl (congrArg Value.bool hE618) ?_
               refine WL.gS rfl rfl rfl rfl ?_
               refine WL.gS rfl rfl rfl rfl ?_
               refine WL.gS rfl rfl rfl rfl ?_
               refine WL.gS rfl rfl rfl rfl ?_
               refine WL.gS rfl rfl rfl rfl ?_
               refine WL.y (Y.pick (b := true) rfl rfl) rfl ?_
               exact WL.nil (At.join (σ := (Bool × Own)) (true, O594) ⟨some1 h, (Stp.refl _ _ _)⟩ (.cons rfl (.cons rfl (.cons rfl (.cons rfl .nil)))))
              ·refine WL.ren 93 rfl (congrArg Value.bool hE618) ?_
               refine WL.ung rfl rfl ?_
               refine WL.y (Y.move rfl) rfl ?_
               refine WL.ung rfl rfl ?_
               obtain ⟨r619, hp620, h⟩ := bnd h
               refine WL.call (vals := [Value.pointer (some ⟨p57, 0, none⟩)]) kok36 rfl rfl (c_histbits_Row_Len (A := fun _ => True) (a0 := r570) (ho600.src.sl) (ho601.src.sl) hb602.blk trivial hp620) ?_
               rintro vr623 wd622 ⟨rfl, hm621⟩
               obtain ⟨O624, hold625, hnew626, hst627⟩ := adoptE O594 (fun k => 1) hm621
               refine WL.ung rfl rfl ?_
               refine WL.y (Y.move rfl) rfl ?_
               refine WL.ung rfl rfl ?_
               have hf628 := hf174.st hst313 rfl rfl rfl
               have hf629 := hf628.st hst320 rfl rfl rfl
               have hf630 := hf629.st hst332 rfl rfl rfl
               have hf631 := hf630.st hst378 rfl rfl rfl
               have hf632 := hf631.st hst390 rfl rfl rfl
               have hf633 := hf632.st hst402 rfl rfl rfl
               have hf634 := hf633.st hst405 rfl rfl rfl
               have hf635 := hf634.st hst429 rfl rfl rfl
               have hf636 := hf635.st hst488 rfl rfl rfl
               have hf637 := hf636.st hst597 rfl rfl rfl
               have hf638 := hf637.st hst627 rfl rfl rfl
               refine WL.y (Y.len ty45 rfl hf638.src.sl) rfl ?_
               refine WL.ung rfl rfl ?_
               refine WL.y (Y.neq_i rfl rfl) rfl ?_
               refine WL.y (Y.pick (b := false) rfl rfl) rfl ?_
               exact WL.nil (At.join (σ := (Bool × Own)) ((!decide (r619 = (row172.length : Int))), O624) ⟨some1 h, (Stp.up hst627 rfl)⟩ (.cons rfl (.cons rfl (.cons rfl (.cons rfl .nil)))))
             ·rintro ⟨x612, O613⟩ wd614 ⟨rfl, hst615⟩
              replace h := hk617
              try dsimp only at h hst615
              refine (show WL _ _ _ _ _ [(7, vr49), (10, Value.pointer (some ⟨p99, 0, none⟩)), (12, vi at175), (99, Value.bool x612)] _ from ?_)
              refine WL.nil ?_
              refine At.then ?_
              rcases cnd h with ⟨hc639, h⟩ | ⟨hc639, h⟩
              ·refine WC.condT' rfl hc639 ?_
               refine WC.seq ?_
               refine WC.region ?_
               refine WL.y (Y.assign rfl) rfl ?_
               refine WL.nil ?_
               refine At.then ?_
               refine WC.ret ?_
               refine At.thenR ?_
               refine At.thenR ?_
               refine At.inBlockR ?_
               refine At.thenR ?_
               refine At.loopR ?_
               have h := outr1 h hn295 hk194
               refine At.joinBR ?_
               refine At.inBlockR ?_
               have h := outs1 h hk126
               refine At.joinR ?_
               refine At.thenR ?_
               obtain rfl := some1 h
               have hs640 : Stp [11, 12, 13, 14, 15, 16, 17, 18, 19, 20, 21, 22, 23, 24, 28, 1001, 1002, 1003, 1004, 1005, 1006] (Lg.O0 A) w O613 wd614 := (Stp.trans (Stp.up hst20 rfl) (Stp.trans (Stp.up hst39 rfl) (Stp.trans (Stp.up hst53 rfl) (Stp.trans (Stp.up hst72 rfl) (Stp.trans (Stp.up hst93 rfl) (Stp.trans (Stp.up hst110 rfl) (Stp.trans (Stp.up hst179 rfl) (Stp.trans (Stp.up hst313 rfl) (Stp.trans (Stp.up hst320 rfl) (Stp.trans (Stp.up hst332 rfl) (Stp.trans (Stp.up hst378 rfl) (Stp.trans (Stp.up hst390 rfl) (Stp.trans (Stp.up hst402 rfl) (Stp.trans (Stp.up hst405 rfl) (Stp.trans (Stp.up hst429 rfl) (Stp.trans (Stp.up hst488 rfl) (Stp.trans (Stp.up hst597 rfl) (Stp.up hst615 rfl))))))))))))))))))
               exact At.res (.inl rfl) rfl (.tmp rfl .nil) ⟨rfl, (Stp.ext hs640 rfl rfl)⟩
              ·refine WC.condF' rfl hc639 ?_
               refine WC.skip ?_
               refine At.then ?_
               refine WC.exit ?_
               refine At.thenX ?_
               refine At.inBlockMiss rfl ?_
               refine At.thenX ?_
               refine At.loopX ?_
               have hf641 := hf170.st hst313 rfl rfl rfl
               have hf642 := hf641.st hst320 rfl rfl rfl
               have hf643 := hf642.st hst332 rfl rfl rfl
               have hf644 := hf643.st hst378 rfl rfl rfl
               have hf645 := hf644.st hst390 rfl rfl rfl
               have hf646 := hf645.st hst402 rfl rfl rfl
               have hf647 := hf646.st hst405 rfl rfl rfl
               have hf648 := hf647.st hst429 rfl rfl rfl
               have hf649 := hf648.st hst488 rfl rfl rfl
               have hf650 := hf649.st hst597 rfl rfl rfl
               have hf651 := hf650.st hst615 rfl rfl rfl
               obtain ⟨O652, hst653, ho654⟩ := OwnSl.rlb 1007 rfl hf651
               have hf655 := hf142.mono (frs_st hst313 rfl)
               have hf656 := hf655.mono (frs_st hst320 rfl)
               have hf657 := hf656.mono (frs_st hst332 rfl)
               have hf658 := hf657.mono (frs_st hst378 rfl)
               have hf659 := hf658.mono (frs_st hst390 rfl)
               have hf660 := hf659.mono (frs_st hst402 rfl)
               have hf661 := hf660.mono (frs_st hst405 rfl)
               have hf662 := hf661.mono (frs_st hst429 rfl)
               have hf663 := hf662.mono (frs_st hst488 rfl)
               have hf664 := hf663.mono (frs_st hst597 rfl)
               have hf665 := hf664.mono (frs_st hst615 rfl)
               have hf666 := hf665.mono (frs_st hst653 rfl)
               have hf667 := hb167.st hst313 rfl
               have hf668 := hf667.st hst320 rfl
               have hf669 := hf668.st hst332 rfl
               have hf670 := hf669.st hst378 rfl
               have hf671 := hf670.st hst390 rfl
               have hf672 := hf671.st hst402 rfl
               have hf673 := hf672.st hst405 rfl
               have hf674 := hf673.st hst429 rfl
               have hf675 := hf674.st hst488 rfl
               have hf676 := hf675.st hst597 rfl
               have hf677 := hf676.st hst615 rfl
               have hf678 := hf677.st hst653 rfl
               exact At.hitB (σ := (List Int × List UInt8 × Int × Int × Own × Value)) (l140, c168, c171, at175, O652, v169) ⟨brk1 h hn295, (Stp.trans (Stp.up hst179 rfl) (Stp.trans (Stp.up hst313 rfl) (Stp.trans (Stp.up hst320 rfl) (Stp.trans (Stp.up hst332 rfl) (Stp.trans (Stp.up hst378 rfl) (Stp.trans (Stp.up hst390 rfl) (Stp.trans (Stp.up hst402 rfl) (Stp.trans (Stp.up hst405 rfl) (Stp.trans (Stp.up hst429 rfl) (Stp.trans (Stp.up hst488 rfl) (Stp.trans (Stp.up hst597 rfl) (Stp.trans (Stp.up hst615 rfl) (Stp.up hst653 rfl))))))))))))), hf666, ho654, hf678⟩ (.cons rfl (.cons rfl (.cons rfl .nil)))
            ·refine WC.condF' rfl hc542 ?_
             refine WC.skip ?_
             refine At.then ?_
             refine WC.seq ?_
             refine WC.region ?_
             refine WL.y (Y.move rfl) rfl ?_
             refine WL.y (Y.fieldAddr fo67_1 rfl) rfl ?_
             have hf679 := hb333.st hst378 rfl
             have hf680 := hf679.st hst390 rfl
             have hf681 := hf680.st hst402 rfl
             have hf682 := hf681.st hst405 rfl
             have hf683 := hf682.st hst429 rfl
             have hf684 := hf683.st hst488 rfl
             refine WL.y (Y.loadSc ty3 rfl rfl (hf684.cell 6 _ rfl)) rfl ?_
             refine WL.y (Y.add_i rfl rfl) rfl ?_
             obtain ⟨at685, hat685, h⟩ := lt1 h
             refine WL.yE (Y.assign rfl) (congrArg vi hat685.symm) rfl ?_
             refine WL.nil ?_
             refine At.then ?_
             refine WC.seq ?_
             refine WC.region ?_
             refine WL.y (Y.move rfl) rfl ?_
             have hf686 := hb403.st hst405 rfl
             have hf687 := hf686.st hst429 rfl
             have hf688 := hf687.st hst488 rfl
             refine WL.y (Y.loadAg ty27 rfl rfl (hf688.cells 0 [vi r349.Scale, vu r349.Zero, vi r349.Pos.Offset, (Value.slice p392 m393 c394), vi r349.Neg.Offset, (Value.slice p397 m398 c399)] rfl) rfl) rfl ?_
             have hf691 := hf391.st hst402 rfl rfl rfl
             have hf692 := hf691.st hst405 rfl rfl rfl
             have hf693 := hf692.st hst429 rfl rfl rfl
             have hf694 := hf693.st hst488 rfl rfl rfl
             obtain ⟨O695, hst696, hf697⟩ := OwnSl.giveF rfl Flat.u hf694
             have hf698 := hf396.st hst402 rfl rfl rfl
             have hf699 := hf698.st hst405 rfl rfl rfl
             have hf700 := hf699.st hst429 rfl rfl rfl
             have hf701 := hf700.st hst488 rfl rfl rfl
             have hf702 := hf701.st hst696 rfl rfl rfl
             obtain ⟨O703, hst704, hf705⟩ := OwnSl.giveF rfl Flat.u hf702
             have hf706 := hf697.mono (frs_st hst704 rfl)
             refine WL.buildSlice (O := O703) (R := rep_api_Hist) (vals := [(0, Value.agg (List.toArray [vi r349.Scale, vu r349.Zero, vi r349.Pos.Offset, (Value.slice p392 m393 c394), vi r349.Neg.Offset, (Value.slice p397 m398 c399)]))]) 27 [vi r349.Scale, vu r349.Zero, vi r349.Pos.Offset, (Value.slice p392 m393 c394), vi r349.Neg.Offset, (Value.slice p397 m398 c399)] (xs := [r349]) (by decide) ty45 ty27 (by decide) (by decide) (Fits.evalp rfl) (by kernel_rfl) rfl ⟨[vi r349.Scale, vu r349.Zero, vi r349.Pos.Offset, (Value.slice p392 m393 c394), vi r349.Neg.Offset, (Value.slice p397 m398 c399)], [], rfl, ⟨[vi r349.Scale], [vu r349.Zero, vi r349.Pos.Offset, (Value.slice p392 m393 c394), vi r349.Neg.Offset, (Value.slice p397 m398 c399)], rfl, rfl, ⟨[vu r349.Zero], [vi r349.Pos.Offset, (Value.slice p392 m393 c394), vi r349.Neg.Offset, (Value.slice p397 m398 c399)], rfl, rfl, ⟨[vi r349.Pos.Offset, (Value.slice p392 m393 c394)], [vi r349.Neg.Offset, (Value.slice p397 m398 c399)], rfl, ⟨[vi r349.Pos.Offset], [(Value.slice p392 m393 c394)], rfl, rfl, ⟨_, rfl, (Sl.mono hf706 frs_imm)⟩⟩, ⟨[vi r349.Neg.Offset], [(Value.slice p397 m398 c399)], rfl, rfl, ⟨_, rfl, (Sl.mono hf705 frs_imm)⟩⟩⟩⟩⟩, rfl⟩ rfl ?_
             intro v689 O707 wd708 hst709 ho690
             obtain ⟨xs710, hxs710, h⟩ := bnd h
             have hf711 := hf174.st hst313 rfl rfl rfl
             have hf712 := hf711.st hst320 rfl rfl rfl
             have hf713 := hf712.st hst332 rfl rfl rfl
             have hf714 := hf713.st hst378 rfl rfl rfl
             have hf715 := hf714.st hst390 rfl rfl rfl
             have hf716 := hf715.st hst402 rfl rfl rfl
             have hf717 := hf716.st hst405 rfl rfl rfl
             have hf718 := hf717.st hst429 rfl rfl rfl
             have hf719 := hf718.st hst488 rfl rfl rfl
             have hf720 := hf719.st hst696 rfl rfl rfl
             have hf721 := hf720.st hst704 rfl rfl rfl
             have hf722 := hf721.st hst709 rfl rfl rfl
             refine WL.append (by decide) ty45 ty27 rfl (by decide) rfl rfl hf722 ho690.src hxs710 rfl ?_
             intro v726 O723 wd724 hst725 ho727
             refine WL.y (Y.assign rfl) rfl ?_
             refine WL.nil ?_
             refine At.then ?_
             refine WC.seq ?_
             refine WC.region ?_
             refine WL.y (Y.move rfl) rfl ?_
             refine WL.y (Y.move rfl) rfl ?_
             have hf728 := hf688.st hst696 rfl
             have hf729 := hf728.st hst704 rfl
             have hf730 := hf729.st hst709 rfl
             have hf731 := hf730.st hst725 rfl
             refine WL.y (Y.loadAg ty27 rfl rfl (hf731.cells 0 [vi r349.Scale, vu r349.Zero, vi r349.Pos.Offset, (Value.slice p392 m393 c394), vi r349.Neg.Offset, (Value.slice p397 m398 c399)] rfl) rfl) rfl ?_
             have hf732 := hf162.st hst313 rfl rfl rfl
             have hf733 := hf732.st hst320 rfl rfl rfl
             have hf734 := hf733.st hst332 rfl rfl rfl
             have hf735 := hf734.st hst378 rfl rfl rfl
             have hf736 := hf735.st hst390 rfl rfl rfl
             have hf737 := hf736.st hst402 rfl rfl rfl
             have hf738 := hf737.st hst405 rfl rfl rfl
             have hf739 := hf738.st hst429 rfl rfl rfl
             have hf740 := hf739.st hst488 rfl rfl rfl
             have hf741 := hf740.st hst696 rfl rfl rfl
             have hf742 := hf741.st hst704 rfl rfl rfl
             have hf743 := hf742.st hst709 rfl rfl rfl
             have hf744 := hf743.st hst725 rfl rfl rfl
             have hf745 := hf166.st hst313 rfl rfl rfl
             have hf746 := hf745.st hst320 rfl rfl rfl
             have hf747 := hf746.st hst332 rfl rfl rfl
             have hf748 := hf747.st hst378 rfl rfl rfl
             have hf749 := hf748.st hst390 rfl rfl rfl
             have hf750 := hf749.st hst402 rfl rfl rfl
             have hf751 := hf750.st hst405 rfl rfl rfl
             have hf752 := hf751.st hst429 rfl rfl rfl
             have hf753 := hf752.st hst488 rfl rfl rfl
             have hf754 := hf753.st hst696 rfl rfl rfl
             have hf755 := hf754.st hst704 rfl rfl rfl
             have hf756 := hf755.st hst709 rfl rfl rfl
             have hf757 := hf756.st hst725 rfl rfl rfl
             have hf758 := hf170.st hst313 rfl rfl rfl
             have hf759 := hf758.st hst320 rfl rfl rfl
             have hf760 := hf759.st hst332 rfl rfl rfl
             have hf761 := hf760.st hst378 rfl rfl rfl
             have hf762 := hf761.st hst390 rfl rfl rfl
             have hf763 := hf762.st hst402 rfl rfl rfl
             have hf764 := hf763.st hst405 rfl rfl rfl
             have hf765 := hf764.st hst429 rfl rfl rfl
             have hf766 := hf765.st hst488 rfl rfl rfl
             have hf767 := hf766.st hst696 rfl rfl rfl
             have hf768 := hf767.st hst704 rfl rfl rfl
             have hf769 := hf768.st hst709 rfl rfl rfl
             have hf770 := hf769.st hst725 rfl rfl rfl
             have hf771 := hb155.st hst313 rfl
             have hf772 := hf771.st hst320 rfl
             have hf773 := hf772.st hst332 rfl
             have hf774 := hf773.st hst378 rfl
             have hf775 := hf774.st hst390 rfl
             have hf776 := hf775.st hst402 rfl
             have hf777 := hf776.st hst405 rfl
             have hf778 := hf777.st hst429 rfl
             have hf779 := hf778.st hst488 rfl
             have hf780 := hf779.st hst696 rfl
             have hf781 := hf780.st hst704 rfl
             have hf782 := hf781.st hst709 rfl
             have hf783 := hf782.st hst725 rfl
             have hf784 := hb167.st hst313 rfl
             have hf785 := hf784.st hst320 rfl
             have hf786 := hf785.st hst332 rfl
             have hf787 := hf786.st hst378 rfl
             have hf788 := hf787.st hst390 rfl
             have hf789 := hf788.st hst402 rfl
             have hf790 := hf789.st hst405 rfl
             have hf791 := hf790.st hst429 rfl
             have hf792 := hf791.st hst488 rfl
             have hf793 := hf792.st hst696 rfl
             have hf794 := hf793.st hst704 rfl
             have hf795 := hf794.st hst709 rfl
             have hf796 := hf795.st hst725 rfl
             have hf797 := hf706.mono (frs_st hst709 rfl)
             have hf798 := hf797.mono (frs_st hst725 rfl)
             have hf799 := hf705.mono (frs_st hst709 rfl)
             have hf800 := hf799.mono (frs_st hst725 rfl)
             obtain ⟨⟨r801, r802, r803⟩, hp804, h⟩ := bnd h
             refine WL.call (vals := [Value.pointer (some ⟨p78, 0, none⟩), Value.pointer (some ⟨p99, 0, none⟩), Value.agg (List.toArray [vi r349.Scale, vu r349.Zero, vi r349.Pos.Offset, (Value.slice p392 m393 c394), vi r349.Neg.Offset, (Value.slice p397 m398 c399)])]) kok34 rfl rfl (c_histbits_Row_Put (A := out [16, 1003, 1004, 19, 1005] O723) (a0 := (histbits_Row.mk c156 (api_Hist.mk c157 c158 (api_Side.mk c159 c160) (api_Side.mk c163 c164)))) (a1 := (bitio_Writer.mk c168 c171)) (a2 := r349) hf744.row hf757.row hf783.blk hf770.row hf796.blk (Sl.notin (L := [16, 1003, 1004, 19, 1005]) (Sl.mono hf798 frs_imm) rfl rfl) (Sl.notin (L := [16, 1003, 1004, 19, 1005]) (Sl.mono hf800 frs_imm) rfl rfl) (ne_lab hf744 hf783.lab rfl) (ne_lab hf757 hf783.lab rfl) (ne_blk hf783.lab hf796.lab rfl) (ne_lab hf770 hf783.lab rfl) (ne_own hf744 hf757 rfl) (ne_lab hf744 hf796.lab rfl) (ne_own hf744 hf770 rfl) (ne_lab hf757 hf796.lab rfl) (ne_own hf757 hf770 rfl) (ne_lab hf770 hf796.lab rfl) (fun k hk => ⟨out_ne hf783.lab rfl k hk, out_neV (w := wd724) hf744.labs rfl k hk, out_neV (w := wd724) hf757.labs rfl k hk, out_ne hf796.lab rfl k hk, out_neV (w := wd724) hf770.labs rfl k hk⟩) hp804) ?_
             rintro vr818 wd817 ⟨z805, z806, z807, rfl, hm816, f808, f809, f810, f811, f812, f813, f814, f815⟩
             obtain ⟨O819, hold820, hnew821, hst822⟩ := adopt O723 (fun k => if Value.ownBlock z805 = some k then 1003 else if Value.ownBlock z806 = some k then 1004 else if Value.ownBlock z807 = some k then 1005 else 1) [16, 1003, 1004, 19, 1005] hm816 (memOr (memB hf783.lab rfl) (memOr (memV hf744.labs rfl) (memOr (memV hf757.labs rfl) (memOr (memB hf796.lab rfl) (memV hf770.labs rfl)))))
             have ho823 : OwnSl 1003 Rep.u 22 O819 wd817 z805 r802.last.Pos.Counts := RowG.adopt Flat.u hf744.labs f808 hold820 hnew821 (fun k hk => if_pos hk)
             have ho824 : OwnSl 1004 Rep.u 22 O819 wd817 z806 r802.last.Neg.Counts := RowG.adopt Flat.u hf757.labs f809 hold820 hnew821 (fun k hk => (if_neg (fun (e : Value.ownBlock z805 = some k) => f813 k e hk)).trans (if_pos hk))
             have hb825 : Blk 16 O819 wd817 p78 88 [vi r802.n, vi r802.last.Scale, vu r802.last.Zero, vi r802.last.Pos.Offset, z805, vi r802.last.Neg.Offset, z806] := Blk.adopt hf783 hold820 f810
             have ho826 : OwnSl 1005 Rep.b 5 O819 wd817 z807 r803.b := RowG.adopt Flat.b hf770.labs f811 hold820 hnew821 (fun k hk => (if_neg (fun (e : Value.ownBlock z805 = some k) => f814 k e hk)).trans ((if_neg (fun (e : Value.ownBlock z806 = some k) => f815 k e hk)).trans (if_pos hk)))
             have hb827 : Blk 19 O819 wd817 p99 86 [z807, vi r803.n] := Blk.adopt hf796 hold820 f812
             refine WL.y (Y.neq_i rfl rfl) rfl ?_
             refine WL.nil ?_
             refine At.then ?_
             rcases cnd h with ⟨hc828, h⟩ | ⟨hc828, h⟩
             ·refine WC.condT' rfl hc828 ?_
              refine WC.seq ?_
              refine WC.region ?_
              refine WL.y (Y.assign rfl) rfl ?_
              refine WL.nil ?_
              refine At.then ?_
              refine WC.ret ?_
              refine At.inBlockR ?_
              refine At.thenR ?_
              refine At.loopR ?_
              have h := outr1 h hn295 hk194
              refine At.joinBR ?_
              refine At.inBlockR ?_
              have h := outs1 h hk126
              refine At.joinR ?_
              refine At.thenR ?_
              obtain rfl := some1 h
              have hs829 : Stp [11, 12, 13, 14, 15, 16, 17, 18, 19, 20, 21, 22, 23, 24, 28, 1001, 1002, 1003, 1004, 1005, 1006] (Lg.O0 A) w O819 wd817 := (Stp.trans (Stp.up hst20 rfl) (Stp.trans (Stp.up hst39 rfl) (Stp.trans (Stp.up hst53 rfl) (Stp.trans (Stp.up hst72 rfl) (Stp.trans (Stp.up hst93 rfl) (Stp.trans (Stp.up hst110 rfl) (Stp.trans (Stp.up hst179 rfl) (Stp.trans (Stp.up hst313 rfl) (Stp.trans (Stp.up hst320 rfl) (Stp.trans (Stp.up hst332 rfl) (Stp.trans (Stp.up hst378 rfl) (Stp.trans (Stp.up hst390 rfl) (Stp.trans (Stp.up hst402 rfl) (Stp.trans (Stp.up hst405 rfl) (Stp.trans (Stp.up hst429 rfl) (Stp.trans (Stp.up hst488 rfl) (Stp.trans (Stp.up hst696 rfl) (Stp.trans (Stp.up hst704 rfl) (Stp.trans (Stp.up hst709 rfl) (Stp.trans (Stp.up hst725 rfl) (Stp.up hst822 rfl)))))))))))))))))))))
              exact At.res (.inl rfl) rfl (.tmp rfl .nil) ⟨rfl, (Stp.ext hs829 rfl rfl)⟩
             ·refine WC.condF' rfl hc828 ?_
              refine WC.skip ?_
              refine At.inBlock ?_
              refine At.then ?_
              refine WC.region ?_
              refine WL.y (Y.move rfl) rfl ?_
              refine WL.y (Y.add_i rfl rfl) rfl ?_
              obtain ⟨i830, hi830, h⟩ := lt1 h
              refine WL.yE (Y.assign rfl) (congrArg vi hi830.symm) rfl ?_
              refine WL.nil ?_
              have hf831 := hf384.mono (imm_st hst390 rfl rfl)
              have hf832 := hf831.mono (imm_st hst402 rfl rfl)
              have hf833 := hf832.mono (imm_st hst405 rfl rfl)
              have hf834 := hf833.mono (imm_st hst429 rfl rfl)
              have hf835 := hf834.mono (imm_st hst488 rfl rfl)
              have hf836 := hf835.mono (imm_st hst696 rfl rfl)
              have hf837 := hf836.mono (imm_st hst704 rfl rfl)
              have hf838 := hf837.mono (imm_st hst709 rfl rfl)
              have hf839 := hf838.mono (imm_st hst725 rfl rfl)
              have hf840 := hf839.mono (imm_st hst822 rfl rfl)
              have hf841 := hb385.st hst390 rfl
              have hf842 := hf841.st hst402 rfl
              have hf843 := hf842.st hst405 rfl
              have hf844 := hf843.st hst429 rfl
              have hf845 := hf844.st hst488 rfl
              have hf846 := hf845.st hst696 rfl
              have hf847 := hf846.st hst704 rfl
              have hf848 := hf847.st hst709 rfl
              have hf849 := hf848.st hst725 rfl
              have hf850 := hf849.st hst822 rfl
              have hf851 := hf142.mono (frs_st hst313 rfl)
              have hf852 := hf851.mono (frs_st hst320 rfl)
              have hf853 := hf852.mono (frs_st hst332 rfl)
              have hf854 := hf853.mono (frs_st hst378 rfl)
              have hf855 := hf854.mono (frs_st hst390 rfl)
              have hf856 := hf855.mono (frs_st hst402 rfl)
              have hf857 := hf856.mono (frs_st hst405 rfl)
              have hf858 := hf857.mono (frs_st hst429 rfl)
              have hf859 := hf858.mono (frs_st hst488 rfl)
              have hf860 := hf859.mono (frs_st hst696 rfl)
              have hf861 := hf860.mono (frs_st hst704 rfl)
              have hf862 := hf861.mono (frs_st hst709 rfl)
              have hf863 := hf862.mono (frs_st hst725 rfl)
              have hf864 := hf863.mono (frs_st hst822 rfl)
              have hf865 := ho381.st hst390 rfl rfl rfl
              have hf866 := hf865.st hst402 rfl rfl rfl
              have hf867 := hf866.st hst405 rfl rfl rfl
              have hf868 := hf867.st hst429 rfl rfl rfl
              have hf869 := hf868.st hst488 rfl rfl rfl
              have hf870 := hf869.st hst696 rfl rfl rfl
              have hf871 := hf870.st hst704 rfl rfl rfl
              have hf872 := hf871.st hst709 rfl rfl rfl
              have hf873 := hf872.st hst725 rfl rfl rfl
              have hf874 := hf873.st hst822 rfl rfl rfl
              have hf875 := ho382.st hst390 rfl rfl rfl
              have hf876 := hf875.st hst402 rfl rfl rfl
              have hf877 := hf876.st hst405 rfl rfl rfl
              have hf878 := hf877.st hst429 rfl rfl rfl
              have hf879 := hf878.st hst488 rfl rfl rfl
              have hf880 := hf879.st hst696 rfl rfl rfl
              have hf881 := hf880.st hst704 rfl rfl rfl
              have hf882 := hf881.st hst709 rfl rfl rfl
              have hf883 := hf882.st hst725 rfl rfl rfl
              have hf884 := hf883.st hst822 rfl rfl rfl
              have hf885 := hb383.st hst390 rfl
              have hf886 := hf885.st hst402 rfl
              have hf887 := hf886.st hst405 rfl
              have hf888 := hf887.st hst429 rfl
              have hf889 := hf888.st hst488 rfl
              have hf890 := hf889.st hst696 rfl
              have hf891 := hf890.st hst704 rfl
              have hf892 := hf891.st hst709 rfl
              have hf893 := hf892.st hst725 rfl
              have hf894 := hf893.st hst822 rfl
              have hf895 := ho727.st hst822 rfl rfl rfl
              exact At.round (r352.b, r352.n, r352.at_, l140, r351.n, r351.last.Scale, r351.last.Zero, r351.last.Pos.Offset, r351.last.Pos.Counts, r351.last.Neg.Offset, r351.last.Neg.Counts, r802.n, r802.last.Scale, r802.last.Zero, r802.last.Pos.Offset, r802.last.Pos.Counts, r802.last.Neg.Offset, r802.last.Neg.Counts, r803.b, r803.n, xs710, at685, i830, O819, z358, z356, z357, z805, z806, z807, v726) j293 (Nat.lt_succ_self _) ⟨next1 h hn295, (Stp.trans (Stp.up hst179 rfl) (Stp.trans (Stp.up hst313 rfl) (Stp.trans (Stp.up hst320 rfl) (Stp.trans (Stp.up hst332 rfl) (Stp.trans (Stp.up hst378 rfl) (Stp.trans (Stp.up hst390 rfl) (Stp.trans (Stp.up hst402 rfl) (Stp.trans (Stp.up hst405 rfl) (Stp.trans (Stp.up hst429 rfl) (Stp.trans (Stp.up hst488 rfl) (Stp.trans (Stp.up hst696 rfl) (Stp.trans (Stp.up hst704 rfl) (Stp.trans (Stp.up hst709 rfl) (Stp.trans (Stp.up hst725 rfl) (Stp.up hst822 rfl))))))))))))))), hf840, hf850, hf864, hf874, hf884, hf894, ho823, ho824, hb825, ho826, hb827, hf895⟩ (.cons rfl (.cons rfl (.cons rfl (.cons rfl (.cons rfl (.cons rfl (.cons rfl (.cons rfl (.cons rfl .nil)))))))))
        ·refine WC.condF' rfl hc296 ?_
         refine WC.exit ?_
         refine At.thenX ?_
         refine At.loopX ?_
         obtain ⟨O896, hst897, ho898⟩ := OwnSl.rlb 1007 rfl hf170
         have hf899 := hf142.mono (frs_st hst897 rfl)
         have hf900 := hb167.st hst897 rfl
         exact At.hitB (σ := (List Int × List UInt8 × Int × Int × Own × Value)) (l140, c168, c171, at175, O896, v169) ⟨brk1 h hn295, (Stp.trans (Stp.up hst179 rfl) (Stp.up hst897 rfl)), hf899, ho898, hf900⟩ (.cons rfl (.cons rfl (.cons rfl .nil)))
       ·rintro ⟨l180, c184, c187, at188, O189, v185⟩ wd190 ⟨rfl, hst191, hf182, hf186, hb183⟩
        replace h := flowK_go hk194
        try dsimp only at h hst191 hf182 hf186 hb183
        refine (show At _ _ _ [(7, vr49), (10, Value.pointer (some ⟨p99, 0, none⟩)), (12, vi at188)] _ from ?_)
        refine At.inBlockHit ?_
        obtain ⟨O901, hst902, ho903⟩ := OwnSl.rlb 1009 rfl hf186
        have hf904 := hf182.mono (frs_st hst902 rfl)
        have hf905 := hb183.st hst902 rfl
        exact At.join (σ := (List Int × List UInt8 × Int × Int × Own × Value)) (l180, c184, c187, at188, O901, v185) ⟨go2 h, (Stp.trans (Stp.up hst191 rfl) (Stp.up hst902 rfl)), hf904, ho903, hf905⟩ (.cons rfl (.cons rfl (.cons rfl .nil)))
      ·rintro ⟨l113, c117, c120, at121, O122, v118⟩ wd123 ⟨rfl, hst124, hf115, hf119, hb116⟩
       replace h := flowK_go hk126
       try dsimp only at h hst124 hf115 hf119 hb116
       refine (show At _ _ _ [(7, vr49), (10, Value.pointer (some ⟨p99, 0, none⟩)), (12, vi at121)] _ from ?_)
       refine At.then ?_
       refine WC.seq ?_
       refine WC.drawH [] [0, 1, 2, 3, 4, 5, 6, 7, 8, 9, 10, 11, 12, 13, 14, 15] O122 16 fmix rfl (by kernel_rfl) ?_
       intro wd906 hst907
       refine WD.y 0 rfl (by kernel_rfl) (fun _ _ _ => Y.move rfl) rfl ?_
       refine WD.y 2 rfl (by kernel_rfl) (fun _ _ _ => Y.move rfl) rfl ?_
       refine WD.heavy 1 rfl (by kernel_rfl) ?_
       have hf914 := hb116.st hst907 rfl
       have hf915 := hf119.st hst907 rfl rfl rfl
       obtain ⟨r916, hp917, h⟩ := bnd h
       refine WL.call (vals := [Value.pointer (some ⟨p99, 0, none⟩)]) kok35 rfl rfl (c_bitio_Writer_Len (A := fun _ => True) (a0 := (bitio_Writer.mk c117 c120)) (hf915.src.sl) hf914.blk trivial hp917) ?_
       rintro vr920 wd919 ⟨rfl, hm918⟩
       obtain ⟨O921, hold922, hnew923, hst924⟩ := adoptE O122 (fun k => 1) hm918
       refine WL.nil ?_
       refine At.dq (Stp.up hst924 rfl) ?_
       refine WD.y 3 rfl (by kernel_rfl) (fun _ _ _ => Y.eql_i rfl rfl) rfl ?_
       refine WD.y 4 rfl (by kernel_rfl) (fun _ _ _ => Y.move rfl) rfl ?_
       obtain ⟨p935, h, hk936⟩ := bnd h
       refine WD.join (σ := (Bool × Own)) (f' := 1) [14, 13, 12, 11, 7, 6, 10, 9, 8, 5, 4, 3, 1, 2, 0] (fun x O' w' => x.1 = p935 ∧ Stp [] O921 wd919 x.2 w' ∧ x.2 = O') (fun x => [(127, Value.bool x.1)]) (fun hJ937 => ?_) ?_
       ·rcases cnd h with ⟨hE938, h⟩ | ⟨hE938, h⟩
        ·refine WD.ren 117 rfl (congrArg Value.bool hE938) ?_
         refine WD.gT 5 rfl (by kernel_rfl) rfl rfl (fun _ _ _ => Y.move rfl) rfl ?_
         refine WD.gT 8 rfl (by kernel_rfl) rfl rfl (fun _ _ _ => Y.move rfl) rfl ?_
         refine WD.gT 9 rfl (by kernel_rfl) rfl rfl (fun _ _ _ => Y.move rfl) rfl ?_
         obtain ⟨t948, ht948, h⟩ := bnd h
         have hf951 := hf115.mono (frs_st hst907 rfl)
         have hf952 := hf951.mono (frs_st hst924 rfl)
         obtain ⟨v949, hY953, hf950⟩ := Sl.slice (ρ := [(121, vr49), (122, vi at121)]) (x := (.tmp 121)) (lo := none) (hi := (some (.tmp 122))) ty64 ty3 rfl rfl rfl hf952 ht948
         refine WD.gT 10 rfl (by kernel_rfl) rfl rfl (fun _ _ _ => Y.sub (.cons rfl (.cons rfl .nil)) (hY953 _ _)) rfl ?_
         refine WD.heavy 6 rfl (by kernel_rfl) ?_
         refine WL.ung rfl rfl ?_
         have hf957 := hf914.st hst924 rfl
         have hf958 := hf915.st hst924 rfl rfl rfl
         obtain ⟨r959, hp960, h⟩ := bnd h
         refine WL.call (vals := [Value.pointer (some ⟨p99, 0, none⟩)]) kok52 rfl rfl (c_bitio_Writer_Bytes (A := fun _ => True) (a0 := (bitio_Writer.mk c117 c120)) (hf958.src.sl) hf957.blk trivial hp960) ?_
         rintro vr965 wd964 ⟨_, rfl, hm963, f962⟩
         obtain ⟨O966, hold967, hnew968, hst969⟩ := adoptE O921 (fun k => if Value.ownBlock vr965 = some k then 28 else 1) hm963
         have hf970 : OwnSl 28 Rep.b 5 O966 wd964 vr965 r959 := RowF.adopt 28 Flat.b f962 hnew968 (fun k hk => if_pos hk)
         refine WL.nil ?_
         refine At.dq (Stp.up hst969 rfl) ?_
         refine WD.gT 7 rfl (by kernel_rfl) rfl rfl (fun wd972 O971 hst973 => have hf974 := hf970.st hst973 rfl rfl rfl; Y.b2s ty60 ty5 ty9 rfl hf974.src.sl) rfl ?_
         refine WD.heavy 11 rfl (by kernel_rfl) ?_
         refine WL.ung rfl rfl ?_
         have hf975 := hf950.mono (frs_st hst969 rfl)
         obtain ⟨r976, hp977, h⟩ := bnd h
         refine WL.call (vals := [v949]) kok53 rfl rfl (c_ref01_Bytes (A := fun _ => True) (Sl.all hf975) hp977) ?_
         rintro vr982 wd981 ⟨_, rfl, hm980, f979⟩
         obtain ⟨O983, hold984, hnew985, hst986⟩ := adoptE O966 (fun k => if Value.ownBlock vr982 = some k then 29 else 1) hm980
         have hf987 : OwnSl 29 Rep.b 5 O983 wd981 vr982 r976 := RowF.adopt 29 Flat.b f979 hnew985 (fun k hk => if_pos hk)
         refine WL.nil ?_
         refine At.dq (Stp.up hst986 rfl) ?_
         refine WD.gT 12 rfl (by kernel_rfl) rfl rfl (fun wd989 O988 hst990 => have hf991 := hf987.st hst990 rfl rfl rfl; Y.b2s ty60 ty5 ty9 rfl hf991.src.sl) rfl ?_
         refine WD.gT 13 rfl (by kernel_rfl) rfl rfl (fun _ _ _ => Y.eql_s rfl rfl) rfl ?_
         refine WD.y 14 rfl (by kernel_rfl) (fun _ _ _ => Y.pick (b := true) rfl rfl) rfl ?_
         refine WD.ren 117 rfl (congrArg Value.bool hE938.symm) ?_
         exact hJ937 (decide (r959 = r976), O983) _ _ _ ⟨some1 h, (Stp.trans (Stp.up hst969 rfl) (Stp.up hst986 rfl)), rfl⟩ (.cons rfl .nil)
        ·refine WD.ren 117 rfl (congrArg Value.bool hE938) ?_
         refine WD.gS 5 rfl (by kernel_rfl) rfl rfl rfl rfl ?_
         refine WD.gS 8 rfl (by kernel_rfl) rfl rfl rfl rfl ?_
         refine WD.gS 9 rfl (by kernel_rfl) rfl rfl rfl rfl ?_
         refine WD.gS 10 rfl (by kernel_rfl) rfl rfl rfl rfl ?_
         refine WD.heavy 6 rfl (by kernel_rfl) ?_
         refine WL.gS rfl rfl rfl rfl ?_
         refine WL.nil ?_
         refine At.dq (Stp.refl _ _ _) ?_
         refine WD.gS 7 rfl (by kernel_rfl) rfl rfl rfl rfl ?_
         refine WD.heavy 11 rfl (by kernel_rfl) ?_
         refine WL.gS rfl rfl rfl rfl ?_
         refine WL.nil ?_
         refine At.dq (Stp.refl _ _ _) ?_
         refine WD.gS 12 rfl (by kernel_rfl) rfl rfl rfl rfl ?_
         refine WD.gS 13 rfl (by kernel_rfl) rfl rfl rfl rfl ?_
         refine WD.y 14 rfl (by kernel_rfl) (fun _ _ _ => Y.pick (b := false) rfl rfl) rfl ?_
         refine WD.ren 117 rfl (congrArg Value.bool hE938.symm) ?_
         exact hJ937 (false, O921) _ _ _ ⟨some1 h, (Stp.refl _ _ _), rfl⟩ (.cons rfl .nil)
       ·rintro ⟨x931, O932⟩ _ wd933 ⟨rfl, hst934, rfl⟩
        replace h := hk936
        try dsimp only at h hst934
        refine (show WD _ _ _ _ _ _ _ _ [(127, Value.bool x931)] _ _ from ?_)
        refine WD.y 15 rfl (by kernel_rfl) (fun _ _ _ => Y.assign rfl) rfl ?_
        refine WD.done_ (by kernel_rfl) ?_
        refine At.then ?_
        refine WC.ret ?_
        obtain rfl := some1 h
        have hs1004 : Stp [11, 12, 13, 14, 15, 16, 17, 18, 19, 20, 21, 22, 23, 24, 28, 1001, 1002, 1003, 1004, 1005, 1006, 1007] (Lg.O0 A) w O932 wd933 := (Stp.trans (Stp.up hst20 rfl) (Stp.trans (Stp.up hst39 rfl) (Stp.trans (Stp.up hst53 rfl) (Stp.trans (Stp.up hst72 rfl) (Stp.trans (Stp.up hst93 rfl) (Stp.trans (Stp.up hst110 rfl) (Stp.trans (Stp.up hst124 rfl) (Stp.trans (Stp.up hst907 rfl) (Stp.trans (Stp.up hst924 rfl) (Stp.up hst934 rfl))))))))))
        exact At.res (.inl rfl) rfl (.tmp rfl .nil) ⟨rfl, (Stp.ext hs1004 rfl rfl)⟩
end Go.Lg
