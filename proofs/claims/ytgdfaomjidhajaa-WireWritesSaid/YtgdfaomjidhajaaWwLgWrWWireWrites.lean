/- The walks of WireWrites and of what it calls, printed by gen.py. -/
import Derived.Test.YtgdfaomjidhajaaWwLgPart1
import Derived.Test.YtgdfaomjidhajaaProg
set_option linter.unusedVariables false
namespace Go.Lg
open Go Go.Proofs
set_option maxRecDepth 100000
set_option maxHeartbeats 4000000
theorem fmix : Try.prog.follows .mixedOrders = true := by kernel_rfl
theorem ty3 : TyOk Try.prog 3 (.int .i64) 1 8 (.int .i64 0) := tyOk Try.underlying3 (by kernel_rfl)
theorem ty5 : TyOk Try.prog 5 (.int .u8) 1 1 (.int .u8 0) := tyOk Try.underlying5 (by kernel_rfl)
theorem ty9 : TyOk Try.prog 9 .string 1 16 (.string ⟨#[]⟩) := tyOk Try.underlying9 (by kernel_rfl)
theorem ty22 : TyOk Try.prog 22 (.slice 40) 1 24 (.slice none 0 0) := tyOk Try.underlying22 (by kernel_rfl)
theorem ty25 : TyOk Try.prog 25 (.slice 5) 1 24 (.slice none 0 0) := tyOk Try.underlying25 (by kernel_rfl)
theorem ty38 : TyOk Try.prog 38 (.int .u64) 1 8 (.int .u64 0) := tyOk Try.underlying38 (by kernel_rfl)
theorem ty40 : TyOk Try.prog 40 (.struct #[(Field.mk "Num" 3 0 false "" "" 0), (Field.mk "Type" 3 1 false "" "" 8), (Field.mk "V" 38 2 false "" "" 16), (Field.mk "B" 25 3 false "" "" 24)]) 4 48 (.agg #[(.int .i64 0), (.int .i64 0), (.int .u64 0), (.slice none 0 0)]) := tyOk Try.underlying40 (by kernel_rfl)
theorem ty58 : TyOk Try.prog 58 (.int .u64) 1 8 (.int .u64 0) := tyOk Try.underlying58 (by kernel_rfl)
theorem fo40_0 : FieldOk Try.prog 40 0 0 := fieldOk Try.underlying40 rfl rfl (by kernel_rfl)
theorem fo40_1 : FieldOk Try.prog 40 1 1 := fieldOk Try.underlying40 rfl rfl (by kernel_rfl)
theorem fo40_2 : FieldOk Try.prog 40 2 2 := fieldOk Try.underlying40 rfl rfl (by kernel_rfl)
theorem fo40_3 : FieldOk Try.prog 40 3 3 := fieldOk Try.underlying40 rfl rfl (by kernel_rfl)
theorem kok6 : CallOk Try.prog 6 := callOk Try.func6 (by kernel_rfl) rfl
theorem kok7 : CallOk Try.prog 7 := callOk Try.func7 (by kernel_rfl) rfl
theorem kok8 : CallOk Try.prog 8 := callOk Try.func8 (by kernel_rfl) rfl
theorem kok9 : CallOk Try.prog 9 := callOk Try.func9 (by kernel_rfl) rfl
theorem kok10 : CallOk Try.prog 10 := callOk Try.func10 (by kernel_rfl) rfl
theorem kok11 : CallOk Try.prog 11 := callOk Try.func11 (by kernel_rfl) rfl
theorem kok18 : CallOk Try.prog 18 := callOk Try.func18 (by kernel_rfl) rfl
theorem kok19 : CallOk Try.prog 19 := callOk Try.func19 (by kernel_rfl) rfl
theorem kok20 : CallOk Try.prog 20 := callOk Try.func20 (by kernel_rfl) rfl
theorem kok21 : CallOk Try.prog 21 := callOk Try.func21 (by kernel_rfl) rfl
theorem kok22 : CallOk Try.prog 22 := callOk Try.func22 (by kernel_rfl) rfl
theorem kok23 : CallOk Try.prog 23 := callOk Try.func23 (by kernel_rfl) rfl
theorem kok24 : CallOk Try.prog 24 := callOk Try.func24 (by kernel_rfl) rfl
theorem kok26 : CallOk Try.prog 26 := callOk Try.func26 (by kernel_rfl) rfl
theorem c_wire_Var {a0 : UInt64} {w : World} {r0 : List UInt8} (h : wire_Var a0 = some r0) : Rets Try.prog 19 [vu a0] w (fun v w' => ∃ (u0 : Value), v = u0 ∧ Ext w w' ∧ RowF Rep.b 5 w w' u0 r0) := by
 unfold wire_Var at h
 refine Rets.enter Try.func19 rfl rfl ?_
 refine (show WC _ _ _ _ [(0, vu a0)] _ from ?_)
 refine WC.seq ?_
 refine WC.region ?_
 refine WL.y (Y.assign rfl) rfl ?_
 refine WL.nil ?_
 refine At.then ?_
 refine WC.seq ?_
 refine WC.region ?_
 refine WL.y (Y.assign rfl) rfl ?_
 refine WL.nil ?_
 refine At.then ?_
 refine WC.seq ?_
 obtain ⟨p18, h, hk19⟩ := bnd h
 refine WC.join (σ := (UInt64 × List UInt8 × Own × Value)) (fun x w' => (x.1, x.2.1) = p18 ∧ Stp [12, 1001, 1002] (Lg.O0 (fun _ => False)) w x.2.2.1 w' ∧ OwnSl 1004 Rep.b 5 x.2.2.1 w' x.2.2.2 x.2.1) (fun x => [(0, vu x.1), (3, x.2.2.2)]) ?_ ?_
 ·refine WC.block ?_
  obtain ⟨p34, h, hk36⟩ := flow1 h
  obtain ⟨k35, h⟩ := loop_some h
  refine WC.joinB 0 (σ := (UInt64 × List UInt8 × Own × Value)) (fun x w' => p34 = .go (x.1, x.2.1) ∧ Stp [12, 1001] (Lg.O0 (fun _ => False)) w x.2.2.1 w' ∧ OwnSl 1002 Rep.b 5 x.2.2.1 w' x.2.2.2 x.2.1) (fun x => [(0, vu x.1), (3, x.2.2.2)]) ?_ ?_
  ·refine WC.loop (σ := (UInt64 × List UInt8 × Own × Value)) (fun x k w' => loopN k (wire_Var_lp1) (x.1, x.2.1) = some p34 ∧ Stp [12, 1001] (Lg.O0 (fun _ => False)) w x.2.2.1 w' ∧ OwnSl 1001 Rep.b 5 x.2.2.1 w' x.2.2.2 x.2.1) (fun x => [(0, vu x.1), (3, x.2.2.2)]) (a0, [], (Lg.O0 (fun _ => False)), Value.slice none 0 0) k35 (.cons rfl (.cons rfl .nil)) ⟨h, (Stp.refl _ _ _), (OwnSl.nil 1001 Rep.b 5)⟩ ?_
   rintro ⟨v20, out21, O24, v22⟩ k35 wd25 ⟨h, hst26, hf23⟩
   obtain ⟨j37, q38, rfl, h, hn39⟩ := rnd1 h
   unfold wire_Var_lp1 at h
   try dsimp only at h hst26 hf23
   refine (show WC _ _ _ _ [(0, vu v20), (3, v22)] _ from ?_)
   refine WC.seq ?_
   refine WC.seq ?_
   refine WC.region ?_
   refine WL.y (Y.move rfl) rfl ?_
   refine WL.y (Y.gtr_u (b := 127) rfl rfl) rfl ?_
   refine WL.nil ?_
   refine At.then ?_
   rcases cnd h with ⟨hc40, h⟩ | ⟨hc40, h⟩
   ·refine WC.condT' rfl hc40 ?_
    refine WC.skip ?_
    refine At.then ?_
    refine WC.block ?_
    refine WC.seq ?_
    refine WC.region ?_
    refine WL.y (Y.move rfl) rfl ?_
    refine WL.y (Y.move rfl) rfl ?_
    refine WL.y (Y.conv_ub ty38.u ty5.u rfl) rfl ?_
    refine WL.y (Y.or_b (b := 128) rfl rfl) rfl ?_
    refine WL.buildSlice (O := O24) (R := Rep.b) (vals := [(0, vb (v20.toUInt8 ||| 128))]) 11 [vb (v20.toUInt8 ||| 128)] (xs := [(v20.toUInt8 ||| 128)]) (by decide) ty25 ty5 (by decide) (by decide) (Fits.evalp rfl) (by kernel_rfl) rfl ⟨[vb (v20.toUInt8 ||| 128)], [], rfl, rfl, rfl⟩ rfl ?_
    intro v41 O43 wd44 hst45 ho42
    obtain ⟨xs46, hxs46, h⟩ := bnd h
    have hf47 := hf23.st hst45 rfl rfl rfl
    refine WL.append (by decide) ty25 ty5 rfl (by decide) rfl rfl hf47 ho42.src hxs46 rfl ?_
    intro v51 O48 wd49 hst50 ho52
    refine WL.y (Y.assign rfl) rfl ?_
    refine WL.nil ?_
    refine At.then ?_
    refine WC.region ?_
    refine WL.y (Y.move rfl) rfl ?_
    refine WL.y (Y.shr_uu (m := 7) rfl rfl) rfl ?_
    obtain ⟨v53, hv53, h⟩ := lt1 h
    refine WL.yE (Y.assign rfl) (congrArg vu hv53.symm) rfl ?_
    refine WL.nil ?_
    refine At.inBlock ?_
    exact At.round (v53, xs46, O48, v51) j37 (Nat.lt_succ_self _) ⟨next1 h hn39, (Stp.trans (Stp.up hst26 rfl) (Stp.trans (Stp.up hst45 rfl) (Stp.up hst50 rfl))), ho52⟩ (.cons rfl (.cons rfl .nil))
   ·refine WC.condF' rfl hc40 ?_
    refine WC.exit ?_
    refine At.thenX ?_
    refine At.loopX ?_
    obtain ⟨O54, hst55, ho56⟩ := OwnSl.rlb 1002 rfl hf23
    exact At.hitB (σ := (UInt64 × List UInt8 × Own × Value)) (v20, out21, O54, v22) ⟨brk1 h hn39, (Stp.trans (Stp.up hst26 rfl) (Stp.up hst55 rfl)), ho56⟩ (.cons rfl (.cons rfl .nil))
  ·rintro ⟨v27, out28, O31, v29⟩ wd32 ⟨rfl, hst33, hf30⟩
   replace h := flowK_go hk36
   try dsimp only at h hst33 hf30
   refine (show At _ _ _ [(0, vu v27), (3, v29)] _ from ?_)
   refine At.inBlockHit ?_
   obtain ⟨O57, hst58, ho59⟩ := OwnSl.rlb 1004 rfl hf30
   exact At.join (σ := (UInt64 × List UInt8 × Own × Value)) (v27, out28, O57, v29) ⟨some1 h, (Stp.trans (Stp.up hst33 rfl) (Stp.up hst58 rfl)), ho59⟩ (.cons rfl (.cons rfl .nil))
 ·rintro ⟨v11, out12, O15, v13⟩ wd16 ⟨rfl, hst17, hf14⟩
  replace h := hk19
  try dsimp only at h hst17 hf14
  refine (show At _ _ _ [(0, vu v11), (3, v13)] _ from ?_)
  refine At.then ?_
  refine WC.seq ?_
  refine WC.region ?_
  refine WL.y (Y.move rfl) rfl ?_
  refine WL.y (Y.move rfl) rfl ?_
  refine WL.y (Y.conv_ub ty38.u ty5.u rfl) rfl ?_
  refine WL.buildSlice (O := O15) (R := Rep.b) (vals := [(0, vb v11.toUInt8)]) 12 [vb v11.toUInt8] (xs := [v11.toUInt8]) (by decide) ty25 ty5 (by decide) (by decide) (Fits.evalp rfl) (by kernel_rfl) rfl ⟨[vb v11.toUInt8], [], rfl, rfl, rfl⟩ rfl ?_
  intro v60 O62 wd63 hst64 ho61
  obtain ⟨xs65, hxs65, h⟩ := bnd h
  have hf66 := hf14.st hst64 rfl rfl rfl
  refine WL.append (by decide) ty25 ty5 rfl (by decide) rfl rfl hf66 ho61.src hxs65 rfl ?_
  intro v70 O67 wd68 hst69 ho71
  refine WL.y (Y.assign rfl) rfl ?_
  refine WL.nil ?_
  refine At.then ?_
  refine WC.ret ?_
  obtain rfl := some1 h
  have hs72 : Stp [12, 1001, 1002, 1004] (Lg.O0 (fun _ => False)) w O67 wd68 := (Stp.trans (Stp.up hst17 rfl) (Stp.trans (Stp.up hst64 rfl) (Stp.up hst69 rfl)))
  exact At.res (.inl rfl) rfl (.tmp rfl .nil) ⟨v70, rfl, (Stp.ext hs72 rfl rfl), (OwnSl.outF ho71 hs72 low0 rfl)⟩
theorem c_wire_check {A : Nat → Prop} {v0_3 : Value} {a0 : api_Fld} {w : World} (hs0_3 : Sl Rep.b w A v0_3 a0.B) {r0 : Int} (h : wire_check a0 = some r0) : Rets Try.prog 20 [Value.agg (List.toArray [vi a0.Num, vi a0.Type_, vu a0.V, v0_3])] w (fun v w' => v = vi r0 ∧ Ext w w') := by
 unfold wire_check at h
 refine Rets.enter Try.func20 rfl rfl ?_
 have hf11 : Sl Rep.b w (imm (Lg.O0 A)) v0_3 a0.B := (Sl.start hs0_3)
 refine (show WC _ _ _ _ [(0, Value.agg (List.toArray [vi a0.Num, vi a0.Type_, vu a0.V, v0_3]))] _ from ?_)
 refine WC.seq ?_
 refine WC.region ?_
 have hh15 := h
 obtain ⟨p12, m13, c14, rfl⟩ := hf11.shape
 have h := hh15
 refine WL.box (O := (Lg.O0 A)) 11 [vi a0.Num, vi a0.Type_, vu a0.V, (Value.slice p12 m13 c14)] rfl rfl rfl ?_
 intro p17 O18 wd19 hst20 hb16
 refine WL.y (Y.assign rfl) rfl ?_
 refine WL.nil ?_
 refine At.then ?_
 refine WC.seq ?_
 refine WC.block ?_
 refine WC.seq ?_
 refine WC.region ?_
 refine WL.y (Y.fieldAddr fo40_0 rfl) rfl ?_
 refine WL.y (Y.loadSc ty3 rfl rfl (hb16.cell 0 _ rfl)) rfl ?_
 refine WL.y (Y.lss_i rfl rfl) rfl ?_
 refine WL.y (Y.move rfl) rfl ?_
 refine WL.cut 4 (σ := Unit) (fun _ w' => wd19 = w') (fun _ => [(1, Value.pointer (some ⟨p17, 0, none⟩)), (11, Value.bool ((decide (a0.Num < 1)) || (decide (536870911 < a0.Num))))]) ?_ ?_
 ·refine WL.part 7 rfl (fun hE21 => ?_) (fun hE21 => ?_)
  ·refine WL.gS rfl rfl rfl rfl ?_
   refine WL.gS rfl rfl rfl rfl ?_
   refine WL.gS rfl rfl rfl rfl ?_
   refine WL.y (Y.pick (b := true) rfl rfl) rfl ?_
   refine WL.ren (v' := Value.bool ((decide (a0.Num < 1)) || (decide (536870911 < a0.Num)))) 11 rfl (congrArg Value.bool (orT hE21)) ?_
   exact WL.nil (At.join () rfl (.cons rfl (.cons rfl .nil)))
  ·refine WL.ung rfl rfl ?_
   refine WL.y (Y.fieldAddr fo40_0 rfl) rfl ?_
   refine WL.ung rfl rfl ?_
   refine WL.y (Y.loadSc ty3 rfl rfl (hb16.cell 0 _ rfl)) rfl ?_
   refine WL.ung rfl rfl ?_
   refine WL.y (Y.gtr_i rfl rfl) rfl ?_
   refine WL.y (Y.pick (b := false) rfl rfl) rfl ?_
   refine WL.ren (v' := Value.bool ((decide (a0.Num < 1)) || (decide (536870911 < a0.Num)))) 11 rfl (congrArg Value.bool (orF hE21)) ?_
   exact WL.nil (At.join () rfl (.cons rfl (.cons rfl .nil)))
 ·rintro _ _ rfl
  refine (show WL _ _ _ _ _ [(1, Value.pointer (some ⟨p17, 0, none⟩)), (11, Value.bool ((decide (a0.Num < 1)) || (decide (536870911 < a0.Num))))] _ from ?_)
  obtain ⟨t22, ht22, h⟩ := lt1 h
  refine WL.yE (Y.assign rfl) (congrArg Value.bool ht22.symm) rfl ?_
  refine WL.nil ?_
  refine At.then ?_
  rcases cnd h with ⟨hc23, h⟩ | ⟨hc23, h⟩
  ·refine WC.condT' rfl hc23 ?_
   refine WC.seq ?_
   refine WC.region ?_
   refine WL.y (Y.assign rfl) rfl ?_
   refine WL.nil ?_
   refine At.then ?_
   refine WC.ret ?_
   refine At.inBlockR ?_
   refine At.thenR ?_
   obtain rfl := some1 h
   have hs24 : Stp [] (Lg.O0 A) w O18 wd19 := (Stp.up hst20 rfl)
   exact At.res (.inl rfl) rfl (.tmp rfl .nil) ⟨rfl, (Stp.ext hs24 rfl rfl)⟩
  ·refine WC.condF' rfl hc23 ?_
   refine WC.seq ?_
   refine WC.region ?_
   refine WL.y (Y.fieldAddr fo40_1 rfl) rfl ?_
   refine WL.y (Y.loadSc ty3 rfl rfl (hb16.cell 1 _ rfl)) rfl ?_
   refine WL.y (Y.lss_i rfl rfl) rfl ?_
   refine WL.y (Y.move rfl) rfl ?_
   refine WL.cut 4 (σ := Unit) (fun _ w' => wd19 = w') (fun _ => [(1, Value.pointer (some ⟨p17, 0, none⟩)), (20, Value.bool ((decide (a0.Type_ < 0)) || (decide (2 < a0.Type_))))]) ?_ ?_
   ·refine WL.part 16 rfl (fun hE25 => ?_) (fun hE25 => ?_)
    ·refine WL.gS rfl rfl rfl rfl ?_
     refine WL.gS rfl rfl rfl rfl ?_
     refine WL.gS rfl rfl rfl rfl ?_
     refine WL.y (Y.pick (b := true) rfl rfl) rfl ?_
     refine WL.ren (v' := Value.bool ((decide (a0.Type_ < 0)) || (decide (2 < a0.Type_)))) 20 rfl (congrArg Value.bool (orT hE25)) ?_
     exact WL.nil (At.join () rfl (.cons rfl (.cons rfl .nil)))
    ·refine WL.ung rfl rfl ?_
     refine WL.y (Y.fieldAddr fo40_1 rfl) rfl ?_
     refine WL.ung rfl rfl ?_
     refine WL.y (Y.loadSc ty3 rfl rfl (hb16.cell 1 _ rfl)) rfl ?_
     refine WL.ung rfl rfl ?_
     refine WL.y (Y.gtr_i rfl rfl) rfl ?_
     refine WL.y (Y.pick (b := false) rfl rfl) rfl ?_
     refine WL.ren (v' := Value.bool ((decide (a0.Type_ < 0)) || (decide (2 < a0.Type_)))) 20 rfl (congrArg Value.bool (orF hE25)) ?_
     exact WL.nil (At.join () rfl (.cons rfl (.cons rfl .nil)))
   ·rintro _ _ rfl
    refine (show WL _ _ _ _ _ [(1, Value.pointer (some ⟨p17, 0, none⟩)), (20, Value.bool ((decide (a0.Type_ < 0)) || (decide (2 < a0.Type_))))] _ from ?_)
    obtain ⟨t26, ht26, h⟩ := lt1 h
    refine WL.yE (Y.assign rfl) (congrArg Value.bool ht26.symm) rfl ?_
    refine WL.nil ?_
    refine At.then ?_
    rcases cnd h with ⟨hc27, h⟩ | ⟨hc27, h⟩
    ·refine WC.condT' rfl hc27 ?_
     refine WC.seq ?_
     refine WC.region ?_
     refine WL.y (Y.assign rfl) rfl ?_
     refine WL.nil ?_
     refine At.then ?_
     refine WC.ret ?_
     refine At.inBlockR ?_
     refine At.thenR ?_
     obtain rfl := some1 h
     have hs28 : Stp [] (Lg.O0 A) w O18 wd19 := (Stp.up hst20 rfl)
     exact At.res (.inl rfl) rfl (.tmp rfl .nil) ⟨rfl, (Stp.ext hs28 rfl rfl)⟩
    ·refine WC.condF' rfl hc27 ?_
     refine WC.seq ?_
     refine WC.seq ?_
     refine WC.region ?_
     refine WL.y (Y.fieldAddr fo40_1 rfl) rfl ?_
     refine WL.y (Y.loadSc ty3 rfl rfl (hb16.cell 1 _ rfl)) rfl ?_
     refine WL.y (Y.neq_i rfl rfl) rfl ?_
     refine WL.y (Y.move rfl) rfl ?_
     refine WL.cut 5 (σ := Unit) (fun _ w' => wd19 = w') (fun _ => [(1, Value.pointer (some ⟨p17, 0, none⟩)), (30, Value.bool ((!decide (a0.Type_ = 2)) && (decide (0 < (a0.B.length : Int)))))]) ?_ ?_
     ·refine WL.part 25 rfl (fun hE29 => ?_) (fun hE29 => ?_)
      ·refine WL.ung rfl rfl ?_
       refine WL.y (Y.fieldAddr fo40_3 rfl) rfl ?_
       refine WL.ung rfl rfl ?_
       refine WL.y (Y.loadSc ty25 rfl rfl (hb16.cell 3 _ rfl)) rfl ?_
       refine WL.ung rfl rfl ?_
       have hf30 := hf11.mono (imm_st hst20 rfl rfl)
       refine WL.y (Y.len ty25 rfl hf30) rfl ?_
       refine WL.ung rfl rfl ?_
       refine WL.y (Y.gtr_i rfl rfl) rfl ?_
       refine WL.y (Y.pick (b := true) rfl rfl) rfl ?_
       refine WL.ren (v' := Value.bool ((!decide (a0.Type_ = 2)) && (decide (0 < (a0.B.length : Int))))) 30 rfl (congrArg Value.bool (andT hE29)) ?_
       exact WL.nil (At.join () rfl (.cons rfl (.cons rfl .nil)))
      ·refine WL.gS rfl rfl rfl rfl ?_
       refine WL.gS rfl rfl rfl rfl ?_
       refine WL.gS rfl rfl rfl rfl ?_
       refine WL.gS rfl rfl rfl rfl ?_
       refine WL.y (Y.pick (b := false) rfl rfl) rfl ?_
       refine WL.ren (v' := Value.bool ((!decide (a0.Type_ = 2)) && (decide (0 < (a0.B.length : Int))))) 30 rfl (congrArg Value.bool (andF hE29)) ?_
       exact WL.nil (At.join () rfl (.cons rfl (.cons rfl .nil)))
     ·rintro _ _ rfl
      refine (show WL _ _ _ _ _ [(1, Value.pointer (some ⟨p17, 0, none⟩)), (30, Value.bool ((!decide (a0.Type_ = 2)) && (decide (0 < (a0.B.length : Int)))))] _ from ?_)
      obtain ⟨t31, ht31, h⟩ := lt1 h
      refine WL.yE (Y.assign rfl) (congrArg Value.bool ht31.symm) rfl ?_
      refine WL.nil ?_
      refine At.then ?_
      rcases cnd h with ⟨hc32, h⟩ | ⟨hc32, h⟩
      ·refine WC.condT' rfl hc32 ?_
       refine WC.skip ?_
       refine At.then ?_
       rcases cnd h with ⟨hc33, h⟩ | ⟨hc33, h⟩
       ·refine WC.condT' rfl hc33 ?_
        refine WC.seq ?_
        refine WC.region ?_
        refine WL.y (Y.assign rfl) rfl ?_
        refine WL.nil ?_
        refine At.then ?_
        refine WC.ret ?_
        refine At.inBlockR ?_
        refine At.thenR ?_
        obtain rfl := some1 h
        have hs34 : Stp [] (Lg.O0 A) w O18 wd19 := (Stp.up hst20 rfl)
        exact At.res (.inl rfl) rfl (.tmp rfl .nil) ⟨rfl, (Stp.ext hs34 rfl rfl)⟩
       ·refine WC.condF' rfl hc33 ?_
        refine WC.skip ?_
        refine At.inBlock ?_
        refine At.then ?_
        refine WC.seq ?_
        refine WC.region ?_
        refine WL.y (Y.assign rfl) rfl ?_
        refine WL.nil ?_
        refine At.then ?_
        refine WC.ret ?_
        obtain rfl := some1 h
        have hs35 : Stp [] (Lg.O0 A) w O18 wd19 := (Stp.up hst20 rfl)
        exact At.res (.inl rfl) rfl (.tmp rfl .nil) ⟨rfl, (Stp.ext hs35 rfl rfl)⟩
      ·refine WC.condF' rfl hc32 ?_
       refine WC.region ?_
       refine WL.y (Y.fieldAddr fo40_1 rfl) rfl ?_
       refine WL.y (Y.loadSc ty3 rfl rfl (hb16.cell 1 _ rfl)) rfl ?_
       refine WL.y (Y.eql_i rfl rfl) rfl ?_
       refine WL.y (Y.move rfl) rfl ?_
       refine WL.cut 4 (σ := Unit) (fun _ w' => wd19 = w') (fun _ => [(38, Value.bool ((decide (a0.Type_ = 2)) && (!decide (a0.V = 0))))]) ?_ ?_
       ·refine WL.part 34 rfl (fun hE36 => ?_) (fun hE36 => ?_)
        ·refine WL.ung rfl rfl ?_
         refine WL.y (Y.fieldAddr fo40_2 rfl) rfl ?_
         refine WL.ung rfl rfl ?_
         refine WL.y (Y.loadSc ty38 rfl rfl (hb16.cell 2 _ rfl)) rfl ?_
         refine WL.ung rfl rfl ?_
         refine WL.y (Y.neq_u (b := 0) rfl rfl) rfl ?_
         refine WL.y (Y.pick (b := true) rfl rfl) rfl ?_
         refine WL.ren (v' := Value.bool ((decide (a0.Type_ = 2)) && (!decide (a0.V = 0)))) 38 rfl (congrArg Value.bool (andT hE36)) ?_
         exact WL.nil (At.join () rfl (.cons rfl .nil))
        ·refine WL.gS rfl rfl rfl rfl ?_
         refine WL.gS rfl rfl rfl rfl ?_
         refine WL.gS rfl rfl rfl rfl ?_
         refine WL.y (Y.pick (b := false) rfl rfl) rfl ?_
         refine WL.ren (v' := Value.bool ((decide (a0.Type_ = 2)) && (!decide (a0.V = 0)))) 38 rfl (congrArg Value.bool (andF hE36)) ?_
         exact WL.nil (At.join () rfl (.cons rfl .nil))
       ·rintro _ _ rfl
        refine (show WL _ _ _ _ _ [(38, Value.bool ((decide (a0.Type_ = 2)) && (!decide (a0.V = 0))))] _ from ?_)
        obtain ⟨t37, ht37, h⟩ := lt1 h
        refine WL.yE (Y.assign rfl) (congrArg Value.bool ht37.symm) rfl ?_
        refine WL.nil ?_
        refine At.then ?_
        rcases cnd h with ⟨hc38, h⟩ | ⟨hc38, h⟩
        ·refine WC.condT' rfl hc38 ?_
         refine WC.seq ?_
         refine WC.region ?_
         refine WL.y (Y.assign rfl) rfl ?_
         refine WL.nil ?_
         refine At.then ?_
         refine WC.ret ?_
         refine At.inBlockR ?_
         refine At.thenR ?_
         obtain rfl := some1 h
         have hs39 : Stp [] (Lg.O0 A) w O18 wd19 := (Stp.up hst20 rfl)
         exact At.res (.inl rfl) rfl (.tmp rfl .nil) ⟨rfl, (Stp.ext hs39 rfl rfl)⟩
        ·refine WC.condF' rfl hc38 ?_
         refine WC.skip ?_
         refine At.inBlock ?_
         refine At.then ?_
         refine WC.seq ?_
         refine WC.region ?_
         refine WL.y (Y.assign rfl) rfl ?_
         refine WL.nil ?_
         refine At.then ?_
         refine WC.ret ?_
         obtain rfl := some1 h
         have hs40 : Stp [] (Lg.O0 A) w O18 wd19 := (Stp.up hst20 rfl)
         exact At.res (.inl rfl) rfl (.tmp rfl .nil) ⟨rfl, (Stp.ext hs40 rfl rfl)⟩
theorem c_wire_eight {a0 : UInt64} {w : World} {r0 : List UInt8} (h : wire_eight a0 = some r0) : Rets Try.prog 21 [vu a0] w (fun v w' => ∃ (u0 : Value), v = u0 ∧ Ext w w' ∧ RowF Rep.b 5 w w' u0 r0) := by
 unfold wire_eight at h
 refine Rets.enter Try.func21 rfl rfl ?_
 refine (show WC _ _ _ _ [(0, vu a0)] _ from ?_)
 refine WC.seq ?_
 refine WC.region ?_
 refine WL.y (Y.assign rfl) rfl ?_
 refine WL.nil ?_
 refine At.then ?_
 refine WC.seq ?_
 refine WC.region ?_
 obtain ⟨t11, ht11, h⟩ := bnd h
 refine WL.make (O := (Lg.O0 (fun _ => False))) (R := Rep.b) (zx := (0 : UInt8)) 11 (by decide) ty25 ty5 rfl (by decide) (by decide) rfl rfl (fun _ _ => rfl) ht11 rfl ?_
 intro v12 O14 wd15 hst16 ho13
 refine WL.y (Y.assign rfl) rfl ?_
 refine WL.nil ?_
 refine At.then ?_
 refine WC.seq ?_
 refine WC.seq ?_
 refine WC.region ?_
 refine WL.y (Y.move rfl) rfl ?_
 refine WL.y (Y.len ty25 rfl ho13.src.sl) rfl ?_
 refine WL.y (Y.move rfl) rfl ?_
 refine WL.nil ?_
 refine At.then ?_
 refine WC.block ?_
 obtain ⟨p30, h, hk32⟩ := flow1 h
 obtain ⟨k31, h⟩ := loop_some h
 refine WC.joinB 0 (σ := (List UInt8 × Own)) (fun x w' => p30 = .go x.1 ∧ Stp [11, 1001] O14 wd15 x.2 w' ∧ OwnSl 1002 Rep.b 5 x.2 w' v12 x.1) (fun x => [(3, v12)]) ?_ ?_
 ·obtain ⟨O33, hst34, ho35⟩ := OwnSl.rlb 1001 rfl ho13
  refine WC.loop (σ := (List UInt8 × Int × Own)) (fun x k w' => loopN k (wire_eight_lp1 a0 t11) (x.1, x.2.1) = some p30 ∧ Stp [11, 1001] O14 wd15 x.2.2 w' ∧ OwnSl 1001 Rep.b 5 x.2.2 w' v12 x.1) (fun x => [(0, vu a0), (3, v12), (7, vi (t11.length : Int)), (8, vi x.2.1)]) (t11, 0, O33) k31 (.cons rfl (.cons rfl (.cons rfl (.cons rfl .nil)))) ⟨h, (Stp.up hst34 rfl), ho35⟩ ?_
  rintro ⟨b17, x20, O21⟩ k31 wd22 ⟨h, hst23, hf19⟩
  obtain ⟨j36, q37, rfl, h, hn38⟩ := rnd1 h
  unfold wire_eight_lp1 at h
  try dsimp only at h hst23 hf19
  refine (show WC _ _ _ _ [(0, vu a0), (3, v12), (7, vi (t11.length : Int)), (8, vi x20)] _ from ?_)
  refine WC.seq ?_
  refine WC.region ?_
  refine WL.y (Y.lss_i rfl rfl) rfl ?_
  refine WL.nil ?_
  refine At.then ?_
  refine WC.seq ?_
  rcases cnd h with ⟨hc39, h⟩ | ⟨hc39, h⟩
  ·refine WC.condT' rfl hc39 ?_
   refine WC.skip ?_
   refine At.then ?_
   refine WC.seq ?_
   refine WC.block ?_
   refine WC.seq ?_
   refine WC.region ?_
   refine WL.y (Y.move rfl) rfl ?_
   refine WL.y (Y.assign rfl) rfl ?_
   refine WL.nil ?_
   refine At.then ?_
   refine WC.region ?_
   refine WL.y (Y.move rfl) rfl ?_
   refine WL.y (Y.move rfl) rfl ?_
   refine WL.y (Y.move rfl) rfl ?_
   refine WL.y (Y.move rfl) rfl ?_
   refine WL.y (Y.mul_i rfl rfl) rfl ?_
   refine WL.y (Y.conv_iu ty3.u ty58.u rfl) rfl ?_
   refine WL.y (Y.shr_uu rfl rfl) rfl ?_
   refine WL.y (Y.conv_ub ty38.u ty5.u rfl) rfl ?_
   obtain ⟨e40, he40, h⟩ := bnd h
   obtain ⟨b41, cap48, cs47, hv42, hi43, hl44, hc45, hok46⟩ := OwnSl.at hf19 he40
   obtain rfl := hok46
   replace hc45 : CellsAt _ _ _ [vb e40] := hc45
   have hca49 := CAt.own hf19 hv42 hc45
   refine WL.y (Y.indexAddr ty25 ty5 rfl hv42 rfl hi43 hl44) rfl ?_
   obtain ⟨t50, ht50, h⟩ := lt1 h
   refine WL.ren 18 rfl (congrArg vb ht50.symm) ?_
   obtain ⟨xs51, hxs51, h⟩ := bnd h
   refine WL.storeOwn (by decide) ty5 rfl rfl rfl hf19 hv42 hxs51 ?_
   intro wd52 hst53 ho54
   refine WL.nil ?_
   refine At.inBlock ?_
   refine At.then ?_
   refine WC.region ?_
   refine WL.y (Y.add_i rfl rfl) rfl ?_
   refine WL.y (Y.move rfl) rfl ?_
   refine WL.nil ?_
   exact At.round (xs51, w64 (x20 + 1), O21) j36 (Nat.lt_succ_self _) ⟨next1 h hn38, (Stp.trans (Stp.up hst23 rfl) (Stp.up hst53 rfl)), ho54⟩ (.cons rfl (.cons rfl (.cons rfl (.cons rfl .nil))))
  ·refine WC.condF' rfl hc39 ?_
   refine WC.exit ?_
   refine At.thenX ?_
   refine At.loopX ?_
   obtain ⟨O55, hst56, ho57⟩ := OwnSl.rlb 1002 rfl hf19
   exact At.hitB (σ := (List UInt8 × Own)) (b17, O55) ⟨brk1 h hn38, (Stp.trans (Stp.up hst23 rfl) (Stp.up hst56 rfl)), ho57⟩ (.cons rfl .nil)
 ·rintro ⟨b24, O27⟩ wd28 ⟨rfl, hst29, hf26⟩
  replace h := flowK_go hk32
  try dsimp only at h hst29 hf26
  refine (show At _ _ _ [(3, v12)] _ from ?_)
  refine At.inBlockHit ?_
  refine At.then ?_
  refine WC.seq ?_
  refine WC.region ?_
  refine WL.y (Y.move rfl) rfl ?_
  refine WL.y (Y.assign rfl) rfl ?_
  refine WL.nil ?_
  refine At.then ?_
  refine WC.ret ?_
  obtain rfl := some1 h
  have hs58 : Stp [11, 1001] (Lg.O0 (fun _ => False)) w O27 wd28 := (Stp.trans (Stp.up hst16 rfl) (Stp.up hst29 rfl))
  exact At.res (.inl rfl) rfl (.tmp rfl .nil) ⟨v12, rfl, (Stp.ext hs58 rfl rfl), (OwnSl.outF hf26 hs58 low0 rfl)⟩
theorem c_wire_Encode {A : Nat → Prop} {a0 : List api_Fld} {v0 : Value} {w : World} (hs0 : Sl rep_api_Fld w A v0 a0) {r0 : List UInt8} {r1 : Int} (h : wire_Encode a0 = some (r0, r1)) : Rets Try.prog 8 [v0] w (fun v w' => ∃ (u0 : Value), v = Value.tuple (List.toArray [u0, vi r1]) ∧ Ext w w' ∧ RowF Rep.b 5 w w' u0 r0) := by
 unfold wire_Encode at h
 refine Rets.enter Try.func8 rfl rfl ?_
 have hf11 : Sl rep_api_Fld w (imm (Lg.O0 A)) v0 a0 := (Sl.start hs0)
 refine (show WC _ _ _ _ [(0, v0)] _ from ?_)
 refine WC.seq ?_
 refine WC.region ?_
 refine WL.y (Y.assign rfl) rfl ?_
 refine WL.y (Y.assign rfl) rfl ?_
 refine WL.nil ?_
 refine At.then ?_
 refine WC.seq ?_
 refine WC.region ?_
 refine WL.y (Y.assign rfl) rfl ?_
 refine WL.nil ?_
 refine At.then ?_
 refine WC.seq ?_
 refine WC.seq ?_
 refine WC.region ?_
 refine WL.y (Y.move rfl) rfl ?_
 refine WL.y (Y.len ty22 rfl hf11) rfl ?_
 refine WL.y (Y.move rfl) rfl ?_
 refine WL.nil ?_
 refine At.then ?_
 refine WC.block ?_
 obtain ⟨p25, h, hk27⟩ := flow1 h
 obtain ⟨k26, h⟩ := loop_some h
 refine WC.joinB 0 (σ := (List UInt8 × Own × Value)) (fun x w' => p25 = .go x.1 ∧ Stp [11, 13, 1002, 1004] (Lg.O0 A) w x.2.1 w' ∧ OwnSl 1008 Rep.b 5 x.2.1 w' x.2.2 x.1) (fun x => [(4, x.2.2)]) ?_ ?_
 ·refine WC.loop (σ := (List UInt8 × Int × Own × Value)) (fun x k w' => loopN k (wire_Encode_lp1 a0) (x.1, x.2.1) = some p25 ∧ Stp [11, 13, 1002, 1004] (Lg.O0 A) w x.2.2.1 w' ∧ OwnSl 1004 Rep.b 5 x.2.2.1 w' x.2.2.2 x.1) (fun x => [(4, x.2.2.2), (8, v0), (9, vi (a0.length : Int)), (10, vi x.2.1)]) ([], 0, (Lg.O0 A), Value.slice none 0 0) k26 (.cons rfl (.cons rfl (.cons rfl (.cons rfl .nil)))) ⟨h, (Stp.refl _ _ _), (OwnSl.nil 1004 Rep.b 5)⟩ ?_
  rintro ⟨out12, x15, O16, v13⟩ k26 wd17 ⟨h, hst18, hf14⟩
  obtain ⟨j28, q29, rfl, h, hn30⟩ := rnd1 h
  unfold wire_Encode_lp1 at h
  try dsimp only at h hst18 hf14
  refine (show WC _ _ _ _ [(4, v13), (8, v0), (9, vi (a0.length : Int)), (10, vi x15)] _ from ?_)
  refine WC.seq ?_
  refine WC.region ?_
  refine WL.y (Y.lss_i rfl rfl) rfl ?_
  refine WL.nil ?_
  refine At.then ?_
  refine WC.seq ?_
  rcases cnd h with ⟨hc31, h⟩ | ⟨hc31, h⟩
  ·refine WC.condT' rfl hc31 ?_
   refine WC.skip ?_
   refine At.then ?_
   refine WC.seq ?_
   refine WC.block ?_
   refine WC.seq ?_
   refine WC.region ?_
   obtain ⟨e32, he32, h⟩ := bnd h
   have hf41 := hf11.mono (imm_st hst18 rfl rfl)
   obtain ⟨b33, off44, cap40, cs39, hv34, hi35, hl36, hc37, hok38, hA45⟩ := Sl.at2 hf41 he32
   obtain ⟨_, _, rfl, rfl, ⟨_, _, rfl, rfl, ⟨_, _, rfl, rfl, ⟨v42, rfl, hf43⟩⟩⟩⟩ := hok38
   replace hc37 : CellsAt _ _ _ [vi e32.Num, vi e32.Type_, vu e32.V, v42] := hc37
   have hca46 := CAt.imm hc37 hA45
   refine WL.y (Y.indexAddr ty22 ty40 rfl hv34 rfl hi35 hl36) rfl ?_
   refine WL.y (Y.loadAg ty40 rfl rfl hca46.at_ rfl) rfl ?_
   refine WL.alloc (O := O16) 11 [vi 0, vi 0, vu 0, Value.slice none 0 0] ty40 rfl rfl ?_
   intro p48 O49 wd50 hst51 hb47
   have hf52 := hf43.mono (imm_st hst51 rfl rfl)
   have hh56 := h
   obtain ⟨p53, m54, c55, rfl⟩ := hf52.shape
   have h := hh56
   refine WL.store (v := Value.agg (List.toArray [vi e32.Num, vi e32.Type_, vu e32.V, (Value.slice p53 m54 c55)])) (cells' := [vi e32.Num, vi e32.Type_, vu e32.V, (Value.slice p53 m54 c55)]) ty40 rfl rfl hb47 rfl (Nat.le_of_ble_eq_true rfl) rfl rfl ?_
   intro wd57 hst58 hb59
   refine WL.nil ?_
   refine At.then ?_
   refine WC.seq ?_
   refine WC.seq ?_
   refine WC.region ?_
   refine WL.y (Y.loadAg ty40 rfl rfl (hb59.cells 0 [vi e32.Num, vi e32.Type_, vu e32.V, (Value.slice p53 m54 c55)] rfl) rfl) rfl ?_
   have hf60 := hf52.mono (imm_st hst58 rfl rfl)
   obtain ⟨r61, hp62, h⟩ := bnd h
   refine WL.call (vals := [Value.agg (List.toArray [vi e32.Num, vi e32.Type_, vu e32.V, (Value.slice p53 m54 c55)])]) kok20 rfl rfl (c_wire_check (A := fun _ => True) (a0 := e32) (Sl.all hf60) hp62) ?_
   rintro vr65 wd64 ⟨rfl, hm63⟩
   obtain ⟨O66, hold67, hnew68, hst69⟩ := adoptE O49 (fun k => 1) hm63
   refine WL.y (Y.assign rfl) rfl ?_
   refine WL.nil ?_
   refine At.then ?_
   refine WC.seq ?_
   refine WC.region ?_
   refine WL.y (Y.move rfl) rfl ?_
   refine WL.y (Y.neq_i rfl rfl) rfl ?_
   refine WL.nil ?_
   refine At.then ?_
   rcases cnd h with ⟨hc70, h⟩ | ⟨hc70, h⟩
   ·refine WC.condT' rfl hc70 ?_
    refine WC.seq ?_
    refine WC.region ?_
    refine WL.y (Y.move rfl) rfl ?_
    refine WL.y (Y.assign rfl) rfl ?_
    refine WL.y (Y.assign rfl) rfl ?_
    refine WL.nil ?_
    refine At.then ?_
    refine WC.ret ?_
    refine At.thenR ?_
    refine At.inBlockR ?_
    refine At.thenR ?_
    refine At.loopR ?_
    have h := outr1 h hn30 hk27
    refine At.joinBR ?_
    refine At.inBlockR ?_
    refine At.thenR ?_
    obtain ⟨rfl, rfl⟩ := tup2 h
    have hs71 : Stp [11, 13, 1002, 1004] (Lg.O0 A) w O66 wd64 := (Stp.trans (Stp.up hst18 rfl) (Stp.trans (Stp.up hst51 rfl) (Stp.trans (Stp.up hst58 rfl) (Stp.up hst69 rfl))))
    exact At.res (.inl rfl) rfl (.tmp rfl (.tmp rfl .nil)) ⟨Value.slice none 0 0, rfl, (Stp.ext hs71 rfl rfl), RowF.nil⟩
   ·refine WC.condF' rfl hc70 ?_
    refine WC.skip ?_
    refine At.then ?_
    refine WC.seq ?_
    refine WC.region ?_
    refine WL.y (Y.move rfl) rfl ?_
    refine WL.y (Y.fieldAddr fo40_0 rfl) rfl ?_
    have hf72 := hb59.st hst69 rfl
    refine WL.y (Y.loadSc ty3 rfl rfl (hf72.cell 0 _ rfl)) rfl ?_
    refine WL.y (Y.mul_i rfl rfl) rfl ?_
    refine WL.y (Y.fieldAddr fo40_1 rfl) rfl ?_
    refine WL.y (Y.loadSc ty3 rfl rfl (hf72.cell 1 _ rfl)) rfl ?_
    refine WL.y (Y.add_i rfl rfl) rfl ?_
    refine WL.y (Y.conv_iu ty3.u ty38.u rfl) rfl ?_
    obtain ⟨r73, hp74, h⟩ := bnd h
    refine WL.call (vals := [vu (toU64 (w64 ((w64 (8 * e32.Num)) + e32.Type_)))]) kok19 rfl rfl (c_wire_Var hp74) ?_
    rintro vr79 wd78 ⟨_, rfl, hm77, f76⟩
    obtain ⟨O80, hold81, hnew82, hst83⟩ := adoptE O66 (fun k => if Value.ownBlock vr79 = some k then 12 else 1) hm77
    have hf84 : OwnSl 12 Rep.b 5 O80 wd78 vr79 r73 := RowF.adopt 12 Flat.b f76 hnew82 (fun k hk => if_pos hk)
    obtain ⟨xs85, hxs85, h⟩ := bnd h
    have hf86 := hf14.st hst51 rfl rfl rfl
    have hf87 := hf86.st hst58 rfl rfl rfl
    have hf88 := hf87.st hst69 rfl rfl rfl
    have hf89 := hf88.st hst83 rfl rfl rfl
    refine WL.append (by decide) ty25 ty5 rfl (by decide) rfl rfl hf89 hf84.src hxs85 rfl ?_
    intro v93 O90 wd91 hst92 ho94
    refine WL.y (Y.assign rfl) rfl ?_
    refine WL.nil ?_
    refine At.then ?_
    refine WC.seq ?_
    refine WC.region ?_
    refine WL.y (Y.fieldAddr fo40_1 rfl) rfl ?_
    have hf95 := hf72.st hst83 rfl
    have hf96 := hf95.st hst92 rfl
    refine WL.y (Y.loadSc ty3 rfl rfl (hf96.cell 1 _ rfl)) rfl ?_
    refine WL.nil ?_
    refine At.then ?_
    obtain ⟨p103, h, hk104⟩ := bnd h
    refine WC.join (σ := (List UInt8 × Own × Value)) (fun x w' => x.1 = p103 ∧ Stp [1004] O90 wd91 x.2.1 w' ∧ OwnSl 1002 Rep.b 5 x.2.1 w' x.2.2 x.1) (fun x => [(4, x.2.2), (8, v0), (9, vi (a0.length : Int)), (10, vi x15)]) ?_ ?_
    ·refine WC.block ?_
     refine WC.seq ?_
     refine WC.region ?_
     refine WL.y (Y.eql_i rfl rfl) rfl ?_
     obtain ⟨t105, ht105, h⟩ := lt1 h
     refine WL.yE (Y.assign rfl) (congrArg Value.bool ht105.symm) rfl ?_
     refine WL.nil ?_
     refine At.then ?_
     rcases cnd h with ⟨hc106, h⟩ | ⟨hc106, h⟩
     ·refine WC.condT' rfl hc106 ?_
      refine WC.region ?_
      refine WL.y (Y.move rfl) rfl ?_
      refine WL.y (Y.fieldAddr fo40_2 rfl) rfl ?_
      refine WL.y (Y.loadSc ty38 rfl rfl (hf96.cell 2 _ rfl)) rfl ?_
      obtain ⟨r107, hp108, h⟩ := bnd h
      refine WL.call (vals := [vu e32.V]) kok19 rfl rfl (c_wire_Var hp108) ?_
      rintro vr113 wd112 ⟨_, rfl, hm111, f110⟩
      obtain ⟨O114, hold115, hnew116, hst117⟩ := adoptE O90 (fun k => if Value.ownBlock vr113 = some k then 13 else 1) hm111
      have hf118 : OwnSl 13 Rep.b 5 O114 wd112 vr113 r107 := RowF.adopt 13 Flat.b f110 hnew116 (fun k hk => if_pos hk)
      obtain ⟨xs119, hxs119, h⟩ := bnd h
      have hf120 := ho94.st hst117 rfl rfl rfl
      refine WL.append (by decide) ty25 ty5 rfl (by decide) rfl rfl hf120 hf118.src hxs119 rfl ?_
      intro v124 O121 wd122 hst123 ho125
      refine WL.y (Y.assign rfl) rfl ?_
      refine WL.nil ?_
      refine At.inBlock ?_
      obtain ⟨O126, hst127, ho128⟩ := OwnSl.rlb 1002 rfl ho125
      exact At.join (σ := (List UInt8 × Own × Value)) (xs119, O126, v124) ⟨some1 h, (Stp.trans (Stp.up hst117 rfl) (Stp.trans (Stp.up hst123 rfl) (Stp.up hst127 rfl))), ho128⟩ (.cons rfl (.cons rfl (.cons rfl (.cons rfl .nil))))
     ·refine WC.condF' rfl hc106 ?_
      refine WC.seq ?_
      refine WC.region ?_
      refine WL.y (Y.eql_i rfl rfl) rfl ?_
      obtain ⟨t129, ht129, h⟩ := lt1 h
      refine WL.yE (Y.assign rfl) (congrArg Value.bool ht129.symm) rfl ?_
      refine WL.nil ?_
      refine At.then ?_
      rcases cnd h with ⟨hc130, h⟩ | ⟨hc130, h⟩
      ·refine WC.condT' rfl hc130 ?_
       refine WC.region ?_
       refine WL.y (Y.move rfl) rfl ?_
       refine WL.y (Y.fieldAddr fo40_2 rfl) rfl ?_
       refine WL.y (Y.loadSc ty38 rfl rfl (hf96.cell 2 _ rfl)) rfl ?_
       obtain ⟨r131, hp132, h⟩ := bnd h
       refine WL.call (vals := [vu e32.V]) kok21 rfl rfl (c_wire_eight hp132) ?_
       rintro vr137 wd136 ⟨_, rfl, hm135, f134⟩
       obtain ⟨O138, hold139, hnew140, hst141⟩ := adoptE O90 (fun k => if Value.ownBlock vr137 = some k then 14 else 1) hm135
       have hf142 : OwnSl 14 Rep.b 5 O138 wd136 vr137 r131 := RowF.adopt 14 Flat.b f134 hnew140 (fun k hk => if_pos hk)
       obtain ⟨xs143, hxs143, h⟩ := bnd h
       have hf144 := ho94.st hst141 rfl rfl rfl
       refine WL.append (by decide) ty25 ty5 rfl (by decide) rfl rfl hf144 hf142.src hxs143 rfl ?_
       intro v148 O145 wd146 hst147 ho149
       refine WL.y (Y.assign rfl) rfl ?_
       refine WL.nil ?_
       refine At.inBlock ?_
       obtain ⟨O150, hst151, ho152⟩ := OwnSl.rlb 1002 rfl ho149
       exact At.join (σ := (List UInt8 × Own × Value)) (xs143, O150, v148) ⟨some1 h, (Stp.trans (Stp.up hst141 rfl) (Stp.trans (Stp.up hst147 rfl) (Stp.up hst151 rfl))), ho152⟩ (.cons rfl (.cons rfl (.cons rfl (.cons rfl .nil))))
      ·refine WC.condF' rfl hc130 ?_
       refine WC.seq ?_
       refine WC.region ?_
       refine WL.y (Y.eql_i rfl rfl) rfl ?_
       obtain ⟨t153, ht153, h⟩ := lt1 h
       refine WL.yE (Y.assign rfl) (congrArg Value.bool ht153.symm) rfl ?_
       refine WL.nil ?_
       refine At.then ?_
       rcases cnd h with ⟨hc154, h⟩ | ⟨hc154, h⟩
       ·refine WC.condT' rfl hc154 ?_
        refine WC.seq ?_
        refine WC.region ?_
        refine WL.y (Y.move rfl) rfl ?_
        refine WL.y (Y.fieldAddr fo40_3 rfl) rfl ?_
        refine WL.y (Y.loadSc ty25 rfl rfl (hf96.cell 3 _ rfl)) rfl ?_
        have hf155 := hf60.mono (imm_st hst69 rfl rfl)
        have hf156 := hf155.mono (imm_st hst83 rfl rfl)
        have hf157 := hf156.mono (imm_st hst92 rfl rfl)
        refine WL.y (Y.len ty25 rfl hf157) rfl ?_
        refine WL.y (Y.conv_iu ty3.u ty38.u rfl) rfl ?_
        obtain ⟨r158, hp159, h⟩ := bnd h
        refine WL.call (vals := [vu (toU64 (e32.B.length : Int))]) kok19 rfl rfl (c_wire_Var hp159) ?_
        rintro vr164 wd163 ⟨_, rfl, hm162, f161⟩
        obtain ⟨O165, hold166, hnew167, hst168⟩ := adoptE O90 (fun k => if Value.ownBlock vr164 = some k then 15 else 1) hm162
        have hf169 : OwnSl 15 Rep.b 5 O165 wd163 vr164 r158 := RowF.adopt 15 Flat.b f161 hnew167 (fun k hk => if_pos hk)
        obtain ⟨xs170, hxs170, h⟩ := bnd h
        have hf171 := ho94.st hst168 rfl rfl rfl
        refine WL.append (by decide) ty25 ty5 rfl (by decide) rfl rfl hf171 hf169.src hxs170 rfl ?_
        intro v175 O172 wd173 hst174 ho176
        refine WL.y (Y.assign rfl) rfl ?_
        refine WL.nil ?_
        refine At.then ?_
        refine WC.region ?_
        refine WL.y (Y.move rfl) rfl ?_
        refine WL.y (Y.fieldAddr fo40_3 rfl) rfl ?_
        have hf177 := hf96.st hst168 rfl
        have hf178 := hf177.st hst174 rfl
        refine WL.y (Y.loadSc ty25 rfl rfl (hf178.cell 3 _ rfl)) rfl ?_
        obtain ⟨xs179, hxs179, h⟩ := bnd h
        have hf180 := hf157.mono (imm_st hst168 rfl rfl)
        have hf181 := hf180.mono (imm_st hst174 rfl rfl)
        refine WL.append (by decide) ty25 ty5 rfl (by decide) rfl rfl ho176 (Sl.src hf181) hxs179 rfl ?_
        intro v185 O182 wd183 hst184 ho186
        refine WL.y (Y.assign rfl) rfl ?_
        refine WL.nil ?_
        refine At.inBlock ?_
        obtain ⟨O187, hst188, ho189⟩ := OwnSl.rlb 1002 rfl ho186
        exact At.join (σ := (List UInt8 × Own × Value)) (xs179, O187, v185) ⟨some1 h, (Stp.trans (Stp.up hst168 rfl) (Stp.trans (Stp.up hst174 rfl) (Stp.trans (Stp.up hst184 rfl) (Stp.up hst188 rfl)))), ho189⟩ (.cons rfl (.cons rfl (.cons rfl (.cons rfl .nil))))
       ·refine WC.condF' rfl hc154 ?_
        refine WC.skip ?_
        refine At.inBlock ?_
        obtain ⟨O190, hst191, ho192⟩ := OwnSl.rlb 1002 rfl ho94
        exact At.join (σ := (List UInt8 × Own × Value)) (xs85, O190, v93) ⟨some1 h, (Stp.up hst191 rfl), ho192⟩ (.cons rfl (.cons rfl (.cons rfl (.cons rfl .nil))))
    ·rintro ⟨out97, O100, v98⟩ wd101 ⟨rfl, hst102, hf99⟩
     replace h := hk104
     try dsimp only at h hst102 hf99
     refine (show At _ _ _ [(4, v98), (8, v0), (9, vi (a0.length : Int)), (10, vi x15)] _ from ?_)
     refine At.inBlock ?_
     refine At.then ?_
     refine WC.region ?_
     refine WL.y (Y.add_i rfl rfl) rfl ?_
     refine WL.y (Y.move rfl) rfl ?_
     refine WL.nil ?_
     obtain ⟨O193, hst194, ho195⟩ := OwnSl.rlb 1004 rfl hf99
     exact At.round (out97, w64 (x15 + 1), O193, v98) j28 (Nat.lt_succ_self _) ⟨next1 h hn30, (Stp.trans (Stp.up hst18 rfl) (Stp.trans (Stp.up hst51 rfl) (Stp.trans (Stp.up hst58 rfl) (Stp.trans (Stp.up hst69 rfl) (Stp.trans (Stp.up hst83 rfl) (Stp.trans (Stp.up hst92 rfl) (Stp.trans (Stp.up hst102 rfl) (Stp.up hst194 rfl)))))))), ho195⟩ (.cons rfl (.cons rfl (.cons rfl (.cons rfl .nil))))
  ·refine WC.condF' rfl hc31 ?_
   refine WC.exit ?_
   refine At.thenX ?_
   refine At.loopX ?_
   obtain ⟨O196, hst197, ho198⟩ := OwnSl.rlb 1008 rfl hf14
   exact At.hitB (σ := (List UInt8 × Own × Value)) (out12, O196, v13) ⟨brk1 h hn30, (Stp.trans (Stp.up hst18 rfl) (Stp.up hst197 rfl)), ho198⟩ (.cons rfl .nil)
 ·rintro ⟨out19, O22, v20⟩ wd23 ⟨rfl, hst24, hf21⟩
  replace h := flowK_go hk27
  try dsimp only at h hst24 hf21
  refine (show At _ _ _ [(4, v20)] _ from ?_)
  refine At.inBlockHit ?_
  refine At.then ?_
  refine WC.seq ?_
  refine WC.region ?_
  refine WL.y (Y.move rfl) rfl ?_
  refine WL.y (Y.assign rfl) rfl ?_
  refine WL.y (Y.assign rfl) rfl ?_
  refine WL.nil ?_
  refine At.then ?_
  refine WC.ret ?_
  obtain ⟨rfl, rfl⟩ := tup2 h
  have hs199 : Stp [11, 13, 1002, 1004] (Lg.O0 A) w O22 wd23 := (Stp.up hst24 rfl)
  exact At.res (.inl rfl) rfl (.tmp rfl (.tmp rfl .nil)) ⟨v20, rfl, (Stp.ext hs199 rfl rfl), (OwnSl.outF hf21 hs199 low0 rfl)⟩
theorem c_wire_GetVar {A : Nat → Prop} {a0 : List UInt8} {v0 : Value} {a1 : Int} {w : World} (hs0 : Sl Rep.b w A v0 a0) {r0 : UInt64} {r1 : Int} {r2 : Int} (h : wire_GetVar a0 a1 = some (r0, r1, r2)) : Rets Try.prog 18 [v0, vi a1] w (fun v w' => v = Value.tuple (List.toArray [vu r0, vi r1, vi r2]) ∧ Ext w w') := by
 unfold wire_GetVar at h
 refine Rets.enter Try.func18 rfl rfl ?_
 have hf11 : Sl Rep.b w (imm (Lg.O0 A)) v0 a0 := (Sl.start hs0)
 refine (show WC _ _ _ _ [(0, v0), (1, vi a1)] _ from ?_)
 refine WC.seq ?_
 refine WC.region ?_
 refine WL.y (Y.assign (v := vu 0) rfl) rfl ?_
 refine WL.y (Y.assign rfl) rfl ?_
 refine WL.y (Y.assign rfl) rfl ?_
 refine WL.nil ?_
 refine At.then ?_
 refine WC.seq ?_
 refine WC.seq ?_
 refine WC.region ?_
 refine WL.y (Y.move rfl) rfl ?_
 refine WL.y (Y.lss_i rfl rfl) rfl ?_
 refine WL.y (Y.move rfl) rfl ?_
 refine WL.cut 5 (σ := Unit) (fun _ w' => w = w') (fun _ => [(0, v0), (1, vi a1), (4, vu 0), (16, Value.bool ((decide (a1 < 0)) || (decide ((a0.length : Int) < a1))))]) ?_ ?_
 ·refine WL.part 11 rfl (fun hE12 => ?_) (fun hE12 => ?_)
  ·refine WL.gS rfl rfl rfl rfl ?_
   refine WL.gS rfl rfl rfl rfl ?_
   refine WL.gS rfl rfl rfl rfl ?_
   refine WL.gS rfl rfl rfl rfl ?_
   refine WL.y (Y.pick (b := true) rfl rfl) rfl ?_
   refine WL.ren (v' := Value.bool ((decide (a1 < 0)) || (decide ((a0.length : Int) < a1)))) 16 rfl (congrArg Value.bool (orT hE12)) ?_
   exact WL.nil (At.join () rfl (.cons rfl (.cons rfl (.cons rfl (.cons rfl .nil)))))
  ·refine WL.ung rfl rfl ?_
   refine WL.y (Y.move rfl) rfl ?_
   refine WL.ung rfl rfl ?_
   refine WL.y (Y.move rfl) rfl ?_
   refine WL.ung rfl rfl ?_
   refine WL.y (Y.len ty25 rfl hf11) rfl ?_
   refine WL.ung rfl rfl ?_
   refine WL.y (Y.gtr_i rfl rfl) rfl ?_
   refine WL.y (Y.pick (b := false) rfl rfl) rfl ?_
   refine WL.ren (v' := Value.bool ((decide (a1 < 0)) || (decide ((a0.length : Int) < a1)))) 16 rfl (congrArg Value.bool (orF hE12)) ?_
   exact WL.nil (At.join () rfl (.cons rfl (.cons rfl (.cons rfl (.cons rfl .nil)))))
 ·rintro _ _ rfl
  refine (show WL _ _ _ _ _ [(0, v0), (1, vi a1), (4, vu 0), (16, Value.bool ((decide (a1 < 0)) || (decide ((a0.length : Int) < a1))))] _ from ?_)
  refine WL.nil ?_
  refine At.then ?_
  rcases cnd h with ⟨hc13, h⟩ | ⟨hc13, h⟩
  ·refine WC.condT' rfl hc13 ?_
   refine WC.seq ?_
   refine WC.region ?_
   refine WL.y (Y.assign (v := vu 0) rfl) rfl ?_
   refine WL.y (Y.assign rfl) rfl ?_
   refine WL.y (Y.assign rfl) rfl ?_
   refine WL.nil ?_
   refine At.then ?_
   refine WC.ret ?_
   refine At.thenR ?_
   obtain ⟨rfl, rfl, rfl⟩ := tup3 h
   have hs14 : Stp [] (Lg.O0 A) w (Lg.O0 A) w := (Stp.refl _ _ _)
   exact At.res (.inl rfl) rfl (.tmp rfl (.tmp rfl (.tmp rfl .nil))) ⟨rfl, (Stp.ext hs14 rfl rfl)⟩
  ·refine WC.condF' rfl hc13 ?_
   refine WC.skip ?_
   refine At.then ?_
   refine WC.seq ?_
   refine WC.seq ?_
   refine WC.region ?_
   refine WL.y (Y.move rfl) rfl ?_
   refine WL.y (Y.move rfl) rfl ?_
   obtain ⟨t15, ht15, h⟩ := bnd h
   obtain ⟨v16, hY18, hf17⟩ := Sl.slice (ρ := [(17, v0), (18, vi a1)]) (x := (.tmp 17)) (lo := (some (.tmp 18))) (hi := none) ty25 ty5 rfl rfl rfl hf11 ht15
   refine WL.y (Y.sub (.cons rfl (.cons rfl .nil)) (hY18 _ _)) rfl ?_
   refine WL.y (Y.len ty25 rfl hf17) rfl ?_
   refine WL.y (Y.move rfl) rfl ?_
   refine WL.nil ?_
   refine At.then ?_
   refine WC.block ?_
   obtain ⟨p21, h, hk23⟩ := flow1 h
   obtain ⟨k22, h⟩ := loop_some h
   refine WC.joinB 0 (σ := Unit) (fun x w' => p21 = .go () ∧ w = w') (fun x => []) ?_ ?_
   ·refine WC.loop (σ := (UInt64 × Int)) (fun x k w' => loopN k (wire_GetVar_lp1 t15) (x.1, x.2) = some p21 ∧ w = w') (fun x => [(4, vu x.1), (19, v16), (20, vi (t15.length : Int)), (21, vi x.2)]) (0, 0) k22 (.cons rfl (.cons rfl (.cons rfl (.cons rfl .nil)))) ⟨h, rfl⟩ ?_
    rintro ⟨v19, x20⟩ k22 _ ⟨h, rfl⟩
    obtain ⟨j24, q25, rfl, h, hn26⟩ := rnd1 h
    unfold wire_GetVar_lp1 at h
    try dsimp only at h
    refine (show WC _ _ _ _ [(4, vu v19), (19, v16), (20, vi (t15.length : Int)), (21, vi x20)] _ from ?_)
    refine WC.seq ?_
    refine WC.region ?_
    refine WL.y (Y.lss_i rfl rfl) rfl ?_
    refine WL.nil ?_
    refine At.then ?_
    refine WC.seq ?_
    rcases cnd h with ⟨hc27, h⟩ | ⟨hc27, h⟩
    ·refine WC.condT' rfl hc27 ?_
     refine WC.skip ?_
     refine At.then ?_
     refine WC.seq ?_
     refine WC.block ?_
     refine WC.seq ?_
     refine WC.region ?_
     refine WL.y (Y.move rfl) rfl ?_
     obtain ⟨e28, he28, h⟩ := bnd h
     obtain ⟨b29, off37, cap36, cs35, hv30, hi31, hl32, hc33, hok34, hA38⟩ := Sl.at2 hf17 he28
     obtain rfl := hok34
     replace hc33 : CellsAt _ _ _ [vb e28] := hc33
     have hca39 := CAt.imm hc33 hA38
     refine WL.y (Y.indexAddr ty25 ty5 rfl hv30 rfl hi31 hl32) rfl ?_
     refine WL.y (Y.loadSc ty5 rfl rfl hca39.at_) rfl ?_
     refine WL.y (Y.assign rfl) rfl ?_
     refine WL.y (Y.assign rfl) rfl ?_
     refine WL.nil ?_
     refine At.then ?_
     refine WC.seq ?_
     refine WC.seq ?_
     refine WC.region ?_
     refine WL.y (Y.move rfl) rfl ?_
     refine WL.y (Y.eql_i rfl rfl) rfl ?_
     refine WL.y (Y.move rfl) rfl ?_
     refine WL.cut 3 (σ := Unit) (fun _ w' => w = w') (fun _ => [(4, vu v19), (7, vi x20), (8, vb e28), (19, v16), (20, vi (t15.length : Int)), (21, vi x20), (31, Value.bool ((decide (x20 = 9)) && (decide (1 < e28))))]) ?_ ?_
     ·refine WL.part 28 rfl (fun hE40 => ?_) (fun hE40 => ?_)
      ·refine WL.ung rfl rfl ?_
       refine WL.y (Y.move rfl) rfl ?_
       refine WL.ung rfl rfl ?_
       refine WL.y (Y.gtr_b (b := 1) rfl rfl) rfl ?_
       refine WL.y (Y.pick (b := true) rfl rfl) rfl ?_
       refine WL.ren (v' := Value.bool ((decide (x20 = 9)) && (decide (1 < e28)))) 31 rfl (congrArg Value.bool (andT hE40)) ?_
       exact WL.nil (At.join () rfl (.cons rfl (.cons rfl (.cons rfl (.cons rfl (.cons rfl (.cons rfl (.cons rfl .nil))))))))
      ·refine WL.gS rfl rfl rfl rfl ?_
       refine WL.gS rfl rfl rfl rfl ?_
       refine WL.y (Y.pick (b := false) rfl rfl) rfl ?_
       refine WL.ren (v' := Value.bool ((decide (x20 = 9)) && (decide (1 < e28)))) 31 rfl (congrArg Value.bool (andF hE40)) ?_
       exact WL.nil (At.join () rfl (.cons rfl (.cons rfl (.cons rfl (.cons rfl (.cons rfl (.cons rfl (.cons rfl .nil))))))))
     ·rintro _ _ rfl
      refine (show WL _ _ _ _ _ [(4, vu v19), (7, vi x20), (8, vb e28), (19, v16), (20, vi (t15.length : Int)), (21, vi x20), (31, Value.bool ((decide (x20 = 9)) && (decide (1 < e28))))] _ from ?_)
      refine WL.nil ?_
      refine At.then ?_
      rcases cnd h with ⟨hc41, h⟩ | ⟨hc41, h⟩
      ·refine WC.condT' rfl hc41 ?_
       refine WC.seq ?_
       refine WC.region ?_
       refine WL.y (Y.assign (v := vu 0) rfl) rfl ?_
       refine WL.y (Y.assign rfl) rfl ?_
       refine WL.y (Y.assign rfl) rfl ?_
       refine WL.nil ?_
       refine At.then ?_
       refine WC.ret ?_
       refine At.thenR ?_
       refine At.inBlockR ?_
       refine At.thenR ?_
       refine At.loopR ?_
       have h := outr1 h hn26 hk23
       refine At.joinBR ?_
       refine At.inBlockR ?_
       refine At.thenR ?_
       obtain ⟨rfl, rfl, rfl⟩ := tup3 h
       have hs42 : Stp [] (Lg.O0 A) w (Lg.O0 A) w := (Stp.refl _ _ _)
       exact At.res (.inl rfl) rfl (.tmp rfl (.tmp rfl (.tmp rfl .nil))) ⟨rfl, (Stp.ext hs42 rfl rfl)⟩
      ·refine WC.condF' rfl hc41 ?_
       refine WC.skip ?_
       refine At.then ?_
       refine WC.seq ?_
       refine WC.region ?_
       refine WL.y (Y.move rfl) rfl ?_
       refine WL.y (Y.move rfl) rfl ?_
       refine WL.y (Y.and_b (b := 127) rfl rfl) rfl ?_
       refine WL.y (Y.conv_bu ty5.u ty38.u rfl) rfl ?_
       refine WL.y (Y.move rfl) rfl ?_
       refine WL.y (Y.mul_i rfl rfl) rfl ?_
       refine WL.y (Y.conv_iu ty3.u ty58.u rfl) rfl ?_
       refine WL.y (Y.shl_uu rfl rfl) rfl ?_
       refine WL.y (Y.or_u rfl rfl) rfl ?_
       obtain ⟨v43, hv43, h⟩ := lt1 h
       refine WL.yE (Y.assign rfl) (congrArg vu hv43.symm) rfl ?_
       refine WL.nil ?_
       refine At.then ?_
       refine WC.seq ?_
       refine WC.region ?_
       refine WL.y (Y.move rfl) rfl ?_
       refine WL.y (Y.lss_b (b := 128) rfl rfl) rfl ?_
       refine WL.nil ?_
       refine At.then ?_
       rcases cnd h with ⟨hc44, h⟩ | ⟨hc44, h⟩
       ·refine WC.condT' rfl hc44 ?_
        refine WC.seq ?_
        refine WC.seq ?_
        refine WC.region ?_
        refine WL.y (Y.move rfl) rfl ?_
        refine WL.y (Y.eql_b (b := 0) rfl rfl) rfl ?_
        refine WL.y (Y.move rfl) rfl ?_
        refine WL.cut 3 (σ := Unit) (fun _ w' => w = w') (fun _ => [(4, vu v43), (7, vi x20), (48, Value.bool ((decide (e28 = 0)) && (decide (0 < x20))))]) ?_ ?_
        ·refine WL.part 45 rfl (fun hE45 => ?_) (fun hE45 => ?_)
         ·refine WL.ung rfl rfl ?_
          refine WL.y (Y.move rfl) rfl ?_
          refine WL.ung rfl rfl ?_
          refine WL.y (Y.gtr_i rfl rfl) rfl ?_
          refine WL.y (Y.pick (b := true) rfl rfl) rfl ?_
          refine WL.ren (v' := Value.bool ((decide (e28 = 0)) && (decide (0 < x20)))) 48 rfl (congrArg Value.bool (andT hE45)) ?_
          exact WL.nil (At.join () rfl (.cons rfl (.cons rfl (.cons rfl .nil))))
         ·refine WL.gS rfl rfl rfl rfl ?_
          refine WL.gS rfl rfl rfl rfl ?_
          refine WL.y (Y.pick (b := false) rfl rfl) rfl ?_
          refine WL.ren (v' := Value.bool ((decide (e28 = 0)) && (decide (0 < x20)))) 48 rfl (congrArg Value.bool (andF hE45)) ?_
          exact WL.nil (At.join () rfl (.cons rfl (.cons rfl (.cons rfl .nil))))
        ·rintro _ _ rfl
         refine (show WL _ _ _ _ _ [(4, vu v43), (7, vi x20), (48, Value.bool ((decide (e28 = 0)) && (decide (0 < x20))))] _ from ?_)
         refine WL.nil ?_
         refine At.then ?_
         rcases cnd h with ⟨hc46, h⟩ | ⟨hc46, h⟩
         ·refine WC.condT' rfl hc46 ?_
          refine WC.seq ?_
          refine WC.region ?_
          refine WL.y (Y.assign (v := vu 0) rfl) rfl ?_
          refine WL.y (Y.assign rfl) rfl ?_
          refine WL.y (Y.assign rfl) rfl ?_
          refine WL.nil ?_
          refine At.then ?_
          refine WC.ret ?_
          refine At.thenR ?_
          refine At.inBlockR ?_
          refine At.thenR ?_
          refine At.loopR ?_
          have h := outr1 h hn26 hk23
          refine At.joinBR ?_
          refine At.inBlockR ?_
          refine At.thenR ?_
          obtain ⟨rfl, rfl, rfl⟩ := tup3 h
          have hs47 : Stp [] (Lg.O0 A) w (Lg.O0 A) w := (Stp.refl _ _ _)
          exact At.res (.inl rfl) rfl (.tmp rfl (.tmp rfl (.tmp rfl .nil))) ⟨rfl, (Stp.ext hs47 rfl rfl)⟩
         ·refine WC.condF' rfl hc46 ?_
          refine WC.skip ?_
          refine At.then ?_
          refine WC.seq ?_
          refine WC.region ?_
          refine WL.y (Y.move rfl) rfl ?_
          refine WL.y (Y.move rfl) rfl ?_
          refine WL.y (Y.add_i rfl rfl) rfl ?_
          refine WL.y (Y.assign rfl) rfl ?_
          obtain ⟨nv48, hnv48, h⟩ := lt1 h
          refine WL.yE (Y.assign rfl) (congrArg vi hnv48.symm) rfl ?_
          refine WL.y (Y.assign rfl) rfl ?_
          refine WL.nil ?_
          refine At.then ?_
          refine WC.ret ?_
          refine At.inBlockR ?_
          refine At.thenR ?_
          refine At.loopR ?_
          have h := outr1 h hn26 hk23
          refine At.joinBR ?_
          refine At.inBlockR ?_
          refine At.thenR ?_
          obtain ⟨rfl, rfl, rfl⟩ := tup3 h
          have hs49 : Stp [] (Lg.O0 A) w (Lg.O0 A) w := (Stp.refl _ _ _)
          exact At.res (.inl rfl) rfl (.tmp rfl (.tmp rfl (.tmp rfl .nil))) ⟨rfl, (Stp.ext hs49 rfl rfl)⟩
       ·refine WC.condF' rfl hc44 ?_
        refine WC.skip ?_
        refine At.inBlock ?_
        refine At.then ?_
        refine WC.region ?_
        refine WL.y (Y.add_i rfl rfl) rfl ?_
        refine WL.y (Y.move rfl) rfl ?_
        refine WL.nil ?_
        exact At.round (v43, w64 (x20 + 1)) j24 (Nat.lt_succ_self _) ⟨next1 h hn26, rfl⟩ (.cons rfl (.cons rfl (.cons rfl (.cons rfl .nil))))
    ·refine WC.condF' rfl hc27 ?_
     refine WC.exit ?_
     refine At.thenX ?_
     refine At.loopX ?_
     exact At.hitB (σ := Unit) () ⟨brk1 h hn26, rfl⟩ .nil
   ·rintro _ _ ⟨rfl, rfl⟩
    replace h := flowK_go hk23
    refine (show At _ _ _ [] _ from ?_)
    refine At.inBlockHit ?_
    refine At.then ?_
    refine WC.seq ?_
    refine WC.region ?_
    refine WL.y (Y.assign (v := vu 0) rfl) rfl ?_
    refine WL.y (Y.assign rfl) rfl ?_
    refine WL.y (Y.assign rfl) rfl ?_
    refine WL.nil ?_
    refine At.then ?_
    refine WC.ret ?_
    obtain ⟨rfl, rfl, rfl⟩ := tup3 h
    have hs50 : Stp [] (Lg.O0 A) w (Lg.O0 A) w := (Stp.refl _ _ _)
    exact At.res (.inl rfl) rfl (.tmp rfl (.tmp rfl (.tmp rfl .nil))) ⟨rfl, (Stp.ext hs50 rfl rfl)⟩
theorem c_bytes_Clone {A : Nat → Prop} {a0 : List UInt8} {v0 : Value} {w : World} (hs0 : Sl Rep.b w A v0 a0) {r0 : List UInt8} (h : bytes_Clone a0 = some r0) : Rets Try.prog 26 [v0] w (fun v w' => ∃ (u0 : Value), v = u0 ∧ Ext w w' ∧ RowF Rep.b 5 w w' u0 r0) := by
  unfold bytes_Clone at h
  refine Rets.enter Try.func26 rfl rfl ?_
  refine (show WC _ _ _ _ [(0, v0)] _ from ?_)
  refine WC.seq (WC.region (WL.y (Y.assign rfl) rfl (WL.nil (At.then ?_))))
  refine WC.seq (WC.seq (WC.region ?_))
  refine WL.y (Y.move rfl) rfl ?_
  rcases hs0.nilOr with ⟨rfl, rfl⟩ | ⟨q, n, c, rfl⟩
  · refine WL.y (Y.slnil (p := none) (n := 0) (c := 0) ty25.u rfl rfl) rfl (WL.nil (At.then ?_))
    refine WC.condT rfl (WC.seq (WC.region (WL.y (Y.assign rfl) rfl (WL.nil (At.then (WC.ret (At.thenR ?_)))))))
    have : r0 = [] := by simpa [app] using h.symm
    subst this
    exact At.res (.inl rfl) rfl (.tmp rfl .nil) ⟨_, rfl, Ext.refl w, RowF.nil⟩
  · refine WL.y (Y.slnil (p := some _) ty25.u rfl rfl) rfl (WL.nil (At.then ?_))
    refine WC.condF rfl (WC.skip (At.then ?_))
    refine WC.seq (WC.region ?_)
    have hs := hs0
    refine WL.buildSlice (O := Lg.O0 A) (R := Rep.b) (vals := []) 11 [] (xs := []) (by decide) ty25 ty5 (by decide) (by decide) (Fits.evalp rfl) (by kernel_rfl) rfl rfl rfl ?_
    intro v O1 w1 hst1 ho1
    refine WL.y (Y.move rfl) rfl ?_
    have hs1 := (Sl.start hs).mono (imm_st hst1 rfl rfl)
    refine WL.append (by decide) ty25 ty5 rfl (by decide) rfl rfl ho1 hs1.src h rfl ?_
    intro v2 O2 w2 hst2 ho2
    refine WL.y (Y.assign rfl) rfl (WL.nil (At.then (WC.ret ?_)))
    have hs9 : Stp [11] (Lg.O0 A) w O2 w2 := (Stp.trans (Stp.up hst1 rfl) hst2)
    exact At.res (.inl rfl) rfl (.tmp rfl .nil) ⟨_, rfl, Stp.ext hs9 rfl rfl, OwnSl.outF ho2 hs9 low0 rfl⟩
theorem c_wire_field {A : Nat → Prop} {a0 : List UInt8} {v0 : Value} {a1 : Int} {w : World} (hs0 : Sl Rep.b w A v0 a0) {r0 : api_Fld} {r1 : Int} {r2 : Int} (h : wire_field a0 a1 = some (r0, r1, r2)) : Rets Try.prog 24 [v0, vi a1] w (fun v w' => ∃ (u0_3 : Value), v = Value.tuple (List.toArray [Value.agg (List.toArray [vi r0.Num, vi r0.Type_, vu r0.V, u0_3]), vi r1, vi r2]) ∧ Ext w w' ∧ RowF Rep.b 5 w w' u0_3 r0.B) := by
 unfold wire_field at h
 refine Rets.enter Try.func24 rfl rfl ?_
 have hf11 : Sl Rep.b w (imm (Lg.O0 A)) v0 a0 := (Sl.start hs0)
 refine (show WC _ _ _ _ [(0, v0), (1, vi a1)] _ from ?_)
 refine WC.seq ?_
 refine WC.region ?_
 refine WL.alloc (O := (Lg.O0 A)) 11 [vi 0, vi 0, vu 0, Value.slice none 0 0] ty40 rfl rfl ?_
 intro p13 O14 wd15 hst16 hb12
 refine WL.y (Y.assign rfl) rfl ?_
 refine WL.y (Y.assign rfl) rfl ?_
 refine WL.nil ?_
 refine At.then ?_
 refine WC.seq ?_
 refine WC.region ?_
 refine WL.y (Y.move rfl) rfl ?_
 refine WL.y (Y.move rfl) rfl ?_
 have hf17 := hf11.mono (imm_st hst16 rfl rfl)
 obtain ⟨⟨r18, r19, r20⟩, hp21, h⟩ := bnd h
 refine WL.call (vals := [v0, vi a1]) kok18 rfl rfl (c_wire_GetVar (A := fun _ => True) (Sl.all hf17) hp21) ?_
 rintro vr24 wd23 ⟨rfl, hm22⟩
 obtain ⟨O25, hold26, hnew27, hst28⟩ := adoptE O14 (fun k => 1) hm22
 refine WL.y (Y.move rfl) rfl ?_
 refine WL.y (Y.extract rfl rfl) rfl ?_
 refine WL.y (Y.extract rfl rfl) rfl ?_
 refine WL.y (Y.extract rfl rfl) rfl ?_
 refine WL.y (Y.assign rfl) rfl ?_
 refine WL.y (Y.assign rfl) rfl ?_
 refine WL.y (Y.assign rfl) rfl ?_
 refine WL.nil ?_
 refine At.then ?_
 refine WC.seq ?_
 refine WC.seq ?_
 refine WC.region ?_
 refine WL.y (Y.move rfl) rfl ?_
 refine WL.y (Y.neq_i rfl rfl) rfl ?_
 refine WL.nil ?_
 refine At.then ?_
 rcases cnd h with ⟨hc29, h⟩ | ⟨hc29, h⟩
 ·refine WC.condT' rfl hc29 ?_
  refine WC.seq ?_
  refine WC.region ?_
  have hf30 := hb12.st hst28 rfl
  refine WL.y (Y.loadAg ty40 rfl rfl (hf30.cells 0 [vi 0, vi 0, vu 0, Value.slice none 0 0] rfl) rfl) rfl ?_
  refine WL.y (Y.move rfl) rfl ?_
  refine WL.store (v := Value.agg (List.toArray [vi 0, vi 0, vu 0, Value.slice none 0 0])) (cells' := [vi 0, vi 0, vu 0, Value.slice none 0 0]) ty40 rfl rfl hf30 rfl (Nat.le_of_ble_eq_true rfl) rfl rfl ?_
  intro wd31 hst32 hb33
  refine WL.y (Y.assign rfl) rfl ?_
  refine WL.y (Y.assign rfl) rfl ?_
  refine WL.nil ?_
  refine At.then ?_
  refine WC.ret ?_
  refine At.thenR ?_
  obtain ⟨rfl, rfl, rfl⟩ := tup3 h
  have hs34 : Stp [11] (Lg.O0 A) w O25 wd31 := (Stp.trans (Stp.up hst16 rfl) (Stp.trans (Stp.up hst28 rfl) (Stp.up hst32 rfl)))
  exact At.res (.inl rfl) rfl (.cell rfl (hb33.runAg 0 [vi 0, vi 0, vu 0, Value.slice none 0 0] ty40 rfl rfl rfl) (.tmp rfl (.tmp rfl .nil))) ⟨Value.slice none 0 0, rfl, (Stp.ext hs34 rfl rfl), RowF.nil⟩
 ·refine WC.condF' rfl hc29 ?_
  refine WC.skip ?_
  refine At.then ?_
  refine WC.seq ?_
  refine WC.region ?_
  refine WL.y (Y.move rfl) rfl ?_
  refine WL.y (Y.move rfl) rfl ?_
  refine WL.y (Y.add_i rfl rfl) rfl ?_
  obtain ⟨at35, hat35, h⟩ := lt1 h
  refine WL.yE (Y.assign rfl) (congrArg vi hat35.symm) rfl ?_
  refine WL.nil ?_
  refine At.then ?_
  refine WC.seq ?_
  refine WC.seq ?_
  refine WC.region ?_
  refine WL.y (Y.move rfl) rfl ?_
  refine WL.y (Y.and_u (b := 7) rfl rfl) rfl ?_
  refine WL.y (Y.gtr_u (b := 2) rfl rfl) rfl ?_
  refine WL.nil ?_
  refine At.then ?_
  rcases cnd h with ⟨hc36, h⟩ | ⟨hc36, h⟩
  ·refine WC.condT' rfl hc36 ?_
   refine WC.seq ?_
   refine WC.region ?_
   have hf37 := hb12.st hst28 rfl
   refine WL.y (Y.loadAg ty40 rfl rfl (hf37.cells 0 [vi 0, vi 0, vu 0, Value.slice none 0 0] rfl) rfl) rfl ?_
   refine WL.store (v := Value.agg (List.toArray [vi 0, vi 0, vu 0, Value.slice none 0 0])) (cells' := [vi 0, vi 0, vu 0, Value.slice none 0 0]) ty40 rfl rfl hf37 rfl (Nat.le_of_ble_eq_true rfl) rfl rfl ?_
   intro wd38 hst39 hb40
   refine WL.y (Y.assign rfl) rfl ?_
   refine WL.y (Y.assign rfl) rfl ?_
   refine WL.nil ?_
   refine At.then ?_
   refine WC.ret ?_
   refine At.thenR ?_
   obtain ⟨rfl, rfl, rfl⟩ := tup3 h
   have hs41 : Stp [11] (Lg.O0 A) w O25 wd38 := (Stp.trans (Stp.up hst16 rfl) (Stp.trans (Stp.up hst28 rfl) (Stp.up hst39 rfl)))
   exact At.res (.inl rfl) rfl (.cell rfl (hb40.runAg 0 [vi 0, vi 0, vu 0, Value.slice none 0 0] ty40 rfl rfl rfl) (.tmp rfl (.tmp rfl .nil))) ⟨Value.slice none 0 0, rfl, (Stp.ext hs41 rfl rfl), RowF.nil⟩
  ·refine WC.condF' rfl hc36 ?_
   refine WC.skip ?_
   refine At.then ?_
   refine WC.seq ?_
   refine WC.seq ?_
   refine WC.region ?_
   refine WL.y (Y.move rfl) rfl ?_
   refine WL.y (Y.shr_uu (m := 3) rfl rfl) rfl ?_
   refine WL.y (Y.lss_u (b := 1) rfl rfl) rfl ?_
   refine WL.y (Y.move rfl) rfl ?_
   refine WL.cut 4 (σ := Unit) (fun _ w' => wd23 = w') (fun _ => [(0, v0), (1, vi at35), (4, Value.pointer (some ⟨p13, 0, none⟩)), (7, vu r18), (37, Value.bool ((decide (shrU r18 ((3 : UInt64).toNat) < 1)) || (decide (536870911 < shrU r18 ((3 : UInt64).toNat)))))]) ?_ ?_
   ·refine WL.part 33 rfl (fun hE42 => ?_) (fun hE42 => ?_)
    ·refine WL.gS rfl rfl rfl rfl ?_
     refine WL.gS rfl rfl rfl rfl ?_
     refine WL.gS rfl rfl rfl rfl ?_
     refine WL.y (Y.pick (b := true) rfl rfl) rfl ?_
     refine WL.ren (v' := Value.bool ((decide (shrU r18 ((3 : UInt64).toNat) < 1)) || (decide (536870911 < shrU r18 ((3 : UInt64).toNat))))) 37 rfl (congrArg Value.bool (orT hE42)) ?_
     exact WL.nil (At.join () rfl (.cons rfl (.cons rfl (.cons rfl (.cons rfl (.cons rfl .nil))))))
    ·refine WL.ung rfl rfl ?_
     refine WL.y (Y.move rfl) rfl ?_
     refine WL.ung rfl rfl ?_
     refine WL.y (Y.shr_uu (m := 3) rfl rfl) rfl ?_
     refine WL.ung rfl rfl ?_
     refine WL.y (Y.gtr_u (b := 536870911) rfl rfl) rfl ?_
     refine WL.y (Y.pick (b := false) rfl rfl) rfl ?_
     refine WL.ren (v' := Value.bool ((decide (shrU r18 ((3 : UInt64).toNat) < 1)) || (decide (536870911 < shrU r18 ((3 : UInt64).toNat))))) 37 rfl (congrArg Value.bool (orF hE42)) ?_
     exact WL.nil (At.join () rfl (.cons rfl (.cons rfl (.cons rfl (.cons rfl (.cons rfl .nil))))))
   ·rintro _ _ rfl
    refine (show WL _ _ _ _ _ [(0, v0), (1, vi at35), (4, Value.pointer (some ⟨p13, 0, none⟩)), (7, vu r18), (37, Value.bool ((decide (shrU r18 ((3 : UInt64).toNat) < 1)) || (decide (536870911 < shrU r18 ((3 : UInt64).toNat)))))] _ from ?_)
    refine WL.nil ?_
    refine At.then ?_
    rcases cnd h with ⟨hc43, h⟩ | ⟨hc43, h⟩
    ·refine WC.condT' rfl hc43 ?_
     refine WC.seq ?_
     refine WC.region ?_
     have hf44 := hb12.st hst28 rfl
     refine WL.y (Y.loadAg ty40 rfl rfl (hf44.cells 0 [vi 0, vi 0, vu 0, Value.slice none 0 0] rfl) rfl) rfl ?_
     refine WL.store (v := Value.agg (List.toArray [vi 0, vi 0, vu 0, Value.slice none 0 0])) (cells' := [vi 0, vi 0, vu 0, Value.slice none 0 0]) ty40 rfl rfl hf44 rfl (Nat.le_of_ble_eq_true rfl) rfl rfl ?_
     intro wd45 hst46 hb47
     refine WL.y (Y.assign rfl) rfl ?_
     refine WL.y (Y.assign rfl) rfl ?_
     refine WL.nil ?_
     refine At.then ?_
     refine WC.ret ?_
     refine At.thenR ?_
     obtain ⟨rfl, rfl, rfl⟩ := tup3 h
     have hs48 : Stp [11] (Lg.O0 A) w O25 wd45 := (Stp.trans (Stp.up hst16 rfl) (Stp.trans (Stp.up hst28 rfl) (Stp.up hst46 rfl)))
     exact At.res (.inl rfl) rfl (.cell rfl (hb47.runAg 0 [vi 0, vi 0, vu 0, Value.slice none 0 0] ty40 rfl rfl rfl) (.tmp rfl (.tmp rfl .nil))) ⟨Value.slice none 0 0, rfl, (Stp.ext hs48 rfl rfl), RowF.nil⟩
    ·refine WC.condF' rfl hc43 ?_
     refine WC.skip ?_
     refine At.then ?_
     refine WC.seq ?_
     refine WC.region ?_
     refine WL.y (Y.move rfl) rfl ?_
     refine WL.y (Y.shr_uu (m := 3) rfl rfl) rfl ?_
     refine WL.y (Y.conv_ui ty38.u ty3.u rfl) rfl ?_
     refine WL.y (Y.move rfl) rfl ?_
     refine WL.y (Y.and_u (b := 7) rfl rfl) rfl ?_
     refine WL.y (Y.conv_ui ty38.u ty3.u rfl) rfl ?_
     refine WL.y (Y.fieldAddr fo40_0 rfl) rfl ?_
     obtain ⟨t49, ht49, h⟩ := lt1 h
     refine WL.ren 41 rfl (congrArg vi ht49.symm) ?_
     have hf50 := hb12.st hst28 rfl
     refine WL.store (v := vi t49) (cells' := [vi t49, vi 0, vu 0, Value.slice none 0 0]) ty3 rfl rfl hf50 rfl (Nat.le_of_ble_eq_true rfl) rfl rfl ?_
     intro wd51 hst52 hb53
     refine WL.y (Y.fieldAddr fo40_1 rfl) rfl ?_
     obtain ⟨t54, ht54, h⟩ := lt1 h
     refine WL.ren 44 rfl (congrArg vi ht54.symm) ?_
     refine WL.store (v := vi t54) (cells' := [vi t49, vi t54, vu 0, Value.slice none 0 0]) ty3 rfl rfl hb53 rfl (Nat.le_of_ble_eq_true rfl) rfl rfl ?_
     intro wd55 hst56 hb57
     refine WL.nil ?_
     refine At.then ?_
     refine WC.seq ?_
     refine WC.seq ?_
     refine WC.region ?_
     refine WL.y (Y.fieldAddr fo40_1 rfl) rfl ?_
     refine WL.y (Y.loadSc ty3 rfl rfl (hb57.cell 1 _ rfl)) rfl ?_
     refine WL.y (Y.eql_i rfl rfl) rfl ?_
     refine WL.nil ?_
     refine At.then ?_
     rcases cnd h with ⟨hc58, h⟩ | ⟨hc58, h⟩
     ·refine WC.condT' rfl hc58 ?_
      refine WC.seq ?_
      refine WC.seq ?_
      refine WC.region ?_
      refine WL.y (Y.move rfl) rfl ?_
      have hf59 := hf17.mono (imm_st hst28 rfl rfl)
      have hf60 := hf59.mono (imm_st hst52 rfl rfl)
      have hf61 := hf60.mono (imm_st hst56 rfl rfl)
      refine WL.y (Y.len ty25 rfl hf61) rfl ?_
      refine WL.y (Y.move rfl) rfl ?_
      refine WL.y (Y.sub_i rfl rfl) rfl ?_
      refine WL.y (Y.lss_i rfl rfl) rfl ?_
      refine WL.nil ?_
      refine At.then ?_
      rcases cnd h with ⟨hc62, h⟩ | ⟨hc62, h⟩
      ·refine WC.condT' rfl hc62 ?_
       refine WC.seq ?_
       refine WC.region ?_
       refine WL.y (Y.loadAg ty40 rfl rfl (hb57.cells 0 [vi t49, vi t54, vu 0, Value.slice none 0 0] rfl) rfl) rfl ?_
       refine WL.store (v := Value.agg (List.toArray [vi t49, vi t54, vu 0, Value.slice none 0 0])) (cells' := [vi t49, vi t54, vu 0, Value.slice none 0 0]) ty40 rfl rfl hb57 rfl (Nat.le_of_ble_eq_true rfl) rfl rfl ?_
       intro wd63 hst64 hb65
       refine WL.y (Y.assign rfl) rfl ?_
       refine WL.y (Y.assign rfl) rfl ?_
       refine WL.nil ?_
       refine At.then ?_
       refine WC.ret ?_
       refine At.thenR ?_
       refine At.thenR ?_
       obtain ⟨rfl, rfl, rfl⟩ := tup3 h
       have hs66 : Stp [11] (Lg.O0 A) w O25 wd63 := (Stp.trans (Stp.up hst16 rfl) (Stp.trans (Stp.up hst28 rfl) (Stp.trans (Stp.up hst52 rfl) (Stp.trans (Stp.up hst56 rfl) (Stp.up hst64 rfl)))))
       exact At.res (.inl rfl) rfl (.cell rfl (hb65.runAg 0 [vi t49, vi t54, vu 0, Value.slice none 0 0] ty40 rfl rfl rfl) (.tmp rfl (.tmp rfl .nil))) ⟨Value.slice none 0 0, rfl, (Stp.ext hs66 rfl rfl), RowF.nil⟩
      ·refine WC.condF' rfl hc62 ?_
       refine WC.skip ?_
       refine At.then ?_
       refine WC.seq ?_
       refine WC.seq ?_
       refine WC.region ?_
       refine WL.y (Y.move rfl) rfl ?_
       refine WL.y (Y.move rfl) rfl ?_
       refine WL.y (Y.move rfl) rfl ?_
       refine WL.y (Y.add_i rfl rfl) rfl ?_
       obtain ⟨t67, ht67, h⟩ := bnd h
       obtain ⟨v68, hY70, hf69⟩ := Sl.slice (ρ := [(56, v0), (57, vi at35), (59, vi (w64 (at35 + 8)))]) (x := (.tmp 56)) (lo := (some (.tmp 57))) (hi := (some (.tmp 59))) ty25 ty5 rfl rfl rfl hf61 ht67
       refine WL.y (Y.sub (.cons rfl (.cons rfl (.cons rfl .nil))) (hY70 _ _)) rfl ?_
       refine WL.y (Y.len ty25 rfl hf69) rfl ?_
       refine WL.y (Y.move rfl) rfl ?_
       refine WL.nil ?_
       refine At.then ?_
       obtain ⟨p76, h, hk77⟩ := bnd h
       refine WC.join (σ := (UInt64 × Own)) (fun x w' => x.1 = p76 ∧ Stp [11] O25 wd55 x.2 w' ∧ Blk 11 x.2 w' p13 40 [vi t49, vi t54, vu x.1, Value.slice none 0 0]) (fun x => [(1, vi at35), (4, Value.pointer (some ⟨p13, 0, none⟩))]) ?_ ?_
       ·refine WC.block ?_
        obtain ⟨p89, h, hk91⟩ := flow1 h
        obtain ⟨k90, h⟩ := loop_some h
        refine WC.joinB 0 (σ := (UInt64 × Own)) (fun x w' => p89 = .go x.1 ∧ Stp [11] O25 wd55 x.2 w' ∧ Blk 11 x.2 w' p13 40 [vi t49, vi t54, vu x.1, Value.slice none 0 0]) (fun x => [(1, vi at35), (4, Value.pointer (some ⟨p13, 0, none⟩))]) ?_ ?_
        ·refine WC.loop (σ := (UInt64 × Int × Own)) (fun x k w' => loopN k (wire_field_lp1 t67) (x.1, x.2.1) = some p89 ∧ Stp [11] O25 wd55 x.2.2 w' ∧ Blk 11 x.2.2 w' p13 40 [vi t49, vi t54, vu x.1, Value.slice none 0 0]) (fun x => [(1, vi at35), (4, Value.pointer (some ⟨p13, 0, none⟩)), (60, v68), (61, vi (t67.length : Int)), (62, vi x.2.1)]) (0, 0, O25) k90 (.cons rfl (.cons rfl (.cons rfl (.cons rfl (.cons rfl .nil))))) ⟨h, (Stp.refl _ _ _), hb57⟩ ?_
         rintro ⟨c79, x80, O81⟩ k90 wd82 ⟨h, hst83, hb78⟩
         obtain ⟨j92, q93, rfl, h, hn94⟩ := rnd1 h
         unfold wire_field_lp1 at h
         try dsimp only at h hst83 hb78
         refine (show WC _ _ _ _ [(1, vi at35), (4, Value.pointer (some ⟨p13, 0, none⟩)), (60, v68), (61, vi (t67.length : Int)), (62, vi x80)] _ from ?_)
         refine WC.seq ?_
         refine WC.region ?_
         refine WL.y (Y.lss_i rfl rfl) rfl ?_
         refine WL.nil ?_
         refine At.then ?_
         refine WC.seq ?_
         rcases cnd h with ⟨hc95, h⟩ | ⟨hc95, h⟩
         ·refine WC.condT' rfl hc95 ?_
          refine WC.skip ?_
          refine At.then ?_
          refine WC.seq ?_
          refine WC.block ?_
          refine WC.seq ?_
          refine WC.region ?_
          refine WL.y (Y.move rfl) rfl ?_
          obtain ⟨e96, he96, h⟩ := bnd h
          have hf105 := hf69.mono (imm_st hst83 rfl rfl)
          obtain ⟨b97, off106, cap104, cs103, hv98, hi99, hl100, hc101, hok102, hA107⟩ := Sl.at2 hf105 he96
          obtain rfl := hok102
          replace hc101 : CellsAt _ _ _ [vb e96] := hc101
          have hca108 := CAt.imm hc101 hA107
          refine WL.y (Y.indexAddr ty25 ty5 rfl hv98 rfl hi99 hl100) rfl ?_
          refine WL.y (Y.loadSc ty5 rfl rfl hca108.at_) rfl ?_
          refine WL.y (Y.assign rfl) rfl ?_
          refine WL.y (Y.assign rfl) rfl ?_
          refine WL.nil ?_
          refine At.then ?_
          refine WC.region ?_
          refine WL.y (Y.fieldAddr fo40_2 rfl) rfl ?_
          refine WL.y (Y.loadSc ty38 rfl rfl (hb78.cell 2 _ rfl)) rfl ?_
          refine WL.y (Y.move rfl) rfl ?_
          refine WL.y (Y.conv_bu ty5.u ty38.u rfl) rfl ?_
          refine WL.y (Y.move rfl) rfl ?_
          refine WL.y (Y.mul_i rfl rfl) rfl ?_
          refine WL.y (Y.conv_iu ty3.u ty58.u rfl) rfl ?_
          refine WL.y (Y.shl_uu rfl rfl) rfl ?_
          refine WL.y (Y.or_u rfl rfl) rfl ?_
          refine WL.y (Y.fieldAddr fo40_2 rfl) rfl ?_
          obtain ⟨t109, ht109, h⟩ := lt1 h
          refine WL.ren 75 rfl (congrArg vu ht109.symm) ?_
          refine WL.store (v := vu t109) (cells' := [vi t49, vi t54, vu t109, Value.slice none 0 0]) ty38 rfl rfl hb78 rfl (Nat.le_of_ble_eq_true rfl) rfl rfl ?_
          intro wd110 hst111 hb112
          refine WL.nil ?_
          refine At.inBlock ?_
          refine At.then ?_
          refine WC.region ?_
          refine WL.y (Y.add_i rfl rfl) rfl ?_
          refine WL.y (Y.move rfl) rfl ?_
          refine WL.nil ?_
          exact At.round (t109, w64 (x80 + 1), O81) j92 (Nat.lt_succ_self _) ⟨next1 h hn94, (Stp.trans (Stp.up hst83 rfl) (Stp.up hst111 rfl)), hb112⟩ (.cons rfl (.cons rfl (.cons rfl (.cons rfl (.cons rfl .nil)))))
         ·refine WC.condF' rfl hc95 ?_
          refine WC.exit ?_
          refine At.thenX ?_
          refine At.loopX ?_
          exact At.hitB (σ := (UInt64 × Own)) (c79, O81) ⟨brk1 h hn94, (Stp.up hst83 rfl), hb78⟩ (.cons rfl (.cons rfl .nil))
        ·rintro ⟨c85, O86⟩ wd87 ⟨rfl, hst88, hb84⟩
         replace h := flowK_go hk91
         try dsimp only at h hst88 hb84
         refine (show At _ _ _ [(1, vi at35), (4, Value.pointer (some ⟨p13, 0, none⟩))] _ from ?_)
         refine At.inBlockHit ?_
         exact At.join (σ := (UInt64 × Own)) (c85, O86) ⟨some1 h, (Stp.up hst88 rfl), hb84⟩ (.cons rfl (.cons rfl .nil))
       ·rintro ⟨c72, O73⟩ wd74 ⟨rfl, hst75, hb71⟩
        replace h := hk77
        try dsimp only at h hst75 hb71
        refine (show At _ _ _ [(1, vi at35), (4, Value.pointer (some ⟨p13, 0, none⟩))] _ from ?_)
        refine At.then ?_
        refine WC.seq ?_
        refine WC.region ?_
        refine WL.y (Y.loadAg ty40 rfl rfl (hb71.cells 0 [vi t49, vi t54, vu c72, Value.slice none 0 0] rfl) rfl) rfl ?_
        refine WL.y (Y.move rfl) rfl ?_
        refine WL.y (Y.add_i rfl rfl) rfl ?_
        refine WL.store (v := Value.agg (List.toArray [vi t49, vi t54, vu c72, Value.slice none 0 0])) (cells' := [vi t49, vi t54, vu c72, Value.slice none 0 0]) ty40 rfl rfl hb71 rfl (Nat.le_of_ble_eq_true rfl) rfl rfl ?_
        intro wd113 hst114 hb115
        obtain ⟨next116, hnext116, h⟩ := lt1 h
        refine WL.yE (Y.assign rfl) (congrArg vi hnext116.symm) rfl ?_
        refine WL.y (Y.assign rfl) rfl ?_
        refine WL.nil ?_
        refine At.then ?_
        refine WC.ret ?_
        refine At.thenR ?_
        obtain ⟨rfl, rfl, rfl⟩ := tup3 h
        have hs117 : Stp [11] (Lg.O0 A) w O73 wd113 := (Stp.trans (Stp.up hst16 rfl) (Stp.trans (Stp.up hst28 rfl) (Stp.trans (Stp.up hst52 rfl) (Stp.trans (Stp.up hst56 rfl) (Stp.trans (Stp.up hst75 rfl) (Stp.up hst114 rfl))))))
        exact At.res (.inl rfl) rfl (.cell rfl (hb115.runAg 0 [vi t49, vi t54, vu c72, Value.slice none 0 0] ty40 rfl rfl rfl) (.tmp rfl (.tmp rfl .nil))) ⟨Value.slice none 0 0, rfl, (Stp.ext hs117 rfl rfl), RowF.nil⟩
     ·refine WC.condF' rfl hc58 ?_
      refine WC.skip ?_
      refine At.then ?_
      refine WC.seq ?_
      refine WC.region ?_
      refine WL.y (Y.move rfl) rfl ?_
      refine WL.y (Y.move rfl) rfl ?_
      have hf118 := hf17.mono (imm_st hst28 rfl rfl)
      have hf119 := hf118.mono (imm_st hst52 rfl rfl)
      have hf120 := hf119.mono (imm_st hst56 rfl rfl)
      obtain ⟨⟨r121, r122, r123⟩, hp124, h⟩ := bnd h
      refine WL.call (vals := [v0, vi at35]) kok18 rfl rfl (c_wire_GetVar (A := fun _ => True) (Sl.all hf120) hp124) ?_
      rintro vr127 wd126 ⟨rfl, hm125⟩
      obtain ⟨O128, hold129, hnew130, hst131⟩ := adoptE O25 (fun k => 1) hm125
      refine WL.y (Y.move rfl) rfl ?_
      refine WL.y (Y.extract rfl rfl) rfl ?_
      refine WL.y (Y.extract rfl rfl) rfl ?_
      refine WL.y (Y.extract rfl rfl) rfl ?_
      refine WL.y (Y.assign rfl) rfl ?_
      refine WL.y (Y.assign rfl) rfl ?_
      refine WL.y (Y.assign rfl) rfl ?_
      refine WL.nil ?_
      refine At.then ?_
      refine WC.seq ?_
      refine WC.seq ?_
      refine WC.region ?_
      refine WL.y (Y.move rfl) rfl ?_
      refine WL.y (Y.neq_i rfl rfl) rfl ?_
      refine WL.nil ?_
      refine At.then ?_
      rcases cnd h with ⟨hc132, h⟩ | ⟨hc132, h⟩
      ·refine WC.condT' rfl hc132 ?_
       refine WC.seq ?_
       refine WC.region ?_
       have hf133 := hb57.st hst131 rfl
       refine WL.y (Y.loadAg ty40 rfl rfl (hf133.cells 0 [vi t49, vi t54, vu 0, Value.slice none 0 0] rfl) rfl) rfl ?_
       refine WL.y (Y.move rfl) rfl ?_
       refine WL.store (v := Value.agg (List.toArray [vi t49, vi t54, vu 0, Value.slice none 0 0])) (cells' := [vi t49, vi t54, vu 0, Value.slice none 0 0]) ty40 rfl rfl hf133 rfl (Nat.le_of_ble_eq_true rfl) rfl rfl ?_
       intro wd134 hst135 hb136
       refine WL.y (Y.assign rfl) rfl ?_
       refine WL.y (Y.assign rfl) rfl ?_
       refine WL.nil ?_
       refine At.then ?_
       refine WC.ret ?_
       refine At.thenR ?_
       obtain ⟨rfl, rfl, rfl⟩ := tup3 h
       have hs137 : Stp [11] (Lg.O0 A) w O128 wd134 := (Stp.trans (Stp.up hst16 rfl) (Stp.trans (Stp.up hst28 rfl) (Stp.trans (Stp.up hst52 rfl) (Stp.trans (Stp.up hst56 rfl) (Stp.trans (Stp.up hst131 rfl) (Stp.up hst135 rfl))))))
       exact At.res (.inl rfl) rfl (.cell rfl (hb136.runAg 0 [vi t49, vi t54, vu 0, Value.slice none 0 0] ty40 rfl rfl rfl) (.tmp rfl (.tmp rfl .nil))) ⟨Value.slice none 0 0, rfl, (Stp.ext hs137 rfl rfl), RowF.nil⟩
      ·refine WC.condF' rfl hc132 ?_
       refine WC.skip ?_
       refine At.then ?_
       refine WC.seq ?_
       refine WC.region ?_
       refine WL.y (Y.move rfl) rfl ?_
       refine WL.y (Y.move rfl) rfl ?_
       refine WL.y (Y.add_i rfl rfl) rfl ?_
       obtain ⟨at138, hat138, h⟩ := lt1 h
       refine WL.yE (Y.assign rfl) (congrArg vi hat138.symm) rfl ?_
       refine WL.nil ?_
       refine At.then ?_
       refine WC.seq ?_
       refine WC.seq ?_
       refine WC.region ?_
       refine WL.y (Y.fieldAddr fo40_1 rfl) rfl ?_
       have hf139 := hb57.st hst131 rfl
       refine WL.y (Y.loadSc ty3 rfl rfl (hf139.cell 1 _ rfl)) rfl ?_
       refine WL.y (Y.eql_i rfl rfl) rfl ?_
       refine WL.nil ?_
       refine At.then ?_
       rcases cnd h with ⟨hc140, h⟩ | ⟨hc140, h⟩
       ·refine WC.condT' rfl hc140 ?_
        refine WC.seq ?_
        refine WC.region ?_
        refine WL.y (Y.move rfl) rfl ?_
        refine WL.y (Y.fieldAddr fo40_2 rfl) rfl ?_
        refine WL.store (v := vu r121) (cells' := [vi t49, vi t54, vu r121, Value.slice none 0 0]) ty38 rfl rfl hf139 rfl (Nat.le_of_ble_eq_true rfl) rfl rfl ?_
        intro wd141 hst142 hb143
        refine WL.nil ?_
        refine At.then ?_
        refine WC.seq ?_
        refine WC.region ?_
        refine WL.y (Y.loadAg ty40 rfl rfl (hb143.cells 0 [vi t49, vi t54, vu r121, Value.slice none 0 0] rfl) rfl) rfl ?_
        refine WL.y (Y.move rfl) rfl ?_
        refine WL.store (v := Value.agg (List.toArray [vi t49, vi t54, vu r121, Value.slice none 0 0])) (cells' := [vi t49, vi t54, vu r121, Value.slice none 0 0]) ty40 rfl rfl hb143 rfl (Nat.le_of_ble_eq_true rfl) rfl rfl ?_
        intro wd144 hst145 hb146
        refine WL.y (Y.assign rfl) rfl ?_
        refine WL.y (Y.assign rfl) rfl ?_
        refine WL.nil ?_
        refine At.then ?_
        refine WC.ret ?_
        refine At.thenR ?_
        obtain ⟨rfl, rfl, rfl⟩ := tup3 h
        have hs147 : Stp [11] (Lg.O0 A) w O128 wd144 := (Stp.trans (Stp.up hst16 rfl) (Stp.trans (Stp.up hst28 rfl) (Stp.trans (Stp.up hst52 rfl) (Stp.trans (Stp.up hst56 rfl) (Stp.trans (Stp.up hst131 rfl) (Stp.trans (Stp.up hst142 rfl) (Stp.up hst145 rfl)))))))
        exact At.res (.inl rfl) rfl (.cell rfl (hb146.runAg 0 [vi t49, vi t54, vu r121, Value.slice none 0 0] ty40 rfl rfl rfl) (.tmp rfl (.tmp rfl .nil))) ⟨Value.slice none 0 0, rfl, (Stp.ext hs147 rfl rfl), RowF.nil⟩
       ·refine WC.condF' rfl hc140 ?_
        refine WC.skip ?_
        refine At.then ?_
        refine WC.seq ?_
        refine WC.seq ?_
        refine WC.region ?_
        refine WL.y (Y.move rfl) rfl ?_
        refine WL.y (Y.move rfl) rfl ?_
        have hf148 := hf120.mono (imm_st hst131 rfl rfl)
        refine WL.y (Y.len ty25 rfl hf148) rfl ?_
        refine WL.y (Y.move rfl) rfl ?_
        refine WL.y (Y.sub_i rfl rfl) rfl ?_
        refine WL.y (Y.conv_iu ty3.u ty38.u rfl) rfl ?_
        refine WL.y (Y.gtr_u rfl rfl) rfl ?_
        refine WL.nil ?_
        refine At.then ?_
        rcases cnd h with ⟨hc149, h⟩ | ⟨hc149, h⟩
        ·refine WC.condT' rfl hc149 ?_
         refine WC.seq ?_
         refine WC.region ?_
         refine WL.y (Y.loadAg ty40 rfl rfl (hf139.cells 0 [vi t49, vi t54, vu 0, Value.slice none 0 0] rfl) rfl) rfl ?_
         refine WL.store (v := Value.agg (List.toArray [vi t49, vi t54, vu 0, Value.slice none 0 0])) (cells' := [vi t49, vi t54, vu 0, Value.slice none 0 0]) ty40 rfl rfl hf139 rfl (Nat.le_of_ble_eq_true rfl) rfl rfl ?_
         intro wd150 hst151 hb152
         refine WL.y (Y.assign rfl) rfl ?_
         refine WL.y (Y.assign rfl) rfl ?_
         refine WL.nil ?_
         refine At.then ?_
         refine WC.ret ?_
         refine At.thenR ?_
         obtain ⟨rfl, rfl, rfl⟩ := tup3 h
         have hs153 : Stp [11] (Lg.O0 A) w O128 wd150 := (Stp.trans (Stp.up hst16 rfl) (Stp.trans (Stp.up hst28 rfl) (Stp.trans (Stp.up hst52 rfl) (Stp.trans (Stp.up hst56 rfl) (Stp.trans (Stp.up hst131 rfl) (Stp.up hst151 rfl))))))
         exact At.res (.inl rfl) rfl (.cell rfl (hb152.runAg 0 [vi t49, vi t54, vu 0, Value.slice none 0 0] ty40 rfl rfl rfl) (.tmp rfl (.tmp rfl .nil))) ⟨Value.slice none 0 0, rfl, (Stp.ext hs153 rfl rfl), RowF.nil⟩
        ·refine WC.condF' rfl hc149 ?_
         refine WC.skip ?_
         refine At.then ?_
         refine WC.seq ?_
         refine WC.region ?_
         refine WL.y (Y.move rfl) rfl ?_
         refine WL.y (Y.move rfl) rfl ?_
         refine WL.y (Y.move rfl) rfl ?_
         refine WL.y (Y.move rfl) rfl ?_
         refine WL.y (Y.conv_ui ty38.u ty3.u rfl) rfl ?_
         refine WL.y (Y.add_i rfl rfl) rfl ?_
         obtain ⟨t154, ht154, h⟩ := bnd h
         obtain ⟨v155, hY157, hf156⟩ := Sl.slice (ρ := [(110, v0), (111, vi at138), (115, vi (w64 (at138 + (w64 (r121.toNat : Int)))))]) (x := (.tmp 110)) (lo := (some (.tmp 111))) (hi := (some (.tmp 115))) ty25 ty5 rfl rfl rfl hf148 ht154
         refine WL.y (Y.sub (.cons rfl (.cons rfl (.cons rfl .nil))) (hY157 _ _)) rfl ?_
         obtain ⟨r158, hp159, h⟩ := bnd h
         refine WL.call (vals := [v155]) kok26 rfl rfl (c_bytes_Clone (A := fun _ => True) (Sl.all hf156) hp159) ?_
         rintro vr164 wd163 ⟨_, rfl, hm162, f161⟩
         obtain ⟨O165, hold166, hnew167, hst168⟩ := adoptE O128 (fun k => if Value.ownBlock vr164 = some k then 12 else 1) hm162
         have hf169 : OwnSl 12 Rep.b 5 O165 wd163 vr164 r158 := RowF.adopt 12 Flat.b f161 hnew167 (fun k hk => if_pos hk)
         refine WL.y (Y.fieldAddr fo40_3 rfl) rfl ?_
         have hh173 := h
         obtain ⟨p170, m171, c172, rfl⟩ := hf169.shape
         have h := hh173
         have hf174 := hf139.st hst168 rfl
         refine WL.store (v := (Value.slice p170 m171 c172)) (cells' := [vi t49, vi t54, vu 0, (Value.slice p170 m171 c172)]) ty25 rfl rfl hf174 rfl (Nat.le_of_ble_eq_true rfl) rfl rfl ?_
         intro wd175 hst176 hb177
         refine WL.nil ?_
         refine At.then ?_
         refine WC.seq ?_
         refine WC.region ?_
         refine WL.y (Y.loadAg ty40 rfl rfl (hb177.cells 0 [vi t49, vi t54, vu 0, (Value.slice p170 m171 c172)] rfl) rfl) rfl ?_
         refine WL.y (Y.move rfl) rfl ?_
         refine WL.y (Y.move rfl) rfl ?_
         refine WL.y (Y.conv_ui ty38.u ty3.u rfl) rfl ?_
         refine WL.y (Y.add_i rfl rfl) rfl ?_
         refine WL.store (v := Value.agg (List.toArray [vi t49, vi t54, vu 0, (Value.slice p170 m171 c172)])) (cells' := [vi t49, vi t54, vu 0, (Value.slice p170 m171 c172)]) ty40 rfl rfl hb177 rfl (Nat.le_of_ble_eq_true rfl) rfl rfl ?_
         intro wd178 hst179 hb180
         obtain ⟨next181, hnext181, h⟩ := lt1 h
         refine WL.yE (Y.assign rfl) (congrArg vi hnext181.symm) rfl ?_
         refine WL.y (Y.assign rfl) rfl ?_
         refine WL.nil ?_
         refine At.then ?_
         refine WC.ret ?_
         obtain ⟨rfl, rfl, rfl⟩ := tup3 h
         have hs182 : Stp [11] (Lg.O0 A) w O165 wd178 := (Stp.trans (Stp.up hst16 rfl) (Stp.trans (Stp.up hst28 rfl) (Stp.trans (Stp.up hst52 rfl) (Stp.trans (Stp.up hst56 rfl) (Stp.trans (Stp.up hst131 rfl) (Stp.trans (Stp.up hst168 rfl) (Stp.trans (Stp.up hst176 rfl) (Stp.up hst179 rfl))))))))
         have hf183 := hf169.st hst176 rfl rfl rfl
         have hf184 := hf183.st hst179 rfl rfl rfl
         exact At.res (.inl rfl) rfl (.cell rfl (hb180.runAg 0 [vi t49, vi t54, vu 0, (Value.slice p170 m171 c172)] ty40 rfl rfl rfl) (.tmp rfl (.tmp rfl .nil))) ⟨(Value.slice p170 m171 c172), rfl, (Stp.ext hs182 rfl rfl), (OwnSl.outF hf184 hs182 low0 rfl)⟩
theorem c_wire_Decode {A : Nat → Prop} {a0 : List UInt8} {v0 : Value} {w : World} (hs0 : Sl Rep.b w A v0 a0) {r0 : List api_Fld} {r1 : Int} {r2 : Int} (h : wire_Decode a0 = some (r0, r1, r2)) : Rets Try.prog 10 [v0] w (fun v w' => ∃ (u0 : Value), v = Value.tuple (List.toArray [u0, vi r1, vi r2]) ∧ Ext w w' ∧ Sl rep_api_Fld w' (fun k => w.heap.size ≤ k) u0 r0) := by
 unfold wire_Decode at h
 refine Rets.enter Try.func10 rfl rfl ?_
 have hf11 : Sl Rep.b w (imm (Lg.O0 A)) v0 a0 := (Sl.start hs0)
 refine (show WC _ _ _ _ [(0, v0)] _ from ?_)
 refine WC.seq ?_
 refine WC.region ?_
 refine WL.y (Y.assign rfl) rfl ?_
 refine WL.y (Y.assign rfl) rfl ?_
 refine WL.y (Y.assign rfl) rfl ?_
 refine WL.nil ?_
 refine At.then ?_
 refine WC.seq ?_
 refine WC.block ?_
 obtain ⟨p25, h, hk27⟩ := flow1 h
 obtain ⟨k26, h⟩ := loop_some h
 refine WC.joinB 0 (σ := (List api_Fld × Own × Value)) (fun x w' => p25 = .go x.1 ∧ Stp [11, 12, 14, 1001] (Lg.O0 A) w x.2.1 w' ∧ OwnSl 1002 (frR rep_api_Fld w.heap.size) 40 x.2.1 w' x.2.2 x.1) (fun x => [(2, x.2.2)]) ?_ ?_
 ·refine WC.loop (σ := (List api_Fld × Int × Own × Value)) (fun x k w' => loopN k (wire_Decode_lp1 a0) (x.1, x.2.1) = some p25 ∧ Stp [11, 12, 14, 1001] (Lg.O0 A) w x.2.2.1 w' ∧ OwnSl 1001 (frR rep_api_Fld w.heap.size) 40 x.2.2.1 w' x.2.2.2 x.1) (fun x => [(0, v0), (2, x.2.2.2), (3, vi x.2.1)]) ([], 0, (Lg.O0 A), Value.slice none 0 0) k26 (.cons rfl (.cons rfl (.cons rfl .nil))) ⟨h, (Stp.refl _ _ _), (OwnSl.nil 1001 (frR rep_api_Fld w.heap.size) 40)⟩ ?_
  rintro ⟨l12, at15, O16, v13⟩ k26 wd17 ⟨h, hst18, hf14⟩
  obtain ⟨j28, q29, rfl, h, hn30⟩ := rnd1 h
  unfold wire_Decode_lp1 at h
  try dsimp only at h hst18 hf14
  refine (show WC _ _ _ _ [(0, v0), (2, v13), (3, vi at15)] _ from ?_)
  refine WC.seq ?_
  refine WC.seq ?_
  refine WC.region ?_
  refine WL.y (Y.move rfl) rfl ?_
  refine WL.y (Y.move rfl) rfl ?_
  have hf31 := hf11.mono (imm_st hst18 rfl rfl)
  refine WL.y (Y.len ty25 rfl hf31) rfl ?_
  refine WL.y (Y.lss_i rfl rfl) rfl ?_
  refine WL.nil ?_
  refine At.then ?_
  rcases cnd h with ⟨hc32, h⟩ | ⟨hc32, h⟩
  ·refine WC.condT' rfl hc32 ?_
   refine WC.skip ?_
   refine At.then ?_
   refine WC.block ?_
   refine WC.seq ?_
   refine WC.region ?_
   refine WL.y (Y.move rfl) rfl ?_
   refine WL.y (Y.move rfl) rfl ?_
   obtain ⟨⟨r33, r34, r35⟩, hp36, h⟩ := bnd h
   refine WL.call (vals := [v0, vi at15]) kok24 rfl rfl (c_wire_field (A := fun _ => True) (Sl.all hf31) hp36) ?_
   rintro vr41 wd40 ⟨u37, rfl, hm39, f38⟩
   obtain ⟨O42, hold43, hnew44, hst45⟩ := adoptE O16 (fun k => if Value.ownBlock u37 = some k then 11 else 1) hm39
   have hf46 : OwnSl 11 Rep.b 5 O42 wd40 u37 r33.B := RowF.adopt 11 Flat.b f38 hnew44 (fun k hk => if_pos hk)
   refine WL.y (Y.move rfl) rfl ?_
   refine WL.y (Y.extract rfl rfl) rfl ?_
   refine WL.y (Y.extract rfl rfl) rfl ?_
   refine WL.y (Y.extract rfl rfl) rfl ?_
   refine WL.alloc (O := O42) 12 [vi 0, vi 0, vu 0, Value.slice none 0 0] ty40 rfl rfl ?_
   intro p48 O49 wd50 hst51 hb47
   have hf52 := hf46.st hst51 rfl rfl rfl
   have hh56 := h
   obtain ⟨p53, m54, c55, rfl⟩ := hf52.shape
   have h := hh56
   refine WL.store (v := Value.agg (List.toArray [vi r33.Num, vi r33.Type_, vu r33.V, (Value.slice p53 m54 c55)])) (cells' := [vi r33.Num, vi r33.Type_, vu r33.V, (Value.slice p53 m54 c55)]) ty40 rfl rfl hb47 rfl (Nat.le_of_ble_eq_true rfl) rfl rfl ?_
   intro wd57 hst58 hb59
   refine WL.y (Y.assign rfl) rfl ?_
   refine WL.y (Y.assign rfl) rfl ?_
   refine WL.nil ?_
   refine At.then ?_
   refine WC.seq ?_
   refine WC.seq ?_
   refine WC.region ?_
   refine WL.y (Y.move rfl) rfl ?_
   refine WL.y (Y.neq_i rfl rfl) rfl ?_
   refine WL.nil ?_
   refine At.then ?_
   rcases cnd h with ⟨hc60, h⟩ | ⟨hc60, h⟩
   ·refine WC.condT' rfl hc60 ?_
    refine WC.seq ?_
    refine WC.region ?_
    refine WL.y (Y.move rfl) rfl ?_
    refine WL.y (Y.move rfl) rfl ?_
    refine WL.y (Y.assign rfl) rfl ?_
    refine WL.y (Y.assign rfl) rfl ?_
    refine WL.y (Y.assign rfl) rfl ?_
    refine WL.nil ?_
    refine At.then ?_
    refine WC.ret ?_
    refine At.thenR ?_
    refine At.inBlockR ?_
    refine At.loopR ?_
    have h := outr1 h hn30 hk27
    refine At.joinBR ?_
    refine At.inBlockR ?_
    refine At.thenR ?_
    obtain ⟨rfl, rfl, rfl⟩ := tup3 h
    have hs61 : Stp [11, 12, 14, 1001] (Lg.O0 A) w O49 wd57 := (Stp.trans (Stp.up hst18 rfl) (Stp.trans (Stp.up hst45 rfl) (Stp.trans (Stp.up hst51 rfl) (Stp.up hst58 rfl))))
    exact At.res (.inl rfl) rfl (.tmp rfl (.tmp rfl (.tmp rfl .nil))) ⟨Value.slice none 0 0, rfl, (Stp.ext hs61 rfl rfl), (Or.inl ⟨rfl, rfl⟩)⟩
   ·refine WC.condF' rfl hc60 ?_
    refine WC.skip ?_
    refine At.then ?_
    refine WC.seq ?_
    refine WC.region ?_
    refine WL.y (Y.move rfl) rfl ?_
    refine WL.y (Y.loadAg ty40 rfl rfl (hb59.cells 0 [vi r33.Num, vi r33.Type_, vu r33.V, (Value.slice p53 m54 c55)] rfl) rfl) rfl ?_
    have hf64 := hf52.st hst58 rfl rfl rfl
    obtain ⟨O65, hst66, hf67⟩ := OwnSl.giveF rfl Flat.b hf64
    have hs68 : Stp [11, 12, 14, 1001] (Lg.O0 A) w O65 wd57 := (Stp.trans (Stp.up hst18 rfl) (Stp.trans (Stp.up hst45 rfl) (Stp.trans (Stp.up hst51 rfl) (Stp.trans (Stp.up hst58 rfl) (Stp.up hst66 rfl)))))
    refine WL.buildSlice (O := O65) (R := (frR rep_api_Fld w.heap.size)) (vals := [(0, Value.agg (List.toArray [vi r33.Num, vi r33.Type_, vu r33.V, (Value.slice p53 m54 c55)]))]) 13 [vi r33.Num, vi r33.Type_, vu r33.V, (Value.slice p53 m54 c55)] (xs := [r33]) (by decide) ty22 ty40 (show 0 < rep_api_Fld.n by decide) (show 1 * rep_api_Fld.n ≤ 65536 by decide) (Fits.evalp rfl) (by kernel_rfl) rfl ⟨[vi r33.Num, vi r33.Type_, vu r33.V, (Value.slice p53 m54 c55)], [], rfl, ⟨[vi r33.Num], [vi r33.Type_, vu r33.V, (Value.slice p53 m54 c55)], rfl, rfl, ⟨[vi r33.Type_], [vu r33.V, (Value.slice p53 m54 c55)], rfl, rfl, ⟨[vu r33.V], [(Value.slice p53 m54 c55)], rfl, rfl, ⟨_, rfl, (Sl.frB hf67 hs68 low0)⟩⟩⟩⟩, rfl⟩ rfl ?_
    intro v62 O69 wd70 hst71 ho63
    obtain ⟨xs72, hxs72, h⟩ := bnd h
    have hf73 := hf14.st hst45 rfl rfl rfl
    have hf74 := hf73.st hst51 rfl rfl rfl
    have hf75 := hf74.st hst58 rfl rfl rfl
    have hf76 := hf75.st hst66 rfl rfl rfl
    have hf77 := hf76.st hst71 rfl rfl rfl
    refine WL.append (by decide) ty22 ty40 rfl (by decide) rfl rfl hf77 ho63.src hxs72 rfl ?_
    intro v81 O78 wd79 hst80 ho82
    refine WL.y (Y.assign rfl) rfl ?_
    refine WL.nil ?_
    refine At.then ?_
    refine WC.region ?_
    refine WL.y (Y.move rfl) rfl ?_
    refine WL.y (Y.assign rfl) rfl ?_
    refine WL.nil ?_
    refine At.inBlock ?_
    exact At.round (xs72, r34, O78, v81) j28 (Nat.lt_succ_self _) ⟨next1 h hn30, (Stp.trans (Stp.up hst18 rfl) (Stp.trans (Stp.up hst45 rfl) (Stp.trans (Stp.up hst51 rfl) (Stp.trans (Stp.up hst58 rfl) (Stp.trans (Stp.up hst66 rfl) (Stp.trans (Stp.up hst71 rfl) (Stp.up hst80 rfl))))))), ho82⟩ (.cons rfl (.cons rfl (.cons rfl .nil)))
  ·refine WC.condF' rfl hc32 ?_
   refine WC.exit ?_
   refine At.thenX ?_
   refine At.loopX ?_
   obtain ⟨O83, hst84, ho85⟩ := OwnSl.rlb 1002 rfl hf14
   exact At.hitB (σ := (List api_Fld × Own × Value)) (l12, O83, v13) ⟨brk1 h hn30, (Stp.trans (Stp.up hst18 rfl) (Stp.up hst84 rfl)), ho85⟩ (.cons rfl .nil)
 ·rintro ⟨l19, O22, v20⟩ wd23 ⟨rfl, hst24, hf21⟩
  replace h := flowK_go hk27
  try dsimp only at h hst24 hf21
  refine (show At _ _ _ [(2, v20)] _ from ?_)
  refine At.inBlockHit ?_
  refine At.then ?_
  refine WC.seq ?_
  refine WC.region ?_
  refine WL.y (Y.move rfl) rfl ?_
  refine WL.y (Y.assign rfl) rfl ?_
  refine WL.y (Y.assign rfl) rfl ?_
  refine WL.y (Y.assign rfl) rfl ?_
  refine WL.nil ?_
  refine At.then ?_
  refine WC.ret ?_
  obtain ⟨rfl, rfl, rfl⟩ := tup3 h
  have hs89 : Stp [11, 12, 14, 1001] (Lg.O0 A) w O22 wd23 := (Stp.up hst24 rfl)
  obtain ⟨O86, hst87, hf88⟩ := OwnSl.giveB rfl hf21 hs89 low0
  have hs90 : Stp [11, 12, 14, 1001, 1002] (Lg.O0 A) w O86 wd23 := (Stp.trans (Stp.up hst24 rfl) (Stp.up hst87 rfl))
  exact At.res (.inl rfl) rfl (.tmp rfl (.tmp rfl (.tmp rfl .nil))) ⟨v20, rfl, (Stp.ext hs90 rfl rfl), (Sl.outFb hf88)⟩
theorem c_law30_awake {w : World} {r0 : Bool} (h : law30_awake = some r0) : Rets Try.prog 6 [] w (fun v w' => v = Value.bool r0 ∧ Ext w w') := by
 unfold law30_awake at h
 refine Rets.enter Try.func6 rfl rfl ?_
 refine (show WC _ _ _ _ [] _ from ?_)
 refine WC.seq ?_
 refine WC.region ?_
 refine WL.y (Y.assign rfl) rfl ?_
 refine WL.nil ?_
 refine At.then ?_
 refine WC.seq ?_
 refine WC.region ?_
 refine WL.y (Y.build (vals := [(0, vi 1), (2, vu 150)]) (cells := [vi 1, vi 0, vu 150, Value.slice none 0 0]) (Fits.evalp rfl) (by kernel_rfl)) rfl ?_
 refine WL.buildSlice (O := (Lg.O0 (fun _ => False))) (R := (frR rep_api_Fld w.heap.size)) (vals := [(0, Value.agg (List.toArray [vi 1, vi 0, vu 150, Value.slice none 0 0]))]) 11 [vi 1, vi 0, vu 150, Value.slice none 0 0] (xs := [(api_Fld.mk 1 0 150 [])]) (by decide) ty22 ty40 (show 0 < rep_api_Fld.n by decide) (show 1 * rep_api_Fld.n ≤ 65536 by decide) (Fits.evalp rfl) (by kernel_rfl) rfl ⟨[vi 1, vi 0, vu 150, Value.slice none 0 0], [], rfl, ⟨[vi 1], [vi 0, vu 150, Value.slice none 0 0], rfl, rfl, ⟨[vi 0], [vu 150, Value.slice none 0 0], rfl, rfl, ⟨[vu 150], [Value.slice none 0 0], rfl, rfl, ⟨_, rfl, (Or.inl ⟨rfl, rfl⟩)⟩⟩⟩⟩, rfl⟩ rfl ?_
 intro v11 O13 wd14 hst15 ho12
 obtain ⟨⟨r16, r17⟩, hp18, h⟩ := bnd h
 refine WL.call (vals := [v11]) kok8 rfl rfl (c_wire_Encode (A := fun _ => True) (Sl.unfr ho12.src.sl) hp18) ?_
 rintro vr23 wd22 ⟨u19, rfl, hm21, f20⟩
 obtain ⟨O24, hold25, hnew26, hst27⟩ := adoptE O13 (fun k => if Value.ownBlock u19 = some k then 12 else 1) hm21
 have hf28 : OwnSl 12 Rep.b 5 O24 wd22 u19 r16 := RowF.adopt 12 Flat.b f20 hnew26 (fun k hk => if_pos hk)
 refine WL.y (Y.move rfl) rfl ?_
 refine WL.y (Y.extract rfl rfl) rfl ?_
 refine WL.y (Y.extract rfl rfl) rfl ?_
 refine WL.y (Y.assign rfl) rfl ?_
 refine WL.y (Y.assign rfl) rfl ?_
 refine WL.nil ?_
 refine At.then ?_
 refine WC.seq ?_
 refine WC.region ?_
 refine WL.buildSlice (O := O24) (R := Rep.b) (vals := [(0, vb 128), (1, vb 0)]) 13 [vb 128, vb 0] (xs := [128, 0]) (by decide) ty25 ty5 (by decide) (by decide) (Fits.evalp rfl) (by kernel_rfl) rfl ⟨[vb 128], [vb 0], rfl, rfl, ⟨[vb 0], [], rfl, rfl, rfl⟩⟩ rfl ?_
 intro v29 O31 wd32 hst33 ho30
 obtain ⟨⟨r34, r35, r36⟩, hp37, h⟩ := bnd h
 refine WL.call (vals := [v29, vi 0]) kok18 rfl rfl (c_wire_GetVar (A := fun _ => True) (ho30.src.sl) hp37) ?_
 rintro vr40 wd39 ⟨rfl, hm38⟩
 obtain ⟨O41, hold42, hnew43, hst44⟩ := adoptE O31 (fun k => 1) hm38
 refine WL.y (Y.move rfl) rfl ?_
 refine WL.y (Y.extract rfl rfl) rfl ?_
 refine WL.y (Y.extract rfl rfl) rfl ?_
 refine WL.y (Y.extract rfl rfl) rfl ?_
 refine WL.y (Y.assign rfl) rfl ?_
 refine WL.y (Y.assign rfl) rfl ?_
 refine WL.y (Y.assign rfl) rfl ?_
 refine WL.nil ?_
 refine At.then ?_
 refine WC.seq ?_
 refine WC.region ?_
 refine WL.buildSlice (O := O41) (R := Rep.b) (vals := [(0, vb 8), (1, vb 1), (2, vb 13)]) 14 [vb 8, vb 1, vb 13] (xs := [8, 1, 13]) (by decide) ty25 ty5 (by decide) (by decide) (Fits.evalp rfl) (by kernel_rfl) rfl ⟨[vb 8], [vb 1, vb 13], rfl, rfl, ⟨[vb 1], [vb 13], rfl, rfl, ⟨[vb 13], [], rfl, rfl, rfl⟩⟩⟩ rfl ?_
 intro v45 O47 wd48 hst49 ho46
 obtain ⟨⟨r50, r51, r52⟩, hp53, h⟩ := bnd h
 refine WL.call (vals := [v45]) kok10 rfl rfl (c_wire_Decode (A := fun _ => True) (ho46.src.sl) hp53) ?_
 rintro vr58 wd57 ⟨u54, rfl, hm56, f55⟩
 obtain ⟨O59, hold60, hnew61, hst62⟩ := adoptE O47 (fun k => 1) hm56
 have hf63 : Sl rep_api_Fld wd57 (frs O59) u54 r50 := Sl.adoptF f55 (fun k hk => ⟨hk, rfl⟩) hnew61
 refine WL.y (Y.move rfl) rfl ?_
 refine WL.y (Y.extract rfl rfl) rfl ?_
 refine WL.y (Y.extract rfl rfl) rfl ?_
 refine WL.y (Y.extract rfl rfl) rfl ?_
 refine WL.y (Y.assign rfl) rfl ?_
 refine WL.y (Y.assign rfl) rfl ?_
 refine WL.y (Y.assign rfl) rfl ?_
 refine WL.nil ?_
 refine At.then ?_
 refine WC.seq ?_
 refine WC.region ?_
 obtain ⟨r64, hp65, h⟩ := bnd h
 refine WL.call (vals := [vu 300]) kok19 rfl rfl (c_wire_Var hp65) ?_
 rintro vr70 wd69 ⟨_, rfl, hm68, f67⟩
 obtain ⟨O71, hold72, hnew73, hst74⟩ := adoptE O59 (fun k => if Value.ownBlock vr70 = some k then 15 else 1) hm68
 have hf75 : OwnSl 15 Rep.b 5 O71 wd69 vr70 r64 := RowF.adopt 15 Flat.b f67 hnew73 (fun k hk => if_pos hk)
 refine WL.y (Y.b2s ty25 ty5 ty9 rfl hf75.src.sl) rfl ?_
 refine WL.y (Y.eql_s (b := [172, 2]) rfl rfl) rfl ?_
 refine WL.y (Y.move rfl) rfl ?_
 refine WL.cut 4 (σ := Unit) (fun _ w' => wd69 = w') (fun _ => [(2, vi r17), (5, vi r36), (7, vi r51), (8, vi r52), (34, Value.bool ((decide (r64 = [172, 2])) && (decide (r16 = [8, 150, 1]))))]) ?_ ?_
 ·refine WL.part 30 rfl (fun hE76 => ?_) (fun hE76 => ?_)
  ·refine WL.ung rfl rfl ?_
   refine WL.y (Y.move rfl) rfl ?_
   refine WL.ung rfl rfl ?_
   have hf77 := hf28.st hst33 rfl rfl rfl
   have hf78 := hf77.st hst44 rfl rfl rfl
   have hf79 := hf78.st hst49 rfl rfl rfl
   have hf80 := hf79.st hst62 rfl rfl rfl
   have hf81 := hf80.st hst74 rfl rfl rfl
   refine WL.y (Y.b2s ty25 ty5 ty9 rfl hf81.src.sl) rfl ?_
   refine WL.ung rfl rfl ?_
   refine WL.y (Y.eql_s (b := [8, 150, 1]) rfl rfl) rfl ?_
   refine WL.y (Y.pick (b := true) rfl rfl) rfl ?_
   refine WL.ren (v' := Value.bool ((decide (r64 = [172, 2])) && (decide (r16 = [8, 150, 1])))) 34 rfl (congrArg Value.bool (andT hE76)) ?_
   exact WL.nil (At.join () rfl (.cons rfl (.cons rfl (.cons rfl (.cons rfl (.cons rfl .nil))))))
  ·refine WL.gS rfl rfl rfl rfl ?_
   refine WL.gS rfl rfl rfl rfl ?_
   refine WL.gS rfl rfl rfl rfl ?_
   refine WL.y (Y.pick (b := false) rfl rfl) rfl ?_
   refine WL.ren (v' := Value.bool ((decide (r64 = [172, 2])) && (decide (r16 = [8, 150, 1])))) 34 rfl (congrArg Value.bool (andF hE76)) ?_
   exact WL.nil (At.join () rfl (.cons rfl (.cons rfl (.cons rfl (.cons rfl (.cons rfl .nil))))))
 ·rintro _ _ rfl
  refine (show WL _ _ _ _ _ [(2, vi r17), (5, vi r36), (7, vi r51), (8, vi r52), (34, Value.bool ((decide (r64 = [172, 2])) && (decide (r16 = [8, 150, 1]))))] _ from ?_)
  refine WL.y (Y.move rfl) rfl ?_
  refine WL.cut 3 (σ := Unit) (fun _ w' => wd69 = w') (fun _ => [(5, vi r36), (7, vi r51), (8, vi r52), (38, Value.bool (((decide (r64 = [172, 2])) && (decide (r16 = [8, 150, 1]))) && (decide (r17 = 0))))]) ?_ ?_
  ·refine WL.part 35 rfl (fun hE82 => ?_) (fun hE82 => ?_)
   ·refine WL.ung rfl rfl ?_
    refine WL.y (Y.move rfl) rfl ?_
    refine WL.ung rfl rfl ?_
    refine WL.y (Y.eql_i rfl rfl) rfl ?_
    refine WL.y (Y.pick (b := true) rfl rfl) rfl ?_
    refine WL.ren (v' := Value.bool (((decide (r64 = [172, 2])) && (decide (r16 = [8, 150, 1]))) && (decide (r17 = 0)))) 38 rfl (congrArg Value.bool (andT hE82)) ?_
    exact WL.nil (At.join () rfl (.cons rfl (.cons rfl (.cons rfl (.cons rfl .nil)))))
   ·refine WL.gS rfl rfl rfl rfl ?_
    refine WL.gS rfl rfl rfl rfl ?_
    refine WL.y (Y.pick (b := false) rfl rfl) rfl ?_
    refine WL.ren (v' := Value.bool (((decide (r64 = [172, 2])) && (decide (r16 = [8, 150, 1]))) && (decide (r17 = 0)))) 38 rfl (congrArg Value.bool (andF hE82)) ?_
    exact WL.nil (At.join () rfl (.cons rfl (.cons rfl (.cons rfl (.cons rfl .nil)))))
  ·rintro _ _ rfl
   refine (show WL _ _ _ _ _ [(5, vi r36), (7, vi r51), (8, vi r52), (38, Value.bool (((decide (r64 = [172, 2])) && (decide (r16 = [8, 150, 1]))) && (decide (r17 = 0))))] _ from ?_)
   refine WL.y (Y.move rfl) rfl ?_
   refine WL.cut 3 (σ := Unit) (fun _ w' => wd69 = w') (fun _ => [(7, vi r51), (8, vi r52), (42, Value.bool ((((decide (r64 = [172, 2])) && (decide (r16 = [8, 150, 1]))) && (decide (r17 = 0))) && (decide (r36 = 3))))]) ?_ ?_
   ·refine WL.part 39 rfl (fun hE83 => ?_) (fun hE83 => ?_)
    ·refine WL.ung rfl rfl ?_
     refine WL.y (Y.move rfl) rfl ?_
     refine WL.ung rfl rfl ?_
     refine WL.y (Y.eql_i rfl rfl) rfl ?_
     refine WL.y (Y.pick (b := true) rfl rfl) rfl ?_
     refine WL.ren (v' := Value.bool ((((decide (r64 = [172, 2])) && (decide (r16 = [8, 150, 1]))) && (decide (r17 = 0))) && (decide (r36 = 3)))) 42 rfl (congrArg Value.bool (andT hE83)) ?_
     exact WL.nil (At.join () rfl (.cons rfl (.cons rfl (.cons rfl .nil))))
    ·refine WL.gS rfl rfl rfl rfl ?_
     refine WL.gS rfl rfl rfl rfl ?_
     refine WL.y (Y.pick (b := false) rfl rfl) rfl ?_
     refine WL.ren (v' := Value.bool ((((decide (r64 = [172, 2])) && (decide (r16 = [8, 150, 1]))) && (decide (r17 = 0))) && (decide (r36 = 3)))) 42 rfl (congrArg Value.bool (andF hE83)) ?_
     exact WL.nil (At.join () rfl (.cons rfl (.cons rfl (.cons rfl .nil))))
   ·rintro _ _ rfl
    refine (show WL _ _ _ _ _ [(7, vi r51), (8, vi r52), (42, Value.bool ((((decide (r64 = [172, 2])) && (decide (r16 = [8, 150, 1]))) && (decide (r17 = 0))) && (decide (r36 = 3))))] _ from ?_)
    refine WL.y (Y.move rfl) rfl ?_
    refine WL.cut 3 (σ := Unit) (fun _ w' => wd69 = w') (fun _ => [(8, vi r52), (46, Value.bool (((((decide (r64 = [172, 2])) && (decide (r16 = [8, 150, 1]))) && (decide (r17 = 0))) && (decide (r36 = 3))) && (decide (r51 = 2))))]) ?_ ?_
    ·refine WL.part 43 rfl (fun hE84 => ?_) (fun hE84 => ?_)
     ·refine WL.ung rfl rfl ?_
      refine WL.y (Y.move rfl) rfl ?_
      refine WL.ung rfl rfl ?_
      refine WL.y (Y.eql_i rfl rfl) rfl ?_
      refine WL.y (Y.pick (b := true) rfl rfl) rfl ?_
      refine WL.ren (v' := Value.bool (((((decide (r64 = [172, 2])) && (decide (r16 = [8, 150, 1]))) && (decide (r17 = 0))) && (decide (r36 = 3))) && (decide (r51 = 2)))) 46 rfl (congrArg Value.bool (andT hE84)) ?_
      exact WL.nil (At.join () rfl (.cons rfl (.cons rfl .nil)))
     ·refine WL.gS rfl rfl rfl rfl ?_
      refine WL.gS rfl rfl rfl rfl ?_
      refine WL.y (Y.pick (b := false) rfl rfl) rfl ?_
      refine WL.ren (v' := Value.bool (((((decide (r64 = [172, 2])) && (decide (r16 = [8, 150, 1]))) && (decide (r17 = 0))) && (decide (r36 = 3))) && (decide (r51 = 2)))) 46 rfl (congrArg Value.bool (andF hE84)) ?_
      exact WL.nil (At.join () rfl (.cons rfl (.cons rfl .nil)))
    ·rintro _ _ rfl
     refine (show WL _ _ _ _ _ [(8, vi r52), (46, Value.bool (((((decide (r64 = [172, 2])) && (decide (r16 = [8, 150, 1]))) && (decide (r17 = 0))) && (decide (r36 = 3))) && (decide (r51 = 2))))] _ from ?_)
     refine WL.y (Y.move rfl) rfl ?_
     refine WL.cut 3 (σ := Unit) (fun _ w' => wd69 = w') (fun _ => [(50, Value.bool ((((((decide (r64 = [172, 2])) && (decide (r16 = [8, 150, 1]))) && (decide (r17 = 0))) && (decide (r36 = 3))) && (decide (r51 = 2))) && (decide (r52 = 14))))]) ?_ ?_
     ·refine WL.part 47 rfl (fun hE85 => ?_) (fun hE85 => ?_)
      ·refine WL.ung rfl rfl ?_
       refine WL.y (Y.move rfl) rfl ?_
       refine WL.ung rfl rfl ?_
       refine WL.y (Y.eql_i rfl rfl) rfl ?_
       refine WL.y (Y.pick (b := true) rfl rfl) rfl ?_
       refine WL.ren (v' := Value.bool ((((((decide (r64 = [172, 2])) && (decide (r16 = [8, 150, 1]))) && (decide (r17 = 0))) && (decide (r36 = 3))) && (decide (r51 = 2))) && (decide (r52 = 14)))) 50 rfl (congrArg Value.bool (andT hE85)) ?_
       exact WL.nil (At.join () rfl (.cons rfl .nil))
      ·refine WL.gS rfl rfl rfl rfl ?_
       refine WL.gS rfl rfl rfl rfl ?_
       refine WL.y (Y.pick (b := false) rfl rfl) rfl ?_
       refine WL.ren (v' := Value.bool ((((((decide (r64 = [172, 2])) && (decide (r16 = [8, 150, 1]))) && (decide (r17 = 0))) && (decide (r36 = 3))) && (decide (r51 = 2))) && (decide (r52 = 14)))) 50 rfl (congrArg Value.bool (andF hE85)) ?_
       exact WL.nil (At.join () rfl (.cons rfl .nil))
     ·rintro _ _ rfl
      refine (show WL _ _ _ _ _ [(50, Value.bool ((((((decide (r64 = [172, 2])) && (decide (r16 = [8, 150, 1]))) && (decide (r17 = 0))) && (decide (r36 = 3))) && (decide (r51 = 2))) && (decide (r52 = 14))))] _ from ?_)
      obtain ⟨t86, ht86, h⟩ := lt1 h
      refine WL.yE (Y.assign rfl) (congrArg Value.bool ht86.symm) rfl ?_
      refine WL.nil ?_
      refine At.then ?_
      refine WC.ret ?_
      obtain rfl := some1 h
      have hs87 : Stp [] (Lg.O0 (fun _ => False)) w O71 wd69 := (Stp.trans (Stp.up hst15 rfl) (Stp.trans (Stp.up hst27 rfl) (Stp.trans (Stp.up hst33 rfl) (Stp.trans (Stp.up hst44 rfl) (Stp.trans (Stp.up hst49 rfl) (Stp.trans (Stp.up hst62 rfl) (Stp.up hst74 rfl)))))))
      exact At.res (.inl rfl) rfl (.tmp rfl .nil) ⟨rfl, (Stp.ext hs87 rfl rfl)⟩
theorem c_ref30_Few {A : Nat → Prop} {a0 : List api_Fld} {v0 : Value} {w : World} (hs0 : Sl rep_api_Fld w A v0 a0) {r0 : Bool} (h : ref30_Few a0 = some r0) : Rets Try.prog 7 [v0] w (fun v w' => v = Value.bool r0 ∧ Ext w w') := by
 unfold ref30_Few at h
 refine Rets.enter Try.func7 rfl rfl ?_
 have hf11 : Sl rep_api_Fld w (imm (Lg.O0 A)) v0 a0 := (Sl.start hs0)
 refine (show WC _ _ _ _ [(0, v0)] _ from ?_)
 refine WC.seq ?_
 refine WC.region ?_
 refine WL.y (Y.assign rfl) rfl ?_
 refine WL.nil ?_
 refine At.then ?_
 refine WC.seq ?_
 refine WC.seq ?_
 refine WC.region ?_
 refine WL.y (Y.move rfl) rfl ?_
 refine WL.y (Y.len ty22 rfl hf11) rfl ?_
 refine WL.y (Y.gtr_i rfl rfl) rfl ?_
 refine WL.nil ?_
 refine At.then ?_
 rcases cnd h with ⟨hc12, h⟩ | ⟨hc12, h⟩
 ·refine WC.condT' rfl hc12 ?_
  refine WC.seq ?_
  refine WC.region ?_
  refine WL.y (Y.assign rfl) rfl ?_
  refine WL.nil ?_
  refine At.then ?_
  refine WC.ret ?_
  refine At.thenR ?_
  obtain rfl := some1 h
  have hs13 : Stp [] (Lg.O0 A) w (Lg.O0 A) w := (Stp.refl _ _ _)
  exact At.res (.inl rfl) rfl (.tmp rfl .nil) ⟨rfl, (Stp.ext hs13 rfl rfl)⟩
 ·refine WC.condF' rfl hc12 ?_
  refine WC.skip ?_
  refine At.then ?_
  refine WC.seq ?_
  refine WC.seq ?_
  refine WC.region ?_
  refine WL.y (Y.assign rfl) rfl ?_
  refine WL.nil ?_
  refine At.then ?_
  refine WC.block ?_
  obtain ⟨p15, h, hk17⟩ := flow1 h
  obtain ⟨k16, h⟩ := loop_some h
  refine WC.joinB 0 (σ := Unit) (fun x w' => p15 = .go () ∧ w = w') (fun x => []) ?_ ?_
  ·refine WC.loop (σ := Int) (fun x k w' => loopN k (ref30_Few_lp1 a0) x = some p15 ∧ w = w') (fun x => [(0, v0), (3, vi x)]) 0 k16 (.cons rfl (.cons rfl .nil)) ⟨h, rfl⟩ ?_
   rintro i14 k16 _ ⟨h, rfl⟩
   obtain ⟨j18, q19, rfl, h, hn20⟩ := rnd1 h
   unfold ref30_Few_lp1 at h
   try dsimp only at h
   refine (show WC _ _ _ _ [(0, v0), (3, vi i14)] _ from ?_)
   refine WC.seq ?_
   refine WC.seq ?_
   refine WC.region ?_
   refine WL.y (Y.move rfl) rfl ?_
   refine WL.y (Y.move rfl) rfl ?_
   refine WL.y (Y.len ty22 rfl hf11) rfl ?_
   refine WL.y (Y.lss_i rfl rfl) rfl ?_
   refine WL.nil ?_
   refine At.then ?_
   rcases cnd h with ⟨hc21, h⟩ | ⟨hc21, h⟩
   ·refine WC.condT' rfl hc21 ?_
    refine WC.skip ?_
    refine At.then ?_
    refine WC.seq ?_
    refine WC.block ?_
    refine WC.seq ?_
    refine WC.region ?_
    refine WL.y (Y.move rfl) rfl ?_
    refine WL.y (Y.move rfl) rfl ?_
    obtain ⟨e22, he22, h⟩ := bnd h
    obtain ⟨b23, off33, cap30, cs29, hv24, hi25, hl26, hc27, hok28, hA34⟩ := Sl.at2 hf11 he22
    obtain ⟨_, _, rfl, rfl, ⟨_, _, rfl, rfl, ⟨_, _, rfl, rfl, ⟨v31, rfl, hf32⟩⟩⟩⟩ := hok28
    replace hc27 : CellsAt _ _ _ [vi e22.Num, vi e22.Type_, vu e22.V, v31] := hc27
    have hca35 := CAt.imm hc27 hA34
    refine WL.y (Y.indexAddr ty22 ty40 rfl hv24 rfl hi25 hl26) rfl ?_
    refine WL.y (Y.fieldAddr fo40_3 rfl) rfl ?_
    refine WL.y (Y.loadSc ty25 rfl rfl (hca35.at_.sub 3 [v31] rfl)) rfl ?_
    refine WL.y (Y.len ty25 rfl hf32) rfl ?_
    refine WL.y (Y.gtr_i rfl rfl) rfl ?_
    refine WL.nil ?_
    refine At.then ?_
    rcases cnd h with ⟨hc36, h⟩ | ⟨hc36, h⟩
    ·refine WC.condT' rfl hc36 ?_
     refine WC.seq ?_
     refine WC.region ?_
     refine WL.y (Y.assign rfl) rfl ?_
     refine WL.nil ?_
     refine At.then ?_
     refine WC.ret ?_
     refine At.inBlockR ?_
     refine At.thenR ?_
     refine At.loopR ?_
     have h := outr1 h hn20 hk17
     refine At.joinBR ?_
     refine At.inBlockR ?_
     refine At.thenR ?_
     obtain rfl := some1 h
     have hs37 : Stp [] (Lg.O0 A) w (Lg.O0 A) w := (Stp.refl _ _ _)
     exact At.res (.inl rfl) rfl (.tmp rfl .nil) ⟨rfl, (Stp.ext hs37 rfl rfl)⟩
    ·refine WC.condF' rfl hc36 ?_
     refine WC.skip ?_
     refine At.inBlock ?_
     refine At.then ?_
     refine WC.region ?_
     refine WL.y (Y.move rfl) rfl ?_
     refine WL.y (Y.add_i rfl rfl) rfl ?_
     obtain ⟨i38, hi38, h⟩ := lt1 h
     refine WL.yE (Y.assign rfl) (congrArg vi hi38.symm) rfl ?_
     refine WL.nil ?_
     exact At.round i38 j18 (Nat.lt_succ_self _) ⟨next1 h hn20, rfl⟩ (.cons rfl (.cons rfl .nil))
   ·refine WC.condF' rfl hc21 ?_
    refine WC.exit ?_
    refine At.thenX ?_
    refine At.loopX ?_
    exact At.hitB (σ := Unit) () ⟨brk1 h hn20, rfl⟩ .nil
  ·rintro _ _ ⟨rfl, rfl⟩
   replace h := flowK_go hk17
   refine (show At _ _ _ [] _ from ?_)
   refine At.inBlockHit ?_
   refine At.then ?_
   refine WC.seq ?_
   refine WC.region ?_
   refine WL.y (Y.assign rfl) rfl ?_
   refine WL.nil ?_
   refine At.then ?_
   refine WC.ret ?_
   obtain rfl := some1 h
   have hs39 : Stp [] (Lg.O0 A) w (Lg.O0 A) w := (Stp.refl _ _ _)
   exact At.res (.inl rfl) rfl (.tmp rfl .nil) ⟨rfl, (Stp.ext hs39 rfl rfl)⟩
theorem cN_ref30_Var (kf0 : Nat) : ∀ {a0 : UInt64} {w : World} {r0 : List UInt8} (h : ref30_VarN kf0 a0 = some r0), Rets Try.prog 22 [vu a0] w (fun v w' => ∃ (u0 : Value), v = u0 ∧ Ext w w' ∧ RowF Rep.b 5 w w' u0 r0) := by
  induction kf0 with
  | zero => intro a0 w r0 h; cases h
  | succ kf ih =>
  intro a0 w r0 h
  obtain ⟨rec_, hrec⟩ : ∃ q, q = ref30_VarN kf := ⟨_, rfl⟩
  rw [← hrec] at ih
  have h : ref30_VarB (ref30_VarN kf) a0 = some r0 := h
  rw [← hrec] at h
  unfold ref30_VarB at h
  refine Rets.enter Try.func22 rfl rfl ?_
  refine (show WC _ _ _ _ [(0, vu a0)] _ from ?_)
  refine WC.seq ?_
  refine WC.region ?_
  refine WL.y (Y.assign rfl) rfl ?_
  refine WL.nil ?_
  refine At.then ?_
  refine WC.seq ?_
  refine WC.seq ?_
  refine WC.region ?_
  refine WL.y (Y.move rfl) rfl ?_
  refine WL.y (Y.lss_u (b := 128) rfl rfl) rfl ?_
  refine WL.nil ?_
  refine At.then ?_
  rcases cnd h with ⟨hc11, h⟩ | ⟨hc11, h⟩
  ·refine WC.condT' rfl hc11 ?_
   refine WC.seq ?_
   refine WC.region ?_
   refine WL.y (Y.move rfl) rfl ?_
   refine WL.y (Y.conv_ub ty38.u ty5.u rfl) rfl ?_
   refine WL.buildSlice (O := (Lg.O0 (fun _ => False))) (R := Rep.b) (vals := [(0, vb a0.toUInt8)]) 11 [vb a0.toUInt8] (xs := [a0.toUInt8]) (by decide) ty25 ty5 (by decide) (by decide) (Fits.evalp rfl) (by kernel_rfl) rfl ⟨[vb a0.toUInt8], [], rfl, rfl, rfl⟩ rfl ?_
   intro v12 O14 wd15 hst16 ho13
   refine WL.y (Y.assign rfl) rfl ?_
   refine WL.nil ?_
   refine At.then ?_
   refine WC.ret ?_
   refine At.thenR ?_
   obtain rfl := some1 h
   have hs17 : Stp [] (Lg.O0 (fun _ => False)) w O14 wd15 := (Stp.up hst16 rfl)
   exact At.res (.inl rfl) rfl (.tmp rfl .nil) ⟨v12, rfl, (Stp.ext hs17 rfl rfl), (OwnSl.outF ho13 hs17 low0 rfl)⟩
  ·refine WC.condF' rfl hc11 ?_
   refine WC.skip ?_
   refine At.then ?_
   refine WC.seq ?_
   refine WC.region ?_
   refine WL.y (Y.move rfl) rfl ?_
   refine WL.y (Y.rem_u (b := 128) (by decide) rfl rfl) rfl ?_
   refine WL.y (Y.add_u (a := 128) rfl rfl) rfl ?_
   refine WL.y (Y.conv_ub ty38.u ty5.u rfl) rfl ?_
   refine WL.buildSlice (O := (Lg.O0 (fun _ => False))) (R := Rep.b) (vals := [(0, vb (((128 : UInt64) + (a0 % 128)).toUInt8))]) 12 [vb (((128 : UInt64) + (a0 % 128)).toUInt8)] (xs := [((128 : UInt64) + (a0 % 128)).toUInt8]) (by decide) ty25 ty5 (by decide) (by decide) (Fits.evalp rfl) (by kernel_rfl) rfl ⟨[vb (((128 : UInt64) + (a0 % 128)).toUInt8)], [], rfl, rfl, rfl⟩ rfl ?_
   intro v18 O20 wd21 hst22 ho19
   refine WL.y (Y.move rfl) rfl ?_
   refine WL.y (Y.quo_u (b := 128) (by decide) rfl rfl) rfl ?_
   obtain ⟨r23, hp24, h⟩ := bnd h
   refine WL.call (vals := [vu (a0 / 128)]) kok22 rfl rfl (ih hp24) ?_
   rintro vr29 wd28 ⟨_, rfl, hm27, f26⟩
   obtain ⟨O30, hold31, hnew32, hst33⟩ := adoptE O20 (fun k => if Value.ownBlock vr29 = some k then 13 else 1) hm27
   have hf34 : OwnSl 13 Rep.b 5 O30 wd28 vr29 r23 := RowF.adopt 13 Flat.b f26 hnew32 (fun k hk => if_pos hk)
   obtain ⟨xs35, hxs35, h⟩ := bnd h
   have hf36 := ho19.st hst33 rfl rfl rfl
   refine WL.append (by decide) ty25 ty5 rfl (by decide) rfl rfl hf36 hf34.src hxs35 rfl ?_
   intro v40 O37 wd38 hst39 ho41
   refine WL.y (Y.assign rfl) rfl ?_
   refine WL.nil ?_
   refine At.then ?_
   refine WC.ret ?_
   obtain rfl := some1 h
   have hs42 : Stp [12] (Lg.O0 (fun _ => False)) w O37 wd38 := (Stp.trans (Stp.up hst22 rfl) (Stp.trans (Stp.up hst33 rfl) (Stp.up hst39 rfl)))
   exact At.res (.inl rfl) rfl (.tmp rfl .nil) ⟨v40, rfl, (Stp.ext hs42 rfl rfl), (OwnSl.outF ho41 hs42 low0 rfl)⟩
theorem c_ref30_Var {a0 : UInt64} {w : World} {r0 : List UInt8} (h : ref30_Var a0 = some r0) : Rets Try.prog 22 [vu a0] w (fun v w' => ∃ (u0 : Value), v = u0 ∧ Ext w w' ∧ RowF Rep.b 5 w w' u0 r0) := by
  obtain ⟨k, hk⟩ := fuel_some h
  exact cN_ref30_Var k hk
theorem c_ref30_fix {a0 : UInt64} {w : World} {r0 : List UInt8} (h : ref30_fix a0 = some r0) : Rets Try.prog 23 [vu a0] w (fun v w' => v = vs r0 ∧ Ext w w') := by
 unfold ref30_fix at h
 refine Rets.enter Try.func23 rfl rfl ?_
 refine (show WC _ _ _ _ [(0, vu a0)] _ from ?_)
 refine WC.seq ?_
 refine WC.region ?_
 refine WL.y (Y.assign (v := vs []) rfl) rfl ?_
 refine WL.nil ?_
 refine At.then ?_
 refine WC.seq ?_
 refine WC.region ?_
 refine WL.y (Y.assign (v := vs []) rfl) rfl ?_
 refine WL.nil ?_
 refine At.then ?_
 refine WC.seq ?_
 refine WC.seq ?_
 refine WC.region ?_
 refine WL.y (Y.assign rfl) rfl ?_
 refine WL.nil ?_
 refine At.then ?_
 refine WC.block ?_
 obtain ⟨p21, h, hk23⟩ := flow1 h
 obtain ⟨k22, h⟩ := loop_some h
 refine WC.joinB 0 (σ := (List UInt8 × Own)) (fun x w' => p21 = .go x.1 ∧ Stp [] (Lg.O0 (fun _ => False)) w x.2 w') (fun x => [(3, vs x.1)]) ?_ ?_
 ·refine WC.loop (σ := (UInt64 × List UInt8 × Int × Own)) (fun x k w' => loopN k (ref30_fix_lp1) (x.1, x.2.1, x.2.2.1) = some p21 ∧ Stp [] (Lg.O0 (fun _ => False)) w x.2.2.2 w') (fun x => [(0, vu x.1), (3, vs x.2.1), (4, vi x.2.2.1)]) (a0, [], 0, (Lg.O0 (fun _ => False))) k22 (.cons rfl (.cons rfl (.cons rfl .nil))) ⟨h, (Stp.refl _ _ _)⟩ ?_
  rintro ⟨v11, s12, i13, O14⟩ k22 wd15 ⟨h, hst16⟩
  obtain ⟨j24, q25, rfl, h, hn26⟩ := rnd1 h
  unfold ref30_fix_lp1 at h
  try dsimp only at h hst16
  refine (show WC _ _ _ _ [(0, vu v11), (3, vs s12), (4, vi i13)] _ from ?_)
  refine WC.seq ?_
  refine WC.seq ?_
  refine WC.region ?_
  refine WL.y (Y.move rfl) rfl ?_
  refine WL.y (Y.lss_i rfl rfl) rfl ?_
  refine WL.nil ?_
  refine At.then ?_
  rcases cnd h with ⟨hc27, h⟩ | ⟨hc27, h⟩
  ·refine WC.condT' rfl hc27 ?_
   refine WC.skip ?_
   refine At.then ?_
   refine WC.seq ?_
   refine WC.block ?_
   refine WC.seq ?_
   refine WC.region ?_
   refine WL.y (Y.move rfl) rfl ?_
   refine WL.y (Y.move rfl) rfl ?_
   refine WL.y (Y.rem_u (b := 256) (by decide) rfl rfl) rfl ?_
   refine WL.y (Y.conv_ub ty38.u ty5.u rfl) rfl ?_
   refine WL.buildSlice (O := O14) (R := Rep.b) (vals := [(0, vb ((v11 % 256).toUInt8))]) 11 [vb ((v11 % 256).toUInt8)] (xs := [(v11 % 256).toUInt8]) (by decide) ty25 ty5 (by decide) (by decide) (Fits.evalp rfl) (by kernel_rfl) rfl ⟨[vb ((v11 % 256).toUInt8)], [], rfl, rfl, rfl⟩ rfl ?_
   intro v28 O30 wd31 hst32 ho29
   refine WL.y (Y.b2s ty25 ty5 ty9 rfl ho29.src.sl) rfl ?_
   obtain ⟨t33, ht33, h⟩ := bnd h
   refine WL.y (Y.add_s ht33 rfl rfl) rfl ?_
   refine WL.y (Y.assign rfl) rfl ?_
   refine WL.nil ?_
   refine At.then ?_
   refine WC.region ?_
   refine WL.y (Y.move rfl) rfl ?_
   refine WL.y (Y.quo_u (b := 256) (by decide) rfl rfl) rfl ?_
   obtain ⟨v34, hv34, h⟩ := lt1 h
   refine WL.yE (Y.assign rfl) (congrArg vu hv34.symm) rfl ?_
   refine WL.nil ?_
   refine At.inBlock ?_
   refine At.then ?_
   refine WC.region ?_
   refine WL.y (Y.move rfl) rfl ?_
   refine WL.y (Y.add_i rfl rfl) rfl ?_
   obtain ⟨i35, hi35, h⟩ := lt1 h
   refine WL.yE (Y.assign rfl) (congrArg vi hi35.symm) rfl ?_
   refine WL.nil ?_
   exact At.round (v34, t33, i35, O30) j24 (Nat.lt_succ_self _) ⟨next1 h hn26, (Stp.trans (Stp.up hst16 rfl) (Stp.up hst32 rfl))⟩ (.cons rfl (.cons rfl (.cons rfl .nil)))
  ·refine WC.condF' rfl hc27 ?_
   refine WC.exit ?_
   refine At.thenX ?_
   refine At.loopX ?_
   exact At.hitB (σ := (List UInt8 × Own)) (s12, O14) ⟨brk1 h hn26, (Stp.up hst16 rfl)⟩ (.cons rfl .nil)
 ·rintro ⟨s17, O18⟩ wd19 ⟨rfl, hst20⟩
  replace h := flowK_go hk23
  try dsimp only at h hst20
  refine (show At _ _ _ [(3, vs s17)] _ from ?_)
  refine At.inBlockHit ?_
  refine At.then ?_
  refine WC.seq ?_
  refine WC.region ?_
  refine WL.y (Y.move rfl) rfl ?_
  refine WL.y (Y.assign rfl) rfl ?_
  refine WL.nil ?_
  refine At.then ?_
  refine WC.ret ?_
  obtain rfl := some1 h
  have hs36 : Stp [] (Lg.O0 (fun _ => False)) w O18 wd19 := (Stp.up hst20 rfl)
  exact At.res (.inl rfl) rfl (.tmp rfl .nil) ⟨rfl, (Stp.ext hs36 rfl rfl)⟩
theorem c_ref30_Encode {A : Nat → Prop} {a0 : List api_Fld} {v0 : Value} {w : World} (hs0 : Sl rep_api_Fld w A v0 a0) {r0 : List UInt8} {r1 : Int} (h : ref30_Encode a0 = some (r0, r1)) : Rets Try.prog 9 [v0] w (fun v w' => ∃ (u0 : Value), v = Value.tuple (List.toArray [u0, vi r1]) ∧ Ext w w' ∧ Sl Rep.b w' (fun k => w.heap.size ≤ k) u0 r0) := by
 unfold ref30_Encode at h
 refine Rets.enter Try.func9 rfl rfl ?_
 have hf11 : Sl rep_api_Fld w (imm (Lg.O0 A)) v0 a0 := (Sl.start hs0)
 refine (show WC _ _ _ _ [(0, v0)] _ from ?_)
 refine WC.seq ?_
 refine WC.region ?_
 refine WL.y (Y.assign rfl) rfl ?_
 refine WL.y (Y.assign rfl) rfl ?_
 refine WL.nil ?_
 refine At.then ?_
 refine WC.seq ?_
 refine WC.region ?_
 refine WL.y (Y.assign (v := vs []) rfl) rfl ?_
 refine WL.nil ?_
 refine At.then ?_
 refine WC.seq ?_
 refine WC.seq ?_
 refine WC.region ?_
 refine WL.y (Y.assign rfl) rfl ?_
 refine WL.nil ?_
 refine At.then ?_
 refine WC.block ?_
 obtain ⟨p21, h, hk23⟩ := flow1 h
 obtain ⟨k22, h⟩ := loop_some h
 refine WC.joinB 0 (σ := (List UInt8 × Own)) (fun x w' => p21 = .go x.1 ∧ Stp [11] (Lg.O0 A) w x.2 w') (fun x => [(4, vs x.1)]) ?_ ?_
 ·refine WC.loop (σ := (List UInt8 × Int × Own)) (fun x k w' => loopN k (ref30_Encode_lp1 a0) (x.1, x.2.1) = some p21 ∧ Stp [11] (Lg.O0 A) w x.2.2 w') (fun x => [(0, v0), (4, vs x.1), (5, vi x.2.1)]) ([], 0, (Lg.O0 A)) k22 (.cons rfl (.cons rfl (.cons rfl .nil))) ⟨h, (Stp.refl _ _ _)⟩ ?_
  rintro ⟨s12, i13, O14⟩ k22 wd15 ⟨h, hst16⟩
  obtain ⟨j24, q25, rfl, h, hn26⟩ := rnd1 h
  unfold ref30_Encode_lp1 at h
  try dsimp only at h hst16
  refine (show WC _ _ _ _ [(0, v0), (4, vs s12), (5, vi i13)] _ from ?_)
  refine WC.seq ?_
  refine WC.seq ?_
  refine WC.region ?_
  refine WL.y (Y.move rfl) rfl ?_
  refine WL.y (Y.move rfl) rfl ?_
  have hf27 := hf11.mono (imm_st hst16 rfl rfl)
  refine WL.y (Y.len ty22 rfl hf27) rfl ?_
  refine WL.y (Y.lss_i rfl rfl) rfl ?_
  refine WL.nil ?_
  refine At.then ?_
  rcases cnd h with ⟨hc28, h⟩ | ⟨hc28, h⟩
  ·refine WC.condT' rfl hc28 ?_
   refine WC.skip ?_
   refine At.then ?_
   refine WC.seq ?_
   obtain ⟨p33, h, hk34⟩ := flow1 h
   refine WC.join (σ := (List UInt8 × Own)) (fun x w' => p33 = .go x.1 ∧ Stp [11] O14 wd15 x.2 w') (fun x => [(0, v0), (4, vs x.1), (5, vi i13)]) ?_ ?_
   ·refine WC.block ?_
    refine WC.seq ?_
    refine WC.region ?_
    refine WL.y (Y.move rfl) rfl ?_
    refine WL.y (Y.move rfl) rfl ?_
    obtain ⟨e35, he35, h⟩ := bnd h
    obtain ⟨b36, off46, cap43, cs42, hv37, hi38, hl39, hc40, hok41, hA47⟩ := Sl.at2 hf27 he35
    obtain ⟨_, _, rfl, rfl, ⟨_, _, rfl, rfl, ⟨_, _, rfl, rfl, ⟨v44, rfl, hf45⟩⟩⟩⟩ := hok41
    replace hc40 : CellsAt _ _ _ [vi e35.Num, vi e35.Type_, vu e35.V, v44] := hc40
    have hca48 := CAt.imm hc40 hA47
    refine WL.y (Y.indexAddr ty22 ty40 rfl hv37 rfl hi38 hl39) rfl ?_
    refine WL.y (Y.loadAg ty40 rfl rfl hca48.at_ rfl) rfl ?_
    refine WL.alloc (O := O14) 11 [vi 0, vi 0, vu 0, Value.slice none 0 0] ty40 rfl rfl ?_
    intro p50 O51 wd52 hst53 hb49
    have hf54 := hf45.mono (imm_st hst53 rfl rfl)
    have hh58 := h
    obtain ⟨p55, m56, c57, rfl⟩ := hf54.shape
    have h := hh58
    refine WL.store (v := Value.agg (List.toArray [vi e35.Num, vi e35.Type_, vu e35.V, (Value.slice p55 m56 c57)])) (cells' := [vi e35.Num, vi e35.Type_, vu e35.V, (Value.slice p55 m56 c57)]) ty40 rfl rfl hb49 rfl (Nat.le_of_ble_eq_true rfl) rfl rfl ?_
    intro wd59 hst60 hb61
    refine WL.nil ?_
    refine At.then ?_
    refine WC.seq ?_
    refine WC.seq ?_
    refine WC.region ?_
    refine WL.y (Y.fieldAddr fo40_0 rfl) rfl ?_
    refine WL.y (Y.loadSc ty3 rfl rfl (hb61.cell 0 _ rfl)) rfl ?_
    refine WL.y (Y.lss_i rfl rfl) rfl ?_
    refine WL.y (Y.move rfl) rfl ?_
    refine WL.cut 4 (σ := Unit) (fun _ w' => wd59 = w') (fun _ => [(0, v0), (4, vs s12), (5, vi i13), (6, Value.pointer (some ⟨p50, 0, none⟩)), (24, Value.bool ((decide (e35.Num < 1)) || (decide (536870911 < e35.Num))))]) ?_ ?_
    ·refine WL.part 20 rfl (fun hE62 => ?_) (fun hE62 => ?_)
     ·refine WL.gS rfl rfl rfl rfl ?_
      refine WL.gS rfl rfl rfl rfl ?_
      refine WL.gS rfl rfl rfl rfl ?_
      refine WL.y (Y.pick (b := true) rfl rfl) rfl ?_
      refine WL.ren (v' := Value.bool ((decide (e35.Num < 1)) || (decide (536870911 < e35.Num)))) 24 rfl (congrArg Value.bool (orT hE62)) ?_
      exact WL.nil (At.join () rfl (.cons rfl (.cons rfl (.cons rfl (.cons rfl (.cons rfl .nil))))))
     ·refine WL.ung rfl rfl ?_
      refine WL.y (Y.fieldAddr fo40_0 rfl) rfl ?_
      refine WL.ung rfl rfl ?_
      refine WL.y (Y.loadSc ty3 rfl rfl (hb61.cell 0 _ rfl)) rfl ?_
      refine WL.ung rfl rfl ?_
      refine WL.y (Y.gtr_i rfl rfl) rfl ?_
      refine WL.y (Y.pick (b := false) rfl rfl) rfl ?_
      refine WL.ren (v' := Value.bool ((decide (e35.Num < 1)) || (decide (536870911 < e35.Num)))) 24 rfl (congrArg Value.bool (orF hE62)) ?_
      exact WL.nil (At.join () rfl (.cons rfl (.cons rfl (.cons rfl (.cons rfl (.cons rfl .nil))))))
    ·rintro _ _ rfl
     refine (show WL _ _ _ _ _ [(0, v0), (4, vs s12), (5, vi i13), (6, Value.pointer (some ⟨p50, 0, none⟩)), (24, Value.bool ((decide (e35.Num < 1)) || (decide (536870911 < e35.Num))))] _ from ?_)
     refine WL.nil ?_
     refine At.then ?_
     rcases cnd h with ⟨hc63, h⟩ | ⟨hc63, h⟩
     ·refine WC.condT' rfl hc63 ?_
      refine WC.seq ?_
      refine WC.region ?_
      refine WL.y (Y.assign rfl) rfl ?_
      refine WL.y (Y.assign rfl) rfl ?_
      refine WL.nil ?_
      refine At.then ?_
      refine WC.ret ?_
      refine At.thenR ?_
      refine At.inBlockR ?_
      have h := outs1 h hk34
      refine At.joinR ?_
      refine At.thenR ?_
      refine At.loopR ?_
      have h := outr1 h hn26 hk23
      refine At.joinBR ?_
      refine At.inBlockR ?_
      refine At.thenR ?_
      obtain ⟨rfl, rfl⟩ := tup2 h
      have hs64 : Stp [11] (Lg.O0 A) w O51 wd59 := (Stp.trans (Stp.up hst16 rfl) (Stp.trans (Stp.up hst53 rfl) (Stp.up hst60 rfl)))
      exact At.res (.inl rfl) rfl (.tmp rfl (.tmp rfl .nil)) ⟨Value.slice none 0 0, rfl, (Stp.ext hs64 rfl rfl), (Or.inl ⟨rfl, rfl⟩)⟩
     ·refine WC.condF' rfl hc63 ?_
      refine WC.skip ?_
      refine At.then ?_
      refine WC.seq ?_
      refine WC.seq ?_
      refine WC.region ?_
      refine WL.y (Y.fieldAddr fo40_1 rfl) rfl ?_
      refine WL.y (Y.loadSc ty3 rfl rfl (hb61.cell 1 _ rfl)) rfl ?_
      refine WL.y (Y.lss_i rfl rfl) rfl ?_
      refine WL.y (Y.move rfl) rfl ?_
      refine WL.cut 4 (σ := Unit) (fun _ w' => wd59 = w') (fun _ => [(0, v0), (4, vs s12), (5, vi i13), (6, Value.pointer (some ⟨p50, 0, none⟩)), (32, Value.bool ((decide (e35.Type_ < 0)) || (decide (2 < e35.Type_))))]) ?_ ?_
      ·refine WL.part 28 rfl (fun hE65 => ?_) (fun hE65 => ?_)
       ·refine WL.gS rfl rfl rfl rfl ?_
        refine WL.gS rfl rfl rfl rfl ?_
        refine WL.gS rfl rfl rfl rfl ?_
        refine WL.y (Y.pick (b := true) rfl rfl) rfl ?_
        refine WL.ren (v' := Value.bool ((decide (e35.Type_ < 0)) || (decide (2 < e35.Type_)))) 32 rfl (congrArg Value.bool (orT hE65)) ?_
        exact WL.nil (At.join () rfl (.cons rfl (.cons rfl (.cons rfl (.cons rfl (.cons rfl .nil))))))
       ·refine WL.ung rfl rfl ?_
        refine WL.y (Y.fieldAddr fo40_1 rfl) rfl ?_
        refine WL.ung rfl rfl ?_
        refine WL.y (Y.loadSc ty3 rfl rfl (hb61.cell 1 _ rfl)) rfl ?_
        refine WL.ung rfl rfl ?_
        refine WL.y (Y.gtr_i rfl rfl) rfl ?_
        refine WL.y (Y.pick (b := false) rfl rfl) rfl ?_
        refine WL.ren (v' := Value.bool ((decide (e35.Type_ < 0)) || (decide (2 < e35.Type_)))) 32 rfl (congrArg Value.bool (orF hE65)) ?_
        exact WL.nil (At.join () rfl (.cons rfl (.cons rfl (.cons rfl (.cons rfl (.cons rfl .nil))))))
      ·rintro _ _ rfl
       refine (show WL _ _ _ _ _ [(0, v0), (4, vs s12), (5, vi i13), (6, Value.pointer (some ⟨p50, 0, none⟩)), (32, Value.bool ((decide (e35.Type_ < 0)) || (decide (2 < e35.Type_))))] _ from ?_)
       refine WL.nil ?_
       refine At.then ?_
       rcases cnd h with ⟨hc66, h⟩ | ⟨hc66, h⟩
       ·refine WC.condT' rfl hc66 ?_
        refine WC.seq ?_
        refine WC.region ?_
        refine WL.y (Y.assign rfl) rfl ?_
        refine WL.y (Y.assign rfl) rfl ?_
        refine WL.nil ?_
        refine At.then ?_
        refine WC.ret ?_
        refine At.thenR ?_
        refine At.inBlockR ?_
        have h := outs1 h hk34
        refine At.joinR ?_
        refine At.thenR ?_
        refine At.loopR ?_
        have h := outr1 h hn26 hk23
        refine At.joinBR ?_
        refine At.inBlockR ?_
        refine At.thenR ?_
        obtain ⟨rfl, rfl⟩ := tup2 h
        have hs67 : Stp [11] (Lg.O0 A) w O51 wd59 := (Stp.trans (Stp.up hst16 rfl) (Stp.trans (Stp.up hst53 rfl) (Stp.up hst60 rfl)))
        exact At.res (.inl rfl) rfl (.tmp rfl (.tmp rfl .nil)) ⟨Value.slice none 0 0, rfl, (Stp.ext hs67 rfl rfl), (Or.inl ⟨rfl, rfl⟩)⟩
       ·refine WC.condF' rfl hc66 ?_
        refine WC.skip ?_
        refine At.then ?_
        refine WC.seq ?_
        refine WC.seq ?_
        refine WC.region ?_
        refine WL.y (Y.fieldAddr fo40_1 rfl) rfl ?_
        refine WL.y (Y.loadSc ty3 rfl rfl (hb61.cell 1 _ rfl)) rfl ?_
        refine WL.y (Y.eql_i rfl rfl) rfl ?_
        refine WL.y (Y.move rfl) rfl ?_
        refine WL.cut 4 (σ := Unit) (fun _ w' => wd59 = w') (fun _ => [(0, v0), (4, vs s12), (5, vi i13), (6, Value.pointer (some ⟨p50, 0, none⟩)), (40, Value.bool ((decide (e35.Type_ = 2)) && (!decide (e35.V = 0))))]) ?_ ?_
        ·refine WL.part 36 rfl (fun hE68 => ?_) (fun hE68 => ?_)
         ·refine WL.ung rfl rfl ?_
          refine WL.y (Y.fieldAddr fo40_2 rfl) rfl ?_
          refine WL.ung rfl rfl ?_
          refine WL.y (Y.loadSc ty38 rfl rfl (hb61.cell 2 _ rfl)) rfl ?_
          refine WL.ung rfl rfl ?_
          refine WL.y (Y.neq_u (b := 0) rfl rfl) rfl ?_
          refine WL.y (Y.pick (b := true) rfl rfl) rfl ?_
          refine WL.ren (v' := Value.bool ((decide (e35.Type_ = 2)) && (!decide (e35.V = 0)))) 40 rfl (congrArg Value.bool (andT hE68)) ?_
          exact WL.nil (At.join () rfl (.cons rfl (.cons rfl (.cons rfl (.cons rfl (.cons rfl .nil))))))
         ·refine WL.gS rfl rfl rfl rfl ?_
          refine WL.gS rfl rfl rfl rfl ?_
          refine WL.gS rfl rfl rfl rfl ?_
          refine WL.y (Y.pick (b := false) rfl rfl) rfl ?_
          refine WL.ren (v' := Value.bool ((decide (e35.Type_ = 2)) && (!decide (e35.V = 0)))) 40 rfl (congrArg Value.bool (andF hE68)) ?_
          exact WL.nil (At.join () rfl (.cons rfl (.cons rfl (.cons rfl (.cons rfl (.cons rfl .nil))))))
        ·rintro _ _ rfl
         refine (show WL _ _ _ _ _ [(0, v0), (4, vs s12), (5, vi i13), (6, Value.pointer (some ⟨p50, 0, none⟩)), (40, Value.bool ((decide (e35.Type_ = 2)) && (!decide (e35.V = 0))))] _ from ?_)
         refine WL.y (Y.move rfl) rfl ?_
         refine WL.cut 10 (σ := Unit) (fun _ w' => wd59 = w') (fun _ => [(0, v0), (4, vs s12), (5, vi i13), (6, Value.pointer (some ⟨p50, 0, none⟩)), (51, Value.bool (((decide (e35.Type_ = 2)) && (!decide (e35.V = 0))) || ((decide (e35.Type_ < 2)) && (decide (0 < (e35.B.length : Int))))))]) ?_ ?_
         ·refine WL.part 41 rfl (fun hE69 => ?_) (fun hE69 => ?_)
          ·refine WL.gS rfl rfl rfl rfl ?_
           refine WL.gS rfl rfl rfl rfl ?_
           refine WL.gS rfl rfl rfl rfl ?_
           refine WL.gS rfl rfl rfl rfl ?_
           refine WL.gS rfl rfl rfl rfl ?_
           refine WL.gS rfl rfl rfl rfl ?_
           refine WL.gS rfl rfl rfl rfl ?_
           refine WL.gS rfl rfl rfl rfl ?_
           refine WL.gS rfl rfl rfl rfl ?_
           refine WL.y (Y.pick (b := true) rfl rfl) rfl ?_
           refine WL.ren (v' := Value.bool (((decide (e35.Type_ = 2)) && (!decide (e35.V = 0))) || ((decide (e35.Type_ < 2)) && (decide (0 < (e35.B.length : Int)))))) 51 rfl (congrArg Value.bool (orT hE69)) ?_
           exact WL.nil (At.join () rfl (.cons rfl (.cons rfl (.cons rfl (.cons rfl (.cons rfl .nil))))))
          ·refine WL.ung rfl rfl ?_
           refine WL.y (Y.fieldAddr fo40_1 rfl) rfl ?_
           refine WL.ung rfl rfl ?_
           refine WL.y (Y.loadSc ty3 rfl rfl (hb61.cell 1 _ rfl)) rfl ?_
           refine WL.ung rfl rfl ?_
           refine WL.y (Y.lss_i rfl rfl) rfl ?_
           refine WL.ung rfl rfl ?_
           refine WL.y (Y.move rfl) rfl ?_
           refine WL.cut 5 (σ := Unit) (fun _ w' => wd59 = w') (fun _ => [(0, v0), (4, vs s12), (5, vi i13), (6, Value.pointer (some ⟨p50, 0, none⟩)), (41, Value.bool false), (42, Value.pointer (some ⟨p50, 1, none⟩)), (43, vi e35.Type_), (44, Value.bool (decide (e35.Type_ < 2))), (45, Value.bool (decide (e35.Type_ < 2))), (50, Value.bool ((decide (e35.Type_ < 2)) && (decide (0 < (e35.B.length : Int)))))]) ?_ ?_
           ·refine WL.part 45 rfl (fun hE70 => ?_) (fun hE70 => ?_)
            ·refine WL.ung rfl rfl ?_
             refine WL.y (Y.fieldAddr fo40_3 rfl) rfl ?_
             refine WL.ung rfl rfl ?_
             refine WL.y (Y.loadSc ty25 rfl rfl (hb61.cell 3 _ rfl)) rfl ?_
             refine WL.ung rfl rfl ?_
             have hf71 := hf54.mono (imm_st hst60 rfl rfl)
             refine WL.y (Y.len ty25 rfl hf71) rfl ?_
             refine WL.ung rfl rfl ?_
             refine WL.y (Y.gtr_i rfl rfl) rfl ?_
             refine WL.ung rfl rfl ?_
             refine WL.y (Y.pick (b := true) rfl rfl) rfl ?_
             refine WL.ren (v' := Value.bool ((decide (e35.Type_ < 2)) && (decide (0 < (e35.B.length : Int))))) 50 rfl (congrArg Value.bool (andT hE70)) ?_
             refine WL.ren 45 rfl (congrArg Value.bool hE70.symm) ?_
             exact WL.nil (At.join () rfl (.cons rfl (.cons rfl (.cons rfl (.cons rfl (.cons rfl (.cons rfl (.cons rfl (.cons rfl (.cons rfl (.cons rfl .nil)))))))))))
            ·refine WL.gS rfl rfl rfl rfl ?_
             refine WL.gS rfl rfl rfl rfl ?_
             refine WL.gS rfl rfl rfl rfl ?_
             refine WL.gS rfl rfl rfl rfl ?_
             refine WL.ung rfl rfl ?_
             refine WL.y (Y.pick (b := false) rfl rfl) rfl ?_
             refine WL.ren (v' := Value.bool ((decide (e35.Type_ < 2)) && (decide (0 < (e35.B.length : Int))))) 50 rfl (congrArg Value.bool (andF hE70)) ?_
             refine WL.ren 45 rfl (congrArg Value.bool hE70.symm) ?_
             exact WL.nil (At.join () rfl (.cons rfl (.cons rfl (.cons rfl (.cons rfl (.cons rfl (.cons rfl (.cons rfl (.cons rfl (.cons rfl (.cons rfl .nil)))))))))))
           ·rintro _ _ rfl
            refine (show WL _ _ _ _ _ [(0, v0), (4, vs s12), (5, vi i13), (6, Value.pointer (some ⟨p50, 0, none⟩)), (41, Value.bool false), (42, Value.pointer (some ⟨p50, 1, none⟩)), (43, vi e35.Type_), (44, Value.bool (decide (e35.Type_ < 2))), (45, Value.bool (decide (e35.Type_ < 2))), (50, Value.bool ((decide (e35.Type_ < 2)) && (decide (0 < (e35.B.length : Int)))))] _ from ?_)
            refine WL.y (Y.pick (b := false) rfl rfl) rfl ?_
            refine WL.ren (v' := Value.bool (((decide (e35.Type_ = 2)) && (!decide (e35.V = 0))) || ((decide (e35.Type_ < 2)) && (decide (0 < (e35.B.length : Int)))))) 51 rfl (congrArg Value.bool (orF hE69)) ?_
            exact WL.nil (At.join () rfl (.cons rfl (.cons rfl (.cons rfl (.cons rfl (.cons rfl .nil))))))
         ·rintro _ _ rfl
          refine (show WL _ _ _ _ _ [(0, v0), (4, vs s12), (5, vi i13), (6, Value.pointer (some ⟨p50, 0, none⟩)), (51, Value.bool (((decide (e35.Type_ = 2)) && (!decide (e35.V = 0))) || ((decide (e35.Type_ < 2)) && (decide (0 < (e35.B.length : Int))))))] _ from ?_)
          refine WL.nil ?_
          refine At.then ?_
          rcases cnd h with ⟨hc72, h⟩ | ⟨hc72, h⟩
          ·refine WC.condT' rfl hc72 ?_
           refine WC.seq ?_
           refine WC.region ?_
           refine WL.y (Y.assign rfl) rfl ?_
           refine WL.y (Y.assign rfl) rfl ?_
           refine WL.nil ?_
           refine At.then ?_
           refine WC.ret ?_
           refine At.thenR ?_
           refine At.inBlockR ?_
           have h := outs1 h hk34
           refine At.joinR ?_
           refine At.thenR ?_
           refine At.loopR ?_
           have h := outr1 h hn26 hk23
           refine At.joinBR ?_
           refine At.inBlockR ?_
           refine At.thenR ?_
           obtain ⟨rfl, rfl⟩ := tup2 h
           have hs73 : Stp [11] (Lg.O0 A) w O51 wd59 := (Stp.trans (Stp.up hst16 rfl) (Stp.trans (Stp.up hst53 rfl) (Stp.up hst60 rfl)))
           exact At.res (.inl rfl) rfl (.tmp rfl (.tmp rfl .nil)) ⟨Value.slice none 0 0, rfl, (Stp.ext hs73 rfl rfl), (Or.inl ⟨rfl, rfl⟩)⟩
          ·refine WC.condF' rfl hc72 ?_
           refine WC.skip ?_
           refine At.then ?_
           refine WC.seq ?_
           refine WC.region ?_
           refine WL.y (Y.move rfl) rfl ?_
           refine WL.y (Y.fieldAddr fo40_0 rfl) rfl ?_
           refine WL.y (Y.loadSc ty3 rfl rfl (hb61.cell 0 _ rfl)) rfl ?_
           refine WL.y (Y.conv_iu ty3.u ty38.u rfl) rfl ?_
           refine WL.y (Y.mul_u (b := 8) rfl rfl) rfl ?_
           refine WL.y (Y.fieldAddr fo40_1 rfl) rfl ?_
           refine WL.y (Y.loadSc ty3 rfl rfl (hb61.cell 1 _ rfl)) rfl ?_
           refine WL.y (Y.conv_iu ty3.u ty38.u rfl) rfl ?_
           refine WL.y (Y.add_u rfl rfl) rfl ?_
           obtain ⟨r74, hp75, h⟩ := bnd h
           refine WL.call (vals := [vu (((toU64 e35.Num) * 8) + (toU64 e35.Type_))]) kok22 rfl rfl (c_ref30_Var hp75) ?_
           rintro vr80 wd79 ⟨_, rfl, hm78, f77⟩
           obtain ⟨O81, hold82, hnew83, hst84⟩ := adoptE O51 (fun k => if Value.ownBlock vr80 = some k then 12 else 1) hm78
           have hf85 : OwnSl 12 Rep.b 5 O81 wd79 vr80 r74 := RowF.adopt 12 Flat.b f77 hnew83 (fun k hk => if_pos hk)
           refine WL.y (Y.b2s ty25 ty5 ty9 rfl hf85.src.sl) rfl ?_
           obtain ⟨t86, ht86, h⟩ := bnd h
           refine WL.y (Y.add_s ht86 rfl rfl) rfl ?_
           refine WL.y (Y.assign rfl) rfl ?_
           refine WL.nil ?_
           refine At.then ?_
           refine WC.seq ?_
           obtain ⟨p91, h, hk92⟩ := bnd h
           refine WC.join (σ := (List UInt8 × Own)) (fun x w' => x.1 = p91 ∧ Stp [] O81 wd79 x.2 w') (fun x => [(0, v0), (4, vs x.1), (5, vi i13), (6, Value.pointer (some ⟨p50, 0, none⟩))]) ?_ ?_
           ·refine WC.seq ?_
            refine WC.region ?_
            refine WL.y (Y.fieldAddr fo40_1 rfl) rfl ?_
            have hf93 := hb61.st hst84 rfl
            refine WL.y (Y.loadSc ty3 rfl rfl (hf93.cell 1 _ rfl)) rfl ?_
            refine WL.y (Y.eql_i rfl rfl) rfl ?_
            refine WL.nil ?_
            refine At.then ?_
            rcases cnd h with ⟨hc94, h⟩ | ⟨hc94, h⟩
            ·refine WC.condT' rfl hc94 ?_
             refine WC.region ?_
             refine WL.y (Y.move rfl) rfl ?_
             refine WL.y (Y.fieldAddr fo40_2 rfl) rfl ?_
             refine WL.y (Y.loadSc ty38 rfl rfl (hf93.cell 2 _ rfl)) rfl ?_
             obtain ⟨r95, hp96, h⟩ := bnd h
             refine WL.call (vals := [vu e35.V]) kok22 rfl rfl (c_ref30_Var hp96) ?_
             rintro vr101 wd100 ⟨_, rfl, hm99, f98⟩
             obtain ⟨O102, hold103, hnew104, hst105⟩ := adoptE O81 (fun k => if Value.ownBlock vr101 = some k then 13 else 1) hm99
             have hf106 : OwnSl 13 Rep.b 5 O102 wd100 vr101 r95 := RowF.adopt 13 Flat.b f98 hnew104 (fun k hk => if_pos hk)
             refine WL.y (Y.b2s ty25 ty5 ty9 rfl hf106.src.sl) rfl ?_
             obtain ⟨t107, ht107, h⟩ := bnd h
             refine WL.y (Y.add_s ht107 rfl rfl) rfl ?_
             refine WL.y (Y.assign rfl) rfl ?_
             refine WL.nil ?_
             exact At.join (σ := (List UInt8 × Own)) (t107, O102) ⟨some1 h, (Stp.up hst105 rfl)⟩ (.cons rfl (.cons rfl (.cons rfl (.cons rfl .nil))))
            ·refine WC.condF' rfl hc94 ?_
             refine WC.skip ?_
             exact At.join (σ := (List UInt8 × Own)) (t86, O81) ⟨some1 h, (Stp.refl _ _ _)⟩ (.cons rfl (.cons rfl (.cons rfl (.cons rfl .nil))))
           ·rintro ⟨s87, O88⟩ wd89 ⟨rfl, hst90⟩
            replace h := hk92
            try dsimp only at h hst90
            refine (show At _ _ _ [(0, v0), (4, vs s87), (5, vi i13), (6, Value.pointer (some ⟨p50, 0, none⟩))] _ from ?_)
            refine At.then ?_
            refine WC.seq ?_
            obtain ⟨p112, h, hk113⟩ := bnd h
            refine WC.join (σ := (List UInt8 × Own)) (fun x w' => x.1 = p112 ∧ Stp [] O88 wd89 x.2 w') (fun x => [(0, v0), (4, vs x.1), (5, vi i13), (6, Value.pointer (some ⟨p50, 0, none⟩))]) ?_ ?_
            ·refine WC.seq ?_
             refine WC.region ?_
             refine WL.y (Y.fieldAddr fo40_1 rfl) rfl ?_
             have hf114 := hb61.st hst84 rfl
             have hf115 := hf114.st hst90 rfl
             refine WL.y (Y.loadSc ty3 rfl rfl (hf115.cell 1 _ rfl)) rfl ?_
             refine WL.y (Y.eql_i rfl rfl) rfl ?_
             refine WL.nil ?_
             refine At.then ?_
             rcases cnd h with ⟨hc116, h⟩ | ⟨hc116, h⟩
             ·refine WC.condT' rfl hc116 ?_
              refine WC.region ?_
              refine WL.y (Y.move rfl) rfl ?_
              refine WL.y (Y.fieldAddr fo40_2 rfl) rfl ?_
              refine WL.y (Y.loadSc ty38 rfl rfl (hf115.cell 2 _ rfl)) rfl ?_
              obtain ⟨r117, hp118, h⟩ := bnd h
              refine WL.call (vals := [vu e35.V]) kok23 rfl rfl (c_ref30_fix hp118) ?_
              rintro vr121 wd120 ⟨rfl, hm119⟩
              obtain ⟨O122, hold123, hnew124, hst125⟩ := adoptE O88 (fun k => 1) hm119
              obtain ⟨t126, ht126, h⟩ := bnd h
              refine WL.y (Y.add_s ht126 rfl rfl) rfl ?_
              refine WL.y (Y.assign rfl) rfl ?_
              refine WL.nil ?_
              exact At.join (σ := (List UInt8 × Own)) (t126, O122) ⟨some1 h, (Stp.up hst125 rfl)⟩ (.cons rfl (.cons rfl (.cons rfl (.cons rfl .nil))))
             ·refine WC.condF' rfl hc116 ?_
              refine WC.skip ?_
              exact At.join (σ := (List UInt8 × Own)) (s87, O88) ⟨some1 h, (Stp.refl _ _ _)⟩ (.cons rfl (.cons rfl (.cons rfl (.cons rfl .nil))))
            ·rintro ⟨s108, O109⟩ wd110 ⟨rfl, hst111⟩
             replace h := hk113
             try dsimp only at h hst111
             refine (show At _ _ _ [(0, v0), (4, vs s108), (5, vi i13), (6, Value.pointer (some ⟨p50, 0, none⟩))] _ from ?_)
             refine At.then ?_
             refine WC.seq ?_
             refine WC.region ?_
             refine WL.y (Y.fieldAddr fo40_1 rfl) rfl ?_
             have hf127 := hb61.st hst84 rfl
             have hf128 := hf127.st hst90 rfl
             have hf129 := hf128.st hst111 rfl
             refine WL.y (Y.loadSc ty3 rfl rfl (hf129.cell 1 _ rfl)) rfl ?_
             refine WL.y (Y.eql_i rfl rfl) rfl ?_
             refine WL.nil ?_
             refine At.then ?_
             rcases cnd h with ⟨hc130, h⟩ | ⟨hc130, h⟩
             ·refine WC.condT' rfl hc130 ?_
              refine WC.drawH [] [0, 1, 2, 3, 4, 5, 6, 7, 8, 9, 10, 11, 12] O109 13 fmix rfl (by kernel_rfl) ?_
              intro wd131 hst132
              refine WD.y 0 rfl (by kernel_rfl) (fun _ _ _ => Y.move rfl) rfl ?_
              refine WD.y 1 rfl (by kernel_rfl) (fun _ _ _ => Y.fieldAddr fo40_3 rfl) rfl ?_
              refine WD.y 2 rfl (by kernel_rfl) (fun wd140 O139 hst141 => have hf142 := hf129.st hst132 rfl; have hf143 := hf142.st hst141 rfl; Y.loadSc ty25 rfl rfl (hf143.cell 3 _ rfl)) rfl ?_
              refine WD.y 3 rfl (by kernel_rfl) (fun wd145 O144 hst146 => have hf147 := hf54.mono (imm_st hst60 rfl rfl); have hf148 := hf147.mono (imm_st hst84 rfl rfl); have hf149 := hf148.mono (imm_st hst90 rfl rfl); have hf150 := hf149.mono (imm_st hst111 rfl rfl); have hf151 := hf150.mono (imm_st hst132 rfl rfl); have hf152 := hf151.mono (imm_st hst146 rfl rfl); Y.len ty25 rfl hf152) rfl ?_
              refine WD.y 4 rfl (by kernel_rfl) (fun _ _ _ => Y.conv_iu ty3.u ty38.u rfl) rfl ?_
              refine WD.y 8 rfl (by kernel_rfl) (fun _ _ _ => Y.fieldAddr fo40_3 rfl) rfl ?_
              refine WD.y 9 rfl (by kernel_rfl) (fun wd160 O159 hst161 => have hf162 := hf129.st hst132 rfl; have hf163 := hf162.st hst161 rfl; Y.loadSc ty25 rfl rfl (hf163.cell 3 _ rfl)) rfl ?_
              refine WD.y 10 rfl (by kernel_rfl) (fun wd165 O164 hst166 => have hf167 := hf54.mono (imm_st hst60 rfl rfl); have hf168 := hf167.mono (imm_st hst84 rfl rfl); have hf169 := hf168.mono (imm_st hst90 rfl rfl); have hf170 := hf169.mono (imm_st hst111 rfl rfl); have hf171 := hf170.mono (imm_st hst132 rfl rfl); have hf172 := hf171.mono (imm_st hst166 rfl rfl); Y.b2s ty25 ty5 ty9 rfl hf172) rfl ?_
              refine WD.heavy 5 rfl (by kernel_rfl) ?_
              obtain ⟨r173, hp174, h⟩ := bnd h
              refine WL.call (vals := [vu (toU64 (e35.B.length : Int))]) kok22 rfl rfl (c_ref30_Var hp174) ?_
              rintro vr179 wd178 ⟨_, rfl, hm177, f176⟩
              obtain ⟨O180, hold181, hnew182, hst183⟩ := adoptE O109 (fun k => if Value.ownBlock vr179 = some k then 14 else 1) hm177
              have hf184 : OwnSl 14 Rep.b 5 O180 wd178 vr179 r173 := RowF.adopt 14 Flat.b f176 hnew182 (fun k hk => if_pos hk)
              refine WL.nil ?_
              refine At.dq (Stp.up hst183 rfl) ?_
              refine WD.y 6 rfl (by kernel_rfl) (fun wd186 O185 hst187 => have hf188 := hf184.st hst187 rfl rfl rfl; Y.b2s ty25 ty5 ty9 rfl hf188.src.sl) rfl ?_
              obtain ⟨t189, ht189, h⟩ := bnd h
              refine WD.y 7 rfl (by kernel_rfl) (fun _ _ _ => Y.add_s ht189 rfl rfl) rfl ?_
              obtain ⟨t193, ht193, h⟩ := bnd h
              refine WD.y 11 rfl (by kernel_rfl) (fun _ _ _ => Y.add_s ht193 rfl rfl) rfl ?_
              refine WD.y 12 rfl (by kernel_rfl) (fun _ _ _ => Y.assign rfl) rfl ?_
              refine WD.done_ (by kernel_rfl) ?_
              refine At.inBlock ?_
              exact At.join (σ := (List UInt8 × Own)) (t193, O180) ⟨go2 h, (Stp.trans (Stp.up hst53 rfl) (Stp.trans (Stp.up hst60 rfl) (Stp.trans (Stp.up hst84 rfl) (Stp.trans (Stp.up hst90 rfl) (Stp.trans (Stp.up hst111 rfl) (Stp.trans (Stp.up hst132 rfl) (Stp.up hst183 rfl)))))))⟩ (.cons rfl (.cons rfl (.cons rfl .nil)))
             ·refine WC.condF' rfl hc130 ?_
              refine WC.skip ?_
              refine At.inBlock ?_
              exact At.join (σ := (List UInt8 × Own)) (s108, O109) ⟨go2 h, (Stp.trans (Stp.up hst53 rfl) (Stp.trans (Stp.up hst60 rfl) (Stp.trans (Stp.up hst84 rfl) (Stp.trans (Stp.up hst90 rfl) (Stp.up hst111 rfl)))))⟩ (.cons rfl (.cons rfl (.cons rfl .nil)))
   ·rintro ⟨s29, O30⟩ wd31 ⟨rfl, hst32⟩
    replace h := flowK_go hk34
    try dsimp only at h hst32
    refine (show At _ _ _ [(0, v0), (4, vs s29), (5, vi i13)] _ from ?_)
    refine At.then ?_
    refine WC.region ?_
    refine WL.y (Y.move rfl) rfl ?_
    refine WL.y (Y.add_i rfl rfl) rfl ?_
    obtain ⟨i200, hi200, h⟩ := lt1 h
    refine WL.yE (Y.assign rfl) (congrArg vi hi200.symm) rfl ?_
    refine WL.nil ?_
    exact At.round (s29, i200, O30) j24 (Nat.lt_succ_self _) ⟨next1 h hn26, (Stp.trans (Stp.up hst16 rfl) (Stp.up hst32 rfl))⟩ (.cons rfl (.cons rfl (.cons rfl .nil)))
  ·refine WC.condF' rfl hc28 ?_
   refine WC.exit ?_
   refine At.thenX ?_
   refine At.loopX ?_
   exact At.hitB (σ := (List UInt8 × Own)) (s12, O14) ⟨brk1 h hn26, (Stp.up hst16 rfl)⟩ (.cons rfl .nil)
 ·rintro ⟨s17, O18⟩ wd19 ⟨rfl, hst20⟩
  replace h := flowK_go hk23
  try dsimp only at h hst20
  refine (show At _ _ _ [(4, vs s17)] _ from ?_)
  refine At.inBlockHit ?_
  refine At.then ?_
  refine WC.seq ?_
  refine WC.region ?_
  refine WL.y (Y.move rfl) rfl ?_
  refine WL.s2b (O := O18) ty9 ty25 ty5 rfl rfl ?_
  intro v201 O203 wd204 hst205 hf202
  refine WL.y (Y.assign rfl) rfl ?_
  refine WL.y (Y.assign rfl) rfl ?_
  refine WL.nil ?_
  refine At.then ?_
  refine WC.ret ?_
  obtain ⟨rfl, rfl⟩ := tup2 h
  have hs206 : Stp [11] (Lg.O0 A) w O203 wd204 := (Stp.trans (Stp.up hst20 rfl) (Stp.up hst205 rfl))
  exact At.res (.inl rfl) rfl (.tmp rfl (.tmp rfl .nil)) ⟨v201, rfl, (Stp.ext hs206 rfl rfl), (Sl.outF hf202 hs206 low0)⟩
theorem c_ref30_Same {A : Nat → Prop} {a0 : List api_Fld} {v0 : Value} {a1 : List api_Fld} {v1 : Value} {w : World} (hs0 : Sl rep_api_Fld w A v0 a0) (hs1 : Sl rep_api_Fld w A v1 a1) {r0 : Bool} (h : ref30_Same a0 a1 = some r0) : Rets Try.prog 11 [v0, v1] w (fun v w' => v = Value.bool r0 ∧ Ext w w') := by
 unfold ref30_Same at h
 refine Rets.enter Try.func11 rfl rfl ?_
 have hf11 : Sl rep_api_Fld w (imm (Lg.O0 A)) v0 a0 := (Sl.start hs0)
 have hf12 : Sl rep_api_Fld w (imm (Lg.O0 A)) v1 a1 := (Sl.start hs1)
 refine (show WC _ _ _ _ [(0, v0), (1, v1)] _ from ?_)
 refine WC.seq ?_
 refine WC.region ?_
 refine WL.y (Y.assign rfl) rfl ?_
 refine WL.nil ?_
 refine At.then ?_
 refine WC.seq ?_
 refine WC.seq ?_
 refine WC.region ?_
 refine WL.y (Y.move rfl) rfl ?_
 refine WL.y (Y.len ty22 rfl hf11) rfl ?_
 refine WL.y (Y.move rfl) rfl ?_
 refine WL.y (Y.len ty22 rfl hf12) rfl ?_
 refine WL.y (Y.neq_i rfl rfl) rfl ?_
 refine WL.nil ?_
 refine At.then ?_
 rcases cnd h with ⟨hc13, h⟩ | ⟨hc13, h⟩
 ·refine WC.condT' rfl hc13 ?_
  refine WC.seq ?_
  refine WC.region ?_
  refine WL.y (Y.assign rfl) rfl ?_
  refine WL.nil ?_
  refine At.then ?_
  refine WC.ret ?_
  refine At.thenR ?_
  obtain rfl := some1 h
  have hs14 : Stp [] (Lg.O0 A) w (Lg.O0 A) w := (Stp.refl _ _ _)
  exact At.res (.inl rfl) rfl (.tmp rfl .nil) ⟨rfl, (Stp.ext hs14 rfl rfl)⟩
 ·refine WC.condF' rfl hc13 ?_
  refine WC.skip ?_
  refine At.then ?_
  refine WC.seq ?_
  refine WC.seq ?_
  refine WC.region ?_
  refine WL.y (Y.assign rfl) rfl ?_
  refine WL.nil ?_
  refine At.then ?_
  refine WC.block ?_
  obtain ⟨p22, h, hk24⟩ := flow1 h
  obtain ⟨k23, h⟩ := loop_some h
  refine WC.joinB 0 (σ := Own) (fun x w' => p22 = .go () ∧ Stp [] (Lg.O0 A) w x w') (fun x => []) ?_ ?_
  ·refine WC.loop (σ := (Int × Own)) (fun x k w' => loopN k (ref30_Same_lp1 a0 a1) x.1 = some p22 ∧ Stp [] (Lg.O0 A) w x.2 w') (fun x => [(0, v0), (1, v1), (5, vi x.1)]) (0, (Lg.O0 A)) k23 (.cons rfl (.cons rfl (.cons rfl .nil))) ⟨h, (Stp.refl _ _ _)⟩ ?_
   rintro ⟨i15, O16⟩ k23 wd17 ⟨h, hst18⟩
   obtain ⟨j25, q26, rfl, h, hn27⟩ := rnd1 h
   unfold ref30_Same_lp1 at h
   try dsimp only at h hst18
   refine (show WC _ _ _ _ [(0, v0), (1, v1), (5, vi i15)] _ from ?_)
   refine WC.seq ?_
   refine WC.seq ?_
   refine WC.region ?_
   refine WL.y (Y.move rfl) rfl ?_
   refine WL.y (Y.move rfl) rfl ?_
   have hf28 := hf11.mono (imm_st hst18 rfl rfl)
   refine WL.y (Y.len ty22 rfl hf28) rfl ?_
   refine WL.y (Y.lss_i rfl rfl) rfl ?_
   refine WL.nil ?_
   refine At.then ?_
   rcases cnd h with ⟨hc29, h⟩ | ⟨hc29, h⟩
   ·refine WC.condT' rfl hc29 ?_
    refine WC.skip ?_
    refine At.then ?_
    refine WC.seq ?_
    refine WC.block ?_
    refine WC.seq ?_
    refine WC.drawH [] [0, 1, 2, 3, 4, 5, 6, 7, 8, 9, 10, 11, 12, 13, 14, 15, 16, 17, 18, 19, 20, 21, 22, 23, 24, 25, 26, 27, 28, 29, 30, 31, 32, 33, 34, 35, 36, 37, 38, 39, 40, 41, 42, 43, 44, 45, 46, 47, 48, 49, 50, 51] O16 52 fmix rfl (by kernel_rfl) ?_
    intro wd30 hst31
    refine WD.y 0 rfl (by kernel_rfl) (fun _ _ _ => Y.move rfl) rfl ?_
    refine WD.y 1 rfl (by kernel_rfl) (fun _ _ _ => Y.move rfl) rfl ?_
    obtain ⟨e38, he38, h⟩ := bnd h
    have hf47 := hf28.mono (imm_st hst31 rfl rfl)
    obtain ⟨b39, off50, cap46, cs45, hv40, hi41, hl42, hc43, hok44, hA51⟩ := Sl.at2 hf47 he38
    obtain ⟨_, _, rfl, rfl, ⟨_, _, rfl, rfl, ⟨_, _, rfl, rfl, ⟨v48, rfl, hf49⟩⟩⟩⟩ := hok44
    replace hc43 : CellsAt _ _ _ [vi e38.Num, vi e38.Type_, vu e38.V, v48] := hc43
    have hca52 := CAt.imm hc43 hA51
    refine WD.y 2 rfl (by kernel_rfl) (fun _ _ _ => Y.indexAddr ty22 ty40 rfl hv40 rfl hi41 hl42) rfl ?_
    refine WD.y 3 rfl (by kernel_rfl) (fun _ _ _ => Y.fieldAddr fo40_0 rfl) rfl ?_
    refine WD.y 4 rfl (by kernel_rfl) (fun wd60 O59 hst61 => have hf62 := hca52.st hst61 rfl; Y.loadSc ty3 rfl rfl (hf62.at_.sub 0 [vi e38.Num] rfl)) rfl ?_
    refine WD.y 5 rfl (by kernel_rfl) (fun _ _ _ => Y.move rfl) rfl ?_
    refine WD.y 6 rfl (by kernel_rfl) (fun _ _ _ => Y.move rfl) rfl ?_
    obtain ⟨e69, he69, h⟩ := bnd h
    have hf78 := hf12.mono (imm_st hst18 rfl rfl)
    have hf79 := hf78.mono (imm_st hst31 rfl rfl)
    obtain ⟨b70, off82, cap77, cs76, hv71, hi72, hl73, hc74, hok75, hA83⟩ := Sl.at2 hf79 he69
    obtain ⟨_, _, rfl, rfl, ⟨_, _, rfl, rfl, ⟨_, _, rfl, rfl, ⟨v80, rfl, hf81⟩⟩⟩⟩ := hok75
    replace hc74 : CellsAt _ _ _ [vi e69.Num, vi e69.Type_, vu e69.V, v80] := hc74
    have hca84 := CAt.imm hc74 hA83
    refine WD.y 7 rfl (by kernel_rfl) (fun _ _ _ => Y.indexAddr ty22 ty40 rfl hv71 rfl hi72 hl73) rfl ?_
    refine WD.y 8 rfl (by kernel_rfl) (fun _ _ _ => Y.fieldAddr fo40_0 rfl) rfl ?_
    refine WD.y 9 rfl (by kernel_rfl) (fun wd92 O91 hst93 => have hf94 := hca84.st hst93 rfl; Y.loadSc ty3 rfl rfl (hf94.at_.sub 0 [vi e69.Num] rfl)) rfl ?_
    refine WD.y 10 rfl (by kernel_rfl) (fun _ _ _ => Y.neq_i rfl rfl) rfl ?_
    refine WD.y 11 rfl (by kernel_rfl) (fun _ _ _ => Y.move rfl) rfl ?_
    obtain ⟨p102, h, hk103⟩ := bnd h
    refine WD.join (σ := Bool) (f' := 28) [23, 22, 21, 20, 19, 18, 17, 16, 15, 14, 13, 12, 11, 10, 9, 8, 7, 6, 5, 4, 3, 2, 1, 0] (fun x O' w' => x = p102 ∧ wd30 = w' ∧ O16 = O') (fun x => [(0, v0), (1, v1), (5, vi i15), (40, Value.bool x)]) (fun hJ104 => ?_) ?_
    ·rcases cnd h with ⟨hE105, h⟩ | ⟨hE105, h⟩
     ·refine WD.ren 28 rfl (congrArg Value.bool hE105) ?_
      refine WD.gS 12 rfl (by kernel_rfl) rfl rfl rfl rfl ?_
      refine WD.gS 13 rfl (by kernel_rfl) rfl rfl rfl rfl ?_
      refine WD.gS 14 rfl (by kernel_rfl) rfl rfl rfl rfl ?_
      refine WD.gS 15 rfl (by kernel_rfl) rfl rfl rfl rfl ?_
      refine WD.gS 16 rfl (by kernel_rfl) rfl rfl rfl rfl ?_
      refine WD.gS 17 rfl (by kernel_rfl) rfl rfl rfl rfl ?_
      refine WD.gS 18 rfl (by kernel_rfl) rfl rfl rfl rfl ?_
      refine WD.gS 19 rfl (by kernel_rfl) rfl rfl rfl rfl ?_
      refine WD.gS 20 rfl (by kernel_rfl) rfl rfl rfl rfl ?_
      refine WD.gS 21 rfl (by kernel_rfl) rfl rfl rfl rfl ?_
      refine WD.gS 22 rfl (by kernel_rfl) rfl rfl rfl rfl ?_
      refine WD.y 23 rfl (by kernel_rfl) (fun _ _ _ => Y.pick (b := true) rfl rfl) rfl ?_
      refine WD.ren 28 rfl (congrArg Value.bool hE105.symm) ?_
      exact hJ104 true _ _ _ ⟨some1 h, rfl, rfl⟩ (.cons rfl (.cons rfl (.cons rfl (.cons rfl .nil))))
     ·refine WD.ren 28 rfl (congrArg Value.bool hE105) ?_
      refine WD.gT 12 rfl (by kernel_rfl) rfl rfl (fun _ _ _ => Y.move rfl) rfl ?_
      refine WD.gT 13 rfl (by kernel_rfl) rfl rfl (fun _ _ _ => Y.move rfl) rfl ?_
      obtain ⟨e115, he115, h⟩ := bnd h
      obtain ⟨b116, off126, cap123, cs122, hv117, hi118, hl119, hc120, hok121, hA127⟩ := Sl.at2 hf47 he115
      obtain ⟨_, _, rfl, rfl, ⟨_, _, rfl, rfl, ⟨_, _, rfl, rfl, ⟨v124, rfl, hf125⟩⟩⟩⟩ := hok121
      replace hc120 : CellsAt _ _ _ [vi e115.Num, vi e115.Type_, vu e115.V, v124] := hc120
      have hca128 := CAt.imm hc120 hA127
      refine WD.gT 14 rfl (by kernel_rfl) rfl rfl (fun _ _ _ => Y.indexAddr ty22 ty40 rfl hv117 rfl hi118 hl119) rfl ?_
      refine WD.gT 15 rfl (by kernel_rfl) rfl rfl (fun _ _ _ => Y.fieldAddr fo40_1 rfl) rfl ?_
      refine WD.gT 16 rfl (by kernel_rfl) rfl rfl (fun wd136 O135 hst137 => have hf138 := hca128.st hst137 rfl; Y.loadSc ty3 rfl rfl (hf138.at_.sub 1 [vi e115.Type_] rfl)) rfl ?_
      refine WD.gT 17 rfl (by kernel_rfl) rfl rfl (fun _ _ _ => Y.move rfl) rfl ?_
      refine WD.gT 18 rfl (by kernel_rfl) rfl rfl (fun _ _ _ => Y.move rfl) rfl ?_
      obtain ⟨e145, he145, h⟩ := bnd h
      obtain ⟨b146, off156, cap153, cs152, hv147, hi148, hl149, hc150, hok151, hA157⟩ := Sl.at2 hf79 he145
      obtain ⟨_, _, rfl, rfl, ⟨_, _, rfl, rfl, ⟨_, _, rfl, rfl, ⟨v154, rfl, hf155⟩⟩⟩⟩ := hok151
      replace hc150 : CellsAt _ _ _ [vi e145.Num, vi e145.Type_, vu e145.V, v154] := hc150
      have hca158 := CAt.imm hc150 hA157
      refine WD.gT 19 rfl (by kernel_rfl) rfl rfl (fun _ _ _ => Y.indexAddr ty22 ty40 rfl hv147 rfl hi148 hl149) rfl ?_
      refine WD.gT 20 rfl (by kernel_rfl) rfl rfl (fun _ _ _ => Y.fieldAddr fo40_1 rfl) rfl ?_
      refine WD.gT 21 rfl (by kernel_rfl) rfl rfl (fun wd166 O165 hst167 => have hf168 := hca158.st hst167 rfl; Y.loadSc ty3 rfl rfl (hf168.at_.sub 1 [vi e145.Type_] rfl)) rfl ?_
      refine WD.gT 22 rfl (by kernel_rfl) rfl rfl (fun _ _ _ => Y.neq_i rfl rfl) rfl ?_
      refine WD.y 23 rfl (by kernel_rfl) (fun _ _ _ => Y.pick (b := false) rfl rfl) rfl ?_
      refine WD.ren 28 rfl (congrArg Value.bool hE105.symm) ?_
      exact hJ104 (!decide (e115.Type_ = e145.Type_)) _ _ _ ⟨some1 h, rfl, rfl⟩ (.cons rfl (.cons rfl (.cons rfl (.cons rfl .nil))))
    ·rintro x101 _ _ ⟨rfl, rfl, rfl⟩
     replace h := hk103
     try dsimp only at h
     refine (show WD _ _ _ _ _ _ _ _ [(0, v0), (1, v1), (5, vi i15), (40, Value.bool x101)] _ _ from ?_)
     refine WD.y 24 rfl (by kernel_rfl) (fun _ _ _ => Y.move rfl) rfl ?_
     obtain ⟨p179, h, hk180⟩ := bnd h
     refine WD.join (σ := Bool) (f' := 15) [36, 35, 34, 33, 32, 31, 30, 29, 28, 27, 26, 25, 24, 23, 22, 21, 20, 19, 18, 17, 16, 15, 14, 13, 12, 11, 10, 9, 8, 7, 6, 5, 4, 3, 2, 1, 0] (fun x O' w' => x = p179 ∧ wd30 = w' ∧ O16 = O') (fun x => [(0, v0), (1, v1), (5, vi i15), (53, Value.bool x)]) (fun hJ181 => ?_) ?_
     ·rcases cnd h with ⟨hE182, h⟩ | ⟨hE182, h⟩
      ·refine WD.ren 41 rfl (congrArg Value.bool hE182) ?_
       refine WD.gS 25 rfl (by kernel_rfl) rfl rfl rfl rfl ?_
       refine WD.gS 26 rfl (by kernel_rfl) rfl rfl rfl rfl ?_
       refine WD.gS 27 rfl (by kernel_rfl) rfl rfl rfl rfl ?_
       refine WD.gS 28 rfl (by kernel_rfl) rfl rfl rfl rfl ?_
       refine WD.gS 29 rfl (by kernel_rfl) rfl rfl rfl rfl ?_
       refine WD.gS 30 rfl (by kernel_rfl) rfl rfl rfl rfl ?_
       refine WD.gS 31 rfl (by kernel_rfl) rfl rfl rfl rfl ?_
       refine WD.gS 32 rfl (by kernel_rfl) rfl rfl rfl rfl ?_
       refine WD.gS 33 rfl (by kernel_rfl) rfl rfl rfl rfl ?_
       refine WD.gS 34 rfl (by kernel_rfl) rfl rfl rfl rfl ?_
       refine WD.gS 35 rfl (by kernel_rfl) rfl rfl rfl rfl ?_
       refine WD.y 36 rfl (by kernel_rfl) (fun _ _ _ => Y.pick (b := true) rfl rfl) rfl ?_
       refine WD.ren 41 rfl (congrArg Value.bool hE182.symm) ?_
       exact hJ181 true _ _ _ ⟨some1 h, rfl, rfl⟩ (.cons rfl (.cons rfl (.cons rfl (.cons rfl .nil))))
      ·refine WD.ren 41 rfl (congrArg Value.bool hE182) ?_
       refine WD.gT 25 rfl (by kernel_rfl) rfl rfl (fun _ _ _ => Y.move rfl) rfl ?_
       refine WD.gT 26 rfl (by kernel_rfl) rfl rfl (fun _ _ _ => Y.move rfl) rfl ?_
       obtain ⟨e192, he192, h⟩ := bnd h
       obtain ⟨b193, off203, cap200, cs199, hv194, hi195, hl196, hc197, hok198, hA204⟩ := Sl.at2 hf47 he192
       obtain ⟨_, _, rfl, rfl, ⟨_, _, rfl, rfl, ⟨_, _, rfl, rfl, ⟨v201, rfl, hf202⟩⟩⟩⟩ := hok198
       replace hc197 : CellsAt _ _ _ [vi e192.Num, vi e192.Type_, vu e192.V, v201] := hc197
       have hca205 := CAt.imm hc197 hA204
       refine WD.gT 27 rfl (by kernel_rfl) rfl rfl (fun _ _ _ => Y.indexAddr ty22 ty40 rfl hv194 rfl hi195 hl196) rfl ?_
       refine WD.gT 28 rfl (by kernel_rfl) rfl rfl (fun _ _ _ => Y.fieldAddr fo40_2 rfl) rfl ?_
       refine WD.gT 29 rfl (by kernel_rfl) rfl rfl (fun wd213 O212 hst214 => have hf215 := hca205.st hst214 rfl; Y.loadSc ty38 rfl rfl (hf215.at_.sub 2 [vu e192.V] rfl)) rfl ?_
       refine WD.gT 30 rfl (by kernel_rfl) rfl rfl (fun _ _ _ => Y.move rfl) rfl ?_
       refine WD.gT 31 rfl (by kernel_rfl) rfl rfl (fun _ _ _ => Y.move rfl) rfl ?_
       obtain ⟨e222, he222, h⟩ := bnd h
       obtain ⟨b223, off233, cap230, cs229, hv224, hi225, hl226, hc227, hok228, hA234⟩ := Sl.at2 hf79 he222
       obtain ⟨_, _, rfl, rfl, ⟨_, _, rfl, rfl, ⟨_, _, rfl, rfl, ⟨v231, rfl, hf232⟩⟩⟩⟩ := hok228
       replace hc227 : CellsAt _ _ _ [vi e222.Num, vi e222.Type_, vu e222.V, v231] := hc227
       have hca235 := CAt.imm hc227 hA234
       refine WD.gT 32 rfl (by kernel_rfl) rfl rfl (fun _ _ _ => Y.indexAddr ty22 ty40 rfl hv224 rfl hi225 hl226) rfl ?_
       refine WD.gT 33 rfl (by kernel_rfl) rfl rfl (fun _ _ _ => Y.fieldAddr fo40_2 rfl) rfl ?_
       refine WD.gT 34 rfl (by kernel_rfl) rfl rfl (fun wd243 O242 hst244 => have hf245 := hca235.st hst244 rfl; Y.loadSc ty38 rfl rfl (hf245.at_.sub 2 [vu e222.V] rfl)) rfl ?_
       refine WD.gT 35 rfl (by kernel_rfl) rfl rfl (fun _ _ _ => Y.neq_u rfl rfl) rfl ?_
       refine WD.y 36 rfl (by kernel_rfl) (fun _ _ _ => Y.pick (b := false) rfl rfl) rfl ?_
       refine WD.ren 41 rfl (congrArg Value.bool hE182.symm) ?_
       exact hJ181 (!decide (e192.V = e222.V)) _ _ _ ⟨some1 h, rfl, rfl⟩ (.cons rfl (.cons rfl (.cons rfl (.cons rfl .nil))))
     ·rintro x178 _ _ ⟨rfl, rfl, rfl⟩
      replace h := hk180
      try dsimp only at h
      refine (show WD _ _ _ _ _ _ _ _ [(0, v0), (1, v1), (5, vi i15), (53, Value.bool x178)] _ _ from ?_)
      refine WD.y 37 rfl (by kernel_rfl) (fun _ _ _ => Y.move rfl) rfl ?_
      obtain ⟨p256, h, hk257⟩ := bnd h
      refine WD.join (σ := Bool) (f' := 0) [51, 50, 49, 48, 47, 46, 45, 44, 43, 42, 41, 40, 39, 38, 37, 36, 35, 34, 33, 32, 31, 30, 29, 28, 27, 26, 25, 24, 23, 22, 21, 20, 19, 18, 17, 16, 15, 14, 13, 12, 11, 10, 9, 8, 7, 6, 5, 4, 3, 2, 1, 0] (fun x O' w' => x = p256 ∧ wd30 = w' ∧ O16 = O') (fun x => [(0, v0), (1, v1), (5, vi i15), (68, Value.bool x)]) (fun hJ258 => ?_) ?_
      ·rcases cnd h with ⟨hE259, h⟩ | ⟨hE259, h⟩
       ·refine WD.ren 54 rfl (congrArg Value.bool hE259) ?_
        refine WD.gS 38 rfl (by kernel_rfl) rfl rfl rfl rfl ?_
        refine WD.gS 39 rfl (by kernel_rfl) rfl rfl rfl rfl ?_
        refine WD.gS 40 rfl (by kernel_rfl) rfl rfl rfl rfl ?_
        refine WD.gS 41 rfl (by kernel_rfl) rfl rfl rfl rfl ?_
        refine WD.gS 42 rfl (by kernel_rfl) rfl rfl rfl rfl ?_
        refine WD.gS 43 rfl (by kernel_rfl) rfl rfl rfl rfl ?_
        refine WD.gS 44 rfl (by kernel_rfl) rfl rfl rfl rfl ?_
        refine WD.gS 45 rfl (by kernel_rfl) rfl rfl rfl rfl ?_
        refine WD.gS 46 rfl (by kernel_rfl) rfl rfl rfl rfl ?_
        refine WD.gS 47 rfl (by kernel_rfl) rfl rfl rfl rfl ?_
        refine WD.gS 48 rfl (by kernel_rfl) rfl rfl rfl rfl ?_
        refine WD.gS 49 rfl (by kernel_rfl) rfl rfl rfl rfl ?_
        refine WD.gS 50 rfl (by kernel_rfl) rfl rfl rfl rfl ?_
        refine WD.y 51 rfl (by kernel_rfl) (fun _ _ _ => Y.pick (b := true) rfl rfl) rfl ?_
        refine WD.ren 54 rfl (congrArg Value.bool hE259.symm) ?_
        exact hJ258 true _ _ _ ⟨some1 h, rfl, rfl⟩ (.cons rfl (.cons rfl (.cons rfl (.cons rfl .nil))))
       ·refine WD.ren 54 rfl (congrArg Value.bool hE259) ?_
        refine WD.gT 38 rfl (by kernel_rfl) rfl rfl (fun _ _ _ => Y.move rfl) rfl ?_
        refine WD.gT 39 rfl (by kernel_rfl) rfl rfl (fun _ _ _ => Y.move rfl) rfl ?_
        obtain ⟨e269, he269, h⟩ := bnd h
        obtain ⟨b270, off280, cap277, cs276, hv271, hi272, hl273, hc274, hok275, hA281⟩ := Sl.at2 hf47 he269
        obtain ⟨_, _, rfl, rfl, ⟨_, _, rfl, rfl, ⟨_, _, rfl, rfl, ⟨v278, rfl, hf279⟩⟩⟩⟩ := hok275
        replace hc274 : CellsAt _ _ _ [vi e269.Num, vi e269.Type_, vu e269.V, v278] := hc274
        have hca282 := CAt.imm hc274 hA281
        refine WD.gT 40 rfl (by kernel_rfl) rfl rfl (fun _ _ _ => Y.indexAddr ty22 ty40 rfl hv271 rfl hi272 hl273) rfl ?_
        refine WD.gT 41 rfl (by kernel_rfl) rfl rfl (fun _ _ _ => Y.fieldAddr fo40_3 rfl) rfl ?_
        refine WD.gT 42 rfl (by kernel_rfl) rfl rfl (fun wd290 O289 hst291 => have hf292 := hca282.st hst291 rfl; Y.loadSc ty25 rfl rfl (hf292.at_.sub 3 [v278] rfl)) rfl ?_
        refine WD.gT 43 rfl (by kernel_rfl) rfl rfl (fun wd294 O293 hst295 => have hf296 := hf279.mono (imm_st hst295 rfl rfl); Y.b2s ty25 ty5 ty9 rfl hf296) rfl ?_
        refine WD.gT 44 rfl (by kernel_rfl) rfl rfl (fun _ _ _ => Y.move rfl) rfl ?_
        refine WD.gT 45 rfl (by kernel_rfl) rfl rfl (fun _ _ _ => Y.move rfl) rfl ?_
        obtain ⟨e303, he303, h⟩ := bnd h
        obtain ⟨b304, off314, cap311, cs310, hv305, hi306, hl307, hc308, hok309, hA315⟩ := Sl.at2 hf79 he303
        obtain ⟨_, _, rfl, rfl, ⟨_, _, rfl, rfl, ⟨_, _, rfl, rfl, ⟨v312, rfl, hf313⟩⟩⟩⟩ := hok309
        replace hc308 : CellsAt _ _ _ [vi e303.Num, vi e303.Type_, vu e303.V, v312] := hc308
        have hca316 := CAt.imm hc308 hA315
        refine WD.gT 46 rfl (by kernel_rfl) rfl rfl (fun _ _ _ => Y.indexAddr ty22 ty40 rfl hv305 rfl hi306 hl307) rfl ?_
        refine WD.gT 47 rfl (by kernel_rfl) rfl rfl (fun _ _ _ => Y.fieldAddr fo40_3 rfl) rfl ?_
        refine WD.gT 48 rfl (by kernel_rfl) rfl rfl (fun wd324 O323 hst325 => have hf326 := hca316.st hst325 rfl; Y.loadSc ty25 rfl rfl (hf326.at_.sub 3 [v312] rfl)) rfl ?_
        refine WD.gT 49 rfl (by kernel_rfl) rfl rfl (fun wd328 O327 hst329 => have hf330 := hf313.mono (imm_st hst329 rfl rfl); Y.b2s ty25 ty5 ty9 rfl hf330) rfl ?_
        refine WD.gT 50 rfl (by kernel_rfl) rfl rfl (fun _ _ _ => Y.neq_s rfl rfl) rfl ?_
        refine WD.y 51 rfl (by kernel_rfl) (fun _ _ _ => Y.pick (b := false) rfl rfl) rfl ?_
        refine WD.ren 54 rfl (congrArg Value.bool hE259.symm) ?_
        exact hJ258 (!decide (e269.B = e303.B)) _ _ _ ⟨some1 h, rfl, rfl⟩ (.cons rfl (.cons rfl (.cons rfl (.cons rfl .nil))))
      ·rintro x255 _ _ ⟨rfl, rfl, rfl⟩
       replace h := hk257
       try dsimp only at h
       refine (show WD _ _ _ _ _ _ _ _ [(0, v0), (1, v1), (5, vi i15), (68, Value.bool x255)] _ _ from ?_)
       refine WD.done_ (by kernel_rfl) ?_
       refine At.then ?_
       rcases cnd h with ⟨hc337, h⟩ | ⟨hc337, h⟩
       ·refine WC.condT' rfl hc337 ?_
        refine WC.seq ?_
        refine WC.region ?_
        refine WL.y (Y.assign rfl) rfl ?_
        refine WL.nil ?_
        refine At.then ?_
        refine WC.ret ?_
        refine At.inBlockR ?_
        refine At.thenR ?_
        refine At.loopR ?_
        have h := outr1 h hn27 hk24
        refine At.joinBR ?_
        refine At.inBlockR ?_
        refine At.thenR ?_
        obtain rfl := some1 h
        have hs338 : Stp [] (Lg.O0 A) w O16 wd30 := (Stp.trans (Stp.up hst18 rfl) (Stp.up hst31 rfl))
        exact At.res (.inl rfl) rfl (.tmp rfl .nil) ⟨rfl, (Stp.ext hs338 rfl rfl)⟩
       ·refine WC.condF' rfl hc337 ?_
        refine WC.skip ?_
        refine At.inBlock ?_
        refine At.then ?_
        refine WC.region ?_
        refine WL.y (Y.move rfl) rfl ?_
        refine WL.y (Y.add_i rfl rfl) rfl ?_
        obtain ⟨i339, hi339, h⟩ := lt1 h
        refine WL.yE (Y.assign rfl) (congrArg vi hi339.symm) rfl ?_
        refine WL.nil ?_
        exact At.round (i339, O16) j25 (Nat.lt_succ_self _) ⟨next1 h hn27, (Stp.trans (Stp.up hst18 rfl) (Stp.up hst31 rfl))⟩ (.cons rfl (.cons rfl (.cons rfl .nil)))
   ·refine WC.condF' rfl hc29 ?_
    refine WC.exit ?_
    refine At.thenX ?_
    refine At.loopX ?_
    exact At.hitB (σ := Own) O16 ⟨brk1 h hn27, (Stp.up hst18 rfl)⟩ .nil
  ·rintro O19 wd20 ⟨rfl, hst21⟩
   replace h := flowK_go hk24
   refine (show At _ _ _ [] _ from ?_)
   refine At.inBlockHit ?_
   refine At.then ?_
   refine WC.seq ?_
   refine WC.region ?_
   refine WL.y (Y.assign rfl) rfl ?_
   refine WL.nil ?_
   refine At.then ?_
   refine WC.ret ?_
   obtain rfl := some1 h
   have hs340 : Stp [] (Lg.O0 A) w O19 wd20 := (Stp.up hst21 rfl)
   exact At.res (.inl rfl) rfl (.tmp rfl .nil) ⟨rfl, (Stp.ext hs340 rfl rfl)⟩
theorem c_law30_WireWrites {A : Nat → Prop} {a0 : List api_Fld} {v0 : Value} {w : World} (hs0 : Sl rep_api_Fld w A v0 a0) {r0 : Bool} (h : law30_WireWrites a0 = some r0) : Rets Try.prog 3 [v0] w (fun v w' => v = Value.bool r0 ∧ Ext w w') := by
 unfold law30_WireWrites at h
 refine Rets.enter Try.func3 rfl rfl ?_
 have hf11 : Sl rep_api_Fld w (imm (Lg.O0 A)) v0 a0 := (Sl.start hs0)
 refine (show WC _ _ _ _ [(0, v0)] _ from ?_)
 refine WC.seq ?_
 refine WC.region ?_
 refine WL.y (Y.assign rfl) rfl ?_
 refine WL.nil ?_
 refine At.then ?_
 refine WC.seq ?_
 refine WC.seq ?_
 refine WC.region ?_
 obtain ⟨r12, hp13, h⟩ := bnd h
 refine WL.call (vals := []) kok6 rfl rfl (c_law30_awake hp13) ?_
 rintro vr16 wd15 ⟨rfl, hm14⟩
 obtain ⟨O17, hold18, hnew19, hst20⟩ := adoptE (Lg.O0 A) (fun k => 1) hm14
 refine WL.y (Y.not rfl) rfl ?_
 refine WL.nil ?_
 refine At.then ?_
 rcases cnd h with ⟨hc21, h⟩ | ⟨hc21, h⟩
 ·refine WC.condT' rfl hc21 ?_
  refine WC.seq ?_
  refine WC.region ?_
  refine WL.y (Y.assign rfl) rfl ?_
  refine WL.nil ?_
  refine At.then ?_
  refine WC.ret ?_
  refine At.thenR ?_
  obtain rfl := some1 h
  have hs22 : Stp [] (Lg.O0 A) w O17 wd15 := (Stp.up hst20 rfl)
  exact At.res (.inl rfl) rfl (.tmp rfl .nil) ⟨rfl, (Stp.ext hs22 rfl rfl)⟩
 ·refine WC.condF' rfl hc21 ?_
  refine WC.skip ?_
  refine At.then ?_
  refine WC.seq ?_
  refine WC.seq ?_
  refine WC.region ?_
  refine WL.y (Y.move rfl) rfl ?_
  have hf23 := hf11.mono (imm_st hst20 rfl rfl)
  obtain ⟨r24, hp25, h⟩ := bnd h
  refine WL.call (vals := [v0]) kok7 rfl rfl (c_ref30_Few (A := fun _ => True) (Sl.all hf23) hp25) ?_
  rintro vr28 wd27 ⟨rfl, hm26⟩
  obtain ⟨O29, hold30, hnew31, hst32⟩ := adoptE O17 (fun k => 1) hm26
  refine WL.y (Y.not rfl) rfl ?_
  refine WL.nil ?_
  refine At.then ?_
  rcases cnd h with ⟨hc33, h⟩ | ⟨hc33, h⟩
  ·refine WC.condT' rfl hc33 ?_
   refine WC.seq ?_
   refine WC.region ?_
   refine WL.y (Y.assign rfl) rfl ?_
   refine WL.nil ?_
   refine At.then ?_
   refine WC.ret ?_
   refine At.thenR ?_
   obtain rfl := some1 h
   have hs34 : Stp [] (Lg.O0 A) w O29 wd27 := (Stp.trans (Stp.up hst20 rfl) (Stp.up hst32 rfl))
   exact At.res (.inl rfl) rfl (.tmp rfl .nil) ⟨rfl, (Stp.ext hs34 rfl rfl)⟩
  ·refine WC.condF' rfl hc33 ?_
   refine WC.skip ?_
   refine At.then ?_
   refine WC.seq ?_
   refine WC.region ?_
   refine WL.y (Y.move rfl) rfl ?_
   have hf35 := hf23.mono (imm_st hst32 rfl rfl)
   obtain ⟨⟨r36, r37⟩, hp38, h⟩ := bnd h
   refine WL.call (vals := [v0]) kok8 rfl rfl (c_wire_Encode (A := fun _ => True) (Sl.all hf35) hp38) ?_
   rintro vr43 wd42 ⟨u39, rfl, hm41, f40⟩
   obtain ⟨O44, hold45, hnew46, hst47⟩ := adoptE O29 (fun k => if Value.ownBlock u39 = some k then 11 else 1) hm41
   have hf48 : OwnSl 11 Rep.b 5 O44 wd42 u39 r36 := RowF.adopt 11 Flat.b f40 hnew46 (fun k hk => if_pos hk)
   refine WL.y (Y.move rfl) rfl ?_
   refine WL.y (Y.extract rfl rfl) rfl ?_
   refine WL.y (Y.extract rfl rfl) rfl ?_
   refine WL.y (Y.assign rfl) rfl ?_
   refine WL.y (Y.assign rfl) rfl ?_
   refine WL.nil ?_
   refine At.then ?_
   refine WC.seq ?_
   refine WC.region ?_
   refine WL.y (Y.move rfl) rfl ?_
   have hf49 := hf35.mono (imm_st hst47 rfl rfl)
   obtain ⟨⟨r50, r51⟩, hp52, h⟩ := bnd h
   refine WL.call (vals := [v0]) kok9 rfl rfl (c_ref30_Encode (A := fun _ => True) (Sl.all hf49) hp52) ?_
   rintro vr57 wd56 ⟨u53, rfl, hm55, f54⟩
   obtain ⟨O58, hold59, hnew60, hst61⟩ := adoptE O44 (fun k => 1) hm55
   have hf62 : Sl Rep.b wd56 (frs O58) u53 r50 := Sl.adoptF f54 (fun k hk => ⟨hk, rfl⟩) hnew60
   refine WL.y (Y.move rfl) rfl ?_
   refine WL.y (Y.extract rfl rfl) rfl ?_
   refine WL.y (Y.extract rfl rfl) rfl ?_
   refine WL.y (Y.assign rfl) rfl ?_
   refine WL.y (Y.assign rfl) rfl ?_
   refine WL.nil ?_
   refine At.then ?_
   refine WC.seq ?_
   refine WC.seq ?_
   refine WC.region ?_
   refine WL.y (Y.move rfl) rfl ?_
   have hf63 := hf48.st hst61 rfl rfl rfl
   refine WL.y (Y.b2s ty25 ty5 ty9 rfl hf63.src.sl) rfl ?_
   refine WL.y (Y.move rfl) rfl ?_
   refine WL.y (Y.b2s ty25 ty5 ty9 rfl hf62) rfl ?_
   refine WL.y (Y.neq_s rfl rfl) rfl ?_
   refine WL.y (Y.move rfl) rfl ?_
   refine WL.cut 4 (σ := Unit) (fun _ w' => wd56 = w') (fun _ => [(0, v0), (3, u39), (4, vi r37), (35, Value.bool ((!decide (r36 = r50)) || (!decide (r37 = r51))))]) ?_ ?_
   ·refine WL.part 31 rfl (fun hE64 => ?_) (fun hE64 => ?_)
    ·refine WL.gS rfl rfl rfl rfl ?_
     refine WL.gS rfl rfl rfl rfl ?_
     refine WL.gS rfl rfl rfl rfl ?_
     refine WL.y (Y.pick (b := true) rfl rfl) rfl ?_
     refine WL.ren (v' := Value.bool ((!decide (r36 = r50)) || (!decide (r37 = r51)))) 35 rfl (congrArg Value.bool (orT hE64)) ?_
     exact WL.nil (At.join () rfl (.cons rfl (.cons rfl (.cons rfl (.cons rfl .nil)))))
    ·refine WL.ung rfl rfl ?_
     refine WL.y (Y.move rfl) rfl ?_
     refine WL.ung rfl rfl ?_
     refine WL.y (Y.move rfl) rfl ?_
     refine WL.ung rfl rfl ?_
     refine WL.y (Y.neq_i rfl rfl) rfl ?_
     refine WL.y (Y.pick (b := false) rfl rfl) rfl ?_
     refine WL.ren (v' := Value.bool ((!decide (r36 = r50)) || (!decide (r37 = r51)))) 35 rfl (congrArg Value.bool (orF hE64)) ?_
     exact WL.nil (At.join () rfl (.cons rfl (.cons rfl (.cons rfl (.cons rfl .nil)))))
   ·rintro _ _ rfl
    refine (show WL _ _ _ _ _ [(0, v0), (3, u39), (4, vi r37), (35, Value.bool ((!decide (r36 = r50)) || (!decide (r37 = r51))))] _ from ?_)
    refine WL.nil ?_
    refine At.then ?_
    rcases cnd h with ⟨hc65, h⟩ | ⟨hc65, h⟩
    ·refine WC.condT' rfl hc65 ?_
     refine WC.seq ?_
     refine WC.region ?_
     refine WL.y (Y.assign rfl) rfl ?_
     refine WL.nil ?_
     refine At.then ?_
     refine WC.ret ?_
     refine At.thenR ?_
     obtain rfl := some1 h
     have hs66 : Stp [] (Lg.O0 A) w O58 wd56 := (Stp.trans (Stp.up hst20 rfl) (Stp.trans (Stp.up hst32 rfl) (Stp.trans (Stp.up hst47 rfl) (Stp.up hst61 rfl))))
     exact At.res (.inl rfl) rfl (.tmp rfl .nil) ⟨rfl, (Stp.ext hs66 rfl rfl)⟩
    ·refine WC.condF' rfl hc65 ?_
     refine WC.skip ?_
     refine At.then ?_
     refine WC.seq ?_
     refine WC.seq ?_
     refine WC.region ?_
     refine WL.y (Y.move rfl) rfl ?_
     refine WL.y (Y.neq_i rfl rfl) rfl ?_
     refine WL.nil ?_
     refine At.then ?_
     rcases cnd h with ⟨hc67, h⟩ | ⟨hc67, h⟩
     ·refine WC.condT' rfl hc67 ?_
      refine WC.seq ?_
      refine WC.region ?_
      refine WL.y (Y.assign rfl) rfl ?_
      refine WL.nil ?_
      refine At.then ?_
      refine WC.ret ?_
      refine At.thenR ?_
      obtain rfl := some1 h
      have hs68 : Stp [] (Lg.O0 A) w O58 wd56 := (Stp.trans (Stp.up hst20 rfl) (Stp.trans (Stp.up hst32 rfl) (Stp.trans (Stp.up hst47 rfl) (Stp.up hst61 rfl))))
      exact At.res (.inl rfl) rfl (.tmp rfl .nil) ⟨rfl, (Stp.ext hs68 rfl rfl)⟩
     ·refine WC.condF' rfl hc67 ?_
      refine WC.skip ?_
      refine At.then ?_
      refine WC.seq ?_
      refine WC.region ?_
      refine WL.y (Y.move rfl) rfl ?_
      obtain ⟨⟨r69, r70, r71⟩, hp72, h⟩ := bnd h
      refine WL.call (vals := [u39]) kok10 rfl rfl (c_wire_Decode (A := fun _ => True) (hf63.src.sl) hp72) ?_
      rintro vr77 wd76 ⟨u73, rfl, hm75, f74⟩
      obtain ⟨O78, hold79, hnew80, hst81⟩ := adoptE O58 (fun k => 1) hm75
      have hf82 : Sl rep_api_Fld wd76 (frs O78) u73 r69 := Sl.adoptF f74 (fun k hk => ⟨hk, rfl⟩) hnew80
      refine WL.y (Y.move rfl) rfl ?_
      refine WL.y (Y.extract rfl rfl) rfl ?_
      refine WL.y (Y.extract rfl rfl) rfl ?_
      refine WL.y (Y.extract rfl rfl) rfl ?_
      refine WL.y (Y.assign rfl) rfl ?_
      refine WL.y (Y.assign rfl) rfl ?_
      refine WL.y (Y.assign rfl) rfl ?_
      refine WL.nil ?_
      refine At.then ?_
      refine WC.seq ?_
      refine WC.seq ?_
      refine WC.region ?_
      refine WL.y (Y.assign rfl) rfl ?_
      refine WL.nil ?_
      refine At.then ?_
      obtain ⟨p86, h, hk87⟩ := bnd h
      refine WC.join (σ := Own) (fun x w' => () = p86 ∧ Stp [11, 1001] O78 wd76 x w') (fun x => [(0, v0), (7, u73), (8, vi r70), (9, vi r71)]) ?_ ?_
      ·refine WC.block ?_
       obtain ⟨p98, h, hk100⟩ := flow1 h
       obtain ⟨k99, h⟩ := loop_some h
       refine WC.joinB 0 (σ := Own) (fun x w' => p98 = .go () ∧ Stp [11, 1001] O78 wd76 x w') (fun x => [(0, v0), (7, u73), (8, vi r70), (9, vi r71)]) ?_ ?_
       ·have hf101 := hf63.st hst81 rfl rfl rfl
        obtain ⟨O102, hst103, ho104⟩ := OwnSl.rlb 1001 rfl hf101
        refine WC.loop (σ := (List UInt8 × Int × Own)) (fun x k w' => loopN k (law30_WireWrites_lp1) (x.1, x.2.1) = some p98 ∧ Stp [11, 1001] O78 wd76 x.2.2 w' ∧ OwnSl 1001 Rep.b 5 x.2.2 w' u39 x.1) (fun x => [(0, v0), (3, u39), (7, u73), (8, vi r70), (9, vi r71), (10, vi x.2.1)]) (r36, 0, O102) k99 (.cons rfl (.cons rfl (.cons rfl (.cons rfl (.cons rfl (.cons rfl .nil)))))) ⟨h, (Stp.up hst103 rfl), ho104⟩ ?_
        rintro ⟨a88, i91, O92⟩ k99 wd93 ⟨h, hst94, hf90⟩
        obtain ⟨j105, q106, rfl, h, hn107⟩ := rnd1 h
        unfold law30_WireWrites_lp1 at h
        try dsimp only at h hst94 hf90
        refine (show WC _ _ _ _ [(0, v0), (3, u39), (7, u73), (8, vi r70), (9, vi r71), (10, vi i91)] _ from ?_)
        refine WC.seq ?_
        refine WC.seq ?_
        refine WC.region ?_
        refine WL.y (Y.move rfl) rfl ?_
        refine WL.y (Y.move rfl) rfl ?_
        refine WL.y (Y.len ty25 rfl hf90.src.sl) rfl ?_
        refine WL.y (Y.lss_i rfl rfl) rfl ?_
        refine WL.nil ?_
        refine At.then ?_
        rcases cnd h with ⟨hc108, h⟩ | ⟨hc108, h⟩
        ·refine WC.condT' rfl hc108 ?_
         refine WC.skip ?_
         refine At.then ?_
         refine WC.seq ?_
         refine WC.block ?_
         refine WC.region ?_
         refine WL.y (Y.move rfl) rfl ?_
         refine WL.y (Y.move rfl) rfl ?_
         obtain ⟨e109, he109, h⟩ := bnd h
         obtain ⟨b110, cap117, cs116, hv111, hi112, hl113, hc114, hok115⟩ := OwnSl.at hf90 he109
         obtain rfl := hok115
         replace hc114 : CellsAt _ _ _ [vb e109] := hc114
         have hca118 := CAt.own hf90 hv111 hc114
         refine WL.y (Y.indexAddr ty25 ty5 rfl hv111 rfl hi112 hl113) rfl ?_
         obtain ⟨xs119, hxs119, h⟩ := bnd h
         refine WL.storeOwn (by decide) ty5 rfl rfl rfl hf90 hv111 hxs119 ?_
         intro wd120 hst121 ho122
         refine WL.nil ?_
         refine At.inBlock ?_
         refine At.then ?_
         refine WC.region ?_
         refine WL.y (Y.move rfl) rfl ?_
         refine WL.y (Y.add_i rfl rfl) rfl ?_
         obtain ⟨i123, hi123, h⟩ := lt1 h
         refine WL.yE (Y.assign rfl) (congrArg vi hi123.symm) rfl ?_
         refine WL.nil ?_
         exact At.round (xs119, i123, O92) j105 (Nat.lt_succ_self _) ⟨next1 h hn107, (Stp.trans (Stp.up hst94 rfl) (Stp.up hst121 rfl)), ho122⟩ (.cons rfl (.cons rfl (.cons rfl (.cons rfl (.cons rfl (.cons rfl .nil))))))
        ·refine WC.condF' rfl hc108 ?_
         refine WC.exit ?_
         refine At.thenX ?_
         refine At.loopX ?_
         exact At.hitB (σ := Own) O92 ⟨brk1 h hn107, (Stp.up hst94 rfl)⟩ (.cons rfl (.cons rfl (.cons rfl (.cons rfl .nil))))
       ·rintro O95 wd96 ⟨rfl, hst97⟩
        replace h := flowK_go hk100
        refine (show At _ _ _ [(0, v0), (7, u73), (8, vi r70), (9, vi r71)] _ from ?_)
        refine At.inBlockHit ?_
        exact At.join (σ := Own) O95 ⟨some1 h, (Stp.up hst97 rfl)⟩ (.cons rfl (.cons rfl (.cons rfl (.cons rfl .nil))))
      ·rintro O83 wd84 ⟨rfl, hst85⟩
       replace h := hk87
       refine (show At _ _ _ [(0, v0), (7, u73), (8, vi r70), (9, vi r71)] _ from ?_)
       refine At.then ?_
       refine WC.seq ?_
       refine WC.region ?_
       refine WL.y (Y.move rfl) rfl ?_
       refine WL.y (Y.move rfl) rfl ?_
       have hf124 := hf49.mono (imm_st hst61 rfl rfl)
       have hf125 := hf124.mono (imm_st hst81 rfl rfl)
       have hf126 := hf125.mono (imm_st hst85 rfl rfl)
       have hf127 := hf82.mono (frs_st hst85 rfl)
       obtain ⟨r128, hp129, h⟩ := bnd h
       refine WL.call (vals := [v0, u73]) kok11 rfl rfl (c_ref30_Same (A := fun _ => True) (Sl.all hf126) (Sl.all hf127) hp129) ?_
       rintro vr132 wd131 ⟨rfl, hm130⟩
       obtain ⟨O133, hold134, hnew135, hst136⟩ := adoptE O83 (fun k => 1) hm130
       refine WL.y (Y.move rfl) rfl ?_
       refine WL.cut 3 (σ := Unit) (fun _ w' => wd131 = w') (fun _ => [(9, vi r71), (59, Value.bool (r128 && (decide (r70 = 0))))]) ?_ ?_
       ·refine WL.part 56 rfl (fun hE137 => ?_) (fun hE137 => ?_)
        ·refine WL.ung rfl rfl ?_
         refine WL.y (Y.move rfl) rfl ?_
         refine WL.ung rfl rfl ?_
         refine WL.y (Y.eql_i rfl rfl) rfl ?_
         refine WL.y (Y.pick (b := true) rfl rfl) rfl ?_
         refine WL.ren (v' := Value.bool (r128 && (decide (r70 = 0)))) 59 rfl (congrArg Value.bool (andT hE137)) ?_
         exact WL.nil (At.join () rfl (.cons rfl (.cons rfl .nil)))
        ·refine WL.gS rfl rfl rfl rfl ?_
         refine WL.gS rfl rfl rfl rfl ?_
         refine WL.y (Y.pick (b := false) rfl rfl) rfl ?_
         refine WL.ren (v' := Value.bool (r128 && (decide (r70 = 0)))) 59 rfl (congrArg Value.bool (andF hE137)) ?_
         exact WL.nil (At.join () rfl (.cons rfl (.cons rfl .nil)))
       ·rintro _ _ rfl
        refine (show WL _ _ _ _ _ [(9, vi r71), (59, Value.bool (r128 && (decide (r70 = 0))))] _ from ?_)
        refine WL.y (Y.move rfl) rfl ?_
        refine WL.cut 3 (σ := Unit) (fun _ w' => wd131 = w') (fun _ => [(63, Value.bool ((r128 && (decide (r70 = 0))) && (decide (r71 = 0))))]) ?_ ?_
        ·refine WL.part 60 rfl (fun hE138 => ?_) (fun hE138 => ?_)
         ·refine WL.ung rfl rfl ?_
          refine WL.y (Y.move rfl) rfl ?_
          refine WL.ung rfl rfl ?_
          refine WL.y (Y.eql_i rfl rfl) rfl ?_
          refine WL.y (Y.pick (b := true) rfl rfl) rfl ?_
          refine WL.ren (v' := Value.bool ((r128 && (decide (r70 = 0))) && (decide (r71 = 0)))) 63 rfl (congrArg Value.bool (andT hE138)) ?_
          exact WL.nil (At.join () rfl (.cons rfl .nil))
         ·refine WL.gS rfl rfl rfl rfl ?_
          refine WL.gS rfl rfl rfl rfl ?_
          refine WL.y (Y.pick (b := false) rfl rfl) rfl ?_
          refine WL.ren (v' := Value.bool ((r128 && (decide (r70 = 0))) && (decide (r71 = 0)))) 63 rfl (congrArg Value.bool (andF hE138)) ?_
          exact WL.nil (At.join () rfl (.cons rfl .nil))
        ·rintro _ _ rfl
         refine (show WL _ _ _ _ _ [(63, Value.bool ((r128 && (decide (r70 = 0))) && (decide (r71 = 0))))] _ from ?_)
         obtain ⟨t139, ht139, h⟩ := lt1 h
         refine WL.yE (Y.assign rfl) (congrArg Value.bool ht139.symm) rfl ?_
         refine WL.nil ?_
         refine At.then ?_
         refine WC.ret ?_
         obtain rfl := some1 h
         have hs140 : Stp [11, 1001] (Lg.O0 A) w O133 wd131 := (Stp.trans (Stp.up hst20 rfl) (Stp.trans (Stp.up hst32 rfl) (Stp.trans (Stp.up hst47 rfl) (Stp.trans (Stp.up hst61 rfl) (Stp.trans (Stp.up hst81 rfl) (Stp.trans (Stp.up hst85 rfl) (Stp.up hst136 rfl)))))))
         exact At.res (.inl rfl) rfl (.tmp rfl .nil) ⟨rfl, (Stp.ext hs140 rfl rfl)⟩
end Go.Lg
