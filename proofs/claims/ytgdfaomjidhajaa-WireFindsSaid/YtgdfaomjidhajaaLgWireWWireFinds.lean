/- The walks of WireFinds and of what it calls, printed by gen.py. -/
import Derived.Test.YtgdfaomjidhajaaLgWireP
import Derived.Test.YtgdfaomjidhajaaProg
set_option linter.unusedVariables false
namespace Go.Lg
open Go Go.Proofs
set_option maxRecDepth 100000
theorem fmix : Try.prog.follows .mixedOrders = true := by kernel_rfl
theorem ty3 : TyOk Try.prog 3 (.int .i64) 1 8 (.int .i64 0) := tyOk Try.underlying3 (by kernel_rfl)
theorem ty4 : TyOk Try.prog 4 .bool 1 1 (.bool false) := tyOk Try.underlying4 (by kernel_rfl)
theorem ty5 : TyOk Try.prog 5 (.int .u8) 1 1 (.int .u8 0) := tyOk Try.underlying5 (by kernel_rfl)
theorem ty9 : TyOk Try.prog 9 .string 1 16 (.string ⟨#[]⟩) := tyOk Try.underlying9 (by kernel_rfl)
theorem ty22 : TyOk Try.prog 22 (.slice 40) 1 24 (.slice none 0 0) := tyOk Try.underlying22 (by kernel_rfl)
theorem ty25 : TyOk Try.prog 25 (.slice 5) 1 24 (.slice none 0 0) := tyOk Try.underlying25 (by kernel_rfl)
theorem ty36 : TyOk Try.prog 36 (.slice 38) 1 24 (.slice none 0 0) := tyOk Try.underlying36 (by kernel_rfl)
theorem ty38 : TyOk Try.prog 38 (.int .u64) 1 8 (.int .u64 0) := tyOk Try.underlying38 (by kernel_rfl)
theorem ty40 : TyOk Try.prog 40 (.struct #[(Field.mk "Num" 3 0 false "" "" 0), (Field.mk "Type" 3 1 false "" "" 8), (Field.mk "V" 38 2 false "" "" 16), (Field.mk "B" 25 3 false "" "" 24)]) 4 48 (.agg #[(.int .i64 0), (.int .i64 0), (.int .u64 0), (.slice none 0 0)]) := tyOk Try.underlying40 (by kernel_rfl)
theorem ty58 : TyOk Try.prog 58 (.int .u64) 1 8 (.int .u64 0) := tyOk Try.underlying58 (by kernel_rfl)
theorem fo40_0 : FieldOk Try.prog 40 0 0 := fieldOk Try.underlying40 rfl rfl (by kernel_rfl)
theorem fo40_1 : FieldOk Try.prog 40 1 1 := fieldOk Try.underlying40 rfl rfl (by kernel_rfl)
theorem fo40_2 : FieldOk Try.prog 40 2 2 := fieldOk Try.underlying40 rfl rfl (by kernel_rfl)
theorem fo40_3 : FieldOk Try.prog 40 3 3 := fieldOk Try.underlying40 rfl rfl (by kernel_rfl)
theorem kok6 : CallOk Try.prog 6 := callOk Try.func6 (by kernel_rfl) rfl
theorem kok7 : CallOk Try.prog 7 := callOk Try.func7 (by kernel_rfl) rfl
theorem kok8 : CallOk Try.prog 8 := callOk Try.func8 (by kernel_rfl) rfl
theorem kok10 : CallOk Try.prog 10 := callOk Try.func10 (by kernel_rfl) rfl
theorem kok11 : CallOk Try.prog 11 := callOk Try.func11 (by kernel_rfl) rfl
theorem kok13 : CallOk Try.prog 13 := callOk Try.func13 (by kernel_rfl) rfl
theorem kok14 : CallOk Try.prog 14 := callOk Try.func14 (by kernel_rfl) rfl
theorem kok15 : CallOk Try.prog 15 := callOk Try.func15 (by kernel_rfl) rfl
theorem kok16 : CallOk Try.prog 16 := callOk Try.func16 (by kernel_rfl) rfl
theorem kok17 : CallOk Try.prog 17 := callOk Try.func17 (by kernel_rfl) rfl
theorem kok18 : CallOk Try.prog 18 := callOk Try.func18 (by kernel_rfl) rfl
theorem kok19 : CallOk Try.prog 19 := callOk Try.func19 (by kernel_rfl) rfl
theorem kok20 : CallOk Try.prog 20 := callOk Try.func20 (by kernel_rfl) rfl
theorem kok21 : CallOk Try.prog 21 := callOk Try.func21 (by kernel_rfl) rfl
theorem kok24 : CallOk Try.prog 24 := callOk Try.func24 (by kernel_rfl) rfl
theorem kok26 : CallOk Try.prog 26 := callOk Try.func26 (by kernel_rfl) rfl

theorem c_wire_Var {a0 : UInt64} {w : World} {r0 : List UInt8} (h : wire_Var a0 = some r0) : Rets Try.prog 19 [vu a0] w (fun v w' => ∃ (u0 : Value), v = u0 ∧ Ext w w' ∧ RowF Rep.b 5 w w' u0 r0) := by
  unfold wire_Var at h
  refine Rets.enter Try.func19 rfl rfl ?_
  refine (show WC _ _ _ _ [(0, vu a0)] _ from ?_)
  refine WC.seq ?_
  refine WC.region ?_
  refine WL.y (Y.assign rfl) rfl ?_
  refine WL.nil ?_
  refine At.then ?_
  refine WC.seq ?_
  refine WC.region ?_
  refine WL.y (Y.assign rfl) rfl ?_
  refine WL.nil ?_
  refine At.then ?_
  refine WC.seq ?_
  obtain ⟨p18, h, hk19⟩ := bnd h
  refine WC.join (σ := (UInt64 × List UInt8 × Own × Value)) (fun x w' => (x.1, x.2.1) = p18 ∧ Stp [12, 1001, 1002] (Lg.O0 (fun _ => False)) w x.2.2.1 w' ∧ OwnSl 1004 Rep.b 5 x.2.2.1 w' x.2.2.2 x.2.1) (fun x => [(0, vu x.1), (3, x.2.2.2)]) ?_ ?_
  · refine WC.block ?_
    obtain ⟨p34, h, hk36⟩ := flow1 h
    obtain ⟨k35, h⟩ := loop_some h
    refine WC.joinB 0 (σ := (UInt64 × List UInt8 × Own × Value)) (fun x w' => p34 = .go (x.1, x.2.1) ∧ Stp [12, 1001] (Lg.O0 (fun _ => False)) w x.2.2.1 w' ∧ OwnSl 1002 Rep.b 5 x.2.2.1 w' x.2.2.2 x.2.1) (fun x => [(0, vu x.1), (3, x.2.2.2)]) ?_ ?_
    · refine WC.loop (σ := (UInt64 × List UInt8 × Own × Value)) (fun x k w' => loopN k (wire_Var_lp1) (x.1, x.2.1) = some p34 ∧ Stp [12, 1001] (Lg.O0 (fun _ => False)) w x.2.2.1 w' ∧ OwnSl 1001 Rep.b 5 x.2.2.1 w' x.2.2.2 x.2.1) (fun x => [(0, vu x.1), (3, x.2.2.2)]) (a0, [], (Lg.O0 (fun _ => False)), .slice none 0 0) k35 (.cons rfl (.cons rfl .nil)) ⟨h, (Stp.refl _ _ _), (OwnSl.nil 1001 Rep.b 5)⟩ ?_
      rintro ⟨v20, out21, O24, v22⟩ k35 wd25 ⟨h, hst26, hf23⟩
      obtain ⟨j37, q38, rfl, h, hn39⟩ := rnd1 h
      unfold wire_Var_lp1 at h
      try dsimp only at h hst26 hf23
      refine (show WC _ _ _ _ [(0, vu v20), (3, v22)] _ from ?_)
      refine WC.seq ?_
      refine WC.seq ?_
      refine WC.region ?_
      refine WL.y (Y.move rfl) rfl ?_
      refine WL.y (Y.gtr_u (b := 127) rfl rfl) rfl ?_
      refine WL.nil ?_
      refine At.then ?_
      rcases cnd h with ⟨hc40, h⟩ | ⟨hc40, h⟩
      · refine WC.condT' rfl hc40 ?_
        refine WC.skip ?_
        refine At.then ?_
        refine WC.block ?_
        refine WC.seq ?_
        refine WC.region ?_
        refine WL.y (Y.move rfl) rfl ?_
        refine WL.y (Y.move rfl) rfl ?_
        refine WL.y (Y.conv_ub ty38.u ty5.u rfl) rfl ?_
        refine WL.y (Y.or_b (b := 128) rfl rfl) rfl ?_
        refine WL.buildSlice (O := O24) (R := Rep.b) (vals := [(0, vb (v20.toUInt8 ||| 128))]) 11 [vb (v20.toUInt8 ||| 128)] (xs := [(v20.toUInt8 ||| 128)]) (by decide) ty25 ty5 (by decide) (by decide) (Fits.evalp rfl) (by kernel_rfl) rfl ⟨[vb (v20.toUInt8 ||| 128)], [], rfl, rfl, rfl⟩ rfl ?_
        intro v41 O43 wd44 hst45 ho42
        obtain ⟨xs46, hxs46, h⟩ := bnd h
        have hf47 := hf23.st hst45 rfl rfl rfl
        refine WL.append (by decide) ty25 ty5 rfl (by decide) rfl rfl hf47 ho42.src hxs46 rfl ?_
        intro v51 O48 wd49 hst50 ho52
        refine WL.y (Y.assign rfl) rfl ?_
        refine WL.nil ?_
        refine At.then ?_
        refine WC.region ?_
        refine WL.y (Y.move rfl) rfl ?_
        refine WL.y (Y.shr_uu (m := 7) rfl rfl) rfl ?_
        obtain ⟨v53, hv53, h⟩ := lt1 h
        refine WL.yE (Y.assign rfl) (congrArg vu hv53.symm) rfl ?_
        refine WL.nil ?_
        refine At.inBlock ?_
        exact At.round (v53, xs46, O48, v51) j37 (Nat.lt_succ_self _) ⟨next1 h hn39, (Stp.trans (Stp.up hst26 rfl) (Stp.trans (Stp.up hst45 rfl) (Stp.up hst50 rfl))), ho52⟩ (.cons rfl (.cons rfl .nil))
      · refine WC.condF' rfl hc40 ?_
        refine WC.exit ?_
        refine At.thenX ?_
        refine At.loopX ?_
        obtain ⟨O54, hst55, ho56⟩ := OwnSl.rlb 1002 rfl hf23
        exact At.hitB (σ := (UInt64 × List UInt8 × Own × Value)) (v20, out21, O54, v22) ⟨brk1 h hn39, (Stp.trans (Stp.up hst26 rfl) (Stp.up hst55 rfl)), ho56⟩ (.cons rfl (.cons rfl .nil))
    · rintro ⟨v27, out28, O31, v29⟩ wd32 ⟨rfl, hst33, hf30⟩
      replace h := flowK_go hk36
      try dsimp only at h hst33 hf30
      refine (show At _ _ _ [(0, vu v27), (3, v29)] _ from ?_)
      refine At.inBlockHit ?_
      obtain ⟨O57, hst58, ho59⟩ := OwnSl.rlb 1004 rfl hf30
      exact At.join (σ := (UInt64 × List UInt8 × Own × Value)) (v27, out28, O57, v29) ⟨some1 h, (Stp.trans (Stp.up hst33 rfl) (Stp.up hst58 rfl)), ho59⟩ (.cons rfl (.cons rfl .nil))
  · rintro ⟨v11, out12, O15, v13⟩ wd16 ⟨rfl, hst17, hf14⟩
    replace h := hk19
    try dsimp only at h hst17 hf14
    refine (show At _ _ _ [(0, vu v11), (3, v13)] _ from ?_)
    refine At.then ?_
    refine WC.seq ?_
    refine WC.region ?_
    refine WL.y (Y.move rfl) rfl ?_
    refine WL.y (Y.move rfl) rfl ?_
    refine WL.y (Y.conv_ub ty38.u ty5.u rfl) rfl ?_
    refine WL.buildSlice (O := O15) (R := Rep.b) (vals := [(0, vb v11.toUInt8)]) 12 [vb v11.toUInt8] (xs := [v11.toUInt8]) (by decide) ty25 ty5 (by decide) (by decide) (Fits.evalp rfl) (by kernel_rfl) rfl ⟨[vb v11.toUInt8], [], rfl, rfl, rfl⟩ rfl ?_
    intro v60 O62 wd63 hst64 ho61
    obtain ⟨xs65, hxs65, h⟩ := bnd h
    have hf66 := hf14.st hst64 rfl rfl rfl
    refine WL.append (by decide) ty25 ty5 rfl (by decide) rfl rfl hf66 ho61.src hxs65 rfl ?_
    intro v70 O67 wd68 hst69 ho71
    refine WL.y (Y.assign rfl) rfl ?_
    refine WL.nil ?_
    refine At.then ?_
    refine WC.ret ?_
    obtain rfl := some1 h
    have hs72 : Stp [12, 1001, 1002, 1004] (Lg.O0 (fun _ => False)) w O67 wd68 := (Stp.trans (Stp.up hst17 rfl) (Stp.trans (Stp.up hst64 rfl) (Stp.up hst69 rfl)))
    exact At.res (.inl rfl) rfl (.tmp rfl .nil) ⟨v70, rfl, (Stp.ext hs72 rfl rfl), (OwnSl.outF ho71 hs72 low0 rfl)⟩

theorem c_wire_check {A : Nat → Prop} {v0_3 : Value} {a0 : api_Fld} {w : World} (hs0_3 : Sl Rep.b w A v0_3 a0.B) {r0 : Int} (h : wire_check a0 = some r0) : Rets Try.prog 20 [.agg [vi a0.Num, vi a0.Type_, vu a0.V, v0_3].toArray] w (fun v w' => v = vi r0 ∧ Ext w w') := by
  unfold wire_check at h
  refine Rets.enter Try.func20 rfl rfl ?_
  have hf11 : Sl Rep.b w (imm (Lg.O0 A)) v0_3 a0.B := (Sl.start hs0_3)
  refine (show WC _ _ _ _ [(0, .agg [vi a0.Num, vi a0.Type_, vu a0.V, v0_3].toArray)] _ from ?_)
  refine WC.seq ?_
  refine WC.region ?_
  have hh15 := h
  obtain ⟨p12, m13, c14, rfl⟩ := hf11.shape
  have h := hh15
  refine WL.box (O := (Lg.O0 A)) 11 [vi a0.Num, vi a0.Type_, vu a0.V, (.slice p12 m13 c14)] rfl rfl rfl ?_
  intro p17 O18 wd19 hst20 hb16
  refine WL.y (Y.assign rfl) rfl ?_
  refine WL.nil ?_
  refine At.then ?_
  refine WC.seq ?_
  refine WC.block ?_
  refine WC.seq ?_
  refine WC.region ?_
  refine WL.y (Y.fieldAddr fo40_0 rfl) rfl ?_
  refine WL.y (Y.loadSc ty3 rfl rfl (hb16.cell 0 _ rfl)) rfl ?_
  refine WL.y (Y.lss_i rfl rfl) rfl ?_
  refine WL.y (Y.move rfl) rfl ?_
  refine WL.cut 4 (σ := Unit) (fun _ w' => wd19 = w') (fun _ => [(1, .pointer (some ⟨p17, 0, none⟩)), (11, .bool ((decide (a0.Num < 1)) || (decide (536870911 < a0.Num))))]) ?_ ?_
  · refine WL.part 7 rfl (fun hE21 => ?_) (fun hE21 => ?_)
    · refine WL.gS rfl rfl rfl rfl ?_
      refine WL.gS rfl rfl rfl rfl ?_
      refine WL.gS rfl rfl rfl rfl ?_
      refine WL.y (Y.pick (b := true) rfl rfl) rfl ?_
      refine WL.ren (v' := .bool ((decide (a0.Num < 1)) || (decide (536870911 < a0.Num)))) 11 rfl (congrArg Value.bool (orT hE21)) ?_
      exact WL.nil (At.join () rfl (.cons rfl (.cons rfl .nil)))
    · refine WL.ung rfl rfl ?_
      refine WL.y (Y.fieldAddr fo40_0 rfl) rfl ?_
      refine WL.ung rfl rfl ?_
      refine WL.y (Y.loadSc ty3 rfl rfl (hb16.cell 0 _ rfl)) rfl ?_
      refine WL.ung rfl rfl ?_
      refine WL.y (Y.gtr_i rfl rfl) rfl ?_
      refine WL.y (Y.pick (b := false) rfl rfl) rfl ?_
      refine WL.ren (v' := .bool ((decide (a0.Num < 1)) || (decide (536870911 < a0.Num)))) 11 rfl (congrArg Value.bool (orF hE21)) ?_
      exact WL.nil (At.join () rfl (.cons rfl (.cons rfl .nil)))
  · rintro _ _ rfl
    refine (show WL _ _ _ _ _ [(1, .pointer (some ⟨p17, 0, none⟩)), (11, .bool ((decide (a0.Num < 1)) || (decide (536870911 < a0.Num))))] _ from ?_)
    obtain ⟨t22, ht22, h⟩ := lt1 h
    refine WL.yE (Y.assign rfl) (congrArg Value.bool ht22.symm) rfl ?_
    refine WL.nil ?_
    refine At.then ?_
    rcases cnd h with ⟨hc23, h⟩ | ⟨hc23, h⟩
    · refine WC.condT' rfl hc23 ?_
      refine WC.seq ?_
      refine WC.region ?_
      refine WL.y (Y.assign rfl) rfl ?_
      refine WL.nil ?_
      refine At.then ?_
      refine WC.ret ?_
      refine At.inBlockR ?_
      refine At.thenR ?_
      obtain rfl := some1 h
      have hs24 : Stp [] (Lg.O0 A) w O18 wd19 := (Stp.up hst20 rfl)
      exact At.res (.inl rfl) rfl (.tmp rfl .nil) ⟨rfl, (Stp.ext hs24 rfl rfl)⟩
    · refine WC.condF' rfl hc23 ?_
      refine WC.seq ?_
      refine WC.region ?_
      refine WL.y (Y.fieldAddr fo40_1 rfl) rfl ?_
      refine WL.y (Y.loadSc ty3 rfl rfl (hb16.cell 1 _ rfl)) rfl ?_
      refine WL.y (Y.lss_i rfl rfl) rfl ?_
      refine WL.y (Y.move rfl) rfl ?_
      refine WL.cut 4 (σ := Unit) (fun _ w' => wd19 = w') (fun _ => [(1, .pointer (some ⟨p17, 0, none⟩)), (20, .bool ((decide (a0.Type_ < 0)) || (decide (2 < a0.Type_))))]) ?_ ?_
      · refine WL.part 16 rfl (fun hE25 => ?_) (fun hE25 => ?_)
        · refine WL.gS rfl rfl rfl rfl ?_
          refine WL.gS rfl rfl rfl rfl ?_
          refine WL.gS rfl rfl rfl rfl ?_
          refine WL.y (Y.pick (b := true) rfl rfl) rfl ?_
          refine WL.ren (v' := .bool ((decide (a0.Type_ < 0)) || (decide (2 < a0.Type_)))) 20 rfl (congrArg Value.bool (orT hE25)) ?_
          exact WL.nil (At.join () rfl (.cons rfl (.cons rfl .nil)))
        · refine WL.ung rfl rfl ?_
          refine WL.y (Y.fieldAddr fo40_1 rfl) rfl ?_
          refine WL.ung rfl rfl ?_
          refine WL.y (Y.loadSc ty3 rfl rfl (hb16.cell 1 _ rfl)) rfl ?_
          refine WL.ung rfl rfl ?_
          refine WL.y (Y.gtr_i rfl rfl) rfl ?_
          refine WL.y (Y.pick (b := false) rfl rfl) rfl ?_
          refine WL.ren (v' := .bool ((decide (a0.Type_ < 0)) || (decide (2 < a0.Type_)))) 20 rfl (congrArg Value.bool (orF hE25)) ?_
          exact WL.nil (At.join () rfl (.cons rfl (.cons rfl .nil)))
      · rintro _ _ rfl
        refine (show WL _ _ _ _ _ [(1, .pointer (some ⟨p17, 0, none⟩)), (20, .bool ((decide (a0.Type_ < 0)) || (decide (2 < a0.Type_))))] _ from ?_)
        obtain ⟨t26, ht26, h⟩ := lt1 h
        refine WL.yE (Y.assign rfl) (congrArg Value.bool ht26.symm) rfl ?_
        refine WL.nil ?_
        refine At.then ?_
        rcases cnd h with ⟨hc27, h⟩ | ⟨hc27, h⟩
        · refine WC.condT' rfl hc27 ?_
          refine WC.seq ?_
          refine WC.region ?_
          refine WL.y (Y.assign rfl) rfl ?_
          refine WL.nil ?_
          refine At.then ?_
          refine WC.ret ?_
          refine At.inBlockR ?_
          refine At.thenR ?_
          obtain rfl := some1 h
          have hs28 : Stp [] (Lg.O0 A) w O18 wd19 := (Stp.up hst20 rfl)
          exact At.res (.inl rfl) rfl (.tmp rfl .nil) ⟨rfl, (Stp.ext hs28 rfl rfl)⟩
        · refine WC.condF' rfl hc27 ?_
          refine WC.seq ?_
          refine WC.seq ?_
          refine WC.region ?_
          refine WL.y (Y.fieldAddr fo40_1 rfl) rfl ?_
          refine WL.y (Y.loadSc ty3 rfl rfl (hb16.cell 1 _ rfl)) rfl ?_
          refine WL.y (Y.neq_i rfl rfl) rfl ?_
          refine WL.y (Y.move rfl) rfl ?_
          refine WL.cut 5 (σ := Unit) (fun _ w' => wd19 = w') (fun _ => [(1, .pointer (some ⟨p17, 0, none⟩)), (30, .bool ((!decide (a0.Type_ = 2)) && (decide (0 < (a0.B.length : Int)))))]) ?_ ?_
          · refine WL.part 25 rfl (fun hE29 => ?_) (fun hE29 => ?_)
            · refine WL.ung rfl rfl ?_
              refine WL.y (Y.fieldAddr fo40_3 rfl) rfl ?_
              refine WL.ung rfl rfl ?_
              refine WL.y (Y.loadSc ty25 rfl rfl (hb16.cell 3 _ rfl)) rfl ?_
              refine WL.ung rfl rfl ?_
              have hf30 := hf11.mono (imm_st hst20 rfl rfl)
              refine WL.y (Y.len ty25 rfl hf30) rfl ?_
              refine WL.ung rfl rfl ?_
              refine WL.y (Y.gtr_i rfl rfl) rfl ?_
              refine WL.y (Y.pick (b := true) rfl rfl) rfl ?_
              refine WL.ren (v' := .bool ((!decide (a0.Type_ = 2)) && (decide (0 < (a0.B.length : Int))))) 30 rfl (congrArg Value.bool (andT hE29)) ?_
              exact WL.nil (At.join () rfl (.cons rfl (.cons rfl .nil)))
            · refine WL.gS rfl rfl rfl rfl ?_
              refine WL.gS rfl rfl rfl rfl ?_
              refine WL.gS rfl rfl rfl rfl ?_
              refine WL.gS rfl rfl rfl rfl ?_
              refine WL.y (Y.pick (b := false) rfl rfl) rfl ?_
              refine WL.ren (v' := .bool ((!decide (a0.Type_ = 2)) && (decide (0 < (a0.B.length : Int))))) 30 rfl (congrArg Value.bool (andF hE29)) ?_
              exact WL.nil (At.join () rfl (.cons rfl (.cons rfl .nil)))
          · rintro _ _ rfl
            refine (show WL _ _ _ _ _ [(1, .pointer (some ⟨p17, 0, none⟩)), (30, .bool ((!decide (a0.Type_ = 2)) && (decide (0 < (a0.B.length : Int)))))] _ from ?_)
            obtain ⟨t31, ht31, h⟩ := lt1 h
            refine WL.yE (Y.assign rfl) (congrArg Value.bool ht31.symm) rfl ?_
            refine WL.nil ?_
            refine At.then ?_
            rcases cnd h with ⟨hc32, h⟩ | ⟨hc32, h⟩
            · refine WC.condT' rfl hc32 ?_
              refine WC.skip ?_
              refine At.then ?_
              rcases cnd h with ⟨hc33, h⟩ | ⟨hc33, h⟩
              · refine WC.condT' rfl hc33 ?_
                refine WC.seq ?_
                refine WC.region ?_
                refine WL.y (Y.assign rfl) rfl ?_
                refine WL.nil ?_
                refine At.then ?_
                refine WC.ret ?_
                refine At.inBlockR ?_
                refine At.thenR ?_
                obtain rfl := some1 h
                have hs34 : Stp [] (Lg.O0 A) w O18 wd19 := (Stp.up hst20 rfl)
                exact At.res (.inl rfl) rfl (.tmp rfl .nil) ⟨rfl, (Stp.ext hs34 rfl rfl)⟩
              · refine WC.condF' rfl hc33 ?_
                refine WC.skip ?_
                refine At.inBlock ?_
                refine At.then ?_
                refine WC.seq ?_
                refine WC.region ?_
                refine WL.y (Y.assign rfl) rfl ?_
                refine WL.nil ?_
                refine At.then ?_
                refine WC.ret ?_
                obtain rfl := some1 h
                have hs35 : Stp [] (Lg.O0 A) w O18 wd19 := (Stp.up hst20 rfl)
                exact At.res (.inl rfl) rfl (.tmp rfl .nil) ⟨rfl, (Stp.ext hs35 rfl rfl)⟩
            · refine WC.condF' rfl hc32 ?_
              refine WC.region ?_
              refine WL.y (Y.fieldAddr fo40_1 rfl) rfl ?_
              refine WL.y (Y.loadSc ty3 rfl rfl (hb16.cell 1 _ rfl)) rfl ?_
              refine WL.y (Y.eql_i rfl rfl) rfl ?_
              refine WL.y (Y.move rfl) rfl ?_
              refine WL.cut 4 (σ := Unit) (fun _ w' => wd19 = w') (fun _ => [(38, .bool ((decide (a0.Type_ = 2)) && (!decide (a0.V = 0))))]) ?_ ?_
              · refine WL.part 34 rfl (fun hE36 => ?_) (fun hE36 => ?_)
                · refine WL.ung rfl rfl ?_
                  refine WL.y (Y.fieldAddr fo40_2 rfl) rfl ?_
                  refine WL.ung rfl rfl ?_
                  refine WL.y (Y.loadSc ty38 rfl rfl (hb16.cell 2 _ rfl)) rfl ?_
                  refine WL.ung rfl rfl ?_
                  refine WL.y (Y.neq_u (b := 0) rfl rfl) rfl ?_
                  refine WL.y (Y.pick (b := true) rfl rfl) rfl ?_
                  refine WL.ren (v' := .bool ((decide (a0.Type_ = 2)) && (!decide (a0.V = 0)))) 38 rfl (congrArg Value.bool (andT hE36)) ?_
                  exact WL.nil (At.join () rfl (.cons rfl .nil))
                · refine WL.gS rfl rfl rfl rfl ?_
                  refine WL.gS rfl rfl rfl rfl ?_
                  refine WL.gS rfl rfl rfl rfl ?_
                  refine WL.y (Y.pick (b := false) rfl rfl) rfl ?_
                  refine WL.ren (v' := .bool ((decide (a0.Type_ = 2)) && (!decide (a0.V = 0)))) 38 rfl (congrArg Value.bool (andF hE36)) ?_
                  exact WL.nil (At.join () rfl (.cons rfl .nil))
              · rintro _ _ rfl
                refine (show WL _ _ _ _ _ [(38, .bool ((decide (a0.Type_ = 2)) && (!decide (a0.V = 0))))] _ from ?_)
                obtain ⟨t37, ht37, h⟩ := lt1 h
                refine WL.yE (Y.assign rfl) (congrArg Value.bool ht37.symm) rfl ?_
                refine WL.nil ?_
                refine At.then ?_
                rcases cnd h with ⟨hc38, h⟩ | ⟨hc38, h⟩
                · refine WC.condT' rfl hc38 ?_
                  refine WC.seq ?_
                  refine WC.region ?_
                  refine WL.y (Y.assign rfl) rfl ?_
                  refine WL.nil ?_
                  refine At.then ?_
                  refine WC.ret ?_
                  refine At.inBlockR ?_
                  refine At.thenR ?_
                  obtain rfl := some1 h
                  have hs39 : Stp [] (Lg.O0 A) w O18 wd19 := (Stp.up hst20 rfl)
                  exact At.res (.inl rfl) rfl (.tmp rfl .nil) ⟨rfl, (Stp.ext hs39 rfl rfl)⟩
                · refine WC.condF' rfl hc38 ?_
                  refine WC.skip ?_
                  refine At.inBlock ?_
                  refine At.then ?_
                  refine WC.seq ?_
                  refine WC.region ?_
                  refine WL.y (Y.assign rfl) rfl ?_
                  refine WL.nil ?_
                  refine At.then ?_
                  refine WC.ret ?_
                  obtain rfl := some1 h
                  have hs40 : Stp [] (Lg.O0 A) w O18 wd19 := (Stp.up hst20 rfl)
                  exact At.res (.inl rfl) rfl (.tmp rfl .nil) ⟨rfl, (Stp.ext hs40 rfl rfl)⟩

theorem c_wire_eight {a0 : UInt64} {w : World} {r0 : List UInt8} (h : wire_eight a0 = some r0) : Rets Try.prog 21 [vu a0] w (fun v w' => ∃ (u0 : Value), v = u0 ∧ Ext w w' ∧ RowF Rep.b 5 w w' u0 r0) := by
  unfold wire_eight at h
  refine Rets.enter Try.func21 rfl rfl ?_
  refine (show WC _ _ _ _ [(0, vu a0)] _ from ?_)
  refine WC.seq ?_
  refine WC.region ?_
  refine WL.y (Y.assign rfl) rfl ?_
  refine WL.nil ?_
  refine At.then ?_
  refine WC.seq ?_
  refine WC.region ?_
  obtain ⟨t11, ht11, h⟩ := bnd h
  refine WL.make (O := (Lg.O0 (fun _ => False))) (R := Rep.b) (zx := (0 : UInt8)) 11 (by decide) ty25 ty5 rfl (by decide) (by decide) rfl rfl (fun _ _ => rfl) ht11 rfl ?_
  intro v12 O14 wd15 hst16 ho13
  refine WL.y (Y.assign rfl) rfl ?_
  refine WL.nil ?_
  refine At.then ?_
  refine WC.seq ?_
  refine WC.seq ?_
  refine WC.region ?_
  refine WL.y (Y.move rfl) rfl ?_
  refine WL.y (Y.len ty25 rfl ho13.src.sl) rfl ?_
  refine WL.y (Y.move rfl) rfl ?_
  refine WL.nil ?_
  refine At.then ?_
  refine WC.block ?_
  obtain ⟨p30, h, hk32⟩ := flow1 h
  obtain ⟨k31, h⟩ := loop_some h
  refine WC.joinB 0 (σ := (List UInt8 × Own)) (fun x w' => p30 = .go x.1 ∧ Stp [11, 1001] O14 wd15 x.2 w' ∧ OwnSl 1002 Rep.b 5 x.2 w' v12 x.1) (fun x => [(3, v12)]) ?_ ?_
  · obtain ⟨O33, hst34, ho35⟩ := OwnSl.rlb 1001 rfl ho13
    refine WC.loop (σ := (List UInt8 × Int × Own)) (fun x k w' => loopN k (wire_eight_lp1 a0 t11) (x.1, x.2.1) = some p30 ∧ Stp [11, 1001] O14 wd15 x.2.2 w' ∧ OwnSl 1001 Rep.b 5 x.2.2 w' v12 x.1) (fun x => [(0, vu a0), (3, v12), (7, vi (t11.length : Int)), (8, vi x.2.1)]) (t11, 0, O33) k31 (.cons rfl (.cons rfl (.cons rfl (.cons rfl .nil)))) ⟨h, (Stp.up hst34 rfl), ho35⟩ ?_
    rintro ⟨b17, x20, O21⟩ k31 wd22 ⟨h, hst23, hf19⟩
    obtain ⟨j36, q37, rfl, h, hn38⟩ := rnd1 h
    unfold wire_eight_lp1 at h
    try dsimp only at h hst23 hf19
    refine (show WC _ _ _ _ [(0, vu a0), (3, v12), (7, vi (t11.length : Int)), (8, vi x20)] _ from ?_)
    refine WC.seq ?_
    refine WC.region ?_
    refine WL.y (Y.lss_i rfl rfl) rfl ?_
    refine WL.nil ?_
    refine At.then ?_
    refine WC.seq ?_
    rcases cnd h with ⟨hc39, h⟩ | ⟨hc39, h⟩
    · refine WC.condT' rfl hc39 ?_
      refine WC.skip ?_
      refine At.then ?_
      refine WC.seq ?_
      refine WC.block ?_
      refine WC.seq ?_
      refine WC.region ?_
      refine WL.y (Y.move rfl) rfl ?_
      refine WL.y (Y.assign rfl) rfl ?_
      refine WL.nil ?_
      refine At.then ?_
      refine WC.region ?_
      refine WL.y (Y.move rfl) rfl ?_
      refine WL.y (Y.move rfl) rfl ?_
      refine WL.y (Y.move rfl) rfl ?_
      refine WL.y (Y.move rfl) rfl ?_
      refine WL.y (Y.mul_i rfl rfl) rfl ?_
      refine WL.y (Y.conv_iu ty3.u ty58.u rfl) rfl ?_
      refine WL.y (Y.shr_uu rfl rfl) rfl ?_
      refine WL.y (Y.conv_ub ty38.u ty5.u rfl) rfl ?_
      obtain ⟨e40, he40, h⟩ := bnd h
      obtain ⟨b41, cap48, cs47, hv42, hi43, hl44, hc45, hok46⟩ := OwnSl.at hf19 he40
      obtain rfl := hok46
      replace hc45 : CellsAt _ _ _ [vb e40] := hc45
      have hca49 := CAt.own hf19 hv42 hc45
      refine WL.y (Y.indexAddr ty25 ty5 rfl hv42 rfl hi43 hl44) rfl ?_
      obtain ⟨t50, ht50, h⟩ := lt1 h
      refine WL.ren 18 rfl (congrArg vb ht50.symm) ?_
      obtain ⟨xs51, hxs51, h⟩ := bnd h
      refine WL.storeOwn (by decide) ty5 rfl rfl rfl hf19 hv42 hxs51 ?_
      intro wd52 hst53 ho54
      refine WL.nil ?_
      refine At.inBlock ?_
      refine At.then ?_
      refine WC.region ?_
      refine WL.y (Y.add_i rfl rfl) rfl ?_
      refine WL.y (Y.move rfl) rfl ?_
      refine WL.nil ?_
      exact At.round (xs51, w64 (x20 + 1), O21) j36 (Nat.lt_succ_self _) ⟨next1 h hn38, (Stp.trans (Stp.up hst23 rfl) (Stp.up hst53 rfl)), ho54⟩ (.cons rfl (.cons rfl (.cons rfl (.cons rfl .nil))))
    · refine WC.condF' rfl hc39 ?_
      refine WC.exit ?_
      refine At.thenX ?_
      refine At.loopX ?_
      obtain ⟨O55, hst56, ho57⟩ := OwnSl.rlb 1002 rfl hf19
      exact At.hitB (σ := (List UInt8 × Own)) (b17, O55) ⟨brk1 h hn38, (Stp.trans (Stp.up hst23 rfl) (Stp.up hst56 rfl)), ho57⟩ (.cons rfl .nil)
  · rintro ⟨b24, O27⟩ wd28 ⟨rfl, hst29, hf26⟩
    replace h := flowK_go hk32
    try dsimp only at h hst29 hf26
    refine (show At _ _ _ [(3, v12)] _ from ?_)
    refine At.inBlockHit ?_
    refine At.then ?_
    refine WC.seq ?_
    refine WC.region ?_
    refine WL.y (Y.move rfl) rfl ?_
    refine WL.y (Y.assign rfl) rfl ?_
    refine WL.nil ?_
    refine At.then ?_
    refine WC.ret ?_
    obtain rfl := some1 h
    have hs58 : Stp [11, 1001] (Lg.O0 (fun _ => False)) w O27 wd28 := (Stp.trans (Stp.up hst16 rfl) (Stp.up hst29 rfl))
    exact At.res (.inl rfl) rfl (.tmp rfl .nil) ⟨v12, rfl, (Stp.ext hs58 rfl rfl), (OwnSl.outF hf26 hs58 low0 rfl)⟩

theorem c_wire_Encode {A : Nat → Prop} {a0 : List api_Fld} {v0 : Value} {w : World} (hs0 : Sl rep_api_Fld w A v0 a0) {r0 : List UInt8} {r1 : Int} (h : wire_Encode a0 = some (r0, r1)) : Rets Try.prog 8 [v0] w (fun v w' => ∃ (u0 : Value), v = .tuple (List.toArray [u0, vi r1]) ∧ Ext w w' ∧ RowF Rep.b 5 w w' u0 r0) := by
  unfold wire_Encode at h
  refine Rets.enter Try.func8 rfl rfl ?_
  have hf11 : Sl rep_api_Fld w (imm (Lg.O0 A)) v0 a0 := (Sl.start hs0)
  refine (show WC _ _ _ _ [(0, v0)] _ from ?_)
  refine WC.seq ?_
  refine WC.region ?_
  refine WL.y (Y.assign rfl) rfl ?_
  refine WL.y (Y.assign rfl) rfl ?_
  refine WL.nil ?_
  refine At.then ?_
  refine WC.seq ?_
  refine WC.region ?_
  refine WL.y (Y.assign rfl) rfl ?_
  refine WL.nil ?_
  refine At.then ?_
  refine WC.seq ?_
  refine WC.seq ?_
  refine WC.region ?_
  refine WL.y (Y.move rfl) rfl ?_
  refine WL.y (Y.len ty22 rfl hf11) rfl ?_
  refine WL.y (Y.move rfl) rfl ?_
  refine WL.nil ?_
  refine At.then ?_
  refine WC.block ?_
  obtain ⟨p25, h, hk27⟩ := flow1 h
  obtain ⟨k26, h⟩ := loop_some h
  refine WC.joinB 0 (σ := (List UInt8 × Own × Value)) (fun x w' => p25 = .go x.1 ∧ Stp [11, 13, 1002, 1004] (Lg.O0 A) w x.2.1 w' ∧ OwnSl 1008 Rep.b 5 x.2.1 w' x.2.2 x.1) (fun x => [(4, x.2.2)]) ?_ ?_
  · refine WC.loop (σ := (List UInt8 × Int × Own × Value)) (fun x k w' => loopN k (wire_Encode_lp1 a0) (x.1, x.2.1) = some p25 ∧ Stp [11, 13, 1002, 1004] (Lg.O0 A) w x.2.2.1 w' ∧ OwnSl 1004 Rep.b 5 x.2.2.1 w' x.2.2.2 x.1) (fun x => [(4, x.2.2.2), (8, v0), (9, vi (a0.length : Int)), (10, vi x.2.1)]) ([], 0, (Lg.O0 A), .slice none 0 0) k26 (.cons rfl (.cons rfl (.cons rfl (.cons rfl .nil)))) ⟨h, (Stp.refl _ _ _), (OwnSl.nil 1004 Rep.b 5)⟩ ?_
    rintro ⟨out12, x15, O16, v13⟩ k26 wd17 ⟨h, hst18, hf14⟩
    obtain ⟨j28, q29, rfl, h, hn30⟩ := rnd1 h
    unfold wire_Encode_lp1 at h
    try dsimp only at h hst18 hf14
    refine (show WC _ _ _ _ [(4, v13), (8, v0), (9, vi (a0.length : Int)), (10, vi x15)] _ from ?_)
    refine WC.seq ?_
    refine WC.region ?_
    refine WL.y (Y.lss_i rfl rfl) rfl ?_
    refine WL.nil ?_
    refine At.then ?_
    refine WC.seq ?_
    rcases cnd h with ⟨hc31, h⟩ | ⟨hc31, h⟩
    · refine WC.condT' rfl hc31 ?_
      refine WC.skip ?_
      refine At.then ?_
      refine WC.seq ?_
      refine WC.block ?_
      refine WC.seq ?_
      refine WC.region ?_
      obtain ⟨e32, he32, h⟩ := bnd h
      have hf41 := hf11.mono (imm_st hst18 rfl rfl)
      obtain ⟨b33, off44, cap40, cs39, hv34, hi35, hl36, hc37, hok38, hA45⟩ := Sl.at2 hf41 he32
      obtain ⟨_, _, rfl, rfl, ⟨_, _, rfl, rfl, ⟨_, _, rfl, rfl, ⟨v42, rfl, hf43⟩⟩⟩⟩ := hok38
      replace hc37 : CellsAt _ _ _ [vi e32.Num, vi e32.Type_, vu e32.V, v42] := hc37
      have hca46 := CAt.imm hc37 hA45
      refine WL.y (Y.indexAddr ty22 ty40 rfl hv34 rfl hi35 hl36) rfl ?_
      refine WL.y (Y.loadAg ty40 rfl rfl hca46.at_ rfl) rfl ?_
      refine WL.alloc (O := O16) 11 [vi 0, vi 0, vu 0, .slice none 0 0] ty40 rfl rfl ?_
      intro p48 O49 wd50 hst51 hb47
      have hf52 := hf43.mono (imm_st hst51 rfl rfl)
      have hh56 := h
      obtain ⟨p53, m54, c55, rfl⟩ := hf52.shape
      have h := hh56
      refine WL.store (v := .agg [vi e32.Num, vi e32.Type_, vu e32.V, (.slice p53 m54 c55)].toArray) (cells' := [vi e32.Num, vi e32.Type_, vu e32.V, (.slice p53 m54 c55)]) ty40 rfl rfl hb47 rfl (Nat.le_of_ble_eq_true rfl) rfl rfl ?_
      intro wd57 hst58 hb59
      refine WL.nil ?_
      refine At.then ?_
      refine WC.seq ?_
      refine WC.seq ?_
      refine WC.region ?_
      refine WL.y (Y.loadAg ty40 rfl rfl (hb59.cells 0 [vi e32.Num, vi e32.Type_, vu e32.V, (.slice p53 m54 c55)] rfl) rfl) rfl ?_
      have hf60 := hf52.mono (imm_st hst58 rfl rfl)
      obtain ⟨r61, hp62, h⟩ := bnd h
      refine WL.call (vals := [.agg [vi e32.Num, vi e32.Type_, vu e32.V, (.slice p53 m54 c55)].toArray]) kok20 rfl rfl (c_wire_check (A := fun _ => True) (a0 := e32) (Sl.all hf60) hp62) ?_
      rintro vr65 wd64 ⟨rfl, hm63⟩
      obtain ⟨O66, hold67, hnew68, hst69⟩ := adoptE O49 (fun k => 1) hm63
      refine WL.y (Y.assign rfl) rfl ?_
      refine WL.nil ?_
      refine At.then ?_
      refine WC.seq ?_
      refine WC.region ?_
      refine WL.y (Y.move rfl) rfl ?_
      refine WL.y (Y.neq_i rfl rfl) rfl ?_
      refine WL.nil ?_
      refine At.then ?_
      rcases cnd h with ⟨hc70, h⟩ | ⟨hc70, h⟩
      · refine WC.condT' rfl hc70 ?_
        refine WC.seq ?_
        refine WC.region ?_
        refine WL.y (Y.move rfl) rfl ?_
        refine WL.y (Y.assign rfl) rfl ?_
        refine WL.y (Y.assign rfl) rfl ?_
        refine WL.nil ?_
        refine At.then ?_
        refine WC.ret ?_
        refine At.thenR ?_
        refine At.inBlockR ?_
        refine At.thenR ?_
        refine At.loopR ?_
        have h := outr1 h hn30 hk27
        refine At.joinBR ?_
        refine At.inBlockR ?_
        refine At.thenR ?_
        obtain ⟨rfl, rfl⟩ := tup2 h
        have hs71 : Stp [11, 13, 1002, 1004] (Lg.O0 A) w O66 wd64 := (Stp.trans (Stp.up hst18 rfl) (Stp.trans (Stp.up hst51 rfl) (Stp.trans (Stp.up hst58 rfl) (Stp.up hst69 rfl))))
        exact At.res (.inl rfl) rfl (.tmp rfl (.tmp rfl .nil)) ⟨.slice none 0 0, rfl, (Stp.ext hs71 rfl rfl), RowF.nil⟩
      · refine WC.condF' rfl hc70 ?_
        refine WC.skip ?_
        refine At.then ?_
        refine WC.seq ?_
        refine WC.region ?_
        refine WL.y (Y.move rfl) rfl ?_
        refine WL.y (Y.fieldAddr fo40_0 rfl) rfl ?_
        have hf72 := hb59.st hst69 rfl
        refine WL.y (Y.loadSc ty3 rfl rfl (hf72.cell 0 _ rfl)) rfl ?_
        refine WL.y (Y.mul_i rfl rfl) rfl ?_
        refine WL.y (Y.fieldAddr fo40_1 rfl) rfl ?_
        refine WL.y (Y.loadSc ty3 rfl rfl (hf72.cell 1 _ rfl)) rfl ?_
        refine WL.y (Y.add_i rfl rfl) rfl ?_
        refine WL.y (Y.conv_iu ty3.u ty38.u rfl) rfl ?_
        obtain ⟨r73, hp74, h⟩ := bnd h
        refine WL.call (vals := [vu (toU64 (w64 ((w64 (8 * e32.Num)) + e32.Type_)))]) kok19 rfl rfl (c_wire_Var hp74) ?_
        rintro vr79 wd78 ⟨_, rfl, hm77, f76⟩
        obtain ⟨O80, hold81, hnew82, hst83⟩ := adoptE O66 (fun k => if Value.ownBlock vr79 = some k then 12 else 1) hm77
        have hf84 : OwnSl 12 Rep.b 5 O80 wd78 vr79 r73 := RowF.adopt 12 Flat.b f76 hnew82 (fun k hk => if_pos hk)
        obtain ⟨xs85, hxs85, h⟩ := bnd h
        have hf86 := hf14.st hst51 rfl rfl rfl
        have hf87 := hf86.st hst58 rfl rfl rfl
        have hf88 := hf87.st hst69 rfl rfl rfl
        have hf89 := hf88.st hst83 rfl rfl rfl
        refine WL.append (by decide) ty25 ty5 rfl (by decide) rfl rfl hf89 hf84.src hxs85 rfl ?_
        intro v93 O90 wd91 hst92 ho94
        refine WL.y (Y.assign rfl) rfl ?_
        refine WL.nil ?_
        refine At.then ?_
        refine WC.seq ?_
        refine WC.region ?_
        refine WL.y (Y.fieldAddr fo40_1 rfl) rfl ?_
        have hf95 := hf72.st hst83 rfl
        have hf96 := hf95.st hst92 rfl
        refine WL.y (Y.loadSc ty3 rfl rfl (hf96.cell 1 _ rfl)) rfl ?_
        refine WL.nil ?_
        refine At.then ?_
        obtain ⟨p103, h, hk104⟩ := bnd h
        refine WC.join (σ := (List UInt8 × Own × Value)) (fun x w' => x.1 = p103 ∧ Stp [1004] O90 wd91 x.2.1 w' ∧ OwnSl 1002 Rep.b 5 x.2.1 w' x.2.2 x.1) (fun x => [(4, x.2.2), (8, v0), (9, vi (a0.length : Int)), (10, vi x15)]) ?_ ?_
        · refine WC.block ?_
          refine WC.seq ?_
          refine WC.region ?_
          refine WL.y (Y.eql_i rfl rfl) rfl ?_
          obtain ⟨t105, ht105, h⟩ := lt1 h
          refine WL.yE (Y.assign rfl) (congrArg Value.bool ht105.symm) rfl ?_
          refine WL.nil ?_
          refine At.then ?_
          rcases cnd h with ⟨hc106, h⟩ | ⟨hc106, h⟩
          · refine WC.condT' rfl hc106 ?_
            refine WC.region ?_
            refine WL.y (Y.move rfl) rfl ?_
            refine WL.y (Y.fieldAddr fo40_2 rfl) rfl ?_
            refine WL.y (Y.loadSc ty38 rfl rfl (hf96.cell 2 _ rfl)) rfl ?_
            obtain ⟨r107, hp108, h⟩ := bnd h
            refine WL.call (vals := [vu e32.V]) kok19 rfl rfl (c_wire_Var hp108) ?_
            rintro vr113 wd112 ⟨_, rfl, hm111, f110⟩
            obtain ⟨O114, hold115, hnew116, hst117⟩ := adoptE O90 (fun k => if Value.ownBlock vr113 = some k then 13 else 1) hm111
            have hf118 : OwnSl 13 Rep.b 5 O114 wd112 vr113 r107 := RowF.adopt 13 Flat.b f110 hnew116 (fun k hk => if_pos hk)
            obtain ⟨xs119, hxs119, h⟩ := bnd h
            have hf120 := ho94.st hst117 rfl rfl rfl
            refine WL.append (by decide) ty25 ty5 rfl (by decide) rfl rfl hf120 hf118.src hxs119 rfl ?_
            intro v124 O121 wd122 hst123 ho125
            refine WL.y (Y.assign rfl) rfl ?_
            refine WL.nil ?_
            refine At.inBlock ?_
            obtain ⟨O126, hst127, ho128⟩ := OwnSl.rlb 1002 rfl ho125
            exact At.join (σ := (List UInt8 × Own × Value)) (xs119, O126, v124) ⟨some1 h, (Stp.trans (Stp.up hst117 rfl) (Stp.trans (Stp.up hst123 rfl) (Stp.up hst127 rfl))), ho128⟩ (.cons rfl (.cons rfl (.cons rfl (.cons rfl .nil))))
          · refine WC.condF' rfl hc106 ?_
            refine WC.seq ?_
            refine WC.region ?_
            refine WL.y (Y.eql_i rfl rfl) rfl ?_
            obtain ⟨t129, ht129, h⟩ := lt1 h
            refine WL.yE (Y.assign rfl) (congrArg Value.bool ht129.symm) rfl ?_
            refine WL.nil ?_
            refine At.then ?_
            rcases cnd h with ⟨hc130, h⟩ | ⟨hc130, h⟩
            · refine WC.condT' rfl hc130 ?_
              refine WC.region ?_
              refine WL.y (Y.move rfl) rfl ?_
              refine WL.y (Y.fieldAddr fo40_2 rfl) rfl ?_
              refine WL.y (Y.loadSc ty38 rfl rfl (hf96.cell 2 _ rfl)) rfl ?_
              obtain ⟨r131, hp132, h⟩ := bnd h
              refine WL.call (vals := [vu e32.V]) kok21 rfl rfl (c_wire_eight hp132) ?_
              rintro vr137 wd136 ⟨_, rfl, hm135, f134⟩
              obtain ⟨O138, hold139, hnew140, hst141⟩ := adoptE O90 (fun k => if Value.ownBlock vr137 = some k then 14 else 1) hm135
              have hf142 : OwnSl 14 Rep.b 5 O138 wd136 vr137 r131 := RowF.adopt 14 Flat.b f134 hnew140 (fun k hk => if_pos hk)
              obtain ⟨xs143, hxs143, h⟩ := bnd h
              have hf144 := ho94.st hst141 rfl rfl rfl
              refine WL.append (by decide) ty25 ty5 rfl (by decide) rfl rfl hf144 hf142.src hxs143 rfl ?_
              intro v148 O145 wd146 hst147 ho149
              refine WL.y (Y.assign rfl) rfl ?_
              refine WL.nil ?_
              refine At.inBlock ?_
              obtain ⟨O150, hst151, ho152⟩ := OwnSl.rlb 1002 rfl ho149
              exact At.join (σ := (List UInt8 × Own × Value)) (xs143, O150, v148) ⟨some1 h, (Stp.trans (Stp.up hst141 rfl) (Stp.trans (Stp.up hst147 rfl) (Stp.up hst151 rfl))), ho152⟩ (.cons rfl (.cons rfl (.cons rfl (.cons rfl .nil))))
            · refine WC.condF' rfl hc130 ?_
              refine WC.seq ?_
              refine WC.region ?_
              refine WL.y (Y.eql_i rfl rfl) rfl ?_
              obtain ⟨t153, ht153, h⟩ := lt1 h
              refine WL.yE (Y.assign rfl) (congrArg Value.bool ht153.symm) rfl ?_
              refine WL.nil ?_
              refine At.then ?_
              rcases cnd h with ⟨hc154, h⟩ | ⟨hc154, h⟩
              · refine WC.condT' rfl hc154 ?_
                refine WC.seq ?_
                refine WC.region ?_
                refine WL.y (Y.move rfl) rfl ?_
                refine WL.y (Y.fieldAddr fo40_3 rfl) rfl ?_
                refine WL.y (Y.loadSc ty25 rfl rfl (hf96.cell 3 _ rfl)) rfl ?_
                have hf155 := hf60.mono (imm_st hst69 rfl rfl)
                have hf156 := hf155.mono (imm_st hst83 rfl rfl)
                have hf157 := hf156.mono (imm_st hst92 rfl rfl)
                refine WL.y (Y.len ty25 rfl hf157) rfl ?_
                refine WL.y (Y.conv_iu ty3.u ty38.u rfl) rfl ?_
                obtain ⟨r158, hp159, h⟩ := bnd h
                refine WL.call (vals := [vu (toU64 (e32.B.length : Int))]) kok19 rfl rfl (c_wire_Var hp159) ?_
                rintro vr164 wd163 ⟨_, rfl, hm162, f161⟩
                obtain ⟨O165, hold166, hnew167, hst168⟩ := adoptE O90 (fun k => if Value.ownBlock vr164 = some k then 15 else 1) hm162
                have hf169 : OwnSl 15 Rep.b 5 O165 wd163 vr164 r158 := RowF.adopt 15 Flat.b f161 hnew167 (fun k hk => if_pos hk)
                obtain ⟨xs170, hxs170, h⟩ := bnd h
                have hf171 := ho94.st hst168 rfl rfl rfl
                refine WL.append (by decide) ty25 ty5 rfl (by decide) rfl rfl hf171 hf169.src hxs170 rfl ?_
                intro v175 O172 wd173 hst174 ho176
                refine WL.y (Y.assign rfl) rfl ?_
                refine WL.nil ?_
                refine At.then ?_
                refine WC.region ?_
                refine WL.y (Y.move rfl) rfl ?_
                refine WL.y (Y.fieldAddr fo40_3 rfl) rfl ?_
                have hf177 := hf96.st hst168 rfl
                have hf178 := hf177.st hst174 rfl
                refine WL.y (Y.loadSc ty25 rfl rfl (hf178.cell 3 _ rfl)) rfl ?_
                obtain ⟨xs179, hxs179, h⟩ := bnd h
                have hf180 := hf157.mono (imm_st hst168 rfl rfl)
                have hf181 := hf180.mono (imm_st hst174 rfl rfl)
                refine WL.append (by decide) ty25 ty5 rfl (by decide) rfl rfl ho176 (Sl.src hf181) hxs179 rfl ?_
                intro v185 O182 wd183 hst184 ho186
                refine WL.y (Y.assign rfl) rfl ?_
                refine WL.nil ?_
                refine At.inBlock ?_
                obtain ⟨O187, hst188, ho189⟩ := OwnSl.rlb 1002 rfl ho186
                exact At.join (σ := (List UInt8 × Own × Value)) (xs179, O187, v185) ⟨some1 h, (Stp.trans (Stp.up hst168 rfl) (Stp.trans (Stp.up hst174 rfl) (Stp.trans (Stp.up hst184 rfl) (Stp.up hst188 rfl)))), ho189⟩ (.cons rfl (.cons rfl (.cons rfl (.cons rfl .nil))))
              · refine WC.condF' rfl hc154 ?_
                refine WC.skip ?_
                refine At.inBlock ?_
                obtain ⟨O190, hst191, ho192⟩ := OwnSl.rlb 1002 rfl ho94
                exact At.join (σ := (List UInt8 × Own × Value)) (xs85, O190, v93) ⟨some1 h, (Stp.up hst191 rfl), ho192⟩ (.cons rfl (.cons rfl (.cons rfl (.cons rfl .nil))))
        · rintro ⟨out97, O100, v98⟩ wd101 ⟨rfl, hst102, hf99⟩
          replace h := hk104
          try dsimp only at h hst102 hf99
          refine (show At _ _ _ [(4, v98), (8, v0), (9, vi (a0.length : Int)), (10, vi x15)] _ from ?_)
          refine At.inBlock ?_
          refine At.then ?_
          refine WC.region ?_
          refine WL.y (Y.add_i rfl rfl) rfl ?_
          refine WL.y (Y.move rfl) rfl ?_
          refine WL.nil ?_
          obtain ⟨O193, hst194, ho195⟩ := OwnSl.rlb 1004 rfl hf99
          exact At.round (out97, w64 (x15 + 1), O193, v98) j28 (Nat.lt_succ_self _) ⟨next1 h hn30, (Stp.trans (Stp.up hst18 rfl) (Stp.trans (Stp.up hst51 rfl) (Stp.trans (Stp.up hst58 rfl) (Stp.trans (Stp.up hst69 rfl) (Stp.trans (Stp.up hst83 rfl) (Stp.trans (Stp.up hst92 rfl) (Stp.trans (Stp.up hst102 rfl) (Stp.up hst194 rfl)))))))), ho195⟩ (.cons rfl (.cons rfl (.cons rfl (.cons rfl .nil))))
    · refine WC.condF' rfl hc31 ?_
      refine WC.exit ?_
      refine At.thenX ?_
      refine At.loopX ?_
      obtain ⟨O196, hst197, ho198⟩ := OwnSl.rlb 1008 rfl hf14
      exact At.hitB (σ := (List UInt8 × Own × Value)) (out12, O196, v13) ⟨brk1 h hn30, (Stp.trans (Stp.up hst18 rfl) (Stp.up hst197 rfl)), ho198⟩ (.cons rfl .nil)
  · rintro ⟨out19, O22, v20⟩ wd23 ⟨rfl, hst24, hf21⟩
    replace h := flowK_go hk27
    try dsimp only at h hst24 hf21
    refine (show At _ _ _ [(4, v20)] _ from ?_)
    refine At.inBlockHit ?_
    refine At.then ?_
    refine WC.seq ?_
    refine WC.region ?_
    refine WL.y (Y.move rfl) rfl ?_
    refine WL.y (Y.assign rfl) rfl ?_
    refine WL.y (Y.assign rfl) rfl ?_
    refine WL.nil ?_
    refine At.then ?_
    refine WC.ret ?_
    obtain ⟨rfl, rfl⟩ := tup2 h
    have hs199 : Stp [11, 13, 1002, 1004] (Lg.O0 A) w O22 wd23 := (Stp.up hst24 rfl)
    exact At.res (.inl rfl) rfl (.tmp rfl (.tmp rfl .nil)) ⟨v20, rfl, (Stp.ext hs199 rfl rfl), (OwnSl.outF hf21 hs199 low0 rfl)⟩

theorem c_wire_GetVar {A : Nat → Prop} {a0 : List UInt8} {v0 : Value} {a1 : Int} {w : World} (hs0 : Sl Rep.b w A v0 a0) {r0 : UInt64} {r1 : Int} {r2 : Int} (h : wire_GetVar a0 a1 = some (r0, r1, r2)) : Rets Try.prog 18 [v0, vi a1] w (fun v w' => v = .tuple (List.toArray [vu r0, vi r1, vi r2]) ∧ Ext w w') := by
  unfold wire_GetVar at h
  refine Rets.enter Try.func18 rfl rfl ?_
  have hf11 : Sl Rep.b w (imm (Lg.O0 A)) v0 a0 := (Sl.start hs0)
  refine (show WC _ _ _ _ [(0, v0), (1, vi a1)] _ from ?_)
  refine WC.seq ?_
  refine WC.region ?_
  refine WL.y (Y.assign (v := vu 0) rfl) rfl ?_
  refine WL.y (Y.assign rfl) rfl ?_
  refine WL.y (Y.assign rfl) rfl ?_
  refine WL.nil ?_
  refine At.then ?_
  refine WC.seq ?_
  refine WC.seq ?_
  refine WC.region ?_
  refine WL.y (Y.move rfl) rfl ?_
  refine WL.y (Y.lss_i rfl rfl) rfl ?_
  refine WL.y (Y.move rfl) rfl ?_
  refine WL.cut 5 (σ := Unit) (fun _ w' => w = w') (fun _ => [(0, v0), (1, vi a1), (4, vu 0), (16, .bool ((decide (a1 < 0)) || (decide ((a0.length : Int) < a1))))]) ?_ ?_
  · refine WL.part 11 rfl (fun hE12 => ?_) (fun hE12 => ?_)
    · refine WL.gS rfl rfl rfl rfl ?_
      refine WL.gS rfl rfl rfl rfl ?_
      refine WL.gS rfl rfl rfl rfl ?_
      refine WL.gS rfl rfl rfl rfl ?_
      refine WL.y (Y.pick (b := true) rfl rfl) rfl ?_
      refine WL.ren (v' := .bool ((decide (a1 < 0)) || (decide ((a0.length : Int) < a1)))) 16 rfl (congrArg Value.bool (orT hE12)) ?_
      exact WL.nil (At.join () rfl (.cons rfl (.cons rfl (.cons rfl (.cons rfl .nil)))))
    · refine WL.ung rfl rfl ?_
      refine WL.y (Y.move rfl) rfl ?_
      refine WL.ung rfl rfl ?_
      refine WL.y (Y.move rfl) rfl ?_
      refine WL.ung rfl rfl ?_
      refine WL.y (Y.len ty25 rfl hf11) rfl ?_
      refine WL.ung rfl rfl ?_
      refine WL.y (Y.gtr_i rfl rfl) rfl ?_
      refine WL.y (Y.pick (b := false) rfl rfl) rfl ?_
      refine WL.ren (v' := .bool ((decide (a1 < 0)) || (decide ((a0.length : Int) < a1)))) 16 rfl (congrArg Value.bool (orF hE12)) ?_
      exact WL.nil (At.join () rfl (.cons rfl (.cons rfl (.cons rfl (.cons rfl .nil)))))
  · rintro _ _ rfl
    refine (show WL _ _ _ _ _ [(0, v0), (1, vi a1), (4, vu 0), (16, .bool ((decide (a1 < 0)) || (decide ((a0.length : Int) < a1))))] _ from ?_)
    refine WL.nil ?_
    refine At.then ?_
    rcases cnd h with ⟨hc13, h⟩ | ⟨hc13, h⟩
    · refine WC.condT' rfl hc13 ?_
      refine WC.seq ?_
      refine WC.region ?_
      refine WL.y (Y.assign (v := vu 0) rfl) rfl ?_
      refine WL.y (Y.assign rfl) rfl ?_
      refine WL.y (Y.assign rfl) rfl ?_
      refine WL.nil ?_
      refine At.then ?_
      refine WC.ret ?_
      refine At.thenR ?_
      obtain ⟨rfl, rfl, rfl⟩ := tup3 h
      have hs14 : Stp [] (Lg.O0 A) w (Lg.O0 A) w := (Stp.refl _ _ _)
      exact At.res (.inl rfl) rfl (.tmp rfl (.tmp rfl (.tmp rfl .nil))) ⟨rfl, (Stp.ext hs14 rfl rfl)⟩
    · refine WC.condF' rfl hc13 ?_
      refine WC.skip ?_
      refine At.then ?_
      refine WC.seq ?_
      refine WC.seq ?_
      refine WC.region ?_
      refine WL.y (Y.move rfl) rfl ?_
      refine WL.y (Y.move rfl) rfl ?_
      obtain ⟨t15, ht15, h⟩ := bnd h
      obtain ⟨v16, hY18, hf17⟩ := Sl.slice (ρ := [(17, v0), (18, vi a1)]) (x := (.tmp 17)) (lo := (some (.tmp 18))) (hi := none) ty25 ty5 rfl rfl rfl hf11 ht15
      refine WL.y (Y.sub (.cons rfl (.cons rfl .nil)) (hY18 _ _)) rfl ?_
      refine WL.y (Y.len ty25 rfl hf17) rfl ?_
      refine WL.y (Y.move rfl) rfl ?_
      refine WL.nil ?_
      refine At.then ?_
      refine WC.block ?_
      obtain ⟨p21, h, hk23⟩ := flow1 h
      obtain ⟨k22, h⟩ := loop_some h
      refine WC.joinB 0 (σ := Unit) (fun x w' => p21 = .go () ∧ w = w') (fun x => []) ?_ ?_
      · refine WC.loop (σ := (UInt64 × Int)) (fun x k w' => loopN k (wire_GetVar_lp1 t15) (x.1, x.2) = some p21 ∧ w = w') (fun x => [(4, vu x.1), (19, v16), (20, vi (t15.length : Int)), (21, vi x.2)]) (0, 0) k22 (.cons rfl (.cons rfl (.cons rfl (.cons rfl .nil)))) ⟨h, rfl⟩ ?_
        rintro ⟨v19, x20⟩ k22 _ ⟨h, rfl⟩
        obtain ⟨j24, q25, rfl, h, hn26⟩ := rnd1 h
        unfold wire_GetVar_lp1 at h
        try dsimp only at h
        refine (show WC _ _ _ _ [(4, vu v19), (19, v16), (20, vi (t15.length : Int)), (21, vi x20)] _ from ?_)
        refine WC.seq ?_
        refine WC.region ?_
        refine WL.y (Y.lss_i rfl rfl) rfl ?_
        refine WL.nil ?_
        refine At.then ?_
        refine WC.seq ?_
        rcases cnd h with ⟨hc27, h⟩ | ⟨hc27, h⟩
        · refine WC.condT' rfl hc27 ?_
          refine WC.skip ?_
          refine At.then ?_
          refine WC.seq ?_
          refine WC.block ?_
          refine WC.seq ?_
          refine WC.region ?_
          refine WL.y (Y.move rfl) rfl ?_
          obtain ⟨e28, he28, h⟩ := bnd h
          obtain ⟨b29, off37, cap36, cs35, hv30, hi31, hl32, hc33, hok34, hA38⟩ := Sl.at2 hf17 he28
          obtain rfl := hok34
          replace hc33 : CellsAt _ _ _ [vb e28] := hc33
          have hca39 := CAt.imm hc33 hA38
          refine WL.y (Y.indexAddr ty25 ty5 rfl hv30 rfl hi31 hl32) rfl ?_
          refine WL.y (Y.loadSc ty5 rfl rfl hca39.at_) rfl ?_
          refine WL.y (Y.assign rfl) rfl ?_
          refine WL.y (Y.assign rfl) rfl ?_
          refine WL.nil ?_
          refine At.then ?_
          refine WC.seq ?_
          refine WC.seq ?_
          refine WC.region ?_
          refine WL.y (Y.move rfl) rfl ?_
          refine WL.y (Y.eql_i rfl rfl) rfl ?_
          refine WL.y (Y.move rfl) rfl ?_
          refine WL.cut 3 (σ := Unit) (fun _ w' => w = w') (fun _ => [(4, vu v19), (7, vi x20), (8, vb e28), (19, v16), (20, vi (t15.length : Int)), (21, vi x20), (31, .bool ((decide (x20 = 9)) && (decide (1 < e28))))]) ?_ ?_
          · refine WL.part 28 rfl (fun hE40 => ?_) (fun hE40 => ?_)
            · refine WL.ung rfl rfl ?_
              refine WL.y (Y.move rfl) rfl ?_
              refine WL.ung rfl rfl ?_
              refine WL.y (Y.gtr_b (b := 1) rfl rfl) rfl ?_
              refine WL.y (Y.pick (b := true) rfl rfl) rfl ?_
              refine WL.ren (v' := .bool ((decide (x20 = 9)) && (decide (1 < e28)))) 31 rfl (congrArg Value.bool (andT hE40)) ?_
              exact WL.nil (At.join () rfl (.cons rfl (.cons rfl (.cons rfl (.cons rfl (.cons rfl (.cons rfl (.cons rfl .nil))))))))
            · refine WL.gS rfl rfl rfl rfl ?_
              refine WL.gS rfl rfl rfl rfl ?_
              refine WL.y (Y.pick (b := false) rfl rfl) rfl ?_
              refine WL.ren (v' := .bool ((decide (x20 = 9)) && (decide (1 < e28)))) 31 rfl (congrArg Value.bool (andF hE40)) ?_
              exact WL.nil (At.join () rfl (.cons rfl (.cons rfl (.cons rfl (.cons rfl (.cons rfl (.cons rfl (.cons rfl .nil))))))))
          · rintro _ _ rfl
            refine (show WL _ _ _ _ _ [(4, vu v19), (7, vi x20), (8, vb e28), (19, v16), (20, vi (t15.length : Int)), (21, vi x20), (31, .bool ((decide (x20 = 9)) && (decide (1 < e28))))] _ from ?_)
            refine WL.nil ?_
            refine At.then ?_
            rcases cnd h with ⟨hc41, h⟩ | ⟨hc41, h⟩
            · refine WC.condT' rfl hc41 ?_
              refine WC.seq ?_
              refine WC.region ?_
              refine WL.y (Y.assign (v := vu 0) rfl) rfl ?_
              refine WL.y (Y.assign rfl) rfl ?_
              refine WL.y (Y.assign rfl) rfl ?_
              refine WL.nil ?_
              refine At.then ?_
              refine WC.ret ?_
              refine At.thenR ?_
              refine At.inBlockR ?_
              refine At.thenR ?_
              refine At.loopR ?_
              have h := outr1 h hn26 hk23
              refine At.joinBR ?_
              refine At.inBlockR ?_
              refine At.thenR ?_
              obtain ⟨rfl, rfl, rfl⟩ := tup3 h
              have hs42 : Stp [] (Lg.O0 A) w (Lg.O0 A) w := (Stp.refl _ _ _)
              exact At.res (.inl rfl) rfl (.tmp rfl (.tmp rfl (.tmp rfl .nil))) ⟨rfl, (Stp.ext hs42 rfl rfl)⟩
            · refine WC.condF' rfl hc41 ?_
              refine WC.skip ?_
              refine At.then ?_
              refine WC.seq ?_
              refine WC.region ?_
              refine WL.y (Y.move rfl) rfl ?_
              refine WL.y (Y.move rfl) rfl ?_
              refine WL.y (Y.and_b (b := 127) rfl rfl) rfl ?_
              refine WL.y (Y.conv_bu ty5.u ty38.u rfl) rfl ?_
              refine WL.y (Y.move rfl) rfl ?_
              refine WL.y (Y.mul_i rfl rfl) rfl ?_
              refine WL.y (Y.conv_iu ty3.u ty58.u rfl) rfl ?_
              refine WL.y (Y.shl_uu rfl rfl) rfl ?_
              refine WL.y (Y.or_u rfl rfl) rfl ?_
              obtain ⟨v43, hv43, h⟩ := lt1 h
              refine WL.yE (Y.assign rfl) (congrArg vu hv43.symm) rfl ?_
              refine WL.nil ?_
              refine At.then ?_
              refine WC.seq ?_
              refine WC.region ?_
              refine WL.y (Y.move rfl) rfl ?_
              refine WL.y (Y.lss_b (b := 128) rfl rfl) rfl ?_
              refine WL.nil ?_
              refine At.then ?_
              rcases cnd h with ⟨hc44, h⟩ | ⟨hc44, h⟩
              · refine WC.condT' rfl hc44 ?_
                refine WC.seq ?_
                refine WC.seq ?_
                refine WC.region ?_
                refine WL.y (Y.move rfl) rfl ?_
                refine WL.y (Y.eql_b (b := 0) rfl rfl) rfl ?_
                refine WL.y (Y.move rfl) rfl ?_
                refine WL.cut 3 (σ := Unit) (fun _ w' => w = w') (fun _ => [(4, vu v43), (7, vi x20), (48, .bool ((decide (e28 = 0)) && (decide (0 < x20))))]) ?_ ?_
                · refine WL.part 45 rfl (fun hE45 => ?_) (fun hE45 => ?_)
                  · refine WL.ung rfl rfl ?_
                    refine WL.y (Y.move rfl) rfl ?_
                    refine WL.ung rfl rfl ?_
                    refine WL.y (Y.gtr_i rfl rfl) rfl ?_
                    refine WL.y (Y.pick (b := true) rfl rfl) rfl ?_
                    refine WL.ren (v' := .bool ((decide (e28 = 0)) && (decide (0 < x20)))) 48 rfl (congrArg Value.bool (andT hE45)) ?_
                    exact WL.nil (At.join () rfl (.cons rfl (.cons rfl (.cons rfl .nil))))
                  · refine WL.gS rfl rfl rfl rfl ?_
                    refine WL.gS rfl rfl rfl rfl ?_
                    refine WL.y (Y.pick (b := false) rfl rfl) rfl ?_
                    refine WL.ren (v' := .bool ((decide (e28 = 0)) && (decide (0 < x20)))) 48 rfl (congrArg Value.bool (andF hE45)) ?_
                    exact WL.nil (At.join () rfl (.cons rfl (.cons rfl (.cons rfl .nil))))
                · rintro _ _ rfl
                  refine (show WL _ _ _ _ _ [(4, vu v43), (7, vi x20), (48, .bool ((decide (e28 = 0)) && (decide (0 < x20))))] _ from ?_)
                  refine WL.nil ?_
                  refine At.then ?_
                  rcases cnd h with ⟨hc46, h⟩ | ⟨hc46, h⟩
                  · refine WC.condT' rfl hc46 ?_
                    refine WC.seq ?_
                    refine WC.region ?_
                    refine WL.y (Y.assign (v := vu 0) rfl) rfl ?_
                    refine WL.y (Y.assign rfl) rfl ?_
                    refine WL.y (Y.assign rfl) rfl ?_
                    refine WL.nil ?_
                    refine At.then ?_
                    refine WC.ret ?_
                    refine At.thenR ?_
                    refine At.inBlockR ?_
                    refine At.thenR ?_
                    refine At.loopR ?_
                    have h := outr1 h hn26 hk23
                    refine At.joinBR ?_
                    refine At.inBlockR ?_
                    refine At.thenR ?_
                    obtain ⟨rfl, rfl, rfl⟩ := tup3 h
                    have hs47 : Stp [] (Lg.O0 A) w (Lg.O0 A) w := (Stp.refl _ _ _)
                    exact At.res (.inl rfl) rfl (.tmp rfl (.tmp rfl (.tmp rfl .nil))) ⟨rfl, (Stp.ext hs47 rfl rfl)⟩
                  · refine WC.condF' rfl hc46 ?_
                    refine WC.skip ?_
                    refine At.then ?_
                    refine WC.seq ?_
                    refine WC.region ?_
                    refine WL.y (Y.move rfl) rfl ?_
                    refine WL.y (Y.move rfl) rfl ?_
                    refine WL.y (Y.add_i rfl rfl) rfl ?_
                    refine WL.y (Y.assign rfl) rfl ?_
                    obtain ⟨nv48, hnv48, h⟩ := lt1 h
                    refine WL.yE (Y.assign rfl) (congrArg vi hnv48.symm) rfl ?_
                    refine WL.y (Y.assign rfl) rfl ?_
                    refine WL.nil ?_
                    refine At.then ?_
                    refine WC.ret ?_
                    refine At.inBlockR ?_
                    refine At.thenR ?_
                    refine At.loopR ?_
                    have h := outr1 h hn26 hk23
                    refine At.joinBR ?_
                    refine At.inBlockR ?_
                    refine At.thenR ?_
                    obtain ⟨rfl, rfl, rfl⟩ := tup3 h
                    have hs49 : Stp [] (Lg.O0 A) w (Lg.O0 A) w := (Stp.refl _ _ _)
                    exact At.res (.inl rfl) rfl (.tmp rfl (.tmp rfl (.tmp rfl .nil))) ⟨rfl, (Stp.ext hs49 rfl rfl)⟩
              · refine WC.condF' rfl hc44 ?_
                refine WC.skip ?_
                refine At.inBlock ?_
                refine At.then ?_
                refine WC.region ?_
                refine WL.y (Y.add_i rfl rfl) rfl ?_
                refine WL.y (Y.move rfl) rfl ?_
                refine WL.nil ?_
                exact At.round (v43, w64 (x20 + 1)) j24 (Nat.lt_succ_self _) ⟨next1 h hn26, rfl⟩ (.cons rfl (.cons rfl (.cons rfl (.cons rfl .nil))))
        · refine WC.condF' rfl hc27 ?_
          refine WC.exit ?_
          refine At.thenX ?_
          refine At.loopX ?_
          exact At.hitB (σ := Unit) () ⟨brk1 h hn26, rfl⟩ .nil
      · rintro _ _ ⟨rfl, rfl⟩
        replace h := flowK_go hk23
        refine (show At _ _ _ [] _ from ?_)
        refine At.inBlockHit ?_
        refine At.then ?_
        refine WC.seq ?_
        refine WC.region ?_
        refine WL.y (Y.assign (v := vu 0) rfl) rfl ?_
        refine WL.y (Y.assign rfl) rfl ?_
        refine WL.y (Y.assign rfl) rfl ?_
        refine WL.nil ?_
        refine At.then ?_
        refine WC.ret ?_
        obtain ⟨rfl, rfl, rfl⟩ := tup3 h
        have hs50 : Stp [] (Lg.O0 A) w (Lg.O0 A) w := (Stp.refl _ _ _)
        exact At.res (.inl rfl) rfl (.tmp rfl (.tmp rfl (.tmp rfl .nil))) ⟨rfl, (Stp.ext hs50 rfl rfl)⟩

theorem c_bytes_Clone {A : Nat → Prop} {a0 : List UInt8} {v0 : Value} {w : World} (hs0 : Sl Rep.b w A v0 a0) {r0 : List UInt8} (h : bytes_Clone a0 = some r0) : Rets Try.prog 26 [v0] w (fun v w' => ∃ (u0 : Value), v = u0 ∧ Ext w w' ∧ RowF Rep.b 5 w w' u0 r0) := by
  unfold bytes_Clone at h
  refine Rets.enter Try.func26 rfl rfl ?_
  refine (show WC _ _ _ _ [(0, v0)] _ from ?_)
  refine WC.seq (WC.region (WL.y (Y.assign rfl) rfl (WL.nil (At.then ?_))))
  refine WC.seq (WC.seq (WC.region ?_))
  refine WL.y (Y.move rfl) rfl ?_
  rcases hs0.nilOr with ⟨rfl, rfl⟩ | ⟨q, n, c, rfl⟩
  · refine WL.y (Y.slnil (p := none) (n := 0) (c := 0) ty25.u rfl rfl) rfl (WL.nil (At.then ?_))
    refine WC.condT rfl (WC.seq (WC.region (WL.y (Y.assign rfl) rfl (WL.nil (At.then (WC.ret (At.thenR ?_)))))))
    have : r0 = [] := by simpa [app] using h.symm
    subst this
    exact At.res (.inl rfl) rfl (.tmp rfl .nil) ⟨_, rfl, Ext.refl w, RowF.nil⟩
  · refine WL.y (Y.slnil (p := some _) ty25.u rfl rfl) rfl (WL.nil (At.then ?_))
    refine WC.condF rfl (WC.skip (At.then ?_))
    refine WC.seq (WC.region ?_)
    have hs := hs0
    refine WL.buildSlice (O := Lg.O0 A) (R := Rep.b) (vals := []) 11 [] (xs := []) (by decide) ty25 ty5 (by decide) (by decide) (Fits.evalp rfl) (by kernel_rfl) rfl rfl rfl ?_
    intro v O1 w1 hst1 ho1
    refine WL.y (Y.move rfl) rfl ?_
    have hs1 := (Sl.start hs).mono (imm_st hst1 rfl rfl)
    refine WL.append (by decide) ty25 ty5 rfl (by decide) rfl rfl ho1 hs1.src h rfl ?_
    intro v2 O2 w2 hst2 ho2
    refine WL.y (Y.assign rfl) rfl (WL.nil (At.then (WC.ret ?_)))
    have hs9 : Stp [11] (Lg.O0 A) w O2 w2 := (Stp.trans (Stp.up hst1 rfl) hst2)
    exact At.res (.inl rfl) rfl (.tmp rfl .nil) ⟨_, rfl, Stp.ext hs9 rfl rfl, OwnSl.outF ho2 hs9 low0 rfl⟩

theorem c_wire_field {A : Nat → Prop} {a0 : List UInt8} {v0 : Value} {a1 : Int} {w : World} (hs0 : Sl Rep.b w A v0 a0) {r0 : api_Fld} {r1 : Int} {r2 : Int} (h : wire_field a0 a1 = some (r0, r1, r2)) : Rets Try.prog 24 [v0, vi a1] w (fun v w' => ∃ (u0_3 : Value), v = .tuple (List.toArray [.agg (List.toArray [vi r0.Num, vi r0.Type_, vu r0.V, u0_3]), vi r1, vi r2]) ∧ Ext w w' ∧ Sl Rep.b w' (fun k => w.heap.size ≤ k) u0_3 r0.B) := by
  unfold wire_field at h
  refine Rets.enter Try.func24 rfl rfl ?_
  have hf11 : Sl Rep.b w (imm (Lg.O0 A)) v0 a0 := (Sl.start hs0)
  refine (show WC _ _ _ _ [(0, v0), (1, vi a1)] _ from ?_)
  refine WC.seq ?_
  refine WC.region ?_
  refine WL.alloc (O := (Lg.O0 A)) 11 [vi 0, vi 0, vu 0, .slice none 0 0] ty40 rfl rfl ?_
  intro p13 O14 wd15 hst16 hb12
  refine WL.y (Y.assign rfl) rfl ?_
  refine WL.y (Y.assign rfl) rfl ?_
  refine WL.nil ?_
  refine At.then ?_
  refine WC.seq ?_
  refine WC.region ?_
  refine WL.y (Y.move rfl) rfl ?_
  refine WL.y (Y.move rfl) rfl ?_
  have hf17 := hf11.mono (imm_st hst16 rfl rfl)
  obtain ⟨⟨r18, r19, r20⟩, hp21, h⟩ := bnd h
  refine WL.call (vals := [v0, vi a1]) kok18 rfl rfl (c_wire_GetVar (A := fun _ => True) (Sl.all hf17) hp21) ?_
  rintro vr24 wd23 ⟨rfl, hm22⟩
  obtain ⟨O25, hold26, hnew27, hst28⟩ := adoptE O14 (fun k => 1) hm22
  refine WL.y (Y.move rfl) rfl ?_
  refine WL.y (Y.extract rfl rfl) rfl ?_
  refine WL.y (Y.extract rfl rfl) rfl ?_
  refine WL.y (Y.extract rfl rfl) rfl ?_
  refine WL.y (Y.assign rfl) rfl ?_
  refine WL.y (Y.assign rfl) rfl ?_
  refine WL.y (Y.assign rfl) rfl ?_
  refine WL.nil ?_
  refine At.then ?_
  refine WC.seq ?_
  refine WC.seq ?_
  refine WC.region ?_
  refine WL.y (Y.move rfl) rfl ?_
  refine WL.y (Y.neq_i rfl rfl) rfl ?_
  refine WL.nil ?_
  refine At.then ?_
  rcases cnd h with ⟨hc29, h⟩ | ⟨hc29, h⟩
  · refine WC.condT' rfl hc29 ?_
    refine WC.seq ?_
    refine WC.region ?_
    have hf30 := hb12.st hst28 rfl
    refine WL.y (Y.loadAg ty40 rfl rfl (hf30.cells 0 [vi 0, vi 0, vu 0, .slice none 0 0] rfl) rfl) rfl ?_
    refine WL.y (Y.move rfl) rfl ?_
    refine WL.store (v := .agg [vi 0, vi 0, vu 0, .slice none 0 0].toArray) (cells' := [vi 0, vi 0, vu 0, .slice none 0 0]) ty40 rfl rfl hf30 rfl (Nat.le_of_ble_eq_true rfl) rfl rfl ?_
    intro wd31 hst32 hb33
    refine WL.y (Y.assign rfl) rfl ?_
    refine WL.y (Y.assign rfl) rfl ?_
    refine WL.nil ?_
    refine At.then ?_
    refine WC.ret ?_
    refine At.thenR ?_
    obtain ⟨rfl, rfl, rfl⟩ := tup3 h
    have hs34 : Stp [11] (Lg.O0 A) w O25 wd31 := (Stp.trans (Stp.up hst16 rfl) (Stp.trans (Stp.up hst28 rfl) (Stp.up hst32 rfl)))
    exact At.res (.inl rfl) rfl (.cell rfl (hb33.runAg 0 [vi 0, vi 0, vu 0, .slice none 0 0] ty40 rfl rfl rfl) (.tmp rfl (.tmp rfl .nil))) ⟨.slice none 0 0, rfl, (Stp.ext hs34 rfl rfl), (Or.inl ⟨rfl, rfl⟩)⟩
  · refine WC.condF' rfl hc29 ?_
    refine WC.skip ?_
    refine At.then ?_
    refine WC.seq ?_
    refine WC.region ?_
    refine WL.y (Y.move rfl) rfl ?_
    refine WL.y (Y.move rfl) rfl ?_
    refine WL.y (Y.add_i rfl rfl) rfl ?_
    obtain ⟨at35, hat35, h⟩ := lt1 h
    refine WL.yE (Y.assign rfl) (congrArg vi hat35.symm) rfl ?_
    refine WL.nil ?_
    refine At.then ?_
    refine WC.seq ?_
    refine WC.seq ?_
    refine WC.region ?_
    refine WL.y (Y.move rfl) rfl ?_
    refine WL.y (Y.and_u (b := 7) rfl rfl) rfl ?_
    refine WL.y (Y.gtr_u (b := 2) rfl rfl) rfl ?_
    refine WL.nil ?_
    refine At.then ?_
    rcases cnd h with ⟨hc36, h⟩ | ⟨hc36, h⟩
    · refine WC.condT' rfl hc36 ?_
      refine WC.seq ?_
      refine WC.region ?_
      have hf37 := hb12.st hst28 rfl
      refine WL.y (Y.loadAg ty40 rfl rfl (hf37.cells 0 [vi 0, vi 0, vu 0, .slice none 0 0] rfl) rfl) rfl ?_
      refine WL.store (v := .agg [vi 0, vi 0, vu 0, .slice none 0 0].toArray) (cells' := [vi 0, vi 0, vu 0, .slice none 0 0]) ty40 rfl rfl hf37 rfl (Nat.le_of_ble_eq_true rfl) rfl rfl ?_
      intro wd38 hst39 hb40
      refine WL.y (Y.assign rfl) rfl ?_
      refine WL.y (Y.assign rfl) rfl ?_
      refine WL.nil ?_
      refine At.then ?_
      refine WC.ret ?_
      refine At.thenR ?_
      obtain ⟨rfl, rfl, rfl⟩ := tup3 h
      have hs41 : Stp [11] (Lg.O0 A) w O25 wd38 := (Stp.trans (Stp.up hst16 rfl) (Stp.trans (Stp.up hst28 rfl) (Stp.up hst39 rfl)))
      exact At.res (.inl rfl) rfl (.cell rfl (hb40.runAg 0 [vi 0, vi 0, vu 0, .slice none 0 0] ty40 rfl rfl rfl) (.tmp rfl (.tmp rfl .nil))) ⟨.slice none 0 0, rfl, (Stp.ext hs41 rfl rfl), (Or.inl ⟨rfl, rfl⟩)⟩
    · refine WC.condF' rfl hc36 ?_
      refine WC.skip ?_
      refine At.then ?_
      refine WC.seq ?_
      refine WC.seq ?_
      refine WC.region ?_
      refine WL.y (Y.move rfl) rfl ?_
      refine WL.y (Y.shr_uu (m := 3) rfl rfl) rfl ?_
      refine WL.y (Y.lss_u (b := 1) rfl rfl) rfl ?_
      refine WL.y (Y.move rfl) rfl ?_
      refine WL.cut 4 (σ := Unit) (fun _ w' => wd23 = w') (fun _ => [(0, v0), (1, vi at35), (4, .pointer (some ⟨p13, 0, none⟩)), (7, vu r18), (37, .bool ((decide (shrU r18 ((3 : UInt64).toNat) < 1)) || (decide (536870911 < shrU r18 ((3 : UInt64).toNat)))))]) ?_ ?_
      · refine WL.part 33 rfl (fun hE42 => ?_) (fun hE42 => ?_)
        · refine WL.gS rfl rfl rfl rfl ?_
          refine WL.gS rfl rfl rfl rfl ?_
          refine WL.gS rfl rfl rfl rfl ?_
          refine WL.y (Y.pick (b := true) rfl rfl) rfl ?_
          refine WL.ren (v' := .bool ((decide (shrU r18 ((3 : UInt64).toNat) < 1)) || (decide (536870911 < shrU r18 ((3 : UInt64).toNat))))) 37 rfl (congrArg Value.bool (orT hE42)) ?_
          exact WL.nil (At.join () rfl (.cons rfl (.cons rfl (.cons rfl (.cons rfl (.cons rfl .nil))))))
        · refine WL.ung rfl rfl ?_
          refine WL.y (Y.move rfl) rfl ?_
          refine WL.ung rfl rfl ?_
          refine WL.y (Y.shr_uu (m := 3) rfl rfl) rfl ?_
          refine WL.ung rfl rfl ?_
          refine WL.y (Y.gtr_u (b := 536870911) rfl rfl) rfl ?_
          refine WL.y (Y.pick (b := false) rfl rfl) rfl ?_
          refine WL.ren (v' := .bool ((decide (shrU r18 ((3 : UInt64).toNat) < 1)) || (decide (536870911 < shrU r18 ((3 : UInt64).toNat))))) 37 rfl (congrArg Value.bool (orF hE42)) ?_
          exact WL.nil (At.join () rfl (.cons rfl (.cons rfl (.cons rfl (.cons rfl (.cons rfl .nil))))))
      · rintro _ _ rfl
        refine (show WL _ _ _ _ _ [(0, v0), (1, vi at35), (4, .pointer (some ⟨p13, 0, none⟩)), (7, vu r18), (37, .bool ((decide (shrU r18 ((3 : UInt64).toNat) < 1)) || (decide (536870911 < shrU r18 ((3 : UInt64).toNat)))))] _ from ?_)
        refine WL.nil ?_
        refine At.then ?_
        rcases cnd h with ⟨hc43, h⟩ | ⟨hc43, h⟩
        · refine WC.condT' rfl hc43 ?_
          refine WC.seq ?_
          refine WC.region ?_
          have hf44 := hb12.st hst28 rfl
          refine WL.y (Y.loadAg ty40 rfl rfl (hf44.cells 0 [vi 0, vi 0, vu 0, .slice none 0 0] rfl) rfl) rfl ?_
          refine WL.store (v := .agg [vi 0, vi 0, vu 0, .slice none 0 0].toArray) (cells' := [vi 0, vi 0, vu 0, .slice none 0 0]) ty40 rfl rfl hf44 rfl (Nat.le_of_ble_eq_true rfl) rfl rfl ?_
          intro wd45 hst46 hb47
          refine WL.y (Y.assign rfl) rfl ?_
          refine WL.y (Y.assign rfl) rfl ?_
          refine WL.nil ?_
          refine At.then ?_
          refine WC.ret ?_
          refine At.thenR ?_
          obtain ⟨rfl, rfl, rfl⟩ := tup3 h
          have hs48 : Stp [11] (Lg.O0 A) w O25 wd45 := (Stp.trans (Stp.up hst16 rfl) (Stp.trans (Stp.up hst28 rfl) (Stp.up hst46 rfl)))
          exact At.res (.inl rfl) rfl (.cell rfl (hb47.runAg 0 [vi 0, vi 0, vu 0, .slice none 0 0] ty40 rfl rfl rfl) (.tmp rfl (.tmp rfl .nil))) ⟨.slice none 0 0, rfl, (Stp.ext hs48 rfl rfl), (Or.inl ⟨rfl, rfl⟩)⟩
        · refine WC.condF' rfl hc43 ?_
          refine WC.skip ?_
          refine At.then ?_
          refine WC.seq ?_
          refine WC.region ?_
          refine WL.y (Y.move rfl) rfl ?_
          refine WL.y (Y.shr_uu (m := 3) rfl rfl) rfl ?_
          refine WL.y (Y.conv_ui ty38.u ty3.u rfl) rfl ?_
          refine WL.y (Y.move rfl) rfl ?_
          refine WL.y (Y.and_u (b := 7) rfl rfl) rfl ?_
          refine WL.y (Y.conv_ui ty38.u ty3.u rfl) rfl ?_
          refine WL.y (Y.fieldAddr fo40_0 rfl) rfl ?_
          obtain ⟨t49, ht49, h⟩ := lt1 h
          refine WL.ren 41 rfl (congrArg vi ht49.symm) ?_
          have hf50 := hb12.st hst28 rfl
          refine WL.store (v := vi t49) (cells' := [vi t49, vi 0, vu 0, .slice none 0 0]) ty3 rfl rfl hf50 rfl (Nat.le_of_ble_eq_true rfl) rfl rfl ?_
          intro wd51 hst52 hb53
          refine WL.y (Y.fieldAddr fo40_1 rfl) rfl ?_
          obtain ⟨t54, ht54, h⟩ := lt1 h
          refine WL.ren 44 rfl (congrArg vi ht54.symm) ?_
          refine WL.store (v := vi t54) (cells' := [vi t49, vi t54, vu 0, .slice none 0 0]) ty3 rfl rfl hb53 rfl (Nat.le_of_ble_eq_true rfl) rfl rfl ?_
          intro wd55 hst56 hb57
          refine WL.nil ?_
          refine At.then ?_
          refine WC.seq ?_
          refine WC.seq ?_
          refine WC.region ?_
          refine WL.y (Y.fieldAddr fo40_1 rfl) rfl ?_
          refine WL.y (Y.loadSc ty3 rfl rfl (hb57.cell 1 _ rfl)) rfl ?_
          refine WL.y (Y.eql_i rfl rfl) rfl ?_
          refine WL.nil ?_
          refine At.then ?_
          rcases cnd h with ⟨hc58, h⟩ | ⟨hc58, h⟩
          · refine WC.condT' rfl hc58 ?_
            refine WC.seq ?_
            refine WC.seq ?_
            refine WC.region ?_
            refine WL.y (Y.move rfl) rfl ?_
            have hf59 := hf17.mono (imm_st hst28 rfl rfl)
            have hf60 := hf59.mono (imm_st hst52 rfl rfl)
            have hf61 := hf60.mono (imm_st hst56 rfl rfl)
            refine WL.y (Y.len ty25 rfl hf61) rfl ?_
            refine WL.y (Y.move rfl) rfl ?_
            refine WL.y (Y.sub_i rfl rfl) rfl ?_
            refine WL.y (Y.lss_i rfl rfl) rfl ?_
            refine WL.nil ?_
            refine At.then ?_
            rcases cnd h with ⟨hc62, h⟩ | ⟨hc62, h⟩
            · refine WC.condT' rfl hc62 ?_
              refine WC.seq ?_
              refine WC.region ?_
              refine WL.y (Y.loadAg ty40 rfl rfl (hb57.cells 0 [vi t49, vi t54, vu 0, .slice none 0 0] rfl) rfl) rfl ?_
              refine WL.store (v := .agg [vi t49, vi t54, vu 0, .slice none 0 0].toArray) (cells' := [vi t49, vi t54, vu 0, .slice none 0 0]) ty40 rfl rfl hb57 rfl (Nat.le_of_ble_eq_true rfl) rfl rfl ?_
              intro wd63 hst64 hb65
              refine WL.y (Y.assign rfl) rfl ?_
              refine WL.y (Y.assign rfl) rfl ?_
              refine WL.nil ?_
              refine At.then ?_
              refine WC.ret ?_
              refine At.thenR ?_
              refine At.thenR ?_
              obtain ⟨rfl, rfl, rfl⟩ := tup3 h
              have hs66 : Stp [11] (Lg.O0 A) w O25 wd63 := (Stp.trans (Stp.up hst16 rfl) (Stp.trans (Stp.up hst28 rfl) (Stp.trans (Stp.up hst52 rfl) (Stp.trans (Stp.up hst56 rfl) (Stp.up hst64 rfl)))))
              exact At.res (.inl rfl) rfl (.cell rfl (hb65.runAg 0 [vi t49, vi t54, vu 0, .slice none 0 0] ty40 rfl rfl rfl) (.tmp rfl (.tmp rfl .nil))) ⟨.slice none 0 0, rfl, (Stp.ext hs66 rfl rfl), (Or.inl ⟨rfl, rfl⟩)⟩
            · refine WC.condF' rfl hc62 ?_
              refine WC.skip ?_
              refine At.then ?_
              refine WC.seq ?_
              refine WC.seq ?_
              refine WC.region ?_
              refine WL.y (Y.move rfl) rfl ?_
              refine WL.y (Y.move rfl) rfl ?_
              refine WL.y (Y.move rfl) rfl ?_
              refine WL.y (Y.add_i rfl rfl) rfl ?_
              obtain ⟨t67, ht67, h⟩ := bnd h
              obtain ⟨v68, hY70, hf69⟩ := Sl.slice (ρ := [(56, v0), (57, vi at35), (59, vi (w64 (at35 + 8)))]) (x := (.tmp 56)) (lo := (some (.tmp 57))) (hi := (some (.tmp 59))) ty25 ty5 rfl rfl rfl hf61 ht67
              refine WL.y (Y.sub (.cons rfl (.cons rfl (.cons rfl .nil))) (hY70 _ _)) rfl ?_
              refine WL.y (Y.len ty25 rfl hf69) rfl ?_
              refine WL.y (Y.move rfl) rfl ?_
              refine WL.nil ?_
              refine At.then ?_
              obtain ⟨p76, h, hk77⟩ := bnd h
              refine WC.join (σ := (UInt64 × Own)) (fun x w' => x.1 = p76 ∧ Stp [11] O25 wd55 x.2 w' ∧ Blk 11 x.2 w' p13 40 [vi t49, vi t54, vu x.1, .slice none 0 0]) (fun x => [(1, vi at35), (4, .pointer (some ⟨p13, 0, none⟩))]) ?_ ?_
              · refine WC.block ?_
                obtain ⟨p89, h, hk91⟩ := flow1 h
                obtain ⟨k90, h⟩ := loop_some h
                refine WC.joinB 0 (σ := (UInt64 × Own)) (fun x w' => p89 = .go x.1 ∧ Stp [11] O25 wd55 x.2 w' ∧ Blk 11 x.2 w' p13 40 [vi t49, vi t54, vu x.1, .slice none 0 0]) (fun x => [(1, vi at35), (4, .pointer (some ⟨p13, 0, none⟩))]) ?_ ?_
                · refine WC.loop (σ := (UInt64 × Int × Own)) (fun x k w' => loopN k (wire_field_lp1 t67) (x.1, x.2.1) = some p89 ∧ Stp [11] O25 wd55 x.2.2 w' ∧ Blk 11 x.2.2 w' p13 40 [vi t49, vi t54, vu x.1, .slice none 0 0]) (fun x => [(1, vi at35), (4, .pointer (some ⟨p13, 0, none⟩)), (60, v68), (61, vi (t67.length : Int)), (62, vi x.2.1)]) (0, 0, O25) k90 (.cons rfl (.cons rfl (.cons rfl (.cons rfl (.cons rfl .nil))))) ⟨h, (Stp.refl _ _ _), hb57⟩ ?_
                  rintro ⟨c79, x80, O81⟩ k90 wd82 ⟨h, hst83, hb78⟩
                  obtain ⟨j92, q93, rfl, h, hn94⟩ := rnd1 h
                  unfold wire_field_lp1 at h
                  try dsimp only at h hst83 hb78
                  refine (show WC _ _ _ _ [(1, vi at35), (4, .pointer (some ⟨p13, 0, none⟩)), (60, v68), (61, vi (t67.length : Int)), (62, vi x80)] _ from ?_)
                  refine WC.seq ?_
                  refine WC.region ?_
                  refine WL.y (Y.lss_i rfl rfl) rfl ?_
                  refine WL.nil ?_
                  refine At.then ?_
                  refine WC.seq ?_
                  rcases cnd h with ⟨hc95, h⟩ | ⟨hc95, h⟩
                  · refine WC.condT' rfl hc95 ?_
                    refine WC.skip ?_
                    refine At.then ?_
                    refine WC.seq ?_
                    refine WC.block ?_
                    refine WC.seq ?_
                    refine WC.region ?_
                    refine WL.y (Y.move rfl) rfl ?_
                    obtain ⟨e96, he96, h⟩ := bnd h
                    have hf105 := hf69.mono (imm_st hst83 rfl rfl)
                    obtain ⟨b97, off106, cap104, cs103, hv98, hi99, hl100, hc101, hok102, hA107⟩ := Sl.at2 hf105 he96
                    obtain rfl := hok102
                    replace hc101 : CellsAt _ _ _ [vb e96] := hc101
                    have hca108 := CAt.imm hc101 hA107
                    refine WL.y (Y.indexAddr ty25 ty5 rfl hv98 rfl hi99 hl100) rfl ?_
                    refine WL.y (Y.loadSc ty5 rfl rfl hca108.at_) rfl ?_
                    refine WL.y (Y.assign rfl) rfl ?_
                    refine WL.y (Y.assign rfl) rfl ?_
                    refine WL.nil ?_
                    refine At.then ?_
                    refine WC.region ?_
                    refine WL.y (Y.fieldAddr fo40_2 rfl) rfl ?_
                    refine WL.y (Y.loadSc ty38 rfl rfl (hb78.cell 2 _ rfl)) rfl ?_
                    refine WL.y (Y.move rfl) rfl ?_
                    refine WL.y (Y.conv_bu ty5.u ty38.u rfl) rfl ?_
                    refine WL.y (Y.move rfl) rfl ?_
                    refine WL.y (Y.mul_i rfl rfl) rfl ?_
                    refine WL.y (Y.conv_iu ty3.u ty58.u rfl) rfl ?_
                    refine WL.y (Y.shl_uu rfl rfl) rfl ?_
                    refine WL.y (Y.or_u rfl rfl) rfl ?_
                    refine WL.y (Y.fieldAddr fo40_2 rfl) rfl ?_
                    obtain ⟨t109, ht109, h⟩ := lt1 h
                    refine WL.ren 75 rfl (congrArg vu ht109.symm) ?_
                    refine WL.store (v := vu t109) (cells' := [vi t49, vi t54, vu t109, .slice none 0 0]) ty38 rfl rfl hb78 rfl (Nat.le_of_ble_eq_true rfl) rfl rfl ?_
                    intro wd110 hst111 hb112
                    refine WL.nil ?_
                    refine At.inBlock ?_
                    refine At.then ?_
                    refine WC.region ?_
                    refine WL.y (Y.add_i rfl rfl) rfl ?_
                    refine WL.y (Y.move rfl) rfl ?_
                    refine WL.nil ?_
                    exact At.round (t109, w64 (x80 + 1), O81) j92 (Nat.lt_succ_self _) ⟨next1 h hn94, (Stp.trans (Stp.up hst83 rfl) (Stp.up hst111 rfl)), hb112⟩ (.cons rfl (.cons rfl (.cons rfl (.cons rfl (.cons rfl .nil)))))
                  · refine WC.condF' rfl hc95 ?_
                    refine WC.exit ?_
                    refine At.thenX ?_
                    refine At.loopX ?_
                    exact At.hitB (σ := (UInt64 × Own)) (c79, O81) ⟨brk1 h hn94, (Stp.up hst83 rfl), hb78⟩ (.cons rfl (.cons rfl .nil))
                · rintro ⟨c85, O86⟩ wd87 ⟨rfl, hst88, hb84⟩
                  replace h := flowK_go hk91
                  try dsimp only at h hst88 hb84
                  refine (show At _ _ _ [(1, vi at35), (4, .pointer (some ⟨p13, 0, none⟩))] _ from ?_)
                  refine At.inBlockHit ?_
                  exact At.join (σ := (UInt64 × Own)) (c85, O86) ⟨some1 h, (Stp.up hst88 rfl), hb84⟩ (.cons rfl (.cons rfl .nil))
              · rintro ⟨c72, O73⟩ wd74 ⟨rfl, hst75, hb71⟩
                replace h := hk77
                try dsimp only at h hst75 hb71
                refine (show At _ _ _ [(1, vi at35), (4, .pointer (some ⟨p13, 0, none⟩))] _ from ?_)
                refine At.then ?_
                refine WC.seq ?_
                refine WC.region ?_
                refine WL.y (Y.loadAg ty40 rfl rfl (hb71.cells 0 [vi t49, vi t54, vu c72, .slice none 0 0] rfl) rfl) rfl ?_
                refine WL.y (Y.move rfl) rfl ?_
                refine WL.y (Y.add_i rfl rfl) rfl ?_
                refine WL.store (v := .agg [vi t49, vi t54, vu c72, .slice none 0 0].toArray) (cells' := [vi t49, vi t54, vu c72, .slice none 0 0]) ty40 rfl rfl hb71 rfl (Nat.le_of_ble_eq_true rfl) rfl rfl ?_
                intro wd113 hst114 hb115
                obtain ⟨next116, hnext116, h⟩ := lt1 h
                refine WL.yE (Y.assign rfl) (congrArg vi hnext116.symm) rfl ?_
                refine WL.y (Y.assign rfl) rfl ?_
                refine WL.nil ?_
                refine At.then ?_
                refine WC.ret ?_
                refine At.thenR ?_
                obtain ⟨rfl, rfl, rfl⟩ := tup3 h
                have hs117 : Stp [11] (Lg.O0 A) w O73 wd113 := (Stp.trans (Stp.up hst16 rfl) (Stp.trans (Stp.up hst28 rfl) (Stp.trans (Stp.up hst52 rfl) (Stp.trans (Stp.up hst56 rfl) (Stp.trans (Stp.up hst75 rfl) (Stp.up hst114 rfl))))))
                exact At.res (.inl rfl) rfl (.cell rfl (hb115.runAg 0 [vi t49, vi t54, vu c72, .slice none 0 0] ty40 rfl rfl rfl) (.tmp rfl (.tmp rfl .nil))) ⟨.slice none 0 0, rfl, (Stp.ext hs117 rfl rfl), (Or.inl ⟨rfl, rfl⟩)⟩
          · refine WC.condF' rfl hc58 ?_
            refine WC.skip ?_
            refine At.then ?_
            refine WC.seq ?_
            refine WC.region ?_
            refine WL.y (Y.move rfl) rfl ?_
            refine WL.y (Y.move rfl) rfl ?_
            have hf118 := hf17.mono (imm_st hst28 rfl rfl)
            have hf119 := hf118.mono (imm_st hst52 rfl rfl)
            have hf120 := hf119.mono (imm_st hst56 rfl rfl)
            obtain ⟨⟨r121, r122, r123⟩, hp124, h⟩ := bnd h
            refine WL.call (vals := [v0, vi at35]) kok18 rfl rfl (c_wire_GetVar (A := fun _ => True) (Sl.all hf120) hp124) ?_
            rintro vr127 wd126 ⟨rfl, hm125⟩
            obtain ⟨O128, hold129, hnew130, hst131⟩ := adoptE O25 (fun k => 1) hm125
            refine WL.y (Y.move rfl) rfl ?_
            refine WL.y (Y.extract rfl rfl) rfl ?_
            refine WL.y (Y.extract rfl rfl) rfl ?_
            refine WL.y (Y.extract rfl rfl) rfl ?_
            refine WL.y (Y.assign rfl) rfl ?_
            refine WL.y (Y.assign rfl) rfl ?_
            refine WL.y (Y.assign rfl) rfl ?_
            refine WL.nil ?_
            refine At.then ?_
            refine WC.seq ?_
            refine WC.seq ?_
            refine WC.region ?_
            refine WL.y (Y.move rfl) rfl ?_
            refine WL.y (Y.neq_i rfl rfl) rfl ?_
            refine WL.nil ?_
            refine At.then ?_
            rcases cnd h with ⟨hc132, h⟩ | ⟨hc132, h⟩
            · refine WC.condT' rfl hc132 ?_
              refine WC.seq ?_
              refine WC.region ?_
              have hf133 := hb57.st hst131 rfl
              refine WL.y (Y.loadAg ty40 rfl rfl (hf133.cells 0 [vi t49, vi t54, vu 0, .slice none 0 0] rfl) rfl) rfl ?_
              refine WL.y (Y.move rfl) rfl ?_
              refine WL.store (v := .agg [vi t49, vi t54, vu 0, .slice none 0 0].toArray) (cells' := [vi t49, vi t54, vu 0, .slice none 0 0]) ty40 rfl rfl hf133 rfl (Nat.le_of_ble_eq_true rfl) rfl rfl ?_
              intro wd134 hst135 hb136
              refine WL.y (Y.assign rfl) rfl ?_
              refine WL.y (Y.assign rfl) rfl ?_
              refine WL.nil ?_
              refine At.then ?_
              refine WC.ret ?_
              refine At.thenR ?_
              obtain ⟨rfl, rfl, rfl⟩ := tup3 h
              have hs137 : Stp [11] (Lg.O0 A) w O128 wd134 := (Stp.trans (Stp.up hst16 rfl) (Stp.trans (Stp.up hst28 rfl) (Stp.trans (Stp.up hst52 rfl) (Stp.trans (Stp.up hst56 rfl) (Stp.trans (Stp.up hst131 rfl) (Stp.up hst135 rfl))))))
              exact At.res (.inl rfl) rfl (.cell rfl (hb136.runAg 0 [vi t49, vi t54, vu 0, .slice none 0 0] ty40 rfl rfl rfl) (.tmp rfl (.tmp rfl .nil))) ⟨.slice none 0 0, rfl, (Stp.ext hs137 rfl rfl), (Or.inl ⟨rfl, rfl⟩)⟩
            · refine WC.condF' rfl hc132 ?_
              refine WC.skip ?_
              refine At.then ?_
              refine WC.seq ?_
              refine WC.region ?_
              refine WL.y (Y.move rfl) rfl ?_
              refine WL.y (Y.move rfl) rfl ?_
              refine WL.y (Y.add_i rfl rfl) rfl ?_
              obtain ⟨at138, hat138, h⟩ := lt1 h
              refine WL.yE (Y.assign rfl) (congrArg vi hat138.symm) rfl ?_
              refine WL.nil ?_
              refine At.then ?_
              refine WC.seq ?_
              refine WC.seq ?_
              refine WC.region ?_
              refine WL.y (Y.fieldAddr fo40_1 rfl) rfl ?_
              have hf139 := hb57.st hst131 rfl
              refine WL.y (Y.loadSc ty3 rfl rfl (hf139.cell 1 _ rfl)) rfl ?_
              refine WL.y (Y.eql_i rfl rfl) rfl ?_
              refine WL.nil ?_
              refine At.then ?_
              rcases cnd h with ⟨hc140, h⟩ | ⟨hc140, h⟩
              · refine WC.condT' rfl hc140 ?_
                refine WC.seq ?_
                refine WC.region ?_
                refine WL.y (Y.move rfl) rfl ?_
                refine WL.y (Y.fieldAddr fo40_2 rfl) rfl ?_
                refine WL.store (v := vu r121) (cells' := [vi t49, vi t54, vu r121, .slice none 0 0]) ty38 rfl rfl hf139 rfl (Nat.le_of_ble_eq_true rfl) rfl rfl ?_
                intro wd141 hst142 hb143
                refine WL.nil ?_
                refine At.then ?_
                refine WC.seq ?_
                refine WC.region ?_
                refine WL.y (Y.loadAg ty40 rfl rfl (hb143.cells 0 [vi t49, vi t54, vu r121, .slice none 0 0] rfl) rfl) rfl ?_
                refine WL.y (Y.move rfl) rfl ?_
                refine WL.store (v := .agg [vi t49, vi t54, vu r121, .slice none 0 0].toArray) (cells' := [vi t49, vi t54, vu r121, .slice none 0 0]) ty40 rfl rfl hb143 rfl (Nat.le_of_ble_eq_true rfl) rfl rfl ?_
                intro wd144 hst145 hb146
                refine WL.y (Y.assign rfl) rfl ?_
                refine WL.y (Y.assign rfl) rfl ?_
                refine WL.nil ?_
                refine At.then ?_
                refine WC.ret ?_
                refine At.thenR ?_
                obtain ⟨rfl, rfl, rfl⟩ := tup3 h
                have hs147 : Stp [11] (Lg.O0 A) w O128 wd144 := (Stp.trans (Stp.up hst16 rfl) (Stp.trans (Stp.up hst28 rfl) (Stp.trans (Stp.up hst52 rfl) (Stp.trans (Stp.up hst56 rfl) (Stp.trans (Stp.up hst131 rfl) (Stp.trans (Stp.up hst142 rfl) (Stp.up hst145 rfl)))))))
                exact At.res (.inl rfl) rfl (.cell rfl (hb146.runAg 0 [vi t49, vi t54, vu r121, .slice none 0 0] ty40 rfl rfl rfl) (.tmp rfl (.tmp rfl .nil))) ⟨.slice none 0 0, rfl, (Stp.ext hs147 rfl rfl), (Or.inl ⟨rfl, rfl⟩)⟩
              · refine WC.condF' rfl hc140 ?_
                refine WC.skip ?_
                refine At.then ?_
                refine WC.seq ?_
                refine WC.seq ?_
                refine WC.region ?_
                refine WL.y (Y.move rfl) rfl ?_
                refine WL.y (Y.move rfl) rfl ?_
                have hf148 := hf120.mono (imm_st hst131 rfl rfl)
                refine WL.y (Y.len ty25 rfl hf148) rfl ?_
                refine WL.y (Y.move rfl) rfl ?_
                refine WL.y (Y.sub_i rfl rfl) rfl ?_
                refine WL.y (Y.conv_iu ty3.u ty38.u rfl) rfl ?_
                refine WL.y (Y.gtr_u rfl rfl) rfl ?_
                refine WL.nil ?_
                refine At.then ?_
                rcases cnd h with ⟨hc149, h⟩ | ⟨hc149, h⟩
                · refine WC.condT' rfl hc149 ?_
                  refine WC.seq ?_
                  refine WC.region ?_
                  refine WL.y (Y.loadAg ty40 rfl rfl (hf139.cells 0 [vi t49, vi t54, vu 0, .slice none 0 0] rfl) rfl) rfl ?_
                  refine WL.store (v := .agg [vi t49, vi t54, vu 0, .slice none 0 0].toArray) (cells' := [vi t49, vi t54, vu 0, .slice none 0 0]) ty40 rfl rfl hf139 rfl (Nat.le_of_ble_eq_true rfl) rfl rfl ?_
                  intro wd150 hst151 hb152
                  refine WL.y (Y.assign rfl) rfl ?_
                  refine WL.y (Y.assign rfl) rfl ?_
                  refine WL.nil ?_
                  refine At.then ?_
                  refine WC.ret ?_
                  refine At.thenR ?_
                  obtain ⟨rfl, rfl, rfl⟩ := tup3 h
                  have hs153 : Stp [11] (Lg.O0 A) w O128 wd150 := (Stp.trans (Stp.up hst16 rfl) (Stp.trans (Stp.up hst28 rfl) (Stp.trans (Stp.up hst52 rfl) (Stp.trans (Stp.up hst56 rfl) (Stp.trans (Stp.up hst131 rfl) (Stp.up hst151 rfl))))))
                  exact At.res (.inl rfl) rfl (.cell rfl (hb152.runAg 0 [vi t49, vi t54, vu 0, .slice none 0 0] ty40 rfl rfl rfl) (.tmp rfl (.tmp rfl .nil))) ⟨.slice none 0 0, rfl, (Stp.ext hs153 rfl rfl), (Or.inl ⟨rfl, rfl⟩)⟩
                · refine WC.condF' rfl hc149 ?_
                  refine WC.skip ?_
                  refine At.then ?_
                  refine WC.seq ?_
                  refine WC.region ?_
                  refine WL.y (Y.move rfl) rfl ?_
                  refine WL.y (Y.move rfl) rfl ?_
                  refine WL.y (Y.move rfl) rfl ?_
                  refine WL.y (Y.move rfl) rfl ?_
                  refine WL.y (Y.conv_ui ty38.u ty3.u rfl) rfl ?_
                  refine WL.y (Y.add_i rfl rfl) rfl ?_
                  obtain ⟨t154, ht154, h⟩ := bnd h
                  obtain ⟨v155, hY157, hf156⟩ := Sl.slice (ρ := [(110, v0), (111, vi at138), (115, vi (w64 (at138 + (w64 (r121.toNat : Int)))))]) (x := (.tmp 110)) (lo := (some (.tmp 111))) (hi := (some (.tmp 115))) ty25 ty5 rfl rfl rfl hf148 ht154
                  refine WL.y (Y.sub (.cons rfl (.cons rfl (.cons rfl .nil))) (hY157 _ _)) rfl ?_
                  obtain ⟨r158, hp159, h⟩ := bnd h
                  refine WL.call (vals := [v155]) kok26 rfl rfl (c_bytes_Clone (A := fun _ => True) (Sl.all hf156) hp159) ?_
                  rintro vr164 wd163 ⟨_, rfl, hm162, f161⟩
                  obtain ⟨O165, hold166, hnew167, hst168⟩ := adoptE O128 (fun k => if Value.ownBlock vr164 = some k then 12 else 1) hm162
                  have hf169 : OwnSl 12 Rep.b 5 O165 wd163 vr164 r158 := RowF.adopt 12 Flat.b f161 hnew167 (fun k hk => if_pos hk)
                  refine WL.y (Y.fieldAddr fo40_3 rfl) rfl ?_
                  have hh173 := h
                  obtain ⟨p170, m171, c172, rfl⟩ := hf169.shape
                  have h := hh173
                  have hf174 := hf139.st hst168 rfl
                  refine WL.store (v := (.slice p170 m171 c172)) (cells' := [vi t49, vi t54, vu 0, (.slice p170 m171 c172)]) ty25 rfl rfl hf174 rfl (Nat.le_of_ble_eq_true rfl) rfl rfl ?_
                  intro wd175 hst176 hb177
                  refine WL.nil ?_
                  refine At.then ?_
                  refine WC.seq ?_
                  refine WC.region ?_
                  refine WL.y (Y.loadAg ty40 rfl rfl (hb177.cells 0 [vi t49, vi t54, vu 0, (.slice p170 m171 c172)] rfl) rfl) rfl ?_
                  refine WL.y (Y.move rfl) rfl ?_
                  refine WL.y (Y.move rfl) rfl ?_
                  refine WL.y (Y.conv_ui ty38.u ty3.u rfl) rfl ?_
                  refine WL.y (Y.add_i rfl rfl) rfl ?_
                  refine WL.store (v := .agg [vi t49, vi t54, vu 0, (.slice p170 m171 c172)].toArray) (cells' := [vi t49, vi t54, vu 0, (.slice p170 m171 c172)]) ty40 rfl rfl hb177 rfl (Nat.le_of_ble_eq_true rfl) rfl rfl ?_
                  intro wd178 hst179 hb180
                  obtain ⟨next181, hnext181, h⟩ := lt1 h
                  refine WL.yE (Y.assign rfl) (congrArg vi hnext181.symm) rfl ?_
                  refine WL.y (Y.assign rfl) rfl ?_
                  refine WL.nil ?_
                  refine At.then ?_
                  refine WC.ret ?_
                  obtain ⟨rfl, rfl, rfl⟩ := tup3 h
                  have hf182 := hf169.st hst176 rfl rfl rfl
                  have hf183 := hf182.st hst179 rfl rfl rfl
                  obtain ⟨O184, hst185, hf186⟩ := OwnSl.giveF rfl Flat.b hf183
                  have hs187 : Stp [11, 12] (Lg.O0 A) w O184 wd178 := (Stp.trans (Stp.up hst16 rfl) (Stp.trans (Stp.up hst28 rfl) (Stp.trans (Stp.up hst52 rfl) (Stp.trans (Stp.up hst56 rfl) (Stp.trans (Stp.up hst131 rfl) (Stp.trans (Stp.up hst168 rfl) (Stp.trans (Stp.up hst176 rfl) (Stp.trans (Stp.up hst179 rfl) (Stp.up hst185 rfl)))))))))
                  have hf188 := hb180.st hst185 rfl
                  exact At.res (.inl rfl) rfl (.cell rfl (hf188.runAg 0 [vi t49, vi t54, vu 0, (.slice p170 m171 c172)] ty40 rfl rfl rfl) (.tmp rfl (.tmp rfl .nil))) ⟨(.slice p170 m171 c172), rfl, (Stp.ext hs187 rfl rfl), (Sl.outF hf186 hs187 low0)⟩

theorem c_wire_Decode {A : Nat → Prop} {a0 : List UInt8} {v0 : Value} {w : World} (hs0 : Sl Rep.b w A v0 a0) {r0 : List api_Fld} {r1 : Int} {r2 : Int} (h : wire_Decode a0 = some (r0, r1, r2)) : Rets Try.prog 10 [v0] w (fun v w' => ∃ (u0 : Value), v = .tuple (List.toArray [u0, vi r1, vi r2]) ∧ Ext w w' ∧ Sl rep_api_Fld w' (fun k => A k ∨ w.heap.size ≤ k) u0 r0) := by
  unfold wire_Decode at h
  refine Rets.enter Try.func10 rfl rfl ?_
  have hf11 : Sl Rep.b w (imm (Lg.O0 A)) v0 a0 := (Sl.start hs0)
  refine (show WC _ _ _ _ [(0, v0)] _ from ?_)
  refine WC.seq ?_
  refine WC.region ?_
  refine WL.y (Y.assign rfl) rfl ?_
  refine WL.y (Y.assign rfl) rfl ?_
  refine WL.y (Y.assign rfl) rfl ?_
  refine WL.nil ?_
  refine At.then ?_
  refine WC.seq ?_
  refine WC.block ?_
  obtain ⟨p25, h, hk27⟩ := flow1 h
  obtain ⟨k26, h⟩ := loop_some h
  refine WC.joinB 0 (σ := (List api_Fld × Own × Value)) (fun x w' => p25 = .go x.1 ∧ Stp [11, 13, 1001] (Lg.O0 A) w x.2.1 w' ∧ OwnSl 1002 rep_api_Fld 40 x.2.1 w' x.2.2 x.1) (fun x => [(2, x.2.2)]) ?_ ?_
  · refine WC.loop (σ := (List api_Fld × Int × Own × Value)) (fun x k w' => loopN k (wire_Decode_lp1 a0) (x.1, x.2.1) = some p25 ∧ Stp [11, 13, 1001] (Lg.O0 A) w x.2.2.1 w' ∧ OwnSl 1001 rep_api_Fld 40 x.2.2.1 w' x.2.2.2 x.1) (fun x => [(0, v0), (2, x.2.2.2), (3, vi x.2.1)]) ([], 0, (Lg.O0 A), .slice none 0 0) k26 (.cons rfl (.cons rfl (.cons rfl .nil))) ⟨h, (Stp.refl _ _ _), (OwnSl.nil 1001 rep_api_Fld 40)⟩ ?_
    rintro ⟨l12, at15, O16, v13⟩ k26 wd17 ⟨h, hst18, hf14⟩
    obtain ⟨j28, q29, rfl, h, hn30⟩ := rnd1 h
    unfold wire_Decode_lp1 at h
    try dsimp only at h hst18 hf14
    refine (show WC _ _ _ _ [(0, v0), (2, v13), (3, vi at15)] _ from ?_)
    refine WC.seq ?_
    refine WC.seq ?_
    refine WC.region ?_
    refine WL.y (Y.move rfl) rfl ?_
    refine WL.y (Y.move rfl) rfl ?_
    have hf31 := hf11.mono (imm_st hst18 rfl rfl)
    refine WL.y (Y.len ty25 rfl hf31) rfl ?_
    refine WL.y (Y.lss_i rfl rfl) rfl ?_
    refine WL.nil ?_
    refine At.then ?_
    rcases cnd h with ⟨hc32, h⟩ | ⟨hc32, h⟩
    · refine WC.condT' rfl hc32 ?_
      refine WC.skip ?_
      refine At.then ?_
      refine WC.block ?_
      refine WC.seq ?_
      refine WC.region ?_
      refine WL.y (Y.move rfl) rfl ?_
      refine WL.y (Y.move rfl) rfl ?_
      obtain ⟨⟨r33, r34, r35⟩, hp36, h⟩ := bnd h
      refine WL.call (vals := [v0, vi at15]) kok24 rfl rfl (c_wire_field (A := fun _ => True) (Sl.all hf31) hp36) ?_
      rintro vr41 wd40 ⟨u37, rfl, hm39, f38⟩
      obtain ⟨O42, hold43, hnew44, hst45⟩ := adoptE O16 (fun k => 1) hm39
      have hf46 : Sl Rep.b wd40 (frs O42) u37 r33.B := Sl.adoptF f38 (fun k hk => ⟨hk, rfl⟩) hnew44
      refine WL.y (Y.move rfl) rfl ?_
      refine WL.y (Y.extract rfl rfl) rfl ?_
      refine WL.y (Y.extract rfl rfl) rfl ?_
      refine WL.y (Y.extract rfl rfl) rfl ?_
      refine WL.alloc (O := O42) 11 [vi 0, vi 0, vu 0, .slice none 0 0] ty40 rfl rfl ?_
      intro p48 O49 wd50 hst51 hb47
      have hf52 := hf46.mono (frs_st hst51 rfl)
      have hh56 := h
      obtain ⟨p53, m54, c55, rfl⟩ := hf52.shape
      have h := hh56
      refine WL.store (v := .agg [vi r33.Num, vi r33.Type_, vu r33.V, (.slice p53 m54 c55)].toArray) (cells' := [vi r33.Num, vi r33.Type_, vu r33.V, (.slice p53 m54 c55)]) ty40 rfl rfl hb47 rfl (Nat.le_of_ble_eq_true rfl) rfl rfl ?_
      intro wd57 hst58 hb59
      refine WL.y (Y.assign rfl) rfl ?_
      refine WL.y (Y.assign rfl) rfl ?_
      refine WL.nil ?_
      refine At.then ?_
      refine WC.seq ?_
      refine WC.seq ?_
      refine WC.region ?_
      refine WL.y (Y.move rfl) rfl ?_
      refine WL.y (Y.neq_i rfl rfl) rfl ?_
      refine WL.nil ?_
      refine At.then ?_
      rcases cnd h with ⟨hc60, h⟩ | ⟨hc60, h⟩
      · refine WC.condT' rfl hc60 ?_
        refine WC.seq ?_
        refine WC.region ?_
        refine WL.y (Y.move rfl) rfl ?_
        refine WL.y (Y.move rfl) rfl ?_
        refine WL.y (Y.assign rfl) rfl ?_
        refine WL.y (Y.assign rfl) rfl ?_
        refine WL.y (Y.assign rfl) rfl ?_
        refine WL.nil ?_
        refine At.then ?_
        refine WC.ret ?_
        refine At.thenR ?_
        refine At.inBlockR ?_
        refine At.loopR ?_
        have h := outr1 h hn30 hk27
        refine At.joinBR ?_
        refine At.inBlockR ?_
        refine At.thenR ?_
        obtain ⟨rfl, rfl, rfl⟩ := tup3 h
        have hs61 : Stp [11, 13, 1001] (Lg.O0 A) w O49 wd57 := (Stp.trans (Stp.up hst18 rfl) (Stp.trans (Stp.up hst45 rfl) (Stp.trans (Stp.up hst51 rfl) (Stp.up hst58 rfl))))
        exact At.res (.inl rfl) rfl (.tmp rfl (.tmp rfl (.tmp rfl .nil))) ⟨.slice none 0 0, rfl, (Stp.ext hs61 rfl rfl), (Or.inl ⟨rfl, rfl⟩)⟩
      · refine WC.condF' rfl hc60 ?_
        refine WC.skip ?_
        refine At.then ?_
        refine WC.seq ?_
        refine WC.region ?_
        refine WL.y (Y.move rfl) rfl ?_
        refine WL.y (Y.loadAg ty40 rfl rfl (hb59.cells 0 [vi r33.Num, vi r33.Type_, vu r33.V, (.slice p53 m54 c55)] rfl) rfl) rfl ?_
        have hf64 := hf52.mono (frs_st hst58 rfl)
        refine WL.buildSlice (O := O49) (R := rep_api_Fld) (vals := [(0, .agg [vi r33.Num, vi r33.Type_, vu r33.V, (.slice p53 m54 c55)].toArray)]) 12 [vi r33.Num, vi r33.Type_, vu r33.V, (.slice p53 m54 c55)] (xs := [r33]) (by decide) ty22 ty40 (by decide) (by decide) (Fits.evalp rfl) (by kernel_rfl) rfl ⟨[vi r33.Num, vi r33.Type_, vu r33.V, (.slice p53 m54 c55)], [], rfl, ⟨[vi r33.Num], [vi r33.Type_, vu r33.V, (.slice p53 m54 c55)], rfl, rfl, ⟨[vi r33.Type_], [vu r33.V, (.slice p53 m54 c55)], rfl, rfl, ⟨[vu r33.V], [(.slice p53 m54 c55)], rfl, rfl, ⟨_, rfl, (Sl.mono hf64 frs_imm)⟩⟩⟩⟩, rfl⟩ rfl ?_
        intro v62 O65 wd66 hst67 ho63
        obtain ⟨xs68, hxs68, h⟩ := bnd h
        have hf69 := hf14.st hst45 rfl rfl rfl
        have hf70 := hf69.st hst51 rfl rfl rfl
        have hf71 := hf70.st hst58 rfl rfl rfl
        have hf72 := hf71.st hst67 rfl rfl rfl
        refine WL.append (by decide) ty22 ty40 rfl (by decide) rfl rfl hf72 ho63.src hxs68 rfl ?_
        intro v76 O73 wd74 hst75 ho77
        refine WL.y (Y.assign rfl) rfl ?_
        refine WL.nil ?_
        refine At.then ?_
        refine WC.region ?_
        refine WL.y (Y.move rfl) rfl ?_
        refine WL.y (Y.assign rfl) rfl ?_
        refine WL.nil ?_
        refine At.inBlock ?_
        exact At.round (xs68, r34, O73, v76) j28 (Nat.lt_succ_self _) ⟨next1 h hn30, (Stp.trans (Stp.up hst18 rfl) (Stp.trans (Stp.up hst45 rfl) (Stp.trans (Stp.up hst51 rfl) (Stp.trans (Stp.up hst58 rfl) (Stp.trans (Stp.up hst67 rfl) (Stp.up hst75 rfl)))))), ho77⟩ (.cons rfl (.cons rfl (.cons rfl .nil)))
    · refine WC.condF' rfl hc32 ?_
      refine WC.exit ?_
      refine At.thenX ?_
      refine At.loopX ?_
      obtain ⟨O78, hst79, ho80⟩ := OwnSl.rlb 1002 rfl hf14
      exact At.hitB (σ := (List api_Fld × Own × Value)) (l12, O78, v13) ⟨brk1 h hn30, (Stp.trans (Stp.up hst18 rfl) (Stp.up hst79 rfl)), ho80⟩ (.cons rfl .nil)
  · rintro ⟨l19, O22, v20⟩ wd23 ⟨rfl, hst24, hf21⟩
    replace h := flowK_go hk27
    try dsimp only at h hst24 hf21
    refine (show At _ _ _ [(2, v20)] _ from ?_)
    refine At.inBlockHit ?_
    refine At.then ?_
    refine WC.seq ?_
    refine WC.region ?_
    refine WL.y (Y.move rfl) rfl ?_
    refine WL.y (Y.assign rfl) rfl ?_
    refine WL.y (Y.assign rfl) rfl ?_
    refine WL.y (Y.assign rfl) rfl ?_
    refine WL.nil ?_
    refine At.then ?_
    refine WC.ret ?_
    obtain ⟨rfl, rfl, rfl⟩ := tup3 h
    obtain ⟨O81, hst82, hf83⟩ := OwnSl.give rfl hf21
    have hs84 : Stp [11, 13, 1001, 1002] (Lg.O0 A) w O81 wd23 := (Stp.trans (Stp.up hst24 rfl) (Stp.up hst82 rfl))
    exact At.res (.inl rfl) rfl (.tmp rfl (.tmp rfl (.tmp rfl .nil))) ⟨v20, rfl, (Stp.ext hs84 rfl rfl), (Sl.outI hf83 hs84 low0 O0_A)⟩

theorem c_law30_awake {w : World} {r0 : Bool} (h : law30_awake = some r0) : Rets Try.prog 6 [] w (fun v w' => v = .bool r0 ∧ Ext w w') := by
  unfold law30_awake at h
  refine Rets.enter Try.func6 rfl rfl ?_
  refine (show WC _ _ _ _ [] _ from ?_)
  refine WC.seq ?_
  refine WC.region ?_
  refine WL.y (Y.assign rfl) rfl ?_
  refine WL.nil ?_
  refine At.then ?_
  refine WC.seq ?_
  refine WC.region ?_
  refine WL.y (Y.build (vals := [(0, vi 1), (2, vu 150)]) (cells := [vi 1, vi 0, vu 150, .slice none 0 0]) (Fits.evalp rfl) (by kernel_rfl)) rfl ?_
  refine WL.buildSlice (O := (Lg.O0 (fun _ => False))) (R := rep_api_Fld) (vals := [(0, .agg [vi 1, vi 0, vu 150, .slice none 0 0].toArray)]) 11 [vi 1, vi 0, vu 150, .slice none 0 0] (xs := [(api_Fld.mk 1 0 150 [])]) (by decide) ty22 ty40 (by decide) (by decide) (Fits.evalp rfl) (by kernel_rfl) rfl ⟨[vi 1, vi 0, vu 150, .slice none 0 0], [], rfl, ⟨[vi 1], [vi 0, vu 150, .slice none 0 0], rfl, rfl, ⟨[vi 0], [vu 150, .slice none 0 0], rfl, rfl, ⟨[vu 150], [.slice none 0 0], rfl, rfl, ⟨_, rfl, (Or.inl ⟨rfl, rfl⟩)⟩⟩⟩⟩, rfl⟩ rfl ?_
  intro v11 O13 wd14 hst15 ho12
  obtain ⟨⟨r16, r17⟩, hp18, h⟩ := bnd h
  refine WL.call (vals := [v11]) kok8 rfl rfl (c_wire_Encode (A := fun _ => True) (ho12.src.sl) hp18) ?_
  rintro vr23 wd22 ⟨u19, rfl, hm21, f20⟩
  obtain ⟨O24, hold25, hnew26, hst27⟩ := adoptE O13 (fun k => if Value.ownBlock u19 = some k then 12 else 1) hm21
  have hf28 : OwnSl 12 Rep.b 5 O24 wd22 u19 r16 := RowF.adopt 12 Flat.b f20 hnew26 (fun k hk => if_pos hk)
  refine WL.y (Y.move rfl) rfl ?_
  refine WL.y (Y.extract rfl rfl) rfl ?_
  refine WL.y (Y.extract rfl rfl) rfl ?_
  refine WL.y (Y.assign rfl) rfl ?_
  refine WL.y (Y.assign rfl) rfl ?_
  refine WL.nil ?_
  refine At.then ?_
  refine WC.seq ?_
  refine WC.region ?_
  refine WL.buildSlice (O := O24) (R := Rep.b) (vals := [(0, vb 128), (1, vb 0)]) 13 [vb 128, vb 0] (xs := [128, 0]) (by decide) ty25 ty5 (by decide) (by decide) (Fits.evalp rfl) (by kernel_rfl) rfl ⟨[vb 128], [vb 0], rfl, rfl, ⟨[vb 0], [], rfl, rfl, rfl⟩⟩ rfl ?_
  intro v29 O31 wd32 hst33 ho30
  obtain ⟨⟨r34, r35, r36⟩, hp37, h⟩ := bnd h
  refine WL.call (vals := [v29, vi 0]) kok18 rfl rfl (c_wire_GetVar (A := fun _ => True) (ho30.src.sl) hp37) ?_
  rintro vr40 wd39 ⟨rfl, hm38⟩
  obtain ⟨O41, hold42, hnew43, hst44⟩ := adoptE O31 (fun k => 1) hm38
  refine WL.y (Y.move rfl) rfl ?_
  refine WL.y (Y.extract rfl rfl) rfl ?_
  refine WL.y (Y.extract rfl rfl) rfl ?_
  refine WL.y (Y.extract rfl rfl) rfl ?_
  refine WL.y (Y.assign rfl) rfl ?_
  refine WL.y (Y.assign rfl) rfl ?_
  refine WL.y (Y.assign rfl) rfl ?_
  refine WL.nil ?_
  refine At.then ?_
  refine WC.seq ?_
  refine WC.region ?_
  refine WL.buildSlice (O := O41) (R := Rep.b) (vals := [(0, vb 8), (1, vb 1), (2, vb 13)]) 14 [vb 8, vb 1, vb 13] (xs := [8, 1, 13]) (by decide) ty25 ty5 (by decide) (by decide) (Fits.evalp rfl) (by kernel_rfl) rfl ⟨[vb 8], [vb 1, vb 13], rfl, rfl, ⟨[vb 1], [vb 13], rfl, rfl, ⟨[vb 13], [], rfl, rfl, rfl⟩⟩⟩ rfl ?_
  intro v45 O47 wd48 hst49 ho46
  obtain ⟨O50, hst51, hf52⟩ := OwnSl.giveF rfl Flat.b ho46
  obtain ⟨⟨r53, r54, r55⟩, hp56, h⟩ := bnd h
  refine WL.call (vals := [v45]) kok10 rfl rfl (c_wire_Decode (A := imm O50) (Sl.mono hf52 frs_imm) hp56) ?_
  rintro vr61 wd60 ⟨u57, rfl, hm59, f58⟩
  obtain ⟨O62, hold63, hnew64, hst65⟩ := adoptE O50 (fun k => 1) hm59
  have hf66 : Sl rep_api_Fld wd60 (imm O62) u57 r53 := Sl.adoptI (O := O50) f58 (fun _ hk => hk) (fun _ _ => Nat.le_refl _) hold63 hnew64
  refine WL.y (Y.move rfl) rfl ?_
  refine WL.y (Y.extract rfl rfl) rfl ?_
  refine WL.y (Y.extract rfl rfl) rfl ?_
  refine WL.y (Y.extract rfl rfl) rfl ?_
  refine WL.y (Y.assign rfl) rfl ?_
  refine WL.y (Y.assign rfl) rfl ?_
  refine WL.y (Y.assign rfl) rfl ?_
  refine WL.nil ?_
  refine At.then ?_
  refine WC.seq ?_
  refine WC.region ?_
  obtain ⟨r67, hp68, h⟩ := bnd h
  refine WL.call (vals := [vu 300]) kok19 rfl rfl (c_wire_Var hp68) ?_
  rintro vr73 wd72 ⟨_, rfl, hm71, f70⟩
  obtain ⟨O74, hold75, hnew76, hst77⟩ := adoptE O62 (fun k => if Value.ownBlock vr73 = some k then 15 else 1) hm71
  have hf78 : OwnSl 15 Rep.b 5 O74 wd72 vr73 r67 := RowF.adopt 15 Flat.b f70 hnew76 (fun k hk => if_pos hk)
  refine WL.y (Y.b2s ty25 ty5 ty9 rfl hf78.src.sl) rfl ?_
  refine WL.y (Y.eql_s (b := [172, 2]) rfl rfl) rfl ?_
  refine WL.y (Y.move rfl) rfl ?_
  refine WL.cut 4 (σ := Unit) (fun _ w' => wd72 = w') (fun _ => [(2, vi r17), (5, vi r36), (7, vi r54), (8, vi r55), (34, .bool ((decide (r67 = [172, 2])) && (decide (r16 = [8, 150, 1]))))]) ?_ ?_
  · refine WL.part 30 rfl (fun hE79 => ?_) (fun hE79 => ?_)
    · refine WL.ung rfl rfl ?_
      refine WL.y (Y.move rfl) rfl ?_
      refine WL.ung rfl rfl ?_
      have hf80 := hf28.st hst33 rfl rfl rfl
      have hf81 := hf80.st hst44 rfl rfl rfl
      have hf82 := hf81.st hst49 rfl rfl rfl
      have hf83 := hf82.st hst51 rfl rfl rfl
      have hf84 := hf83.st hst65 rfl rfl rfl
      have hf85 := hf84.st hst77 rfl rfl rfl
      refine WL.y (Y.b2s ty25 ty5 ty9 rfl hf85.src.sl) rfl ?_
      refine WL.ung rfl rfl ?_
      refine WL.y (Y.eql_s (b := [8, 150, 1]) rfl rfl) rfl ?_
      refine WL.y (Y.pick (b := true) rfl rfl) rfl ?_
      refine WL.ren (v' := .bool ((decide (r67 = [172, 2])) && (decide (r16 = [8, 150, 1])))) 34 rfl (congrArg Value.bool (andT hE79)) ?_
      exact WL.nil (At.join () rfl (.cons rfl (.cons rfl (.cons rfl (.cons rfl (.cons rfl .nil))))))
    · refine WL.gS rfl rfl rfl rfl ?_
      refine WL.gS rfl rfl rfl rfl ?_
      refine WL.gS rfl rfl rfl rfl ?_
      refine WL.y (Y.pick (b := false) rfl rfl) rfl ?_
      refine WL.ren (v' := .bool ((decide (r67 = [172, 2])) && (decide (r16 = [8, 150, 1])))) 34 rfl (congrArg Value.bool (andF hE79)) ?_
      exact WL.nil (At.join () rfl (.cons rfl (.cons rfl (.cons rfl (.cons rfl (.cons rfl .nil))))))
  · rintro _ _ rfl
    refine (show WL _ _ _ _ _ [(2, vi r17), (5, vi r36), (7, vi r54), (8, vi r55), (34, .bool ((decide (r67 = [172, 2])) && (decide (r16 = [8, 150, 1]))))] _ from ?_)
    refine WL.y (Y.move rfl) rfl ?_
    refine WL.cut 3 (σ := Unit) (fun _ w' => wd72 = w') (fun _ => [(5, vi r36), (7, vi r54), (8, vi r55), (38, .bool (((decide (r67 = [172, 2])) && (decide (r16 = [8, 150, 1]))) && (decide (r17 = 0))))]) ?_ ?_
    · refine WL.part 35 rfl (fun hE86 => ?_) (fun hE86 => ?_)
      · refine WL.ung rfl rfl ?_
        refine WL.y (Y.move rfl) rfl ?_
        refine WL.ung rfl rfl ?_
        refine WL.y (Y.eql_i rfl rfl) rfl ?_
        refine WL.y (Y.pick (b := true) rfl rfl) rfl ?_
        refine WL.ren (v' := .bool (((decide (r67 = [172, 2])) && (decide (r16 = [8, 150, 1]))) && (decide (r17 = 0)))) 38 rfl (congrArg Value.bool (andT hE86)) ?_
        exact WL.nil (At.join () rfl (.cons rfl (.cons rfl (.cons rfl (.cons rfl .nil)))))
      · refine WL.gS rfl rfl rfl rfl ?_
        refine WL.gS rfl rfl rfl rfl ?_
        refine WL.y (Y.pick (b := false) rfl rfl) rfl ?_
        refine WL.ren (v' := .bool (((decide (r67 = [172, 2])) && (decide (r16 = [8, 150, 1]))) && (decide (r17 = 0)))) 38 rfl (congrArg Value.bool (andF hE86)) ?_
        exact WL.nil (At.join () rfl (.cons rfl (.cons rfl (.cons rfl (.cons rfl .nil)))))
    · rintro _ _ rfl
      refine (show WL _ _ _ _ _ [(5, vi r36), (7, vi r54), (8, vi r55), (38, .bool (((decide (r67 = [172, 2])) && (decide (r16 = [8, 150, 1]))) && (decide (r17 = 0))))] _ from ?_)
      refine WL.y (Y.move rfl) rfl ?_
      refine WL.cut 3 (σ := Unit) (fun _ w' => wd72 = w') (fun _ => [(7, vi r54), (8, vi r55), (42, .bool ((((decide (r67 = [172, 2])) && (decide (r16 = [8, 150, 1]))) && (decide (r17 = 0))) && (decide (r36 = 3))))]) ?_ ?_
      · refine WL.part 39 rfl (fun hE87 => ?_) (fun hE87 => ?_)
        · refine WL.ung rfl rfl ?_
          refine WL.y (Y.move rfl) rfl ?_
          refine WL.ung rfl rfl ?_
          refine WL.y (Y.eql_i rfl rfl) rfl ?_
          refine WL.y (Y.pick (b := true) rfl rfl) rfl ?_
          refine WL.ren (v' := .bool ((((decide (r67 = [172, 2])) && (decide (r16 = [8, 150, 1]))) && (decide (r17 = 0))) && (decide (r36 = 3)))) 42 rfl (congrArg Value.bool (andT hE87)) ?_
          exact WL.nil (At.join () rfl (.cons rfl (.cons rfl (.cons rfl .nil))))
        · refine WL.gS rfl rfl rfl rfl ?_
          refine WL.gS rfl rfl rfl rfl ?_
          refine WL.y (Y.pick (b := false) rfl rfl) rfl ?_
          refine WL.ren (v' := .bool ((((decide (r67 = [172, 2])) && (decide (r16 = [8, 150, 1]))) && (decide (r17 = 0))) && (decide (r36 = 3)))) 42 rfl (congrArg Value.bool (andF hE87)) ?_
          exact WL.nil (At.join () rfl (.cons rfl (.cons rfl (.cons rfl .nil))))
      · rintro _ _ rfl
        refine (show WL _ _ _ _ _ [(7, vi r54), (8, vi r55), (42, .bool ((((decide (r67 = [172, 2])) && (decide (r16 = [8, 150, 1]))) && (decide (r17 = 0))) && (decide (r36 = 3))))] _ from ?_)
        refine WL.y (Y.move rfl) rfl ?_
        refine WL.cut 3 (σ := Unit) (fun _ w' => wd72 = w') (fun _ => [(8, vi r55), (46, .bool (((((decide (r67 = [172, 2])) && (decide (r16 = [8, 150, 1]))) && (decide (r17 = 0))) && (decide (r36 = 3))) && (decide (r54 = 2))))]) ?_ ?_
        · refine WL.part 43 rfl (fun hE88 => ?_) (fun hE88 => ?_)
          · refine WL.ung rfl rfl ?_
            refine WL.y (Y.move rfl) rfl ?_
            refine WL.ung rfl rfl ?_
            refine WL.y (Y.eql_i rfl rfl) rfl ?_
            refine WL.y (Y.pick (b := true) rfl rfl) rfl ?_
            refine WL.ren (v' := .bool (((((decide (r67 = [172, 2])) && (decide (r16 = [8, 150, 1]))) && (decide (r17 = 0))) && (decide (r36 = 3))) && (decide (r54 = 2)))) 46 rfl (congrArg Value.bool (andT hE88)) ?_
            exact WL.nil (At.join () rfl (.cons rfl (.cons rfl .nil)))
          · refine WL.gS rfl rfl rfl rfl ?_
            refine WL.gS rfl rfl rfl rfl ?_
            refine WL.y (Y.pick (b := false) rfl rfl) rfl ?_
            refine WL.ren (v' := .bool (((((decide (r67 = [172, 2])) && (decide (r16 = [8, 150, 1]))) && (decide (r17 = 0))) && (decide (r36 = 3))) && (decide (r54 = 2)))) 46 rfl (congrArg Value.bool (andF hE88)) ?_
            exact WL.nil (At.join () rfl (.cons rfl (.cons rfl .nil)))
        · rintro _ _ rfl
          refine (show WL _ _ _ _ _ [(8, vi r55), (46, .bool (((((decide (r67 = [172, 2])) && (decide (r16 = [8, 150, 1]))) && (decide (r17 = 0))) && (decide (r36 = 3))) && (decide (r54 = 2))))] _ from ?_)
          refine WL.y (Y.move rfl) rfl ?_
          refine WL.cut 3 (σ := Unit) (fun _ w' => wd72 = w') (fun _ => [(50, .bool ((((((decide (r67 = [172, 2])) && (decide (r16 = [8, 150, 1]))) && (decide (r17 = 0))) && (decide (r36 = 3))) && (decide (r54 = 2))) && (decide (r55 = 14))))]) ?_ ?_
          · refine WL.part 47 rfl (fun hE89 => ?_) (fun hE89 => ?_)
            · refine WL.ung rfl rfl ?_
              refine WL.y (Y.move rfl) rfl ?_
              refine WL.ung rfl rfl ?_
              refine WL.y (Y.eql_i rfl rfl) rfl ?_
              refine WL.y (Y.pick (b := true) rfl rfl) rfl ?_
              refine WL.ren (v' := .bool ((((((decide (r67 = [172, 2])) && (decide (r16 = [8, 150, 1]))) && (decide (r17 = 0))) && (decide (r36 = 3))) && (decide (r54 = 2))) && (decide (r55 = 14)))) 50 rfl (congrArg Value.bool (andT hE89)) ?_
              exact WL.nil (At.join () rfl (.cons rfl .nil))
            · refine WL.gS rfl rfl rfl rfl ?_
              refine WL.gS rfl rfl rfl rfl ?_
              refine WL.y (Y.pick (b := false) rfl rfl) rfl ?_
              refine WL.ren (v' := .bool ((((((decide (r67 = [172, 2])) && (decide (r16 = [8, 150, 1]))) && (decide (r17 = 0))) && (decide (r36 = 3))) && (decide (r54 = 2))) && (decide (r55 = 14)))) 50 rfl (congrArg Value.bool (andF hE89)) ?_
              exact WL.nil (At.join () rfl (.cons rfl .nil))
          · rintro _ _ rfl
            refine (show WL _ _ _ _ _ [(50, .bool ((((((decide (r67 = [172, 2])) && (decide (r16 = [8, 150, 1]))) && (decide (r17 = 0))) && (decide (r36 = 3))) && (decide (r54 = 2))) && (decide (r55 = 14))))] _ from ?_)
            obtain ⟨t90, ht90, h⟩ := lt1 h
            refine WL.yE (Y.assign rfl) (congrArg Value.bool ht90.symm) rfl ?_
            refine WL.nil ?_
            refine At.then ?_
            refine WC.ret ?_
            obtain rfl := some1 h
            have hs91 : Stp [14] (Lg.O0 (fun _ => False)) w O74 wd72 := (Stp.trans (Stp.up hst15 rfl) (Stp.trans (Stp.up hst27 rfl) (Stp.trans (Stp.up hst33 rfl) (Stp.trans (Stp.up hst44 rfl) (Stp.trans (Stp.up hst49 rfl) (Stp.trans (Stp.up hst51 rfl) (Stp.trans (Stp.up hst65 rfl) (Stp.up hst77 rfl))))))))
            exact At.res (.inl rfl) rfl (.tmp rfl .nil) ⟨rfl, (Stp.ext hs91 rfl rfl)⟩

theorem c_ref30_Few {A : Nat → Prop} {a0 : List api_Fld} {v0 : Value} {w : World} (hs0 : Sl rep_api_Fld w A v0 a0) {r0 : Bool} (h : ref30_Few a0 = some r0) : Rets Try.prog 7 [v0] w (fun v w' => v = .bool r0 ∧ Ext w w') := by
  unfold ref30_Few at h
  refine Rets.enter Try.func7 rfl rfl ?_
  have hf11 : Sl rep_api_Fld w (imm (Lg.O0 A)) v0 a0 := (Sl.start hs0)
  refine (show WC _ _ _ _ [(0, v0)] _ from ?_)
  refine WC.seq ?_
  refine WC.region ?_
  refine WL.y (Y.assign rfl) rfl ?_
  refine WL.nil ?_
  refine At.then ?_
  refine WC.seq ?_
  refine WC.seq ?_
  refine WC.region ?_
  refine WL.y (Y.move rfl) rfl ?_
  refine WL.y (Y.len ty22 rfl hf11) rfl ?_
  refine WL.y (Y.gtr_i rfl rfl) rfl ?_
  refine WL.nil ?_
  refine At.then ?_
  rcases cnd h with ⟨hc12, h⟩ | ⟨hc12, h⟩
  · refine WC.condT' rfl hc12 ?_
    refine WC.seq ?_
    refine WC.region ?_
    refine WL.y (Y.assign rfl) rfl ?_
    refine WL.nil ?_
    refine At.then ?_
    refine WC.ret ?_
    refine At.thenR ?_
    obtain rfl := some1 h
    have hs13 : Stp [] (Lg.O0 A) w (Lg.O0 A) w := (Stp.refl _ _ _)
    exact At.res (.inl rfl) rfl (.tmp rfl .nil) ⟨rfl, (Stp.ext hs13 rfl rfl)⟩
  · refine WC.condF' rfl hc12 ?_
    refine WC.skip ?_
    refine At.then ?_
    refine WC.seq ?_
    refine WC.seq ?_
    refine WC.region ?_
    refine WL.y (Y.assign rfl) rfl ?_
    refine WL.nil ?_
    refine At.then ?_
    refine WC.block ?_
    obtain ⟨p15, h, hk17⟩ := flow1 h
    obtain ⟨k16, h⟩ := loop_some h
    refine WC.joinB 0 (σ := Unit) (fun x w' => p15 = .go () ∧ w = w') (fun x => []) ?_ ?_
    · refine WC.loop (σ := Int) (fun x k w' => loopN k (ref30_Few_lp1 a0) x = some p15 ∧ w = w') (fun x => [(0, v0), (3, vi x)]) 0 k16 (.cons rfl (.cons rfl .nil)) ⟨h, rfl⟩ ?_
      rintro i14 k16 _ ⟨h, rfl⟩
      obtain ⟨j18, q19, rfl, h, hn20⟩ := rnd1 h
      unfold ref30_Few_lp1 at h
      try dsimp only at h
      refine (show WC _ _ _ _ [(0, v0), (3, vi i14)] _ from ?_)
      refine WC.seq ?_
      refine WC.seq ?_
      refine WC.region ?_
      refine WL.y (Y.move rfl) rfl ?_
      refine WL.y (Y.move rfl) rfl ?_
      refine WL.y (Y.len ty22 rfl hf11) rfl ?_
      refine WL.y (Y.lss_i rfl rfl) rfl ?_
      refine WL.nil ?_
      refine At.then ?_
      rcases cnd h with ⟨hc21, h⟩ | ⟨hc21, h⟩
      · refine WC.condT' rfl hc21 ?_
        refine WC.skip ?_
        refine At.then ?_
        refine WC.seq ?_
        refine WC.block ?_
        refine WC.seq ?_
        refine WC.region ?_
        refine WL.y (Y.move rfl) rfl ?_
        refine WL.y (Y.move rfl) rfl ?_
        obtain ⟨e22, he22, h⟩ := bnd h
        obtain ⟨b23, off33, cap30, cs29, hv24, hi25, hl26, hc27, hok28, hA34⟩ := Sl.at2 hf11 he22
        obtain ⟨_, _, rfl, rfl, ⟨_, _, rfl, rfl, ⟨_, _, rfl, rfl, ⟨v31, rfl, hf32⟩⟩⟩⟩ := hok28
        replace hc27 : CellsAt _ _ _ [vi e22.Num, vi e22.Type_, vu e22.V, v31] := hc27
        have hca35 := CAt.imm hc27 hA34
        refine WL.y (Y.indexAddr ty22 ty40 rfl hv24 rfl hi25 hl26) rfl ?_
        refine WL.y (Y.fieldAddr fo40_3 rfl) rfl ?_
        refine WL.y (Y.loadSc ty25 rfl rfl (hca35.at_.sub 3 [v31] rfl)) rfl ?_
        refine WL.y (Y.len ty25 rfl hf32) rfl ?_
        refine WL.y (Y.gtr_i rfl rfl) rfl ?_
        refine WL.nil ?_
        refine At.then ?_
        rcases cnd h with ⟨hc36, h⟩ | ⟨hc36, h⟩
        · refine WC.condT' rfl hc36 ?_
          refine WC.seq ?_
          refine WC.region ?_
          refine WL.y (Y.assign rfl) rfl ?_
          refine WL.nil ?_
          refine At.then ?_
          refine WC.ret ?_
          refine At.inBlockR ?_
          refine At.thenR ?_
          refine At.loopR ?_
          have h := outr1 h hn20 hk17
          refine At.joinBR ?_
          refine At.inBlockR ?_
          refine At.thenR ?_
          obtain rfl := some1 h
          have hs37 : Stp [] (Lg.O0 A) w (Lg.O0 A) w := (Stp.refl _ _ _)
          exact At.res (.inl rfl) rfl (.tmp rfl .nil) ⟨rfl, (Stp.ext hs37 rfl rfl)⟩
        · refine WC.condF' rfl hc36 ?_
          refine WC.skip ?_
          refine At.inBlock ?_
          refine At.then ?_
          refine WC.region ?_
          refine WL.y (Y.move rfl) rfl ?_
          refine WL.y (Y.add_i rfl rfl) rfl ?_
          obtain ⟨i38, hi38, h⟩ := lt1 h
          refine WL.yE (Y.assign rfl) (congrArg vi hi38.symm) rfl ?_
          refine WL.nil ?_
          exact At.round i38 j18 (Nat.lt_succ_self _) ⟨next1 h hn20, rfl⟩ (.cons rfl (.cons rfl .nil))
      · refine WC.condF' rfl hc21 ?_
        refine WC.exit ?_
        refine At.thenX ?_
        refine At.loopX ?_
        exact At.hitB (σ := Unit) () ⟨brk1 h hn20, rfl⟩ .nil
    · rintro _ _ ⟨rfl, rfl⟩
      replace h := flowK_go hk17
      refine (show At _ _ _ [] _ from ?_)
      refine At.inBlockHit ?_
      refine At.then ?_
      refine WC.seq ?_
      refine WC.region ?_
      refine WL.y (Y.assign rfl) rfl ?_
      refine WL.nil ?_
      refine At.then ?_
      refine WC.ret ?_
      obtain rfl := some1 h
      have hs39 : Stp [] (Lg.O0 A) w (Lg.O0 A) w := (Stp.refl _ _ _)
      exact At.res (.inl rfl) rfl (.tmp rfl .nil) ⟨rfl, (Stp.ext hs39 rfl rfl)⟩

theorem c_ref30_Same {A : Nat → Prop} {a0 : List api_Fld} {v0 : Value} {a1 : List api_Fld} {v1 : Value} {w : World} (hs0 : Sl rep_api_Fld w A v0 a0) (hs1 : Sl rep_api_Fld w A v1 a1) {r0 : Bool} (h : ref30_Same a0 a1 = some r0) : Rets Try.prog 11 [v0, v1] w (fun v w' => v = .bool r0 ∧ Ext w w') := by
  unfold ref30_Same at h
  refine Rets.enter Try.func11 rfl rfl ?_
  have hf11 : Sl rep_api_Fld w (imm (Lg.O0 A)) v0 a0 := (Sl.start hs0)
  have hf12 : Sl rep_api_Fld w (imm (Lg.O0 A)) v1 a1 := (Sl.start hs1)
  refine (show WC _ _ _ _ [(0, v0), (1, v1)] _ from ?_)
  refine WC.seq ?_
  refine WC.region ?_
  refine WL.y (Y.assign rfl) rfl ?_
  refine WL.nil ?_
  refine At.then ?_
  refine WC.seq ?_
  refine WC.seq ?_
  refine WC.region ?_
  refine WL.y (Y.move rfl) rfl ?_
  refine WL.y (Y.len ty22 rfl hf11) rfl ?_
  refine WL.y (Y.move rfl) rfl ?_
  refine WL.y (Y.len ty22 rfl hf12) rfl ?_
  refine WL.y (Y.neq_i rfl rfl) rfl ?_
  refine WL.nil ?_
  refine At.then ?_
  rcases cnd h with ⟨hc13, h⟩ | ⟨hc13, h⟩
  · refine WC.condT' rfl hc13 ?_
    refine WC.seq ?_
    refine WC.region ?_
    refine WL.y (Y.assign rfl) rfl ?_
    refine WL.nil ?_
    refine At.then ?_
    refine WC.ret ?_
    refine At.thenR ?_
    obtain rfl := some1 h
    have hs14 : Stp [] (Lg.O0 A) w (Lg.O0 A) w := (Stp.refl _ _ _)
    exact At.res (.inl rfl) rfl (.tmp rfl .nil) ⟨rfl, (Stp.ext hs14 rfl rfl)⟩
  · refine WC.condF' rfl hc13 ?_
    refine WC.skip ?_
    refine At.then ?_
    refine WC.seq ?_
    refine WC.seq ?_
    refine WC.region ?_
    refine WL.y (Y.assign rfl) rfl ?_
    refine WL.nil ?_
    refine At.then ?_
    refine WC.block ?_
    obtain ⟨p22, h, hk24⟩ := flow1 h
    obtain ⟨k23, h⟩ := loop_some h
    refine WC.joinB 0 (σ := Own) (fun x w' => p22 = .go () ∧ Stp [] (Lg.O0 A) w x w') (fun x => []) ?_ ?_
    · refine WC.loop (σ := (Int × Own)) (fun x k w' => loopN k (ref30_Same_lp1 a0 a1) x.1 = some p22 ∧ Stp [] (Lg.O0 A) w x.2 w') (fun x => [(0, v0), (1, v1), (5, vi x.1)]) (0, (Lg.O0 A)) k23 (.cons rfl (.cons rfl (.cons rfl .nil))) ⟨h, (Stp.refl _ _ _)⟩ ?_
      rintro ⟨i15, O16⟩ k23 wd17 ⟨h, hst18⟩
      obtain ⟨j25, q26, rfl, h, hn27⟩ := rnd1 h
      unfold ref30_Same_lp1 at h
      try dsimp only at h hst18
      refine (show WC _ _ _ _ [(0, v0), (1, v1), (5, vi i15)] _ from ?_)
      refine WC.seq ?_
      refine WC.seq ?_
      refine WC.region ?_
      refine WL.y (Y.move rfl) rfl ?_
      refine WL.y (Y.move rfl) rfl ?_
      have hf28 := hf11.mono (imm_st hst18 rfl rfl)
      refine WL.y (Y.len ty22 rfl hf28) rfl ?_
      refine WL.y (Y.lss_i rfl rfl) rfl ?_
      refine WL.nil ?_
      refine At.then ?_
      rcases cnd h with ⟨hc29, h⟩ | ⟨hc29, h⟩
      · refine WC.condT' rfl hc29 ?_
        refine WC.skip ?_
        refine At.then ?_
        refine WC.seq ?_
        refine WC.block ?_
        refine WC.seq ?_
        refine WC.drawH [] [0, 1, 2, 3, 4, 5, 6, 7, 8, 9, 10, 11, 12, 13, 14, 15, 16, 17, 18, 19, 20, 21, 22, 23, 24, 25, 26, 27, 28, 29, 30, 31, 32, 33, 34, 35, 36, 37, 38, 39, 40, 41, 42, 43, 44, 45, 46, 47, 48, 49, 50, 51] O16 52 fmix rfl (by kernel_rfl) ?_
        intro wd30 hst31
        refine WD.y 0 rfl (by kernel_rfl) (fun _ _ _ => Y.move rfl) rfl ?_
        refine WD.y 1 rfl (by kernel_rfl) (fun _ _ _ => Y.move rfl) rfl ?_
        obtain ⟨e38, he38, h⟩ := bnd h
        have hf47 := hf28.mono (imm_st hst31 rfl rfl)
        obtain ⟨b39, off50, cap46, cs45, hv40, hi41, hl42, hc43, hok44, hA51⟩ := Sl.at2 hf47 he38
        obtain ⟨_, _, rfl, rfl, ⟨_, _, rfl, rfl, ⟨_, _, rfl, rfl, ⟨v48, rfl, hf49⟩⟩⟩⟩ := hok44
        replace hc43 : CellsAt _ _ _ [vi e38.Num, vi e38.Type_, vu e38.V, v48] := hc43
        have hca52 := CAt.imm hc43 hA51
        refine WD.y 2 rfl (by kernel_rfl) (fun _ _ _ => Y.indexAddr ty22 ty40 rfl hv40 rfl hi41 hl42) rfl ?_
        refine WD.y 3 rfl (by kernel_rfl) (fun _ _ _ => Y.fieldAddr fo40_0 rfl) rfl ?_
        refine WD.y 4 rfl (by kernel_rfl) (fun wd60 O59 hst61 => have hf62 := hca52.st hst61 rfl; Y.loadSc ty3 rfl rfl (hf62.at_.sub 0 [vi e38.Num] rfl)) rfl ?_
        refine WD.y 5 rfl (by kernel_rfl) (fun _ _ _ => Y.move rfl) rfl ?_
        refine WD.y 6 rfl (by kernel_rfl) (fun _ _ _ => Y.move rfl) rfl ?_
        obtain ⟨e69, he69, h⟩ := bnd h
        have hf78 := hf12.mono (imm_st hst18 rfl rfl)
        have hf79 := hf78.mono (imm_st hst31 rfl rfl)
        obtain ⟨b70, off82, cap77, cs76, hv71, hi72, hl73, hc74, hok75, hA83⟩ := Sl.at2 hf79 he69
        obtain ⟨_, _, rfl, rfl, ⟨_, _, rfl, rfl, ⟨_, _, rfl, rfl, ⟨v80, rfl, hf81⟩⟩⟩⟩ := hok75
        replace hc74 : CellsAt _ _ _ [vi e69.Num, vi e69.Type_, vu e69.V, v80] := hc74
        have hca84 := CAt.imm hc74 hA83
        refine WD.y 7 rfl (by kernel_rfl) (fun _ _ _ => Y.indexAddr ty22 ty40 rfl hv71 rfl hi72 hl73) rfl ?_
        refine WD.y 8 rfl (by kernel_rfl) (fun _ _ _ => Y.fieldAddr fo40_0 rfl) rfl ?_
        refine WD.y 9 rfl (by kernel_rfl) (fun wd92 O91 hst93 => have hf94 := hca84.st hst93 rfl; Y.loadSc ty3 rfl rfl (hf94.at_.sub 0 [vi e69.Num] rfl)) rfl ?_
        refine WD.y 10 rfl (by kernel_rfl) (fun _ _ _ => Y.neq_i rfl rfl) rfl ?_
        refine WD.y 11 rfl (by kernel_rfl) (fun _ _ _ => Y.move rfl) rfl ?_
        obtain ⟨p102, h, hk103⟩ := bnd h
        refine WD.join (σ := Bool) (f' := 28) [23, 22, 21, 20, 19, 18, 17, 16, 15, 14, 13, 12, 11, 10, 9, 8, 7, 6, 5, 4, 3, 2, 1, 0] (fun x O' w' => x = p102 ∧ wd30 = w' ∧ O16 = O') (fun x => [(0, v0), (1, v1), (5, vi i15), (40, .bool x)]) (fun hJ104 => ?_) ?_
        · rcases cnd h with ⟨hE105, h⟩ | ⟨hE105, h⟩
          · refine WD.ren 28 rfl (congrArg Value.bool hE105) ?_
            refine WD.gS 12 rfl (by kernel_rfl) rfl rfl rfl rfl ?_
            refine WD.gS 13 rfl (by kernel_rfl) rfl rfl rfl rfl ?_
            refine WD.gS 14 rfl (by kernel_rfl) rfl rfl rfl rfl ?_
            refine WD.gS 15 rfl (by kernel_rfl) rfl rfl rfl rfl ?_
            refine WD.gS 16 rfl (by kernel_rfl) rfl rfl rfl rfl ?_
            refine WD.gS 17 rfl (by kernel_rfl) rfl rfl rfl rfl ?_
            refine WD.gS 18 rfl (by kernel_rfl) rfl rfl rfl rfl ?_
            refine WD.gS 19 rfl (by kernel_rfl) rfl rfl rfl rfl ?_
            refine WD.gS 20 rfl (by kernel_rfl) rfl rfl rfl rfl ?_
            refine WD.gS 21 rfl (by kernel_rfl) rfl rfl rfl rfl ?_
            refine WD.gS 22 rfl (by kernel_rfl) rfl rfl rfl rfl ?_
            refine WD.y 23 rfl (by kernel_rfl) (fun _ _ _ => Y.pick (b := true) rfl rfl) rfl ?_
            refine WD.ren 28 rfl (congrArg Value.bool hE105.symm) ?_
            exact hJ104 true _ _ _ ⟨some1 h, rfl, rfl⟩ (.cons rfl (.cons rfl (.cons rfl (.cons rfl .nil))))
          · refine WD.ren 28 rfl (congrArg Value.bool hE105) ?_
            refine WD.gT 12 rfl (by kernel_rfl) rfl rfl (fun _ _ _ => Y.move rfl) rfl ?_
            refine WD.gT 13 rfl (by kernel_rfl) rfl rfl (fun _ _ _ => Y.move rfl) rfl ?_
            obtain ⟨e115, he115, h⟩ := bnd h
            obtain ⟨b116, off126, cap123, cs122, hv117, hi118, hl119, hc120, hok121, hA127⟩ := Sl.at2 hf47 he115
            obtain ⟨_, _, rfl, rfl, ⟨_, _, rfl, rfl, ⟨_, _, rfl, rfl, ⟨v124, rfl, hf125⟩⟩⟩⟩ := hok121
            replace hc120 : CellsAt _ _ _ [vi e115.Num, vi e115.Type_, vu e115.V, v124] := hc120
            have hca128 := CAt.imm hc120 hA127
            refine WD.gT 14 rfl (by kernel_rfl) rfl rfl (fun _ _ _ => Y.indexAddr ty22 ty40 rfl hv117 rfl hi118 hl119) rfl ?_
            refine WD.gT 15 rfl (by kernel_rfl) rfl rfl (fun _ _ _ => Y.fieldAddr fo40_1 rfl) rfl ?_
            refine WD.gT 16 rfl (by kernel_rfl) rfl rfl (fun wd136 O135 hst137 => have hf138 := hca128.st hst137 rfl; Y.loadSc ty3 rfl rfl (hf138.at_.sub 1 [vi e115.Type_] rfl)) rfl ?_
            refine WD.gT 17 rfl (by kernel_rfl) rfl rfl (fun _ _ _ => Y.move rfl) rfl ?_
            refine WD.gT 18 rfl (by kernel_rfl) rfl rfl (fun _ _ _ => Y.move rfl) rfl ?_
            obtain ⟨e145, he145, h⟩ := bnd h
            obtain ⟨b146, off156, cap153, cs152, hv147, hi148, hl149, hc150, hok151, hA157⟩ := Sl.at2 hf79 he145
            obtain ⟨_, _, rfl, rfl, ⟨_, _, rfl, rfl, ⟨_, _, rfl, rfl, ⟨v154, rfl, hf155⟩⟩⟩⟩ := hok151
            replace hc150 : CellsAt _ _ _ [vi e145.Num, vi e145.Type_, vu e145.V, v154] := hc150
            have hca158 := CAt.imm hc150 hA157
            refine WD.gT 19 rfl (by kernel_rfl) rfl rfl (fun _ _ _ => Y.indexAddr ty22 ty40 rfl hv147 rfl hi148 hl149) rfl ?_
            refine WD.gT 20 rfl (by kernel_rfl) rfl rfl (fun _ _ _ => Y.fieldAddr fo40_1 rfl) rfl ?_
            refine WD.gT 21 rfl (by kernel_rfl) rfl rfl (fun wd166 O165 hst167 => have hf168 := hca158.st hst167 rfl; Y.loadSc ty3 rfl rfl (hf168.at_.sub 1 [vi e145.Type_] rfl)) rfl ?_
            refine WD.gT 22 rfl (by kernel_rfl) rfl rfl (fun _ _ _ => Y.neq_i rfl rfl) rfl ?_
            refine WD.y 23 rfl (by kernel_rfl) (fun _ _ _ => Y.pick (b := false) rfl rfl) rfl ?_
            refine WD.ren 28 rfl (congrArg Value.bool hE105.symm) ?_
            exact hJ104 (!decide (e115.Type_ = e145.Type_)) _ _ _ ⟨some1 h, rfl, rfl⟩ (.cons rfl (.cons rfl (.cons rfl (.cons rfl .nil))))
        · rintro x101 _ _ ⟨rfl, rfl, rfl⟩
          replace h := hk103
          try dsimp only at h
          refine (show WD _ _ _ _ _ _ _ _ [(0, v0), (1, v1), (5, vi i15), (40, .bool x101)] _ _ from ?_)
          refine WD.y 24 rfl (by kernel_rfl) (fun _ _ _ => Y.move rfl) rfl ?_
          obtain ⟨p179, h, hk180⟩ := bnd h
          refine WD.join (σ := Bool) (f' := 15) [36, 35, 34, 33, 32, 31, 30, 29, 28, 27, 26, 25, 24, 23, 22, 21, 20, 19, 18, 17, 16, 15, 14, 13, 12, 11, 10, 9, 8, 7, 6, 5, 4, 3, 2, 1, 0] (fun x O' w' => x = p179 ∧ wd30 = w' ∧ O16 = O') (fun x => [(0, v0), (1, v1), (5, vi i15), (53, .bool x)]) (fun hJ181 => ?_) ?_
          · rcases cnd h with ⟨hE182, h⟩ | ⟨hE182, h⟩
            · refine WD.ren 41 rfl (congrArg Value.bool hE182) ?_
              refine WD.gS 25 rfl (by kernel_rfl) rfl rfl rfl rfl ?_
              refine WD.gS 26 rfl (by kernel_rfl) rfl rfl rfl rfl ?_
              refine WD.gS 27 rfl (by kernel_rfl) rfl rfl rfl rfl ?_
              refine WD.gS 28 rfl (by kernel_rfl) rfl rfl rfl rfl ?_
              refine WD.gS 29 rfl (by kernel_rfl) rfl rfl rfl rfl ?_
              refine WD.gS 30 rfl (by kernel_rfl) rfl rfl rfl rfl ?_
              refine WD.gS 31 rfl (by kernel_rfl) rfl rfl rfl rfl ?_
              refine WD.gS 32 rfl (by kernel_rfl) rfl rfl rfl rfl ?_
              refine WD.gS 33 rfl (by kernel_rfl) rfl rfl rfl rfl ?_
              refine WD.gS 34 rfl (by kernel_rfl) rfl rfl rfl rfl ?_
              refine WD.gS 35 rfl (by kernel_rfl) rfl rfl rfl rfl ?_
              refine WD.y 36 rfl (by kernel_rfl) (fun _ _ _ => Y.pick (b := true) rfl rfl) rfl ?_
              refine WD.ren 41 rfl (congrArg Value.bool hE182.symm) ?_
              exact hJ181 true _ _ _ ⟨some1 h, rfl, rfl⟩ (.cons rfl (.cons rfl (.cons rfl (.cons rfl .nil))))
            · refine WD.ren 41 rfl (congrArg Value.bool hE182) ?_
              refine WD.gT 25 rfl (by kernel_rfl) rfl rfl (fun _ _ _ => Y.move rfl) rfl ?_
              refine WD.gT 26 rfl (by kernel_rfl) rfl rfl (fun _ _ _ => Y.move rfl) rfl ?_
              obtain ⟨e192, he192, h⟩ := bnd h
              obtain ⟨b193, off203, cap200, cs199, hv194, hi195, hl196, hc197, hok198, hA204⟩ := Sl.at2 hf47 he192
              obtain ⟨_, _, rfl, rfl, ⟨_, _, rfl, rfl, ⟨_, _, rfl, rfl, ⟨v201, rfl, hf202⟩⟩⟩⟩ := hok198
              replace hc197 : CellsAt _ _ _ [vi e192.Num, vi e192.Type_, vu e192.V, v201] := hc197
              have hca205 := CAt.imm hc197 hA204
              refine WD.gT 27 rfl (by kernel_rfl) rfl rfl (fun _ _ _ => Y.indexAddr ty22 ty40 rfl hv194 rfl hi195 hl196) rfl ?_
              refine WD.gT 28 rfl (by kernel_rfl) rfl rfl (fun _ _ _ => Y.fieldAddr fo40_2 rfl) rfl ?_
              refine WD.gT 29 rfl (by kernel_rfl) rfl rfl (fun wd213 O212 hst214 => have hf215 := hca205.st hst214 rfl; Y.loadSc ty38 rfl rfl (hf215.at_.sub 2 [vu e192.V] rfl)) rfl ?_
              refine WD.gT 30 rfl (by kernel_rfl) rfl rfl (fun _ _ _ => Y.move rfl) rfl ?_
              refine WD.gT 31 rfl (by kernel_rfl) rfl rfl (fun _ _ _ => Y.move rfl) rfl ?_
              obtain ⟨e222, he222, h⟩ := bnd h
              obtain ⟨b223, off233, cap230, cs229, hv224, hi225, hl226, hc227, hok228, hA234⟩ := Sl.at2 hf79 he222
              obtain ⟨_, _, rfl, rfl, ⟨_, _, rfl, rfl, ⟨_, _, rfl, rfl, ⟨v231, rfl, hf232⟩⟩⟩⟩ := hok228
              replace hc227 : CellsAt _ _ _ [vi e222.Num, vi e222.Type_, vu e222.V, v231] := hc227
              have hca235 := CAt.imm hc227 hA234
              refine WD.gT 32 rfl (by kernel_rfl) rfl rfl (fun _ _ _ => Y.indexAddr ty22 ty40 rfl hv224 rfl hi225 hl226) rfl ?_
              refine WD.gT 33 rfl (by kernel_rfl) rfl rfl (fun _ _ _ => Y.fieldAddr fo40_2 rfl) rfl ?_
              refine WD.gT 34 rfl (by kernel_rfl) rfl rfl (fun wd243 O242 hst244 => have hf245 := hca235.st hst244 rfl; Y.loadSc ty38 rfl rfl (hf245.at_.sub 2 [vu e222.V] rfl)) rfl ?_
              refine WD.gT 35 rfl (by kernel_rfl) rfl rfl (fun _ _ _ => Y.neq_u rfl rfl) rfl ?_
              refine WD.y 36 rfl (by kernel_rfl) (fun _ _ _ => Y.pick (b := false) rfl rfl) rfl ?_
              refine WD.ren 41 rfl (congrArg Value.bool hE182.symm) ?_
              exact hJ181 (!decide (e192.V = e222.V)) _ _ _ ⟨some1 h, rfl, rfl⟩ (.cons rfl (.cons rfl (.cons rfl (.cons rfl .nil))))
          · rintro x178 _ _ ⟨rfl, rfl, rfl⟩
            replace h := hk180
            try dsimp only at h
            refine (show WD _ _ _ _ _ _ _ _ [(0, v0), (1, v1), (5, vi i15), (53, .bool x178)] _ _ from ?_)
            refine WD.y 37 rfl (by kernel_rfl) (fun _ _ _ => Y.move rfl) rfl ?_
            obtain ⟨p256, h, hk257⟩ := bnd h
            refine WD.join (σ := Bool) (f' := 0) [51, 50, 49, 48, 47, 46, 45, 44, 43, 42, 41, 40, 39, 38, 37, 36, 35, 34, 33, 32, 31, 30, 29, 28, 27, 26, 25, 24, 23, 22, 21, 20, 19, 18, 17, 16, 15, 14, 13, 12, 11, 10, 9, 8, 7, 6, 5, 4, 3, 2, 1, 0] (fun x O' w' => x = p256 ∧ wd30 = w' ∧ O16 = O') (fun x => [(0, v0), (1, v1), (5, vi i15), (68, .bool x)]) (fun hJ258 => ?_) ?_
            · rcases cnd h with ⟨hE259, h⟩ | ⟨hE259, h⟩
              · refine WD.ren 54 rfl (congrArg Value.bool hE259) ?_
                refine WD.gS 38 rfl (by kernel_rfl) rfl rfl rfl rfl ?_
                refine WD.gS 39 rfl (by kernel_rfl) rfl rfl rfl rfl ?_
                refine WD.gS 40 rfl (by kernel_rfl) rfl rfl rfl rfl ?_
                refine WD.gS 41 rfl (by kernel_rfl) rfl rfl rfl rfl ?_
                refine WD.gS 42 rfl (by kernel_rfl) rfl rfl rfl rfl ?_
                refine WD.gS 43 rfl (by kernel_rfl) rfl rfl rfl rfl ?_
                refine WD.gS 44 rfl (by kernel_rfl) rfl rfl rfl rfl ?_
                refine WD.gS 45 rfl (by kernel_rfl) rfl rfl rfl rfl ?_
                refine WD.gS 46 rfl (by kernel_rfl) rfl rfl rfl rfl ?_
                refine WD.gS 47 rfl (by kernel_rfl) rfl rfl rfl rfl ?_
                refine WD.gS 48 rfl (by kernel_rfl) rfl rfl rfl rfl ?_
                refine WD.gS 49 rfl (by kernel_rfl) rfl rfl rfl rfl ?_
                refine WD.gS 50 rfl (by kernel_rfl) rfl rfl rfl rfl ?_
                refine WD.y 51 rfl (by kernel_rfl) (fun _ _ _ => Y.pick (b := true) rfl rfl) rfl ?_
                refine WD.ren 54 rfl (congrArg Value.bool hE259.symm) ?_
                exact hJ258 true _ _ _ ⟨some1 h, rfl, rfl⟩ (.cons rfl (.cons rfl (.cons rfl (.cons rfl .nil))))
              · refine WD.ren 54 rfl (congrArg Value.bool hE259) ?_
                refine WD.gT 38 rfl (by kernel_rfl) rfl rfl (fun _ _ _ => Y.move rfl) rfl ?_
                refine WD.gT 39 rfl (by kernel_rfl) rfl rfl (fun _ _ _ => Y.move rfl) rfl ?_
                obtain ⟨e269, he269, h⟩ := bnd h
                obtain ⟨b270, off280, cap277, cs276, hv271, hi272, hl273, hc274, hok275, hA281⟩ := Sl.at2 hf47 he269
                obtain ⟨_, _, rfl, rfl, ⟨_, _, rfl, rfl, ⟨_, _, rfl, rfl, ⟨v278, rfl, hf279⟩⟩⟩⟩ := hok275
                replace hc274 : CellsAt _ _ _ [vi e269.Num, vi e269.Type_, vu e269.V, v278] := hc274
                have hca282 := CAt.imm hc274 hA281
                refine WD.gT 40 rfl (by kernel_rfl) rfl rfl (fun _ _ _ => Y.indexAddr ty22 ty40 rfl hv271 rfl hi272 hl273) rfl ?_
                refine WD.gT 41 rfl (by kernel_rfl) rfl rfl (fun _ _ _ => Y.fieldAddr fo40_3 rfl) rfl ?_
                refine WD.gT 42 rfl (by kernel_rfl) rfl rfl (fun wd290 O289 hst291 => have hf292 := hca282.st hst291 rfl; Y.loadSc ty25 rfl rfl (hf292.at_.sub 3 [v278] rfl)) rfl ?_
                refine WD.gT 43 rfl (by kernel_rfl) rfl rfl (fun wd294 O293 hst295 => have hf296 := hf279.mono (imm_st hst295 rfl rfl); Y.b2s ty25 ty5 ty9 rfl hf296) rfl ?_
                refine WD.gT 44 rfl (by kernel_rfl) rfl rfl (fun _ _ _ => Y.move rfl) rfl ?_
                refine WD.gT 45 rfl (by kernel_rfl) rfl rfl (fun _ _ _ => Y.move rfl) rfl ?_
                obtain ⟨e303, he303, h⟩ := bnd h
                obtain ⟨b304, off314, cap311, cs310, hv305, hi306, hl307, hc308, hok309, hA315⟩ := Sl.at2 hf79 he303
                obtain ⟨_, _, rfl, rfl, ⟨_, _, rfl, rfl, ⟨_, _, rfl, rfl, ⟨v312, rfl, hf313⟩⟩⟩⟩ := hok309
                replace hc308 : CellsAt _ _ _ [vi e303.Num, vi e303.Type_, vu e303.V, v312] := hc308
                have hca316 := CAt.imm hc308 hA315
                refine WD.gT 46 rfl (by kernel_rfl) rfl rfl (fun _ _ _ => Y.indexAddr ty22 ty40 rfl hv305 rfl hi306 hl307) rfl ?_
                refine WD.gT 47 rfl (by kernel_rfl) rfl rfl (fun _ _ _ => Y.fieldAddr fo40_3 rfl) rfl ?_
                refine WD.gT 48 rfl (by kernel_rfl) rfl rfl (fun wd324 O323 hst325 => have hf326 := hca316.st hst325 rfl; Y.loadSc ty25 rfl rfl (hf326.at_.sub 3 [v312] rfl)) rfl ?_
                refine WD.gT 49 rfl (by kernel_rfl) rfl rfl (fun wd328 O327 hst329 => have hf330 := hf313.mono (imm_st hst329 rfl rfl); Y.b2s ty25 ty5 ty9 rfl hf330) rfl ?_
                refine WD.gT 50 rfl (by kernel_rfl) rfl rfl (fun _ _ _ => Y.neq_s rfl rfl) rfl ?_
                refine WD.y 51 rfl (by kernel_rfl) (fun _ _ _ => Y.pick (b := false) rfl rfl) rfl ?_
                refine WD.ren 54 rfl (congrArg Value.bool hE259.symm) ?_
                exact hJ258 (!decide (e269.B = e303.B)) _ _ _ ⟨some1 h, rfl, rfl⟩ (.cons rfl (.cons rfl (.cons rfl (.cons rfl .nil))))
            · rintro x255 _ _ ⟨rfl, rfl, rfl⟩
              replace h := hk257
              try dsimp only at h
              refine (show WD _ _ _ _ _ _ _ _ [(0, v0), (1, v1), (5, vi i15), (68, .bool x255)] _ _ from ?_)
              refine WD.done_ (by kernel_rfl) ?_
              refine At.then ?_
              rcases cnd h with ⟨hc337, h⟩ | ⟨hc337, h⟩
              · refine WC.condT' rfl hc337 ?_
                refine WC.seq ?_
                refine WC.region ?_
                refine WL.y (Y.assign rfl) rfl ?_
                refine WL.nil ?_
                refine At.then ?_
                refine WC.ret ?_
                refine At.inBlockR ?_
                refine At.thenR ?_
                refine At.loopR ?_
                have h := outr1 h hn27 hk24
                refine At.joinBR ?_
                refine At.inBlockR ?_
                refine At.thenR ?_
                obtain rfl := some1 h
                have hs338 : Stp [] (Lg.O0 A) w O16 wd30 := (Stp.trans (Stp.up hst18 rfl) (Stp.up hst31 rfl))
                exact At.res (.inl rfl) rfl (.tmp rfl .nil) ⟨rfl, (Stp.ext hs338 rfl rfl)⟩
              · refine WC.condF' rfl hc337 ?_
                refine WC.skip ?_
                refine At.inBlock ?_
                refine At.then ?_
                refine WC.region ?_
                refine WL.y (Y.move rfl) rfl ?_
                refine WL.y (Y.add_i rfl rfl) rfl ?_
                obtain ⟨i339, hi339, h⟩ := lt1 h
                refine WL.yE (Y.assign rfl) (congrArg vi hi339.symm) rfl ?_
                refine WL.nil ?_
                exact At.round (i339, O16) j25 (Nat.lt_succ_self _) ⟨next1 h hn27, (Stp.trans (Stp.up hst18 rfl) (Stp.up hst31 rfl))⟩ (.cons rfl (.cons rfl (.cons rfl .nil)))
      · refine WC.condF' rfl hc29 ?_
        refine WC.exit ?_
        refine At.thenX ?_
        refine At.loopX ?_
        exact At.hitB (σ := Own) O16 ⟨brk1 h hn27, (Stp.up hst18 rfl)⟩ .nil
    · rintro O19 wd20 ⟨rfl, hst21⟩
      replace h := flowK_go hk24
      refine (show At _ _ _ [] _ from ?_)
      refine At.inBlockHit ?_
      refine At.then ?_
      refine WC.seq ?_
      refine WC.region ?_
      refine WL.y (Y.assign rfl) rfl ?_
      refine WL.nil ?_
      refine At.then ?_
      refine WC.ret ?_
      obtain rfl := some1 h
      have hs340 : Stp [] (Lg.O0 A) w O19 wd20 := (Stp.up hst21 rfl)
      exact At.res (.inl rfl) rfl (.tmp rfl .nil) ⟨rfl, (Stp.ext hs340 rfl rfl)⟩

theorem c_ref30_All {A : Nat → Prop} {a0 : List api_Fld} {v0 : Value} {a1 : Int} {w : World} (hs0 : Sl rep_api_Fld w A v0 a0) {r0 : List api_Fld} (h : ref30_All a0 a1 = some r0) : Rets Try.prog 13 [v0, vi a1] w (fun v w' => ∃ (u0 : Value), v = u0 ∧ Ext w w' ∧ Sl rep_api_Fld w' (fun k => A k ∨ w.heap.size ≤ k) u0 r0) := by
  unfold ref30_All at h
  refine Rets.enter Try.func13 rfl rfl ?_
  have hf11 : Sl rep_api_Fld w (imm (Lg.O0 A)) v0 a0 := (Sl.start hs0)
  refine (show WC _ _ _ _ [(0, v0), (1, vi a1)] _ from ?_)
  refine WC.seq ?_
  refine WC.region ?_
  refine WL.y (Y.assign rfl) rfl ?_
  refine WL.nil ?_
  refine At.then ?_
  refine WC.seq ?_
  refine WC.region ?_
  refine WL.y (Y.assign rfl) rfl ?_
  refine WL.nil ?_
  refine At.then ?_
  refine WC.seq ?_
  refine WC.seq ?_
  refine WC.region ?_
  refine WL.y (Y.assign rfl) rfl ?_
  refine WL.nil ?_
  refine At.then ?_
  refine WC.block ?_
  obtain ⟨p25, h, hk27⟩ := flow1 h
  obtain ⟨k26, h⟩ := loop_some h
  refine WC.joinB 0 (σ := (List api_Fld × Own × Value)) (fun x w' => p25 = .go x.1 ∧ Stp [12, 1002, 1004] (Lg.O0 A) w x.2.1 w' ∧ OwnSl 1008 rep_api_Fld 40 x.2.1 w' x.2.2 x.1) (fun x => [(5, x.2.2)]) ?_ ?_
  · refine WC.loop (σ := (List api_Fld × Int × Own × Value)) (fun x k w' => loopN k (ref30_All_lp1 a0 a1) (x.1, x.2.1) = some p25 ∧ Stp [12, 1002, 1004] (Lg.O0 A) w x.2.2.1 w' ∧ OwnSl 1004 rep_api_Fld 40 x.2.2.1 w' x.2.2.2 x.1) (fun x => [(0, v0), (1, vi a1), (5, x.2.2.2), (6, vi x.2.1)]) ([], 0, (Lg.O0 A), .slice none 0 0) k26 (.cons rfl (.cons rfl (.cons rfl (.cons rfl .nil)))) ⟨h, (Stp.refl _ _ _), (OwnSl.nil 1004 rep_api_Fld 40)⟩ ?_
    rintro ⟨out12, i15, O16, v13⟩ k26 wd17 ⟨h, hst18, hf14⟩
    obtain ⟨j28, q29, rfl, h, hn30⟩ := rnd1 h
    unfold ref30_All_lp1 at h
    try dsimp only at h hst18 hf14
    refine (show WC _ _ _ _ [(0, v0), (1, vi a1), (5, v13), (6, vi i15)] _ from ?_)
    refine WC.seq ?_
    refine WC.seq ?_
    refine WC.region ?_
    refine WL.y (Y.move rfl) rfl ?_
    refine WL.y (Y.move rfl) rfl ?_
    have hf31 := hf11.mono (imm_st hst18 rfl rfl)
    refine WL.y (Y.len ty22 rfl hf31) rfl ?_
    refine WL.y (Y.lss_i rfl rfl) rfl ?_
    refine WL.nil ?_
    refine At.then ?_
    rcases cnd h with ⟨hc32, h⟩ | ⟨hc32, h⟩
    · refine WC.condT' rfl hc32 ?_
      refine WC.skip ?_
      refine At.then ?_
      refine WC.seq ?_
      obtain ⟨p39, h, hk40⟩ := bnd h
      refine WC.join (σ := (List api_Fld × Own × Value)) (fun x w' => x.1 = p39 ∧ Stp [1004] O16 wd17 x.2.1 w' ∧ OwnSl 1002 rep_api_Fld 40 x.2.1 w' x.2.2 x.1) (fun x => [(0, v0), (1, vi a1), (5, x.2.2), (6, vi i15)]) ?_ ?_
      · refine WC.block ?_
        refine WC.seq ?_
        refine WC.region ?_
        refine WL.y (Y.move rfl) rfl ?_
        refine WL.y (Y.move rfl) rfl ?_
        obtain ⟨e41, he41, h⟩ := bnd h
        obtain ⟨b42, off52, cap49, cs48, hv43, hi44, hl45, hc46, hok47, hA53⟩ := Sl.at2 hf31 he41
        obtain ⟨_, _, rfl, rfl, ⟨_, _, rfl, rfl, ⟨_, _, rfl, rfl, ⟨v50, rfl, hf51⟩⟩⟩⟩ := hok47
        replace hc46 : CellsAt _ _ _ [vi e41.Num, vi e41.Type_, vu e41.V, v50] := hc46
        have hca54 := CAt.imm hc46 hA53
        refine WL.y (Y.indexAddr ty22 ty40 rfl hv43 rfl hi44 hl45) rfl ?_
        refine WL.y (Y.fieldAddr fo40_0 rfl) rfl ?_
        refine WL.y (Y.loadSc ty3 rfl rfl (hca54.at_.sub 0 [vi e41.Num] rfl)) rfl ?_
        refine WL.y (Y.move rfl) rfl ?_
        refine WL.y (Y.eql_i rfl rfl) rfl ?_
        refine WL.nil ?_
        refine At.then ?_
        rcases cnd h with ⟨hc55, h⟩ | ⟨hc55, h⟩
        · refine WC.condT' rfl hc55 ?_
          refine WC.region ?_
          refine WL.y (Y.move rfl) rfl ?_
          refine WL.y (Y.move rfl) rfl ?_
          refine WL.y (Y.move rfl) rfl ?_
          obtain ⟨e56, he56, h⟩ := bnd h
          obtain ⟨b57, off67, cap64, cs63, hv58, hi59, hl60, hc61, hok62, hA68⟩ := Sl.at2 hf31 he56
          obtain ⟨_, _, rfl, rfl, ⟨_, _, rfl, rfl, ⟨_, _, rfl, rfl, ⟨v65, rfl, hf66⟩⟩⟩⟩ := hok62
          replace hc61 : CellsAt _ _ _ [vi e56.Num, vi e56.Type_, vu e56.V, v65] := hc61
          have hca69 := CAt.imm hc61 hA68
          refine WL.y (Y.indexAddr ty22 ty40 rfl hv58 rfl hi59 hl60) rfl ?_
          refine WL.y (Y.loadAg ty40 rfl rfl hca69.at_ rfl) rfl ?_
          have hh73 := h
          obtain ⟨p70, m71, c72, rfl⟩ := hf66.shape
          have h := hh73
          refine WL.buildSlice (O := O16) (R := rep_api_Fld) (vals := [(0, .agg [vi e56.Num, vi e56.Type_, vu e56.V, (.slice p70 m71 c72)].toArray)]) 11 [vi e56.Num, vi e56.Type_, vu e56.V, (.slice p70 m71 c72)] (xs := [e56]) (by decide) ty22 ty40 (by decide) (by decide) (Fits.evalp rfl) (by kernel_rfl) rfl ⟨[vi e56.Num, vi e56.Type_, vu e56.V, (.slice p70 m71 c72)], [], rfl, ⟨[vi e56.Num], [vi e56.Type_, vu e56.V, (.slice p70 m71 c72)], rfl, rfl, ⟨[vi e56.Type_], [vu e56.V, (.slice p70 m71 c72)], rfl, rfl, ⟨[vu e56.V], [(.slice p70 m71 c72)], rfl, rfl, ⟨_, rfl, hf66⟩⟩⟩⟩, rfl⟩ rfl ?_
          intro v74 O76 wd77 hst78 ho75
          obtain ⟨xs79, hxs79, h⟩ := bnd h
          have hf80 := hf14.st hst78 rfl rfl rfl
          refine WL.append (by decide) ty22 ty40 rfl (by decide) rfl rfl hf80 ho75.src hxs79 rfl ?_
          intro v84 O81 wd82 hst83 ho85
          refine WL.y (Y.assign rfl) rfl ?_
          refine WL.nil ?_
          refine At.inBlock ?_
          obtain ⟨O86, hst87, ho88⟩ := OwnSl.rlb 1002 rfl ho85
          exact At.join (σ := (List api_Fld × Own × Value)) (xs79, O86, v84) ⟨some1 h, (Stp.trans (Stp.up hst78 rfl) (Stp.trans (Stp.up hst83 rfl) (Stp.up hst87 rfl))), ho88⟩ (.cons rfl (.cons rfl (.cons rfl (.cons rfl .nil))))
        · refine WC.condF' rfl hc55 ?_
          refine WC.skip ?_
          refine At.inBlock ?_
          obtain ⟨O89, hst90, ho91⟩ := OwnSl.rlb 1002 rfl hf14
          exact At.join (σ := (List api_Fld × Own × Value)) (out12, O89, v13) ⟨some1 h, (Stp.up hst90 rfl), ho91⟩ (.cons rfl (.cons rfl (.cons rfl (.cons rfl .nil))))
      · rintro ⟨out33, O36, v34⟩ wd37 ⟨rfl, hst38, hf35⟩
        replace h := hk40
        try dsimp only at h hst38 hf35
        refine (show At _ _ _ [(0, v0), (1, vi a1), (5, v34), (6, vi i15)] _ from ?_)
        refine At.then ?_
        refine WC.region ?_
        refine WL.y (Y.move rfl) rfl ?_
        refine WL.y (Y.add_i rfl rfl) rfl ?_
        obtain ⟨i92, hi92, h⟩ := lt1 h
        refine WL.yE (Y.assign rfl) (congrArg vi hi92.symm) rfl ?_
        refine WL.nil ?_
        obtain ⟨O93, hst94, ho95⟩ := OwnSl.rlb 1004 rfl hf35
        exact At.round (out33, i92, O93, v34) j28 (Nat.lt_succ_self _) ⟨next1 h hn30, (Stp.trans (Stp.up hst18 rfl) (Stp.trans (Stp.up hst38 rfl) (Stp.up hst94 rfl))), ho95⟩ (.cons rfl (.cons rfl (.cons rfl (.cons rfl .nil))))
    · refine WC.condF' rfl hc32 ?_
      refine WC.exit ?_
      refine At.thenX ?_
      refine At.loopX ?_
      obtain ⟨O96, hst97, ho98⟩ := OwnSl.rlb 1008 rfl hf14
      exact At.hitB (σ := (List api_Fld × Own × Value)) (out12, O96, v13) ⟨brk1 h hn30, (Stp.trans (Stp.up hst18 rfl) (Stp.up hst97 rfl)), ho98⟩ (.cons rfl .nil)
  · rintro ⟨out19, O22, v20⟩ wd23 ⟨rfl, hst24, hf21⟩
    replace h := flowK_go hk27
    try dsimp only at h hst24 hf21
    refine (show At _ _ _ [(5, v20)] _ from ?_)
    refine At.inBlockHit ?_
    refine At.then ?_
    refine WC.seq ?_
    refine WC.region ?_
    refine WL.y (Y.move rfl) rfl ?_
    refine WL.y (Y.assign rfl) rfl ?_
    refine WL.nil ?_
    refine At.then ?_
    refine WC.ret ?_
    obtain rfl := some1 h
    obtain ⟨O99, hst100, hf101⟩ := OwnSl.give rfl hf21
    have hs102 : Stp [12, 1002, 1004, 1008] (Lg.O0 A) w O99 wd23 := (Stp.trans (Stp.up hst24 rfl) (Stp.up hst100 rfl))
    exact At.res (.inl rfl) rfl (.tmp rfl .nil) ⟨v20, rfl, (Stp.ext hs102 rfl rfl), (Sl.outI hf101 hs102 low0 O0_A)⟩

theorem c_wire_All {A : Nat → Prop} {a0 : List api_Fld} {v0 : Value} {a1 : Int} {w : World} (hs0 : Sl rep_api_Fld w A v0 a0) {r0 : List api_Fld} (h : wire_All a0 a1 = some r0) : Rets Try.prog 15 [v0, vi a1] w (fun v w' => ∃ (u0 : Value), v = u0 ∧ Ext w w' ∧ Sl rep_api_Fld w' (fun k => A k ∨ w.heap.size ≤ k) u0 r0) := by
  unfold wire_All at h
  refine Rets.enter Try.func15 rfl rfl ?_
  have hf11 : Sl rep_api_Fld w (imm (Lg.O0 A)) v0 a0 := (Sl.start hs0)
  refine (show WC _ _ _ _ [(0, v0), (1, vi a1)] _ from ?_)
  refine WC.seq ?_
  refine WC.region ?_
  refine WL.y (Y.assign rfl) rfl ?_
  refine WL.nil ?_
  refine At.then ?_
  refine WC.seq ?_
  refine WC.region ?_
  refine WL.y (Y.assign rfl) rfl ?_
  refine WL.nil ?_
  refine At.then ?_
  refine WC.seq ?_
  refine WC.seq ?_
  refine WC.region ?_
  refine WL.y (Y.move rfl) rfl ?_
  refine WL.y (Y.len ty22 rfl hf11) rfl ?_
  refine WL.y (Y.move rfl) rfl ?_
  refine WL.nil ?_
  refine At.then ?_
  refine WC.block ?_
  obtain ⟨p25, h, hk27⟩ := flow1 h
  obtain ⟨k26, h⟩ := loop_some h
  refine WC.joinB 0 (σ := (List api_Fld × Own × Value)) (fun x w' => p25 = .go x.1 ∧ Stp [11, 12, 14, 1002, 1004] (Lg.O0 A) w x.2.1 w' ∧ OwnSl 1008 rep_api_Fld 40 x.2.1 w' x.2.2 x.1) (fun x => [(5, x.2.2)]) ?_ ?_
  · refine WC.loop (σ := (List api_Fld × Int × Own × Value)) (fun x k w' => loopN k (wire_All_lp1 a0 a1) (x.1, x.2.1) = some p25 ∧ Stp [11, 12, 14, 1002, 1004] (Lg.O0 A) w x.2.2.1 w' ∧ OwnSl 1004 rep_api_Fld 40 x.2.2.1 w' x.2.2.2 x.1) (fun x => [(1, vi a1), (5, x.2.2.2), (8, v0), (9, vi (a0.length : Int)), (10, vi x.2.1)]) ([], 0, (Lg.O0 A), .slice none 0 0) k26 (.cons rfl (.cons rfl (.cons rfl (.cons rfl (.cons rfl .nil))))) ⟨h, (Stp.refl _ _ _), (OwnSl.nil 1004 rep_api_Fld 40)⟩ ?_
    rintro ⟨out12, x15, O16, v13⟩ k26 wd17 ⟨h, hst18, hf14⟩
    obtain ⟨j28, q29, rfl, h, hn30⟩ := rnd1 h
    unfold wire_All_lp1 at h
    try dsimp only at h hst18 hf14
    refine (show WC _ _ _ _ [(1, vi a1), (5, v13), (8, v0), (9, vi (a0.length : Int)), (10, vi x15)] _ from ?_)
    refine WC.seq ?_
    refine WC.region ?_
    refine WL.y (Y.lss_i rfl rfl) rfl ?_
    refine WL.nil ?_
    refine At.then ?_
    refine WC.seq ?_
    rcases cnd h with ⟨hc31, h⟩ | ⟨hc31, h⟩
    · refine WC.condT' rfl hc31 ?_
      refine WC.skip ?_
      refine At.then ?_
      refine WC.seq ?_
      obtain ⟨p38, h, hk39⟩ := bnd h
      refine WC.join (σ := (List api_Fld × Own × Value)) (fun x w' => x.1 = p38 ∧ Stp [11, 12, 1004] O16 wd17 x.2.1 w' ∧ OwnSl 1002 rep_api_Fld 40 x.2.1 w' x.2.2 x.1) (fun x => [(1, vi a1), (5, x.2.2), (8, v0), (9, vi (a0.length : Int)), (10, vi x15)]) ?_ ?_
      · refine WC.block ?_
        refine WC.seq ?_
        refine WC.region ?_
        obtain ⟨e40, he40, h⟩ := bnd h
        have hf49 := hf11.mono (imm_st hst18 rfl rfl)
        obtain ⟨b41, off52, cap48, cs47, hv42, hi43, hl44, hc45, hok46, hA53⟩ := Sl.at2 hf49 he40
        obtain ⟨_, _, rfl, rfl, ⟨_, _, rfl, rfl, ⟨_, _, rfl, rfl, ⟨v50, rfl, hf51⟩⟩⟩⟩ := hok46
        replace hc45 : CellsAt _ _ _ [vi e40.Num, vi e40.Type_, vu e40.V, v50] := hc45
        have hca54 := CAt.imm hc45 hA53
        refine WL.y (Y.indexAddr ty22 ty40 rfl hv42 rfl hi43 hl44) rfl ?_
        refine WL.y (Y.loadAg ty40 rfl rfl hca54.at_ rfl) rfl ?_
        refine WL.alloc (O := O16) 11 [vi 0, vi 0, vu 0, .slice none 0 0] ty40 rfl rfl ?_
        intro p56 O57 wd58 hst59 hb55
        have hf60 := hf51.mono (imm_st hst59 rfl rfl)
        have hh64 := h
        obtain ⟨p61, m62, c63, rfl⟩ := hf60.shape
        have h := hh64
        refine WL.store (v := .agg [vi e40.Num, vi e40.Type_, vu e40.V, (.slice p61 m62 c63)].toArray) (cells' := [vi e40.Num, vi e40.Type_, vu e40.V, (.slice p61 m62 c63)]) ty40 rfl rfl hb55 rfl (Nat.le_of_ble_eq_true rfl) rfl rfl ?_
        intro wd65 hst66 hb67
        refine WL.nil ?_
        refine At.then ?_
        refine WC.seq ?_
        refine WC.region ?_
        refine WL.y (Y.fieldAddr fo40_0 rfl) rfl ?_
        refine WL.y (Y.loadSc ty3 rfl rfl (hb67.cell 0 _ rfl)) rfl ?_
        refine WL.y (Y.move rfl) rfl ?_
        refine WL.y (Y.eql_i rfl rfl) rfl ?_
        refine WL.nil ?_
        refine At.then ?_
        rcases cnd h with ⟨hc68, h⟩ | ⟨hc68, h⟩
        · refine WC.condT' rfl hc68 ?_
          refine WC.seq ?_
          refine WC.region ?_
          refine WL.y (Y.fieldAddr fo40_3 rfl) rfl ?_
          refine WL.y (Y.loadSc ty25 rfl rfl (hb67.cell 3 _ rfl)) rfl ?_
          have hf69 := hf60.mono (imm_st hst66 rfl rfl)
          obtain ⟨r70, hp71, h⟩ := bnd h
          refine WL.call (vals := [(.slice p61 m62 c63)]) kok26 rfl rfl (c_bytes_Clone (A := fun _ => True) (Sl.all hf69) hp71) ?_
          rintro vr76 wd75 ⟨_, rfl, hm74, f73⟩
          obtain ⟨O77, hold78, hnew79, hst80⟩ := adoptE O57 (fun k => if Value.ownBlock vr76 = some k then 12 else 1) hm74
          have hf81 : OwnSl 12 Rep.b 5 O77 wd75 vr76 r70 := RowF.adopt 12 Flat.b f73 hnew79 (fun k hk => if_pos hk)
          refine WL.y (Y.fieldAddr fo40_3 rfl) rfl ?_
          have hh85 := h
          obtain ⟨p82, m83, c84, rfl⟩ := hf81.shape
          have h := hh85
          have hf86 := hb67.st hst80 rfl
          refine WL.store (v := (.slice p82 m83 c84)) (cells' := [vi e40.Num, vi e40.Type_, vu e40.V, (.slice p82 m83 c84)]) ty25 rfl rfl hf86 rfl (Nat.le_of_ble_eq_true rfl) rfl rfl ?_
          intro wd87 hst88 hb89
          refine WL.nil ?_
          refine At.then ?_
          refine WC.region ?_
          refine WL.y (Y.move rfl) rfl ?_
          refine WL.y (Y.loadAg ty40 rfl rfl (hb89.cells 0 [vi e40.Num, vi e40.Type_, vu e40.V, (.slice p82 m83 c84)] rfl) rfl) rfl ?_
          have hf92 := hf81.st hst88 rfl rfl rfl
          obtain ⟨O93, hst94, hf95⟩ := OwnSl.giveF rfl Flat.b hf92
          refine WL.buildSlice (O := O93) (R := rep_api_Fld) (vals := [(0, .agg [vi e40.Num, vi e40.Type_, vu e40.V, (.slice p82 m83 c84)].toArray)]) 13 [vi e40.Num, vi e40.Type_, vu e40.V, (.slice p82 m83 c84)] (xs := [(api_Fld.mk e40.Num e40.Type_ e40.V r70)]) (by decide) ty22 ty40 (by decide) (by decide) (Fits.evalp rfl) (by kernel_rfl) rfl ⟨[vi e40.Num, vi e40.Type_, vu e40.V, (.slice p82 m83 c84)], [], rfl, ⟨[vi e40.Num], [vi e40.Type_, vu e40.V, (.slice p82 m83 c84)], rfl, rfl, ⟨[vi e40.Type_], [vu e40.V, (.slice p82 m83 c84)], rfl, rfl, ⟨[vu e40.V], [(.slice p82 m83 c84)], rfl, rfl, ⟨_, rfl, (Sl.mono hf95 frs_imm)⟩⟩⟩⟩, rfl⟩ rfl ?_
          intro v90 O96 wd97 hst98 ho91
          obtain ⟨xs99, hxs99, h⟩ := bnd h
          have hf100 := hf14.st hst59 rfl rfl rfl
          have hf101 := hf100.st hst66 rfl rfl rfl
          have hf102 := hf101.st hst80 rfl rfl rfl
          have hf103 := hf102.st hst88 rfl rfl rfl
          have hf104 := hf103.st hst94 rfl rfl rfl
          have hf105 := hf104.st hst98 rfl rfl rfl
          refine WL.append (by decide) ty22 ty40 rfl (by decide) rfl rfl hf105 ho91.src hxs99 rfl ?_
          intro v109 O106 wd107 hst108 ho110
          refine WL.y (Y.assign rfl) rfl ?_
          refine WL.nil ?_
          refine At.inBlock ?_
          obtain ⟨O111, hst112, ho113⟩ := OwnSl.rlb 1002 rfl ho110
          exact At.join (σ := (List api_Fld × Own × Value)) (xs99, O111, v109) ⟨some1 h, (Stp.trans (Stp.up hst59 rfl) (Stp.trans (Stp.up hst66 rfl) (Stp.trans (Stp.up hst80 rfl) (Stp.trans (Stp.up hst88 rfl) (Stp.trans (Stp.up hst94 rfl) (Stp.trans (Stp.up hst98 rfl) (Stp.trans (Stp.up hst108 rfl) (Stp.up hst112 rfl)))))))), ho113⟩ (.cons rfl (.cons rfl (.cons rfl (.cons rfl (.cons rfl .nil)))))
        · refine WC.condF' rfl hc68 ?_
          refine WC.skip ?_
          refine At.inBlock ?_
          have hf114 := hf14.st hst59 rfl rfl rfl
          have hf115 := hf114.st hst66 rfl rfl rfl
          obtain ⟨O116, hst117, ho118⟩ := OwnSl.rlb 1002 rfl hf115
          exact At.join (σ := (List api_Fld × Own × Value)) (out12, O116, v13) ⟨some1 h, (Stp.trans (Stp.up hst59 rfl) (Stp.trans (Stp.up hst66 rfl) (Stp.up hst117 rfl))), ho118⟩ (.cons rfl (.cons rfl (.cons rfl (.cons rfl (.cons rfl .nil)))))
      · rintro ⟨out32, O35, v33⟩ wd36 ⟨rfl, hst37, hf34⟩
        replace h := hk39
        try dsimp only at h hst37 hf34
        refine (show At _ _ _ [(1, vi a1), (5, v33), (8, v0), (9, vi (a0.length : Int)), (10, vi x15)] _ from ?_)
        refine At.then ?_
        refine WC.region ?_
        refine WL.y (Y.add_i rfl rfl) rfl ?_
        refine WL.y (Y.move rfl) rfl ?_
        refine WL.nil ?_
        obtain ⟨O119, hst120, ho121⟩ := OwnSl.rlb 1004 rfl hf34
        exact At.round (out32, w64 (x15 + 1), O119, v33) j28 (Nat.lt_succ_self _) ⟨next1 h hn30, (Stp.trans (Stp.up hst18 rfl) (Stp.trans (Stp.up hst37 rfl) (Stp.up hst120 rfl))), ho121⟩ (.cons rfl (.cons rfl (.cons rfl (.cons rfl (.cons rfl .nil)))))
    · refine WC.condF' rfl hc31 ?_
      refine WC.exit ?_
      refine At.thenX ?_
      refine At.loopX ?_
      obtain ⟨O122, hst123, ho124⟩ := OwnSl.rlb 1008 rfl hf14
      exact At.hitB (σ := (List api_Fld × Own × Value)) (out12, O122, v13) ⟨brk1 h hn30, (Stp.trans (Stp.up hst18 rfl) (Stp.up hst123 rfl)), ho124⟩ (.cons rfl .nil)
  · rintro ⟨out19, O22, v20⟩ wd23 ⟨rfl, hst24, hf21⟩
    replace h := flowK_go hk27
    try dsimp only at h hst24 hf21
    refine (show At _ _ _ [(5, v20)] _ from ?_)
    refine At.inBlockHit ?_
    refine At.then ?_
    refine WC.seq ?_
    refine WC.region ?_
    refine WL.y (Y.move rfl) rfl ?_
    refine WL.y (Y.assign rfl) rfl ?_
    refine WL.nil ?_
    refine At.then ?_
    refine WC.ret ?_
    obtain rfl := some1 h
    obtain ⟨O125, hst126, hf127⟩ := OwnSl.give rfl hf21
    have hs128 : Stp [11, 12, 14, 1002, 1004, 1008] (Lg.O0 A) w O125 wd23 := (Stp.trans (Stp.up hst24 rfl) (Stp.up hst126 rfl))
    exact At.res (.inl rfl) rfl (.tmp rfl .nil) ⟨v20, rfl, (Stp.ext hs128 rfl rfl), (Sl.outI hf127 hs128 low0 O0_A)⟩

theorem c_wire_Last {A : Nat → Prop} {a0 : List api_Fld} {v0 : Value} {a1 : Int} {w : World} (hs0 : Sl rep_api_Fld w A v0 a0) {r0 : api_Fld} {r1 : Bool} (h : wire_Last a0 a1 = some (r0, r1)) : Rets Try.prog 14 [v0, vi a1] w (fun v w' => ∃ (u0_3 : Value), v = .tuple (List.toArray [.agg (List.toArray [vi r0.Num, vi r0.Type_, vu r0.V, u0_3]), .bool r1]) ∧ Ext w w' ∧ Sl Rep.b w' (fun k => A k ∨ w.heap.size ≤ k) u0_3 r0.B) := by
  unfold wire_Last at h
  refine Rets.enter Try.func14 rfl rfl ?_
  have hf11 : Sl rep_api_Fld w (imm (Lg.O0 A)) v0 a0 := (Sl.start hs0)
  refine (show WC _ _ _ _ [(0, v0), (1, vi a1)] _ from ?_)
  refine WC.seq ?_
  refine WC.region ?_
  refine WL.alloc (O := (Lg.O0 A)) 11 [vi 0, vi 0, vu 0, .slice none 0 0] ty40 rfl rfl ?_
  intro p13 O14 wd15 hst16 hb12
  refine WL.y (Y.assign rfl) rfl ?_
  refine WL.nil ?_
  refine At.then ?_
  refine WC.seq ?_
  refine WC.region ?_
  refine WL.y (Y.move rfl) rfl ?_
  refine WL.y (Y.move rfl) rfl ?_
  have hf17 := hf11.mono (imm_st hst16 rfl rfl)
  obtain ⟨r18, hp19, h⟩ := bnd h
  refine WL.call (vals := [v0, vi a1]) kok15 rfl rfl (c_wire_All (A := imm O14) hf17 hp19) ?_
  rintro vr24 wd23 ⟨_, rfl, hm22, f21⟩
  obtain ⟨O25, hold26, hnew27, hst28⟩ := adoptE O14 (fun k => 1) hm22
  have hf29 : Sl rep_api_Fld wd23 (imm O25) vr24 r18 := Sl.adoptI (O := O14) f21 (fun _ hk => hk) (fun _ _ => Nat.le_refl _) hold26 hnew27
  refine WL.y (Y.assign rfl) rfl ?_
  refine WL.nil ?_
  refine At.then ?_
  refine WC.seq ?_
  refine WC.seq ?_
  refine WC.region ?_
  refine WL.y (Y.move rfl) rfl ?_
  refine WL.y (Y.len ty22 rfl hf29) rfl ?_
  refine WL.y (Y.eql_i rfl rfl) rfl ?_
  refine WL.nil ?_
  refine At.then ?_
  rcases cnd h with ⟨hc30, h⟩ | ⟨hc30, h⟩
  · refine WC.condT' rfl hc30 ?_
    refine WC.seq ?_
    refine WC.region ?_
    refine WL.y (Y.build (vals := []) (cells := [vi 0, vi 0, vu 0, .slice none 0 0]) (Fits.evalp rfl) (by kernel_rfl)) rfl ?_
    have hf31 := hb12.st hst28 rfl
    refine WL.store (v := .agg [vi 0, vi 0, vu 0, .slice none 0 0].toArray) (cells' := [vi 0, vi 0, vu 0, .slice none 0 0]) ty40 rfl rfl hf31 rfl (Nat.le_of_ble_eq_true rfl) rfl rfl ?_
    intro wd32 hst33 hb34
    refine WL.y (Y.assign rfl) rfl ?_
    refine WL.nil ?_
    refine At.then ?_
    refine WC.ret ?_
    refine At.thenR ?_
    obtain ⟨rfl, rfl⟩ := tup2 h
    have hs35 : Stp [11] (Lg.O0 A) w O25 wd32 := (Stp.trans (Stp.up hst16 rfl) (Stp.trans (Stp.up hst28 rfl) (Stp.up hst33 rfl)))
    exact At.res (.inl rfl) rfl (.cell rfl (hb34.runAg 0 [vi 0, vi 0, vu 0, .slice none 0 0] ty40 rfl rfl rfl) (.tmp rfl .nil)) ⟨.slice none 0 0, rfl, (Stp.ext hs35 rfl rfl), (Or.inl ⟨rfl, rfl⟩)⟩
  · refine WC.condF' rfl hc30 ?_
    refine WC.skip ?_
    refine At.then ?_
    refine WC.seq ?_
    refine WC.region ?_
    refine WL.y (Y.move rfl) rfl ?_
    refine WL.y (Y.move rfl) rfl ?_
    refine WL.y (Y.len ty22 rfl hf29) rfl ?_
    refine WL.y (Y.sub_i rfl rfl) rfl ?_
    obtain ⟨e36, he36, h⟩ := bnd h
    obtain ⟨b37, off47, cap44, cs43, hv38, hi39, hl40, hc41, hok42, hA48⟩ := Sl.at2 hf29 he36
    obtain ⟨_, _, rfl, rfl, ⟨_, _, rfl, rfl, ⟨_, _, rfl, rfl, ⟨v45, rfl, hf46⟩⟩⟩⟩ := hok42
    replace hc41 : CellsAt _ _ _ [vi e36.Num, vi e36.Type_, vu e36.V, v45] := hc41
    have hca49 := CAt.imm hc41 hA48
    refine WL.y (Y.indexAddr ty22 ty40 rfl hv38 rfl hi39 hl40) rfl ?_
    refine WL.y (Y.loadAg ty40 rfl rfl hca49.at_ rfl) rfl ?_
    have hh53 := h
    obtain ⟨p50, m51, c52, rfl⟩ := hf46.shape
    have h := hh53
    have hf54 := hb12.st hst28 rfl
    refine WL.store (v := .agg [vi e36.Num, vi e36.Type_, vu e36.V, (.slice p50 m51 c52)].toArray) (cells' := [vi e36.Num, vi e36.Type_, vu e36.V, (.slice p50 m51 c52)]) ty40 rfl rfl hf54 rfl (Nat.le_of_ble_eq_true rfl) rfl rfl ?_
    intro wd55 hst56 hb57
    refine WL.y (Y.assign rfl) rfl ?_
    refine WL.nil ?_
    refine At.then ?_
    refine WC.ret ?_
    obtain ⟨rfl, rfl⟩ := tup2 h
    have hs58 : Stp [11] (Lg.O0 A) w O25 wd55 := (Stp.trans (Stp.up hst16 rfl) (Stp.trans (Stp.up hst28 rfl) (Stp.up hst56 rfl)))
    have hf59 := hf46.mono (imm_st hst56 rfl rfl)
    exact At.res (.inl rfl) rfl (.cell rfl (hb57.runAg 0 [vi e36.Num, vi e36.Type_, vu e36.V, (.slice p50 m51 c52)] ty40 rfl rfl rfl) (.tmp rfl .nil)) ⟨(.slice p50 m51 c52), rfl, (Stp.ext hs58 rfl rfl), (Sl.outI hf59 hs58 low0 O0_A)⟩

theorem c_wire_Packed {A : Nat → Prop} {a0 : List UInt64} {v0 : Value} {w : World} (hs0 : Sl Rep.u w A v0 a0) {r0 : List UInt8} (h : wire_Packed a0 = some r0) : Rets Try.prog 16 [v0] w (fun v w' => ∃ (u0 : Value), v = u0 ∧ Ext w w' ∧ RowF Rep.b 5 w w' u0 r0) := by
  unfold wire_Packed at h
  refine Rets.enter Try.func16 rfl rfl ?_
  have hf11 : Sl Rep.u w (imm (Lg.O0 A)) v0 a0 := (Sl.start hs0)
  refine (show WC _ _ _ _ [(0, v0)] _ from ?_)
  refine WC.seq ?_
  refine WC.region ?_
  refine WL.y (Y.assign rfl) rfl ?_
  refine WL.nil ?_
  refine At.then ?_
  refine WC.seq ?_
  refine WC.region ?_
  refine WL.y (Y.assign rfl) rfl ?_
  refine WL.nil ?_
  refine At.then ?_
  refine WC.seq ?_
  refine WC.seq ?_
  refine WC.region ?_
  refine WL.y (Y.move rfl) rfl ?_
  refine WL.y (Y.len ty36 rfl hf11) rfl ?_
  refine WL.y (Y.move rfl) rfl ?_
  refine WL.nil ?_
  refine At.then ?_
  refine WC.block ?_
  obtain ⟨p25, h, hk27⟩ := flow1 h
  obtain ⟨k26, h⟩ := loop_some h
  refine WC.joinB 0 (σ := (List UInt8 × Own × Value)) (fun x w' => p25 = .go x.1 ∧ Stp [12, 1001] (Lg.O0 A) w x.2.1 w' ∧ OwnSl 1002 Rep.b 5 x.2.1 w' x.2.2 x.1) (fun x => [(3, x.2.2)]) ?_ ?_
  · refine WC.loop (σ := (List UInt8 × Int × Own × Value)) (fun x k w' => loopN k (wire_Packed_lp1 a0) (x.1, x.2.1) = some p25 ∧ Stp [12, 1001] (Lg.O0 A) w x.2.2.1 w' ∧ OwnSl 1001 Rep.b 5 x.2.2.1 w' x.2.2.2 x.1) (fun x => [(3, x.2.2.2), (6, v0), (7, vi (a0.length : Int)), (8, vi x.2.1)]) ([], 0, (Lg.O0 A), .slice none 0 0) k26 (.cons rfl (.cons rfl (.cons rfl (.cons rfl .nil)))) ⟨h, (Stp.refl _ _ _), (OwnSl.nil 1001 Rep.b 5)⟩ ?_
    rintro ⟨out12, x15, O16, v13⟩ k26 wd17 ⟨h, hst18, hf14⟩
    obtain ⟨j28, q29, rfl, h, hn30⟩ := rnd1 h
    unfold wire_Packed_lp1 at h
    try dsimp only at h hst18 hf14
    refine (show WC _ _ _ _ [(3, v13), (6, v0), (7, vi (a0.length : Int)), (8, vi x15)] _ from ?_)
    refine WC.seq ?_
    refine WC.region ?_
    refine WL.y (Y.lss_i rfl rfl) rfl ?_
    refine WL.nil ?_
    refine At.then ?_
    refine WC.seq ?_
    rcases cnd h with ⟨hc31, h⟩ | ⟨hc31, h⟩
    · refine WC.condT' rfl hc31 ?_
      refine WC.skip ?_
      refine At.then ?_
      refine WC.seq ?_
      refine WC.block ?_
      refine WC.seq ?_
      refine WC.region ?_
      obtain ⟨e32, he32, h⟩ := bnd h
      have hf41 := hf11.mono (imm_st hst18 rfl rfl)
      obtain ⟨b33, off42, cap40, cs39, hv34, hi35, hl36, hc37, hok38, hA43⟩ := Sl.at2 hf41 he32
      obtain rfl := hok38
      replace hc37 : CellsAt _ _ _ [vu e32] := hc37
      have hca44 := CAt.imm hc37 hA43
      refine WL.y (Y.indexAddr ty36 ty38 rfl hv34 rfl hi35 hl36) rfl ?_
      refine WL.y (Y.loadSc ty38 rfl rfl hca44.at_) rfl ?_
      refine WL.y (Y.assign rfl) rfl ?_
      refine WL.nil ?_
      refine At.then ?_
      refine WC.region ?_
      refine WL.y (Y.move rfl) rfl ?_
      refine WL.y (Y.move rfl) rfl ?_
      obtain ⟨r45, hp46, h⟩ := bnd h
      refine WL.call (vals := [vu e32]) kok19 rfl rfl (c_wire_Var hp46) ?_
      rintro vr51 wd50 ⟨_, rfl, hm49, f48⟩
      obtain ⟨O52, hold53, hnew54, hst55⟩ := adoptE O16 (fun k => if Value.ownBlock vr51 = some k then 11 else 1) hm49
      have hf56 : OwnSl 11 Rep.b 5 O52 wd50 vr51 r45 := RowF.adopt 11 Flat.b f48 hnew54 (fun k hk => if_pos hk)
      obtain ⟨xs57, hxs57, h⟩ := bnd h
      have hf58 := hf14.st hst55 rfl rfl rfl
      refine WL.append (by decide) ty25 ty5 rfl (by decide) rfl rfl hf58 hf56.src hxs57 rfl ?_
      intro v62 O59 wd60 hst61 ho63
      refine WL.y (Y.assign rfl) rfl ?_
      refine WL.nil ?_
      refine At.inBlock ?_
      refine At.then ?_
      refine WC.region ?_
      refine WL.y (Y.add_i rfl rfl) rfl ?_
      refine WL.y (Y.move rfl) rfl ?_
      refine WL.nil ?_
      exact At.round (xs57, w64 (x15 + 1), O59, v62) j28 (Nat.lt_succ_self _) ⟨next1 h hn30, (Stp.trans (Stp.up hst18 rfl) (Stp.trans (Stp.up hst55 rfl) (Stp.up hst61 rfl))), ho63⟩ (.cons rfl (.cons rfl (.cons rfl (.cons rfl .nil))))
    · refine WC.condF' rfl hc31 ?_
      refine WC.exit ?_
      refine At.thenX ?_
      refine At.loopX ?_
      obtain ⟨O64, hst65, ho66⟩ := OwnSl.rlb 1002 rfl hf14
      exact At.hitB (σ := (List UInt8 × Own × Value)) (out12, O64, v13) ⟨brk1 h hn30, (Stp.trans (Stp.up hst18 rfl) (Stp.up hst65 rfl)), ho66⟩ (.cons rfl .nil)
  · rintro ⟨out19, O22, v20⟩ wd23 ⟨rfl, hst24, hf21⟩
    replace h := flowK_go hk27
    try dsimp only at h hst24 hf21
    refine (show At _ _ _ [(3, v20)] _ from ?_)
    refine At.inBlockHit ?_
    refine At.then ?_
    refine WC.seq ?_
    refine WC.region ?_
    refine WL.y (Y.move rfl) rfl ?_
    refine WL.y (Y.assign rfl) rfl ?_
    refine WL.nil ?_
    refine At.then ?_
    refine WC.ret ?_
    obtain rfl := some1 h
    have hs67 : Stp [12, 1001] (Lg.O0 A) w O22 wd23 := (Stp.up hst24 rfl)
    exact At.res (.inl rfl) rfl (.tmp rfl .nil) ⟨v20, rfl, (Stp.ext hs67 rfl rfl), (OwnSl.outF hf21 hs67 low0 rfl)⟩

theorem c_wire_Unpacked {A : Nat → Prop} {a0 : List UInt8} {v0 : Value} {w : World} (hs0 : Sl Rep.b w A v0 a0) {r0 : List UInt64} {r1 : Int} (h : wire_Unpacked a0 = some (r0, r1)) : Rets Try.prog 17 [v0] w (fun v w' => ∃ (u0 : Value), v = .tuple (List.toArray [u0, vi r1]) ∧ Ext w w' ∧ RowF Rep.u 38 w w' u0 r0) := by
  unfold wire_Unpacked at h
  refine Rets.enter Try.func17 rfl rfl ?_
  have hf11 : Sl Rep.b w (imm (Lg.O0 A)) v0 a0 := (Sl.start hs0)
  refine (show WC _ _ _ _ [(0, v0)] _ from ?_)
  refine WC.seq ?_
  refine WC.region ?_
  refine WL.y (Y.assign rfl) rfl ?_
  refine WL.y (Y.assign rfl) rfl ?_
  refine WL.nil ?_
  refine At.then ?_
  refine WC.seq ?_
  refine WC.region ?_
  refine WL.y (Y.assign rfl) rfl ?_
  refine WL.nil ?_
  refine At.then ?_
  refine WC.seq ?_
  refine WC.seq ?_
  refine WC.region ?_
  refine WL.y (Y.assign rfl) rfl ?_
  refine WL.nil ?_
  refine At.then ?_
  refine WC.block ?_
  obtain ⟨p25, h, hk27⟩ := flow1 h
  obtain ⟨k26, h⟩ := loop_some h
  refine WC.joinB 0 (σ := (List UInt64 × Own × Value)) (fun x w' => p25 = .go x.1 ∧ Stp [12, 1001] (Lg.O0 A) w x.2.1 w' ∧ OwnSl 1002 Rep.u 38 x.2.1 w' x.2.2 x.1) (fun x => [(4, x.2.2)]) ?_ ?_
  · refine WC.loop (σ := (List UInt64 × Int × Own × Value)) (fun x k w' => loopN k (wire_Unpacked_lp1 a0) (x.1, x.2.1) = some p25 ∧ Stp [12, 1001] (Lg.O0 A) w x.2.2.1 w' ∧ OwnSl 1001 Rep.u 38 x.2.2.1 w' x.2.2.2 x.1) (fun x => [(0, v0), (4, x.2.2.2), (5, vi x.2.1)]) ([], 0, (Lg.O0 A), .slice none 0 0) k26 (.cons rfl (.cons rfl (.cons rfl .nil))) ⟨h, (Stp.refl _ _ _), (OwnSl.nil 1001 Rep.u 38)⟩ ?_
    rintro ⟨out12, at15, O16, v13⟩ k26 wd17 ⟨h, hst18, hf14⟩
    obtain ⟨j28, q29, rfl, h, hn30⟩ := rnd1 h
    unfold wire_Unpacked_lp1 at h
    try dsimp only at h hst18 hf14
    refine (show WC _ _ _ _ [(0, v0), (4, v13), (5, vi at15)] _ from ?_)
    refine WC.seq ?_
    refine WC.seq ?_
    refine WC.region ?_
    refine WL.y (Y.move rfl) rfl ?_
    refine WL.y (Y.move rfl) rfl ?_
    have hf31 := hf11.mono (imm_st hst18 rfl rfl)
    refine WL.y (Y.len ty25 rfl hf31) rfl ?_
    refine WL.y (Y.lss_i rfl rfl) rfl ?_
    refine WL.nil ?_
    refine At.then ?_
    rcases cnd h with ⟨hc32, h⟩ | ⟨hc32, h⟩
    · refine WC.condT' rfl hc32 ?_
      refine WC.skip ?_
      refine At.then ?_
      refine WC.block ?_
      refine WC.seq ?_
      refine WC.region ?_
      refine WL.y (Y.move rfl) rfl ?_
      refine WL.y (Y.move rfl) rfl ?_
      obtain ⟨⟨r33, r34, r35⟩, hp36, h⟩ := bnd h
      refine WL.call (vals := [v0, vi at15]) kok18 rfl rfl (c_wire_GetVar (A := fun _ => True) (Sl.all hf31) hp36) ?_
      rintro vr39 wd38 ⟨rfl, hm37⟩
      obtain ⟨O40, hold41, hnew42, hst43⟩ := adoptE O16 (fun k => 1) hm37
      refine WL.y (Y.move rfl) rfl ?_
      refine WL.y (Y.extract rfl rfl) rfl ?_
      refine WL.y (Y.extract rfl rfl) rfl ?_
      refine WL.y (Y.extract rfl rfl) rfl ?_
      refine WL.y (Y.assign rfl) rfl ?_
      refine WL.y (Y.assign rfl) rfl ?_
      refine WL.y (Y.assign rfl) rfl ?_
      refine WL.nil ?_
      refine At.then ?_
      refine WC.seq ?_
      refine WC.seq ?_
      refine WC.region ?_
      refine WL.y (Y.move rfl) rfl ?_
      refine WL.y (Y.neq_i rfl rfl) rfl ?_
      refine WL.nil ?_
      refine At.then ?_
      rcases cnd h with ⟨hc44, h⟩ | ⟨hc44, h⟩
      · refine WC.condT' rfl hc44 ?_
        refine WC.seq ?_
        refine WC.region ?_
        refine WL.y (Y.move rfl) rfl ?_
        refine WL.y (Y.assign rfl) rfl ?_
        refine WL.y (Y.assign rfl) rfl ?_
        refine WL.nil ?_
        refine At.then ?_
        refine WC.ret ?_
        refine At.thenR ?_
        refine At.inBlockR ?_
        refine At.loopR ?_
        have h := outr1 h hn30 hk27
        refine At.joinBR ?_
        refine At.inBlockR ?_
        refine At.thenR ?_
        obtain ⟨rfl, rfl⟩ := tup2 h
        have hs45 : Stp [12, 1001] (Lg.O0 A) w O40 wd38 := (Stp.trans (Stp.up hst18 rfl) (Stp.up hst43 rfl))
        exact At.res (.inl rfl) rfl (.tmp rfl (.tmp rfl .nil)) ⟨.slice none 0 0, rfl, (Stp.ext hs45 rfl rfl), RowF.nil⟩
      · refine WC.condF' rfl hc44 ?_
        refine WC.skip ?_
        refine At.then ?_
        refine WC.seq ?_
        refine WC.region ?_
        refine WL.y (Y.move rfl) rfl ?_
        refine WL.y (Y.move rfl) rfl ?_
        refine WL.buildSlice (O := O40) (R := Rep.u) (vals := [(0, vu r33)]) 11 [vu r33] (xs := [r33]) (by decide) ty36 ty38 (by decide) (by decide) (Fits.evalp rfl) (by kernel_rfl) rfl ⟨[vu r33], [], rfl, rfl, rfl⟩ rfl ?_
        intro v46 O48 wd49 hst50 ho47
        obtain ⟨xs51, hxs51, h⟩ := bnd h
        have hf52 := hf14.st hst43 rfl rfl rfl
        have hf53 := hf52.st hst50 rfl rfl rfl
        refine WL.append (by decide) ty36 ty38 rfl (by decide) rfl rfl hf53 ho47.src hxs51 rfl ?_
        intro v57 O54 wd55 hst56 ho58
        refine WL.y (Y.assign rfl) rfl ?_
        refine WL.nil ?_
        refine At.then ?_
        refine WC.region ?_
        refine WL.y (Y.move rfl) rfl ?_
        refine WL.y (Y.move rfl) rfl ?_
        refine WL.y (Y.add_i rfl rfl) rfl ?_
        obtain ⟨at59, hat59, h⟩ := lt1 h
        refine WL.yE (Y.assign rfl) (congrArg vi hat59.symm) rfl ?_
        refine WL.nil ?_
        refine At.inBlock ?_
        exact At.round (xs51, at59, O54, v57) j28 (Nat.lt_succ_self _) ⟨next1 h hn30, (Stp.trans (Stp.up hst18 rfl) (Stp.trans (Stp.up hst43 rfl) (Stp.trans (Stp.up hst50 rfl) (Stp.up hst56 rfl)))), ho58⟩ (.cons rfl (.cons rfl (.cons rfl .nil)))
    · refine WC.condF' rfl hc32 ?_
      refine WC.exit ?_
      refine At.thenX ?_
      refine At.loopX ?_
      obtain ⟨O60, hst61, ho62⟩ := OwnSl.rlb 1002 rfl hf14
      exact At.hitB (σ := (List UInt64 × Own × Value)) (out12, O60, v13) ⟨brk1 h hn30, (Stp.trans (Stp.up hst18 rfl) (Stp.up hst61 rfl)), ho62⟩ (.cons rfl .nil)
  · rintro ⟨out19, O22, v20⟩ wd23 ⟨rfl, hst24, hf21⟩
    replace h := flowK_go hk27
    try dsimp only at h hst24 hf21
    refine (show At _ _ _ [(4, v20)] _ from ?_)
    refine At.inBlockHit ?_
    refine At.then ?_
    refine WC.seq ?_
    refine WC.region ?_
    refine WL.y (Y.move rfl) rfl ?_
    refine WL.y (Y.assign rfl) rfl ?_
    refine WL.y (Y.assign rfl) rfl ?_
    refine WL.nil ?_
    refine At.then ?_
    refine WC.ret ?_
    obtain ⟨rfl, rfl⟩ := tup2 h
    have hs63 : Stp [12, 1001] (Lg.O0 A) w O22 wd23 := (Stp.up hst24 rfl)
    exact At.res (.inl rfl) rfl (.tmp rfl (.tmp rfl .nil)) ⟨v20, rfl, (Stp.ext hs63 rfl rfl), (OwnSl.outF hf21 hs63 low0 rfl)⟩

theorem c_law30_WireFinds {A : Nat → Prop} {a0 : List api_Fld} {v0 : Value} {a1 : Int} {a2 : List UInt64} {v2 : Value} {a3 : List UInt8} {v3 : Value} {w : World} (hs0 : Sl rep_api_Fld w A v0 a0) (hs2 : Sl Rep.u w A v2 a2) (hs3 : Sl Rep.b w A v3 a3) {r0 : Bool} (h : law30_WireFinds a0 a1 a2 a3 = some r0) : Rets Try.prog 5 [v0, vi a1, v2, v3] w (fun v w' => v = .bool r0 ∧ Ext w w') := by
  unfold law30_WireFinds at h
  refine Rets.enter Try.func5 rfl rfl ?_
  have hf11 : Sl rep_api_Fld w (imm (Lg.O0 A)) v0 a0 := (Sl.start hs0)
  have hf12 : Sl Rep.u w (imm (Lg.O0 A)) v2 a2 := (Sl.start hs2)
  have hf13 : Sl Rep.b w (imm (Lg.O0 A)) v3 a3 := (Sl.start hs3)
  refine (show WC _ _ _ _ [(0, v0), (1, vi a1), (2, v2), (3, v3)] _ from ?_)
  refine WC.seq ?_
  refine WC.region ?_
  refine WL.y (Y.assign rfl) rfl ?_
  refine WL.nil ?_
  refine At.then ?_
  refine WC.seq ?_
  refine WC.seq ?_
  refine WC.region ?_
  obtain ⟨r14, hp15, h⟩ := bnd h
  refine WL.call (vals := []) kok6 rfl rfl (c_law30_awake hp15) ?_
  rintro vr18 wd17 ⟨rfl, hm16⟩
  obtain ⟨O19, hold20, hnew21, hst22⟩ := adoptE (Lg.O0 A) (fun k => 1) hm16
  refine WL.y (Y.not rfl) rfl ?_
  refine WL.nil ?_
  refine At.then ?_
  rcases cnd h with ⟨hc23, h⟩ | ⟨hc23, h⟩
  · refine WC.condT' rfl hc23 ?_
    refine WC.seq ?_
    refine WC.region ?_
    refine WL.y (Y.assign rfl) rfl ?_
    refine WL.nil ?_
    refine At.then ?_
    refine WC.ret ?_
    refine At.thenR ?_
    obtain rfl := some1 h
    have hs24 : Stp [] (Lg.O0 A) w O19 wd17 := (Stp.up hst22 rfl)
    exact At.res (.inl rfl) rfl (.tmp rfl .nil) ⟨rfl, (Stp.ext hs24 rfl rfl)⟩
  · refine WC.condF' rfl hc23 ?_
    refine WC.skip ?_
    refine At.then ?_
    refine WC.seq ?_
    refine WC.seq ?_
    refine WC.region ?_
    refine WL.y (Y.move rfl) rfl ?_
    have hf25 := hf11.mono (imm_st hst22 rfl rfl)
    obtain ⟨r26, hp27, h⟩ := bnd h
    refine WL.call (vals := [v0]) kok7 rfl rfl (c_ref30_Few (A := fun _ => True) (Sl.all hf25) hp27) ?_
    rintro vr30 wd29 ⟨rfl, hm28⟩
    obtain ⟨O31, hold32, hnew33, hst34⟩ := adoptE O19 (fun k => 1) hm28
    refine WL.y (Y.not rfl) rfl ?_
    refine WL.y (Y.move rfl) rfl ?_
    refine WL.cut 4 (σ := Unit) (fun _ w' => wd29 = w') (fun _ => [(0, v0), (1, vi a1), (2, v2), (3, v3), (27, .bool ((!r26) || (decide (60 < (a2.length : Int)))))]) ?_ ?_
    · refine WL.part 23 rfl (fun hE35 => ?_) (fun hE35 => ?_)
      · refine WL.gS rfl rfl rfl rfl ?_
        refine WL.gS rfl rfl rfl rfl ?_
        refine WL.gS rfl rfl rfl rfl ?_
        refine WL.y (Y.pick (b := true) rfl rfl) rfl ?_
        refine WL.ren (v' := .bool ((!r26) || (decide (60 < (a2.length : Int))))) 27 rfl (congrArg Value.bool (orT hE35)) ?_
        exact WL.nil (At.join () rfl (.cons rfl (.cons rfl (.cons rfl (.cons rfl (.cons rfl .nil))))))
      · refine WL.ung rfl rfl ?_
        refine WL.y (Y.move rfl) rfl ?_
        refine WL.ung rfl rfl ?_
        have hf36 := hf12.mono (imm_st hst22 rfl rfl)
        have hf37 := hf36.mono (imm_st hst34 rfl rfl)
        refine WL.y (Y.len ty36 rfl hf37) rfl ?_
        refine WL.ung rfl rfl ?_
        refine WL.y (Y.gtr_i rfl rfl) rfl ?_
        refine WL.y (Y.pick (b := false) rfl rfl) rfl ?_
        refine WL.ren (v' := .bool ((!r26) || (decide (60 < (a2.length : Int))))) 27 rfl (congrArg Value.bool (orF hE35)) ?_
        exact WL.nil (At.join () rfl (.cons rfl (.cons rfl (.cons rfl (.cons rfl (.cons rfl .nil))))))
    · rintro _ _ rfl
      refine (show WL _ _ _ _ _ [(0, v0), (1, vi a1), (2, v2), (3, v3), (27, .bool ((!r26) || (decide (60 < (a2.length : Int)))))] _ from ?_)
      refine WL.y (Y.move rfl) rfl ?_
      refine WL.cut 4 (σ := Unit) (fun _ w' => wd29 = w') (fun _ => [(0, v0), (1, vi a1), (2, v2), (3, v3), (32, .bool (((!r26) || (decide (60 < (a2.length : Int)))) || (decide (300 < (a3.length : Int)))))]) ?_ ?_
      · refine WL.part 28 rfl (fun hE38 => ?_) (fun hE38 => ?_)
        · refine WL.gS rfl rfl rfl rfl ?_
          refine WL.gS rfl rfl rfl rfl ?_
          refine WL.gS rfl rfl rfl rfl ?_
          refine WL.y (Y.pick (b := true) rfl rfl) rfl ?_
          refine WL.ren (v' := .bool (((!r26) || (decide (60 < (a2.length : Int)))) || (decide (300 < (a3.length : Int))))) 32 rfl (congrArg Value.bool (orT hE38)) ?_
          exact WL.nil (At.join () rfl (.cons rfl (.cons rfl (.cons rfl (.cons rfl (.cons rfl .nil))))))
        · refine WL.ung rfl rfl ?_
          refine WL.y (Y.move rfl) rfl ?_
          refine WL.ung rfl rfl ?_
          have hf39 := hf13.mono (imm_st hst22 rfl rfl)
          have hf40 := hf39.mono (imm_st hst34 rfl rfl)
          refine WL.y (Y.len ty25 rfl hf40) rfl ?_
          refine WL.ung rfl rfl ?_
          refine WL.y (Y.gtr_i rfl rfl) rfl ?_
          refine WL.y (Y.pick (b := false) rfl rfl) rfl ?_
          refine WL.ren (v' := .bool (((!r26) || (decide (60 < (a2.length : Int)))) || (decide (300 < (a3.length : Int))))) 32 rfl (congrArg Value.bool (orF hE38)) ?_
          exact WL.nil (At.join () rfl (.cons rfl (.cons rfl (.cons rfl (.cons rfl (.cons rfl .nil))))))
      · rintro _ _ rfl
        refine (show WL _ _ _ _ _ [(0, v0), (1, vi a1), (2, v2), (3, v3), (32, .bool (((!r26) || (decide (60 < (a2.length : Int)))) || (decide (300 < (a3.length : Int)))))] _ from ?_)
        refine WL.nil ?_
        refine At.then ?_
        rcases cnd h with ⟨hc41, h⟩ | ⟨hc41, h⟩
        · refine WC.condT' rfl hc41 ?_
          refine WC.seq ?_
          refine WC.region ?_
          refine WL.y (Y.assign rfl) rfl ?_
          refine WL.nil ?_
          refine At.then ?_
          refine WC.ret ?_
          refine At.thenR ?_
          obtain rfl := some1 h
          have hs42 : Stp [] (Lg.O0 A) w O31 wd29 := (Stp.trans (Stp.up hst22 rfl) (Stp.up hst34 rfl))
          exact At.res (.inl rfl) rfl (.tmp rfl .nil) ⟨rfl, (Stp.ext hs42 rfl rfl)⟩
        · refine WC.condF' rfl hc41 ?_
          refine WC.skip ?_
          refine At.then ?_
          refine WC.seq ?_
          refine WC.region ?_
          refine WL.y (Y.move rfl) rfl ?_
          refine WL.y (Y.move rfl) rfl ?_
          have hf43 := hf25.mono (imm_st hst34 rfl rfl)
          obtain ⟨r44, hp45, h⟩ := bnd h
          refine WL.call (vals := [v0, vi a1]) kok13 rfl rfl (c_ref30_All (A := imm O31) hf43 hp45) ?_
          rintro vr50 wd49 ⟨_, rfl, hm48, f47⟩
          obtain ⟨O51, hold52, hnew53, hst54⟩ := adoptE O31 (fun k => 1) hm48
          have hf55 : Sl rep_api_Fld wd49 (imm O51) vr50 r44 := Sl.adoptI (O := O31) f47 (fun _ hk => hk) (fun _ _ => Nat.le_refl _) hold52 hnew53
          refine WL.y (Y.assign rfl) rfl ?_
          refine WL.nil ?_
          refine At.then ?_
          refine WC.seq ?_
          refine WC.region ?_
          refine WL.y (Y.move rfl) rfl ?_
          refine WL.y (Y.move rfl) rfl ?_
          have hf56 := hf43.mono (imm_st hst54 rfl rfl)
          obtain ⟨⟨r57, r58⟩, hp59, h⟩ := bnd h
          refine WL.call (vals := [v0, vi a1]) kok14 rfl rfl (c_wire_Last (A := imm O51) hf56 hp59) ?_
          rintro vr64 wd63 ⟨u60, rfl, hm62, f61⟩
          obtain ⟨O65, hold66, hnew67, hst68⟩ := adoptE O51 (fun k => 1) hm62
          have hf69 : Sl Rep.b wd63 (imm O65) u60 r57.B := Sl.adoptI (O := O51) f61 (fun _ hk => hk) (fun _ _ => Nat.le_refl _) hold66 hnew67
          refine WL.y (Y.move rfl) rfl ?_
          refine WL.y (Y.extract rfl rfl) rfl ?_
          refine WL.y (Y.extract rfl rfl) rfl ?_
          refine WL.alloc (O := O65) 11 [vi 0, vi 0, vu 0, .slice none 0 0] ty40 rfl rfl ?_
          intro p71 O72 wd73 hst74 hb70
          have hf75 := hf69.mono (imm_st hst74 rfl rfl)
          have hh79 := h
          obtain ⟨p76, m77, c78, rfl⟩ := hf75.shape
          have h := hh79
          refine WL.store (v := .agg [vi r57.Num, vi r57.Type_, vu r57.V, (.slice p76 m77 c78)].toArray) (cells' := [vi r57.Num, vi r57.Type_, vu r57.V, (.slice p76 m77 c78)]) ty40 rfl rfl hb70 rfl (Nat.le_of_ble_eq_true rfl) rfl rfl ?_
          intro wd80 hst81 hb82
          refine WL.y (Y.assign rfl) rfl ?_
          refine WL.nil ?_
          refine At.then ?_
          refine WC.seq ?_
          refine WC.seq ?_
          refine WC.drawH [] [0, 1, 2, 3, 4, 5, 6, 7, 8, 9, 10, 11, 12, 13, 14, 15, 16, 17, 18, 19, 20, 21, 22, 23, 24, 25, 26] O72 27 fmix rfl (by kernel_rfl) ?_
          intro wd83 hst84
          refine WD.y 0 rfl (by kernel_rfl) (fun _ _ _ => Y.move rfl) rfl ?_
          refine WD.y 1 rfl (by kernel_rfl) (fun _ _ _ => Y.move rfl) rfl ?_
          refine WD.y 3 rfl (by kernel_rfl) (fun _ _ _ => Y.move rfl) rfl ?_
          refine WD.heavy 2 rfl (by kernel_rfl) ?_
          have hf94 := hf56.mono (imm_st hst68 rfl rfl)
          have hf95 := hf94.mono (imm_st hst74 rfl rfl)
          have hf96 := hf95.mono (imm_st hst81 rfl rfl)
          have hf97 := hf96.mono (imm_st hst84 rfl rfl)
          obtain ⟨r98, hp99, h⟩ := bnd h
          refine WL.call (vals := [v0, vi a1]) kok15 rfl rfl (c_wire_All (A := imm O72) hf97 hp99) ?_
          rintro vr104 wd103 ⟨_, rfl, hm102, f101⟩
          obtain ⟨O105, hold106, hnew107, hst108⟩ := adoptE O72 (fun k => 1) hm102
          have hf109 : Sl rep_api_Fld wd103 (imm O105) vr104 r98 := Sl.adoptI (O := O72) f101 (fun _ hk => hk) (fun _ _ => Nat.le_refl _) hold106 hnew107
          refine WL.nil ?_
          refine At.dq (Stp.up hst108 rfl) ?_
          refine WD.heavy 4 rfl (by kernel_rfl) ?_
          have hf110 := hf55.mono (imm_st hst68 rfl rfl)
          have hf111 := hf110.mono (imm_st hst74 rfl rfl)
          have hf112 := hf111.mono (imm_st hst81 rfl rfl)
          have hf113 := hf112.mono (imm_st hst84 rfl rfl)
          have hf114 := hf113.mono (imm_st hst108 rfl rfl)
          obtain ⟨r115, hp116, h⟩ := bnd h
          refine WL.call (vals := [vr104, vr50]) kok11 rfl rfl (c_ref30_Same (A := fun _ => True) (Sl.all hf109) (Sl.all hf114) hp116) ?_
          rintro vr119 wd118 ⟨rfl, hm117⟩
          obtain ⟨O120, hold121, hnew122, hst123⟩ := adoptE O105 (fun k => 1) hm117
          refine WL.nil ?_
          refine At.dq (Stp.up hst123 rfl) ?_
          refine WD.y 5 rfl (by kernel_rfl) (fun _ _ _ => Y.not rfl) rfl ?_
          refine WD.y 6 rfl (by kernel_rfl) (fun _ _ _ => Y.move rfl) rfl ?_
          refine WD.join (σ := Unit) (f' := 14) [12, 11, 10, 9, 8, 7, 6, 5, 4, 2, 3, 1, 0] (fun _ O' w' => O120 = O' ∧ wd118 = w') (fun _ => [(2, v2), (3, v3), (9, vr50), (10, .pointer (some ⟨p71, 0, none⟩)), (11, .bool r58), (54, .bool ((!r115) || (!decide (r58 = decide (0 < (r44.length : Int))))))]) (fun hJ130 => ?_) ?_
          · refine WD.part 48 rfl (fun hE131 => ?_) (fun hE131 => ?_)
            · refine WD.gS 7 rfl (by kernel_rfl) rfl rfl rfl rfl ?_
              refine WD.gS 8 rfl (by kernel_rfl) rfl rfl rfl rfl ?_
              refine WD.gS 9 rfl (by kernel_rfl) rfl rfl rfl rfl ?_
              refine WD.gS 10 rfl (by kernel_rfl) rfl rfl rfl rfl ?_
              refine WD.gS 11 rfl (by kernel_rfl) rfl rfl rfl rfl ?_
              refine WD.y 12 rfl (by kernel_rfl) (fun _ _ _ => Y.pick (b := true) rfl rfl) rfl ?_
              refine WD.ren (v' := .bool ((!r115) || (!decide (r58 = decide (0 < (r44.length : Int)))))) 54 rfl (congrArg Value.bool (orT hE131)) ?_
              exact hJ130 () _ _ _ ⟨rfl, rfl⟩ (.cons rfl (.cons rfl (.cons rfl (.cons rfl (.cons rfl (.cons rfl .nil))))))
            · refine WD.gT 7 rfl (by kernel_rfl) rfl rfl (fun _ _ _ => Y.move rfl) rfl ?_
              refine WD.gT 8 rfl (by kernel_rfl) rfl rfl (fun _ _ _ => Y.move rfl) rfl ?_
              refine WD.gT 9 rfl (by kernel_rfl) rfl rfl (fun wd142 O141 hst143 => have hf144 := hf114.mono (imm_st hst123 rfl rfl); have hf145 := hf144.mono (imm_st hst143 rfl rfl); Y.len ty22 rfl hf145) rfl ?_
              refine WD.gT 10 rfl (by kernel_rfl) rfl rfl (fun _ _ _ => Y.gtr_i rfl rfl) rfl ?_
              refine WD.gT 11 rfl (by kernel_rfl) rfl rfl (fun _ _ _ => Y.neqB rfl rfl ty4.u) rfl ?_
              refine WD.y 12 rfl (by kernel_rfl) (fun _ _ _ => Y.pick (b := false) rfl rfl) rfl ?_
              refine WD.ren (v' := .bool ((!r115) || (!decide (r58 = decide (0 < (r44.length : Int)))))) 54 rfl (congrArg Value.bool (orF hE131)) ?_
              exact hJ130 () _ _ _ ⟨rfl, rfl⟩ (.cons rfl (.cons rfl (.cons rfl (.cons rfl (.cons rfl (.cons rfl .nil))))))
          · rintro _ _ _ ⟨rfl, rfl⟩
            refine (show WD _ _ _ _ _ _ _ _ [(2, v2), (3, v3), (9, vr50), (10, .pointer (some ⟨p71, 0, none⟩)), (11, .bool r58), (54, .bool ((!r115) || (!decide (r58 = decide (0 < (r44.length : Int))))))] _ _ from ?_)
            refine WD.y 13 rfl (by kernel_rfl) (fun _ _ _ => Y.move rfl) rfl ?_
            obtain ⟨p162, h, hk163⟩ := bnd h
            refine WD.join (σ := (Bool × Own)) (f' := 0) [26, 25, 24, 23, 17, 22, 21, 20, 19, 18, 16, 15, 14, 13, 12, 11, 10, 9, 8, 7, 6, 5, 4, 2, 3, 1, 0] (fun x O' w' => x.1 = p162 ∧ Stp [] O120 wd118 x.2 w' ∧ x.2 = O') (fun x => [(2, v2), (3, v3), (68, .bool x.1)]) (fun hJ164 => ?_) ?_
            · rcases cnd h with ⟨hE165, h⟩ | ⟨hE165, h⟩
              · refine WD.ren 55 rfl (congrArg Value.bool hE165) ?_
                refine WD.gS 14 rfl (by kernel_rfl) rfl rfl rfl rfl ?_
                refine WD.gS 15 rfl (by kernel_rfl) rfl rfl rfl rfl ?_
                refine WD.gS 16 rfl (by kernel_rfl) rfl rfl rfl rfl ?_
                refine WD.gS 18 rfl (by kernel_rfl) rfl rfl rfl rfl ?_
                refine WD.gS 19 rfl (by kernel_rfl) rfl rfl rfl rfl ?_
                refine WD.gS 20 rfl (by kernel_rfl) rfl rfl rfl rfl ?_
                refine WD.gS 21 rfl (by kernel_rfl) rfl rfl rfl rfl ?_
                refine WD.gS 22 rfl (by kernel_rfl) rfl rfl rfl rfl ?_
                refine WD.heavy 17 rfl (by kernel_rfl) ?_
                refine WL.gS rfl rfl rfl rfl ?_
                refine WL.nil ?_
                refine At.dq (Stp.refl _ _ _) ?_
                refine WD.heavy 23 rfl (by kernel_rfl) ?_
                refine WL.gS rfl rfl rfl rfl ?_
                refine WL.nil ?_
                refine At.dq (Stp.refl _ _ _) ?_
                refine WD.gS 24 rfl (by kernel_rfl) rfl rfl rfl rfl ?_
                refine WD.gS 25 rfl (by kernel_rfl) rfl rfl rfl rfl ?_
                refine WD.y 26 rfl (by kernel_rfl) (fun _ _ _ => Y.pick (b := true) rfl rfl) rfl ?_
                refine WD.ren 55 rfl (congrArg Value.bool hE165.symm) ?_
                exact hJ164 (true, O120) _ _ _ ⟨some1 h, (Stp.refl _ _ _), rfl⟩ (.cons rfl (.cons rfl (.cons rfl .nil)))
              · refine WD.ren 55 rfl (congrArg Value.bool hE165) ?_
                refine WD.gT 14 rfl (by kernel_rfl) rfl rfl (fun _ _ _ => Y.move rfl) rfl ?_
                refine WD.gT 15 rfl (by kernel_rfl) rfl rfl (fun _ _ _ => Y.move rfl) rfl ?_
                obtain ⟨p179, h, hk180⟩ := bnd h
                refine WD.join (σ := (Bool × Own)) (f' := 1) [25, 24, 23, 17, 22, 21, 20, 19, 18, 16, 15, 14, 13, 12, 11, 10, 9, 8, 7, 6, 5, 4, 2, 3, 1, 0] (fun x O' w' => x.1 = p179 ∧ Stp [] O120 wd118 x.2 w' ∧ x.2 = O') (fun x => [(2, v2), (3, v3), (55, .bool false), (67, .bool x.1)]) (fun hJ181 => ?_) ?_
                · rcases cnd h with ⟨hE182, h⟩ | ⟨hE182, h⟩
                  · refine WD.ren 57 rfl (congrArg Value.bool hE182) ?_
                    refine WD.gT 16 rfl (by kernel_rfl) rfl rfl (fun wd184 O183 hst185 => have hf186 := hb82.st hst84 rfl; have hf187 := hf186.st hst108 rfl; have hf188 := hf187.st hst123 rfl; have hf189 := hf188.st hst185 rfl; Y.loadAg ty40 rfl rfl (hf189.cells 0 [vi r57.Num, vi r57.Type_, vu r57.V, (.slice p76 m77 c78)] rfl) rfl) rfl ?_
                    refine WD.gT 18 rfl (by kernel_rfl) rfl rfl (fun _ _ _ => Y.move rfl) rfl ?_
                    refine WD.gT 19 rfl (by kernel_rfl) rfl rfl (fun _ _ _ => Y.move rfl) rfl ?_
                    refine WD.gT 20 rfl (by kernel_rfl) rfl rfl (fun wd197 O196 hst198 => have hf199 := hf114.mono (imm_st hst123 rfl rfl); have hf200 := hf199.mono (imm_st hst198 rfl rfl); Y.len ty22 rfl hf200) rfl ?_
                    refine WD.gT 21 rfl (by kernel_rfl) rfl rfl (fun _ _ _ => Y.sub_i rfl rfl) rfl ?_
                    obtain ⟨t204, ht204, h⟩ := bnd h
                    have hf207 := hf114.mono (imm_st hst123 rfl rfl)
                    obtain ⟨v205, hY208, hf206⟩ := Sl.slice (ρ := [(60, vr50), (63, vi (w64 ((r44.length : Int) - 1)))]) (x := (.tmp 60)) (lo := (some (.tmp 63))) (hi := none) ty22 ty40 rfl rfl rfl hf207 ht204
                    refine WD.gT 22 rfl (by kernel_rfl) rfl rfl (fun _ _ _ => Y.sub (.cons rfl (.cons rfl .nil)) (hY208 _ _)) rfl ?_
                    refine WD.heavy 17 rfl (by kernel_rfl) ?_
                    refine WL.ung rfl rfl ?_
                    have hf214 := hf75.mono (imm_st hst81 rfl rfl)
                    have hf215 := hf214.mono (imm_st hst84 rfl rfl)
                    have hf216 := hf215.mono (imm_st hst108 rfl rfl)
                    have hf217 := hf216.mono (imm_st hst123 rfl rfl)
                    refine WL.buildSlice (O := O120) (R := rep_api_Fld) (vals := [(0, .agg [vi r57.Num, vi r57.Type_, vu r57.V, (.slice p76 m77 c78)].toArray)]) 12 [vi r57.Num, vi r57.Type_, vu r57.V, (.slice p76 m77 c78)] (xs := [r57]) (by decide) ty22 ty40 (by decide) (by decide) (Fits.evalp rfl) (by kernel_rfl) rfl ⟨[vi r57.Num, vi r57.Type_, vu r57.V, (.slice p76 m77 c78)], [], rfl, ⟨[vi r57.Num], [vi r57.Type_, vu r57.V, (.slice p76 m77 c78)], rfl, rfl, ⟨[vi r57.Type_], [vu r57.V, (.slice p76 m77 c78)], rfl, rfl, ⟨[vu r57.V], [(.slice p76 m77 c78)], rfl, rfl, ⟨_, rfl, hf217⟩⟩⟩⟩, rfl⟩ rfl ?_
                    intro v212 O218 wd219 hst220 ho213
                    refine WL.nil ?_
                    refine At.dq (Stp.up hst220 rfl) ?_
                    refine WD.heavy 23 rfl (by kernel_rfl) ?_
                    refine WL.ung rfl rfl ?_
                    have hf221 := hf206.mono (imm_st hst220 rfl rfl)
                    obtain ⟨r222, hp223, h⟩ := bnd h
                    refine WL.call (vals := [v212, v205]) kok11 rfl rfl (c_ref30_Same (A := fun _ => True) (ho213.src.sl) (Sl.all hf221) hp223) ?_
                    rintro vr226 wd225 ⟨rfl, hm224⟩
                    obtain ⟨O227, hold228, hnew229, hst230⟩ := adoptE O218 (fun k => 1) hm224
                    refine WL.nil ?_
                    refine At.dq (Stp.up hst230 rfl) ?_
                    refine WD.gT 24 rfl (by kernel_rfl) rfl rfl (fun _ _ _ => Y.not rfl) rfl ?_
                    refine WD.gT 25 rfl (by kernel_rfl) rfl rfl (fun _ _ _ => Y.pick (b := true) rfl rfl) rfl ?_
                    refine WD.ren 57 rfl (congrArg Value.bool hE182.symm) ?_
                    exact hJ181 ((!r222), O227) _ _ _ ⟨some1 h, (Stp.trans (Stp.up hst220 rfl) (Stp.up hst230 rfl)), rfl⟩ (.cons rfl (.cons rfl (.cons rfl (.cons rfl .nil))))
                  · refine WD.ren 57 rfl (congrArg Value.bool hE182) ?_
                    refine WD.gS 16 rfl (by kernel_rfl) rfl rfl rfl rfl ?_
                    refine WD.gS 18 rfl (by kernel_rfl) rfl rfl rfl rfl ?_
                    refine WD.gS 19 rfl (by kernel_rfl) rfl rfl rfl rfl ?_
                    refine WD.gS 20 rfl (by kernel_rfl) rfl rfl rfl rfl ?_
                    refine WD.gS 21 rfl (by kernel_rfl) rfl rfl rfl rfl ?_
                    refine WD.gS 22 rfl (by kernel_rfl) rfl rfl rfl rfl ?_
                    refine WD.heavy 17 rfl (by kernel_rfl) ?_
                    refine WL.gS rfl rfl rfl rfl ?_
                    refine WL.nil ?_
                    refine At.dq (Stp.refl _ _ _) ?_
                    refine WD.heavy 23 rfl (by kernel_rfl) ?_
                    refine WL.gS rfl rfl rfl rfl ?_
                    refine WL.nil ?_
                    refine At.dq (Stp.refl _ _ _) ?_
                    refine WD.gS 24 rfl (by kernel_rfl) rfl rfl rfl rfl ?_
                    refine WD.gT 25 rfl (by kernel_rfl) rfl rfl (fun _ _ _ => Y.pick (b := false) rfl rfl) rfl ?_
                    refine WD.ren 57 rfl (congrArg Value.bool hE182.symm) ?_
                    exact hJ181 (false, O120) _ _ _ ⟨some1 h, (Stp.refl _ _ _), rfl⟩ (.cons rfl (.cons rfl (.cons rfl (.cons rfl .nil))))
                · rintro ⟨x175, O176⟩ _ wd177 ⟨rfl, hst178, rfl⟩
                  replace h := hk180
                  try dsimp only at h hst178
                  refine (show WD _ _ _ _ _ _ _ _ [(2, v2), (3, v3), (55, .bool false), (67, .bool x175)] _ _ from ?_)
                  refine WD.y 26 rfl (by kernel_rfl) (fun _ _ _ => Y.pick (b := false) rfl rfl) rfl ?_
                  refine WD.ren 55 rfl (congrArg Value.bool hE165.symm) ?_
                  exact hJ164 (x175, O176) _ _ _ ⟨some1 h, (Stp.up hst178 rfl), rfl⟩ (.cons rfl (.cons rfl (.cons rfl .nil)))
            · rintro ⟨x158, O159⟩ _ wd160 ⟨rfl, hst161, rfl⟩
              replace h := hk163
              try dsimp only at h hst161
              refine (show WD _ _ _ _ _ _ _ _ [(2, v2), (3, v3), (68, .bool x158)] _ _ from ?_)
              refine WD.done_ (by kernel_rfl) ?_
              refine At.then ?_
              rcases cnd h with ⟨hc243, h⟩ | ⟨hc243, h⟩
              · refine WC.condT' rfl hc243 ?_
                refine WC.seq ?_
                refine WC.region ?_
                refine WL.y (Y.assign rfl) rfl ?_
                refine WL.nil ?_
                refine At.then ?_
                refine WC.ret ?_
                refine At.thenR ?_
                obtain rfl := some1 h
                have hs244 : Stp [11] (Lg.O0 A) w O159 wd160 := (Stp.trans (Stp.up hst22 rfl) (Stp.trans (Stp.up hst34 rfl) (Stp.trans (Stp.up hst54 rfl) (Stp.trans (Stp.up hst68 rfl) (Stp.trans (Stp.up hst74 rfl) (Stp.trans (Stp.up hst81 rfl) (Stp.trans (Stp.up hst84 rfl) (Stp.trans (Stp.up hst108 rfl) (Stp.trans (Stp.up hst123 rfl) (Stp.up hst161 rfl))))))))))
                exact At.res (.inl rfl) rfl (.tmp rfl .nil) ⟨rfl, (Stp.ext hs244 rfl rfl)⟩
              · refine WC.condF' rfl hc243 ?_
                refine WC.skip ?_
                refine At.then ?_
                refine WC.seq ?_
                refine WC.region ?_
                refine WL.y (Y.move rfl) rfl ?_
                have hf245 := hf12.mono (imm_st hst22 rfl rfl)
                have hf246 := hf245.mono (imm_st hst34 rfl rfl)
                have hf247 := hf246.mono (imm_st hst54 rfl rfl)
                have hf248 := hf247.mono (imm_st hst68 rfl rfl)
                have hf249 := hf248.mono (imm_st hst74 rfl rfl)
                have hf250 := hf249.mono (imm_st hst81 rfl rfl)
                have hf251 := hf250.mono (imm_st hst84 rfl rfl)
                have hf252 := hf251.mono (imm_st hst108 rfl rfl)
                have hf253 := hf252.mono (imm_st hst123 rfl rfl)
                have hf254 := hf253.mono (imm_st hst161 rfl rfl)
                obtain ⟨r255, hp256, h⟩ := bnd h
                refine WL.call (vals := [v2]) kok16 rfl rfl (c_wire_Packed (A := fun _ => True) (Sl.all hf254) hp256) ?_
                rintro vr261 wd260 ⟨_, rfl, hm259, f258⟩
                obtain ⟨O262, hold263, hnew264, hst265⟩ := adoptE O159 (fun k => if Value.ownBlock vr261 = some k then 13 else 1) hm259
                have hf266 : OwnSl 13 Rep.b 5 O262 wd260 vr261 r255 := RowF.adopt 13 Flat.b f258 hnew264 (fun k hk => if_pos hk)
                refine WL.y (Y.assign rfl) rfl ?_
                refine WL.nil ?_
                refine At.then ?_
                refine WC.seq ?_
                refine WC.region ?_
                refine WL.y (Y.move rfl) rfl ?_
                obtain ⟨⟨r267, r268⟩, hp269, h⟩ := bnd h
                refine WL.call (vals := [vr261]) kok17 rfl rfl (c_wire_Unpacked (A := fun _ => True) (hf266.src.sl) hp269) ?_
                rintro vr274 wd273 ⟨u270, rfl, hm272, f271⟩
                obtain ⟨O275, hold276, hnew277, hst278⟩ := adoptE O262 (fun k => if Value.ownBlock u270 = some k then 14 else 1) hm272
                have hf279 : OwnSl 14 Rep.u 38 O275 wd273 u270 r267 := RowF.adopt 14 Flat.u f271 hnew277 (fun k hk => if_pos hk)
                refine WL.y (Y.move rfl) rfl ?_
                refine WL.y (Y.extract rfl rfl) rfl ?_
                refine WL.y (Y.extract rfl rfl) rfl ?_
                refine WL.y (Y.assign rfl) rfl ?_
                refine WL.y (Y.assign rfl) rfl ?_
                refine WL.nil ?_
                refine At.then ?_
                refine WC.seq ?_
                refine WC.seq ?_
                refine WC.region ?_
                refine WL.y (Y.move rfl) rfl ?_
                refine WL.y (Y.neq_i rfl rfl) rfl ?_
                refine WL.y (Y.move rfl) rfl ?_
                refine WL.cut 6 (σ := Unit) (fun _ w' => wd273 = w') (fun _ => [(2, v2), (3, v3), (13, u270), (84, .bool ((!decide (r268 = 0)) || (!decide ((r267.length : Int) = (a2.length : Int)))))]) ?_ ?_
                · refine WL.part 78 rfl (fun hE280 => ?_) (fun hE280 => ?_)
                  · refine WL.gS rfl rfl rfl rfl ?_
                    refine WL.gS rfl rfl rfl rfl ?_
                    refine WL.gS rfl rfl rfl rfl ?_
                    refine WL.gS rfl rfl rfl rfl ?_
                    refine WL.gS rfl rfl rfl rfl ?_
                    refine WL.y (Y.pick (b := true) rfl rfl) rfl ?_
                    refine WL.ren (v' := .bool ((!decide (r268 = 0)) || (!decide ((r267.length : Int) = (a2.length : Int))))) 84 rfl (congrArg Value.bool (orT hE280)) ?_
                    exact WL.nil (At.join () rfl (.cons rfl (.cons rfl (.cons rfl (.cons rfl .nil)))))
                  · refine WL.ung rfl rfl ?_
                    refine WL.y (Y.move rfl) rfl ?_
                    refine WL.ung rfl rfl ?_
                    refine WL.y (Y.len ty36 rfl hf279.src.sl) rfl ?_
                    refine WL.ung rfl rfl ?_
                    refine WL.y (Y.move rfl) rfl ?_
                    refine WL.ung rfl rfl ?_
                    have hf281 := hf254.mono (imm_st hst265 rfl rfl)
                    have hf282 := hf281.mono (imm_st hst278 rfl rfl)
                    refine WL.y (Y.len ty36 rfl hf282) rfl ?_
                    refine WL.ung rfl rfl ?_
                    refine WL.y (Y.neq_i rfl rfl) rfl ?_
                    refine WL.y (Y.pick (b := false) rfl rfl) rfl ?_
                    refine WL.ren (v' := .bool ((!decide (r268 = 0)) || (!decide ((r267.length : Int) = (a2.length : Int))))) 84 rfl (congrArg Value.bool (orF hE280)) ?_
                    exact WL.nil (At.join () rfl (.cons rfl (.cons rfl (.cons rfl (.cons rfl .nil)))))
                · rintro _ _ rfl
                  refine (show WL _ _ _ _ _ [(2, v2), (3, v3), (13, u270), (84, .bool ((!decide (r268 = 0)) || (!decide ((r267.length : Int) = (a2.length : Int)))))] _ from ?_)
                  refine WL.nil ?_
                  refine At.then ?_
                  rcases cnd h with ⟨hc283, h⟩ | ⟨hc283, h⟩
                  · refine WC.condT' rfl hc283 ?_
                    refine WC.seq ?_
                    refine WC.region ?_
                    refine WL.y (Y.assign rfl) rfl ?_
                    refine WL.nil ?_
                    refine At.then ?_
                    refine WC.ret ?_
                    refine At.thenR ?_
                    obtain rfl := some1 h
                    have hs284 : Stp [11] (Lg.O0 A) w O275 wd273 := (Stp.trans (Stp.up hst22 rfl) (Stp.trans (Stp.up hst34 rfl) (Stp.trans (Stp.up hst54 rfl) (Stp.trans (Stp.up hst68 rfl) (Stp.trans (Stp.up hst74 rfl) (Stp.trans (Stp.up hst81 rfl) (Stp.trans (Stp.up hst84 rfl) (Stp.trans (Stp.up hst108 rfl) (Stp.trans (Stp.up hst123 rfl) (Stp.trans (Stp.up hst161 rfl) (Stp.trans (Stp.up hst265 rfl) (Stp.up hst278 rfl))))))))))))
                    exact At.res (.inl rfl) rfl (.tmp rfl .nil) ⟨rfl, (Stp.ext hs284 rfl rfl)⟩
                  · refine WC.condF' rfl hc283 ?_
                    refine WC.skip ?_
                    refine At.then ?_
                    refine WC.seq ?_
                    refine WC.seq ?_
                    refine WC.region ?_
                    refine WL.y (Y.assign rfl) rfl ?_
                    refine WL.nil ?_
                    refine At.then ?_
                    obtain ⟨p288, h, hk289⟩ := flow1 h
                    refine WC.join (σ := Own) (fun x w' => p288 = .go () ∧ Stp [] O275 wd273 x w') (fun x => [(3, v3)]) ?_ ?_
                    · refine WC.block ?_
                      obtain ⟨p297, h, hk299⟩ := flow1 h
                      obtain ⟨k298, h⟩ := loop_some h
                      refine WC.joinB 0 (σ := Own) (fun x w' => p297 = .go () ∧ Stp [] O275 wd273 x w') (fun x => [(3, v3)]) ?_ ?_
                      · refine WC.loop (σ := (Int × Own)) (fun x k w' => loopN k (law30_WireFinds_lp1 a2 r267) x.1 = some p297 ∧ Stp [] O275 wd273 x.2 w') (fun x => [(2, v2), (3, v3), (13, u270), (15, vi x.1)]) (0, O275) k298 (.cons rfl (.cons rfl (.cons rfl (.cons rfl .nil)))) ⟨h, (Stp.refl _ _ _)⟩ ?_
                        rintro ⟨i290, O291⟩ k298 wd292 ⟨h, hst293⟩
                        obtain ⟨j300, q301, rfl, h, hn302⟩ := rnd1 h
                        unfold law30_WireFinds_lp1 at h
                        try dsimp only at h hst293
                        refine (show WC _ _ _ _ [(2, v2), (3, v3), (13, u270), (15, vi i290)] _ from ?_)
                        refine WC.seq ?_
                        refine WC.seq ?_
                        refine WC.region ?_
                        refine WL.y (Y.move rfl) rfl ?_
                        refine WL.y (Y.move rfl) rfl ?_
                        have hf303 := hf254.mono (imm_st hst265 rfl rfl)
                        have hf304 := hf303.mono (imm_st hst278 rfl rfl)
                        have hf305 := hf304.mono (imm_st hst293 rfl rfl)
                        refine WL.y (Y.len ty36 rfl hf305) rfl ?_
                        refine WL.y (Y.lss_i rfl rfl) rfl ?_
                        refine WL.nil ?_
                        refine At.then ?_
                        rcases cnd h with ⟨hc306, h⟩ | ⟨hc306, h⟩
                        · refine WC.condT' rfl hc306 ?_
                          refine WC.skip ?_
                          refine At.then ?_
                          refine WC.seq ?_
                          refine WC.block ?_
                          refine WC.seq ?_
                          refine WC.draw 8 O291 fmix (by kernel_rfl) ?_
                          intro wd307 hst308
                          refine WS.y (Y.move rfl) rfl ?_
                          refine WS.y (Y.move rfl) rfl ?_
                          obtain ⟨e309, he309, h⟩ := bnd h
                          have hf318 := hf279.st hst293 rfl rfl rfl
                          have hf319 := hf318.st hst308 rfl rfl rfl
                          obtain ⟨b310, cap317, cs316, hv311, hi312, hl313, hc314, hok315⟩ := OwnSl.at hf319 he309
                          obtain rfl := hok315
                          replace hc314 : CellsAt _ _ _ [vu e309] := hc314
                          have hca320 := CAt.own hf319 hv311 hc314
                          refine WS.y (Y.indexAddr ty36 ty38 rfl hv311 rfl hi312 hl313) rfl ?_
                          refine WS.y (Y.loadSc ty38 rfl rfl hca320.at_) rfl ?_
                          refine WS.y (Y.move rfl) rfl ?_
                          refine WS.y (Y.move rfl) rfl ?_
                          obtain ⟨e321, he321, h⟩ := bnd h
                          have hf330 := hf305.mono (imm_st hst308 rfl rfl)
                          obtain ⟨b322, off331, cap329, cs328, hv323, hi324, hl325, hc326, hok327, hA332⟩ := Sl.at2 hf330 he321
                          obtain rfl := hok327
                          replace hc326 : CellsAt _ _ _ [vu e321] := hc326
                          have hca333 := CAt.imm hc326 hA332
                          refine WS.y (Y.indexAddr ty36 ty38 rfl hv323 rfl hi324 hl325) rfl ?_
                          refine WS.y (Y.loadSc ty38 rfl rfl hca333.at_) rfl ?_
                          refine WS.tail ?_
                          refine WL.y (Y.neq_u rfl rfl) rfl ?_
                          refine WL.nil ?_
                          refine At.then ?_
                          rcases cnd h with ⟨hc334, h⟩ | ⟨hc334, h⟩
                          · refine WC.condT' rfl hc334 ?_
                            refine WC.seq ?_
                            refine WC.region ?_
                            refine WL.y (Y.assign rfl) rfl ?_
                            refine WL.nil ?_
                            refine At.then ?_
                            refine WC.ret ?_
                            refine At.inBlockR ?_
                            refine At.thenR ?_
                            refine At.loopR ?_
                            have h := outr1 h hn302 hk299
                            refine At.joinBR ?_
                            refine At.inBlockR ?_
                            have h := outs1 h hk289
                            refine At.joinR ?_
                            refine At.thenR ?_
                            obtain rfl := some1 h
                            have hs335 : Stp [11] (Lg.O0 A) w O291 wd307 := (Stp.trans (Stp.up hst22 rfl) (Stp.trans (Stp.up hst34 rfl) (Stp.trans (Stp.up hst54 rfl) (Stp.trans (Stp.up hst68 rfl) (Stp.trans (Stp.up hst74 rfl) (Stp.trans (Stp.up hst81 rfl) (Stp.trans (Stp.up hst84 rfl) (Stp.trans (Stp.up hst108 rfl) (Stp.trans (Stp.up hst123 rfl) (Stp.trans (Stp.up hst161 rfl) (Stp.trans (Stp.up hst265 rfl) (Stp.trans (Stp.up hst278 rfl) (Stp.trans (Stp.up hst293 rfl) (Stp.up hst308 rfl))))))))))))))
                            exact At.res (.inl rfl) rfl (.tmp rfl .nil) ⟨rfl, (Stp.ext hs335 rfl rfl)⟩
                          · refine WC.condF' rfl hc334 ?_
                            refine WC.skip ?_
                            refine At.inBlock ?_
                            refine At.then ?_
                            refine WC.region ?_
                            refine WL.y (Y.move rfl) rfl ?_
                            refine WL.y (Y.add_i rfl rfl) rfl ?_
                            obtain ⟨i336, hi336, h⟩ := lt1 h
                            refine WL.yE (Y.assign rfl) (congrArg vi hi336.symm) rfl ?_
                            refine WL.nil ?_
                            exact At.round (i336, O291) j300 (Nat.lt_succ_self _) ⟨next1 h hn302, (Stp.trans (Stp.up hst293 rfl) (Stp.up hst308 rfl))⟩ (.cons rfl (.cons rfl (.cons rfl (.cons rfl .nil))))
                        · refine WC.condF' rfl hc306 ?_
                          refine WC.exit ?_
                          refine At.thenX ?_
                          refine At.loopX ?_
                          exact At.hitB (σ := Own) O291 ⟨brk1 h hn302, (Stp.up hst293 rfl)⟩ (.cons rfl .nil)
                      · rintro O294 wd295 ⟨rfl, hst296⟩
                        replace h := flowK_go hk299
                        refine (show At _ _ _ [(3, v3)] _ from ?_)
                        refine At.inBlockHit ?_
                        exact At.join (σ := Own) O294 ⟨go2 h, (Stp.up hst296 rfl)⟩ (.cons rfl .nil)
                    · rintro O285 wd286 ⟨rfl, hst287⟩
                      replace h := flowK_go hk289
                      refine (show At _ _ _ [(3, v3)] _ from ?_)
                      refine At.then ?_
                      refine WC.seq ?_
                      refine WC.region ?_
                      refine WL.y (Y.move rfl) rfl ?_
                      have hf337 := hf13.mono (imm_st hst22 rfl rfl)
                      have hf338 := hf337.mono (imm_st hst34 rfl rfl)
                      have hf339 := hf338.mono (imm_st hst54 rfl rfl)
                      have hf340 := hf339.mono (imm_st hst68 rfl rfl)
                      have hf341 := hf340.mono (imm_st hst74 rfl rfl)
                      have hf342 := hf341.mono (imm_st hst81 rfl rfl)
                      have hf343 := hf342.mono (imm_st hst84 rfl rfl)
                      have hf344 := hf343.mono (imm_st hst108 rfl rfl)
                      have hf345 := hf344.mono (imm_st hst123 rfl rfl)
                      have hf346 := hf345.mono (imm_st hst161 rfl rfl)
                      have hf347 := hf346.mono (imm_st hst265 rfl rfl)
                      have hf348 := hf347.mono (imm_st hst278 rfl rfl)
                      have hf349 := hf348.mono (imm_st hst287 rfl rfl)
                      obtain ⟨⟨r350, r351⟩, hp352, h⟩ := bnd h
                      refine WL.call (vals := [v3]) kok17 rfl rfl (c_wire_Unpacked (A := fun _ => True) (Sl.all hf349) hp352) ?_
                      rintro vr357 wd356 ⟨u353, rfl, hm355, f354⟩
                      obtain ⟨O358, hold359, hnew360, hst361⟩ := adoptE O285 (fun k => if Value.ownBlock u353 = some k then 15 else 1) hm355
                      have hf362 : OwnSl 15 Rep.u 38 O358 wd356 u353 r350 := RowF.adopt 15 Flat.u f354 hnew360 (fun k hk => if_pos hk)
                      refine WL.y (Y.move rfl) rfl ?_
                      refine WL.y (Y.extract rfl rfl) rfl ?_
                      refine WL.y (Y.extract rfl rfl) rfl ?_
                      refine WL.y (Y.assign rfl) rfl ?_
                      refine WL.y (Y.assign rfl) rfl ?_
                      refine WL.nil ?_
                      refine At.then ?_
                      refine WC.seq ?_
                      refine WC.seq ?_
                      refine WC.region ?_
                      refine WL.y (Y.move rfl) rfl ?_
                      refine WL.y (Y.neq_i rfl rfl) rfl ?_
                      refine WL.nil ?_
                      refine At.then ?_
                      rcases cnd h with ⟨hc363, h⟩ | ⟨hc363, h⟩
                      · refine WC.condT' rfl hc363 ?_
                        refine WC.seq ?_
                        refine WC.region ?_
                        refine WL.y (Y.move rfl) rfl ?_
                        refine WL.y (Y.len ty36 rfl hf362.src.sl) rfl ?_
                        refine WL.y (Y.eql_i rfl rfl) rfl ?_
                        obtain ⟨t364, ht364, h⟩ := lt1 h
                        refine WL.yE (Y.assign rfl) (congrArg Value.bool ht364.symm) rfl ?_
                        refine WL.nil ?_
                        refine At.then ?_
                        refine WC.ret ?_
                        refine At.thenR ?_
                        obtain rfl := some1 h
                        have hs365 : Stp [11] (Lg.O0 A) w O358 wd356 := (Stp.trans (Stp.up hst22 rfl) (Stp.trans (Stp.up hst34 rfl) (Stp.trans (Stp.up hst54 rfl) (Stp.trans (Stp.up hst68 rfl) (Stp.trans (Stp.up hst74 rfl) (Stp.trans (Stp.up hst81 rfl) (Stp.trans (Stp.up hst84 rfl) (Stp.trans (Stp.up hst108 rfl) (Stp.trans (Stp.up hst123 rfl) (Stp.trans (Stp.up hst161 rfl) (Stp.trans (Stp.up hst265 rfl) (Stp.trans (Stp.up hst278 rfl) (Stp.trans (Stp.up hst287 rfl) (Stp.up hst361 rfl))))))))))))))
                        exact At.res (.inl rfl) rfl (.tmp rfl .nil) ⟨rfl, (Stp.ext hs365 rfl rfl)⟩
                      · refine WC.condF' rfl hc363 ?_
                        refine WC.skip ?_
                        refine At.then ?_
                        refine WC.seq ?_
                        refine WC.drawH [] [0, 1, 2, 3, 4, 5, 6] O358 7 fmix rfl (by kernel_rfl) ?_
                        intro wd366 hst367
                        refine WD.y 0 rfl (by kernel_rfl) (fun _ _ _ => Y.move rfl) rfl ?_
                        refine WD.y 3 rfl (by kernel_rfl) (fun _ _ _ => Y.move rfl) rfl ?_
                        refine WD.y 4 rfl (by kernel_rfl) (fun wd375 O374 hst376 => have hf377 := hf349.mono (imm_st hst361 rfl rfl); have hf378 := hf377.mono (imm_st hst367 rfl rfl); have hf379 := hf378.mono (imm_st hst376 rfl rfl); Y.b2s ty25 ty5 ty9 rfl hf379) rfl ?_
                        refine WD.heavy 1 rfl (by kernel_rfl) ?_
                        have hf380 := hf362.st hst367 rfl rfl rfl
                        obtain ⟨r381, hp382, h⟩ := bnd h
                        refine WL.call (vals := [u353]) kok16 rfl rfl (c_wire_Packed (A := fun _ => True) (hf380.src.sl) hp382) ?_
                        rintro vr387 wd386 ⟨_, rfl, hm385, f384⟩
                        obtain ⟨O388, hold389, hnew390, hst391⟩ := adoptE O358 (fun k => if Value.ownBlock vr387 = some k then 16 else 1) hm385
                        have hf392 : OwnSl 16 Rep.b 5 O388 wd386 vr387 r381 := RowF.adopt 16 Flat.b f384 hnew390 (fun k hk => if_pos hk)
                        refine WL.nil ?_
                        refine At.dq (Stp.up hst391 rfl) ?_
                        refine WD.y 2 rfl (by kernel_rfl) (fun wd394 O393 hst395 => have hf396 := hf392.st hst395 rfl rfl rfl; Y.b2s ty25 ty5 ty9 rfl hf396.src.sl) rfl ?_
                        refine WD.y 5 rfl (by kernel_rfl) (fun _ _ _ => Y.eql_s rfl rfl) rfl ?_
                        obtain ⟨t400, ht400, h⟩ := lt1 h
                        refine WD.yE 6 rfl (by kernel_rfl) (fun _ _ _ => Y.assign rfl) (congrArg Value.bool ht400.symm) rfl ?_
                        refine WD.done_ (by kernel_rfl) ?_
                        refine At.then ?_
                        refine WC.ret ?_
                        obtain rfl := some1 h
                        have hs404 : Stp [11] (Lg.O0 A) w O388 wd386 := (Stp.trans (Stp.up hst22 rfl) (Stp.trans (Stp.up hst34 rfl) (Stp.trans (Stp.up hst54 rfl) (Stp.trans (Stp.up hst68 rfl) (Stp.trans (Stp.up hst74 rfl) (Stp.trans (Stp.up hst81 rfl) (Stp.trans (Stp.up hst84 rfl) (Stp.trans (Stp.up hst108 rfl) (Stp.trans (Stp.up hst123 rfl) (Stp.trans (Stp.up hst161 rfl) (Stp.trans (Stp.up hst265 rfl) (Stp.trans (Stp.up hst278 rfl) (Stp.trans (Stp.up hst287 rfl) (Stp.trans (Stp.up hst361 rfl) (Stp.trans (Stp.up hst367 rfl) (Stp.up hst391 rfl))))))))))))))))
                        exact At.res (.inl rfl) rfl (.tmp rfl .nil) ⟨rfl, (Stp.ext hs404 rfl rfl)⟩

end Go.Lg
