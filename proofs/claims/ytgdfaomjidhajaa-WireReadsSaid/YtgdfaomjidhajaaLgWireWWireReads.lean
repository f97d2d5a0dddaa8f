/- The walks of WireReads and of what it calls, printed by gen.py. -/
import Derived.Test.YtgdfaomjidhajaaLgWireP
import Derived.Test.YtgdfaomjidhajaaProg
set_option linter.unusedVariables false
namespace Go.Lg
open Go Go.Proofs
set_option maxRecDepth 100000
theorem fmix : Try.prog.follows .mixedOrders = true := by kernel_rfl
theorem ty3 : TyOk Try.prog 3 (.int .i64) 1 8 (.int .i64 0) := tyOk Try.underlying3 (by kernel_rfl)
theorem ty5 : TyOk Try.prog 5 (.int .u8) 1 1 (.int .u8 0) := tyOk Try.underlying5 (by kernel_rfl)
theorem ty9 : TyOk Try.prog 9 .string 1 16 (.string ⟨#[]⟩) := tyOk Try.underlying9 (by kernel_rfl)
theorem ty22 : TyOk Try.prog 22 (.slice 40) 1 24 (.slice none 0 0) := tyOk Try.underlying22 (by kernel_rfl)
theorem ty25 : TyOk Try.prog 25 (.slice 5) 1 24 (.slice none 0 0) := tyOk Try.underlying25 (by kernel_rfl)
theorem ty26 : TyOk Try.prog 26 (.int .i64) 1 8 (.int .i64 0) := tyOk Try.underlying26 (by kernel_rfl)
theorem ty33 : TyOk Try.prog 33 (.struct #[(Field.mk "L" 22 0 false "" "" 0), (Field.mk "At" 3 1 false "" "" 24), (Field.mk "E" 26 2 false "" "" 32)]) 3 40 (.agg #[(.slice none 0 0), (.int .i64 0), (.int .i64 0)]) := tyOk Try.underlying33 (by kernel_rfl)
theorem ty38 : TyOk Try.prog 38 (.int .u64) 1 8 (.int .u64 0) := tyOk Try.underlying38 (by kernel_rfl)
theorem ty40 : TyOk Try.prog 40 (.struct #[(Field.mk "Num" 3 0 false "" "" 0), (Field.mk "Type" 3 1 false "" "" 8), (Field.mk "V" 38 2 false "" "" 16), (Field.mk "B" 25 3 false "" "" 24)]) 4 48 (.agg #[(.int .i64 0), (.int .i64 0), (.int .u64 0), (.slice none 0 0)]) := tyOk Try.underlying40 (by kernel_rfl)
theorem ty55 : TyOk Try.prog 55 (.struct #[(Field.mk "V" 38 0 false "" "" 0), (Field.mk "N" 3 1 false "" "" 8), (Field.mk "E" 26 2 false "" "" 16)]) 3 24 (.agg #[(.int .u64 0), (.int .i64 0), (.int .i64 0)]) := tyOk Try.underlying55 (by kernel_rfl)
theorem ty58 : TyOk Try.prog 58 (.int .u64) 1 8 (.int .u64 0) := tyOk Try.underlying58 (by kernel_rfl)
theorem fo33_0 : FieldOk Try.prog 33 0 0 := fieldOk Try.underlying33 rfl rfl (by kernel_rfl)
theorem fo33_1 : FieldOk Try.prog 33 1 1 := fieldOk Try.underlying33 rfl rfl (by kernel_rfl)
theorem fo33_2 : FieldOk Try.prog 33 2 2 := fieldOk Try.underlying33 rfl rfl (by kernel_rfl)
theorem fo40_0 : FieldOk Try.prog 40 0 0 := fieldOk Try.underlying40 rfl rfl (by kernel_rfl)
theorem fo40_1 : FieldOk Try.prog 40 1 1 := fieldOk Try.underlying40 rfl rfl (by kernel_rfl)
theorem fo40_2 : FieldOk Try.prog 40 2 2 := fieldOk Try.underlying40 rfl rfl (by kernel_rfl)
theorem fo40_3 : FieldOk Try.prog 40 3 3 := fieldOk Try.underlying40 rfl rfl (by kernel_rfl)
theorem fo55_0 : FieldOk Try.prog 55 0 0 := fieldOk Try.underlying55 rfl rfl (by kernel_rfl)
theorem fo55_1 : FieldOk Try.prog 55 1 1 := fieldOk Try.underlying55 rfl rfl (by kernel_rfl)
theorem fo55_2 : FieldOk Try.prog 55 2 2 := fieldOk Try.underlying55 rfl rfl (by kernel_rfl)
theorem kok6 : CallOk Try.prog 6 := callOk Try.func6 (by kernel_rfl) rfl
theorem kok8 : CallOk Try.prog 8 := callOk Try.func8 (by kernel_rfl) rfl
theorem kok10 : CallOk Try.prog 10 := callOk Try.func10 (by kernel_rfl) rfl
theorem kok11 : CallOk Try.prog 11 := callOk Try.func11 (by kernel_rfl) rfl
theorem kok12 : CallOk Try.prog 12 := callOk Try.func12 (by kernel_rfl) rfl
theorem kok18 : CallOk Try.prog 18 := callOk Try.func18 (by kernel_rfl) rfl
theorem kok19 : CallOk Try.prog 19 := callOk Try.func19 (by kernel_rfl) rfl
theorem kok20 : CallOk Try.prog 20 := callOk Try.func20 (by kernel_rfl) rfl
theorem kok21 : CallOk Try.prog 21 := callOk Try.func21 (by kernel_rfl) rfl
theorem kok24 : CallOk Try.prog 24 := callOk Try.func24 (by kernel_rfl) rfl
theorem kok25 : CallOk Try.prog 25 := callOk Try.func25 (by kernel_rfl) rfl
theorem kok26 : CallOk Try.prog 26 := callOk Try.func26 (by kernel_rfl) rfl

theorem c_wire_Var {a0 : UInt64} {w : World} {r0 : List UInt8} (h : wire_Var a0 = some r0) : Rets Try.prog 19 [vu a0] w (fun v w' => ∃ (u0 : Value), v = u0 ∧ Ext w w' ∧ RowF Rep.b 5 w w' u0 r0) := by
  unfold wire_Var at h
  refine Rets.enter Try.func19 rfl rfl ?_
  refine (show WC _ _ _ _ [(0, vu a0)] _ from ?_)
  refine WC.seq ?_
  refine WC.region ?_
  refine WL.y (Y.assign rfl) rfl ?_
  refine WL.nil ?_
  refine At.then ?_
  refine WC.seq ?_
  refine WC.region ?_
  refine WL.y (Y.assign rfl) rfl ?_
  refine WL.nil ?_
  refine At.then ?_
  refine WC.seq ?_
  obtain ⟨p18, h, hk19⟩ := bnd h
  refine WC.join (σ := (UInt64 × List UInt8 × Own × Value)) (fun x w' => (x.1, x.2.1) = p18 ∧ Stp [12, 1001, 1002] (Lg.O0 (fun _ => False)) w x.2.2.1 w' ∧ OwnSl 1004 Rep.b 5 x.2.2.1 w' x.2.2.2 x.2.1) (fun x => [(0, vu x.1), (3, x.2.2.2)]) ?_ ?_
  · refine WC.block ?_
    obtain ⟨p34, h, hk36⟩ := flow1 h
    obtain ⟨k35, h⟩ := loop_some h
    refine WC.joinB 0 (σ := (UInt64 × List UInt8 × Own × Value)) (fun x w' => p34 = .go (x.1, x.2.1) ∧ Stp [12, 1001] (Lg.O0 (fun _ => False)) w x.2.2.1 w' ∧ OwnSl 1002 Rep.b 5 x.2.2.1 w' x.2.2.2 x.2.1) (fun x => [(0, vu x.1), (3, x.2.2.2)]) ?_ ?_
    · refine WC.loop (σ := (UInt64 × List UInt8 × Own × Value)) (fun x k w' => loopN k (wire_Var_lp1) (x.1, x.2.1) = some p34 ∧ Stp [12, 1001] (Lg.O0 (fun _ => False)) w x.2.2.1 w' ∧ OwnSl 1001 Rep.b 5 x.2.2.1 w' x.2.2.2 x.2.1) (fun x => [(0, vu x.1), (3, x.2.2.2)]) (a0, [], (Lg.O0 (fun _ => False)), .slice none 0 0) k35 (.cons rfl (.cons rfl .nil)) ⟨h, (Stp.refl _ _ _), (OwnSl.nil 1001 Rep.b 5)⟩ ?_
      rintro ⟨v20, out21, O24, v22⟩ k35 wd25 ⟨h, hst26, hf23⟩
      obtain ⟨j37, q38, rfl, h, hn39⟩ := rnd1 h
      unfold wire_Var_lp1 at h
      try dsimp only at h hst26 hf23
      refine (show WC _ _ _ _ [(0, vu v20), (3, v22)] _ from ?_)
      refine WC.seq ?_
      refine WC.seq ?_
      refine WC.region ?_
      refine WL.y (Y.move rfl) rfl ?_
      refine WL.y (Y.gtr_u (b := 127) rfl rfl) rfl ?_
      refine WL.nil ?_
      refine At.then ?_
      rcases cnd h with ⟨hc40, h⟩ | ⟨hc40, h⟩
      · refine WC.condT' rfl hc40 ?_
        refine WC.skip ?_
        refine At.then ?_
        refine WC.block ?_
        refine WC.seq ?_
        refine WC.region ?_
        refine WL.y (Y.move rfl) rfl ?_
        refine WL.y (Y.move rfl) rfl ?_
        refine WL.y (Y.conv_ub ty38.u ty5.u rfl) rfl ?_
        refine WL.y (Y.or_b (b := 128) rfl rfl) rfl ?_
        refine WL.buildSlice (O := O24) (R := Rep.b) (vals := [(0, vb (v20.toUInt8 ||| 128))]) 11 [vb (v20.toUInt8 ||| 128)] (xs := [(v20.toUInt8 ||| 128)]) (by decide) ty25 ty5 (by decide) (by decide) (Fits.evalp rfl) (by kernel_rfl) rfl ⟨[vb (v20.toUInt8 ||| 128)], [], rfl, rfl, rfl⟩ rfl ?_
        intro v41 O43 wd44 hst45 ho42
        obtain ⟨xs46, hxs46, h⟩ := bnd h
        have hf47 := hf23.st hst45 rfl rfl rfl
        refine WL.append (by decide) ty25 ty5 rfl (by decide) rfl rfl hf47 ho42.src hxs46 rfl ?_
        intro v51 O48 wd49 hst50 ho52
        refine WL.y (Y.assign rfl) rfl ?_
        refine WL.nil ?_
        refine At.then ?_
        refine WC.region ?_
        refine WL.y (Y.move rfl) rfl ?_
        refine WL.y (Y.shr_uu (m := 7) rfl rfl) rfl ?_
        obtain ⟨v53, hv53, h⟩ := lt1 h
        refine WL.yE (Y.assign rfl) (congrArg vu hv53.symm) rfl ?_
        refine WL.nil ?_
        refine At.inBlock ?_
        exact At.round (v53, xs46, O48, v51) j37 (Nat.lt_succ_self _) ⟨next1 h hn39, (Stp.trans (Stp.up hst26 rfl) (Stp.trans (Stp.up hst45 rfl) (Stp.up hst50 rfl))), ho52⟩ (.cons rfl (.cons rfl .nil))
      · refine WC.condF' rfl hc40 ?_
        refine WC.exit ?_
        refine At.thenX ?_
        refine At.loopX ?_
        obtain ⟨O54, hst55, ho56⟩ := OwnSl.rlb 1002 rfl hf23
        exact At.hitB (σ := (UInt64 × List UInt8 × Own × Value)) (v20, out21, O54, v22) ⟨brk1 h hn39, (Stp.trans (Stp.up hst26 rfl) (Stp.up hst55 rfl)), ho56⟩ (.cons rfl (.cons rfl .nil))
    · rintro ⟨v27, out28, O31, v29⟩ wd32 ⟨rfl, hst33, hf30⟩
      replace h := flowK_go hk36
      try dsimp only at h hst33 hf30
      refine (show At _ _ _ [(0, vu v27), (3, v29)] _ from ?_)
      refine At.inBlockHit ?_
      obtain ⟨O57, hst58, ho59⟩ := OwnSl.rlb 1004 rfl hf30
      exact At.join (σ := (UInt64 × List UInt8 × Own × Value)) (v27, out28, O57, v29) ⟨some1 h, (Stp.trans (Stp.up hst33 rfl) (Stp.up hst58 rfl)), ho59⟩ (.cons rfl (.cons rfl .nil))
  · rintro ⟨v11, out12, O15, v13⟩ wd16 ⟨rfl, hst17, hf14⟩
    replace h := hk19
    try dsimp only at h hst17 hf14
    refine (show At _ _ _ [(0, vu v11), (3, v13)] _ from ?_)
    refine At.then ?_
    refine WC.seq ?_
    refine WC.region ?_
    refine WL.y (Y.move rfl) rfl ?_
    refine WL.y (Y.move rfl) rfl ?_
    refine WL.y (Y.conv_ub ty38.u ty5.u rfl) rfl ?_
    refine WL.buildSlice (O := O15) (R := Rep.b) (vals := [(0, vb v11.toUInt8)]) 12 [vb v11.toUInt8] (xs := [v11.toUInt8]) (by decide) ty25 ty5 (by decide) (by decide) (Fits.evalp rfl) (by kernel_rfl) rfl ⟨[vb v11.toUInt8], [], rfl, rfl, rfl⟩ rfl ?_
    intro v60 O62 wd63 hst64 ho61
    obtain ⟨xs65, hxs65, h⟩ := bnd h
    have hf66 := hf14.st hst64 rfl rfl rfl
    refine WL.append (by decide) ty25 ty5 rfl (by decide) rfl rfl hf66 ho61.src hxs65 rfl ?_
    intro v70 O67 wd68 hst69 ho71
    refine WL.y (Y.assign rfl) rfl ?_
    refine WL.nil ?_
    refine At.then ?_
    refine WC.ret ?_
    obtain rfl := some1 h
    have hs72 : Stp [12, 1001, 1002, 1004] (Lg.O0 (fun _ => False)) w O67 wd68 := (Stp.trans (Stp.up hst17 rfl) (Stp.trans (Stp.up hst64 rfl) (Stp.up hst69 rfl)))
    exact At.res (.inl rfl) rfl (.tmp rfl .nil) ⟨v70, rfl, (Stp.ext hs72 rfl rfl), (OwnSl.outF ho71 hs72 low0 rfl)⟩

theorem c_wire_check {A : Nat → Prop} {v0_3 : Value} {a0 : api_Fld} {w : World} (hs0_3 : Sl Rep.b w A v0_3 a0.B) {r0 : Int} (h : wire_check a0 = some r0) : Rets Try.prog 20 [.agg [vi a0.Num, vi a0.Type_, vu a0.V, v0_3].toArray] w (fun v w' => v = vi r0 ∧ Ext w w') := by
  unfold wire_check at h
  refine Rets.enter Try.func20 rfl rfl ?_
  have hf11 : Sl Rep.b w (imm (Lg.O0 A)) v0_3 a0.B := (Sl.start hs0_3)
  refine (show WC _ _ _ _ [(0, .agg [vi a0.Num, vi a0.Type_, vu a0.V, v0_3].toArray)] _ from ?_)
  refine WC.seq ?_
  refine WC.region ?_
  have hh15 := h
  obtain ⟨p12, m13, c14, rfl⟩ := hf11.shape
  have h := hh15
  refine WL.box (O := (Lg.O0 A)) 11 [vi a0.Num, vi a0.Type_, vu a0.V, (.slice p12 m13 c14)] rfl rfl rfl ?_
  intro p17 O18 wd19 hst20 hb16
  refine WL.y (Y.assign rfl) rfl ?_
  refine WL.nil ?_
  refine At.then ?_
  refine WC.seq ?_
  refine WC.block ?_
  refine WC.seq ?_
  refine WC.region ?_
  refine WL.y (Y.fieldAddr fo40_0 rfl) rfl ?_
  refine WL.y (Y.loadSc ty3 rfl rfl (hb16.cell 0 _ rfl)) rfl ?_
  refine WL.y (Y.lss_i rfl rfl) rfl ?_
  refine WL.y (Y.move rfl) rfl ?_
  refine WL.cut 4 (σ := Unit) (fun _ w' => wd19 = w') (fun _ => [(1, .pointer (some ⟨p17, 0, none⟩)), (11, .bool ((decide (a0.Num < 1)) || (decide (536870911 < a0.Num))))]) ?_ ?_
  · refine WL.part 7 rfl (fun hE21 => ?_) (fun hE21 => ?_)
    · refine WL.gS rfl rfl rfl rfl ?_
      refine WL.gS rfl rfl rfl rfl ?_
      refine WL.gS rfl rfl rfl rfl ?_
      refine WL.y (Y.pick (b := true) rfl rfl) rfl ?_
      refine WL.ren (v' := .bool ((decide (a0.Num < 1)) || (decide (536870911 < a0.Num)))) 11 rfl (congrArg Value.bool (orT hE21)) ?_
      exact WL.nil (At.join () rfl (.cons rfl (.cons rfl .nil)))
    · refine WL.ung rfl rfl ?_
      refine WL.y (Y.fieldAddr fo40_0 rfl) rfl ?_
      refine WL.ung rfl rfl ?_
      refine WL.y (Y.loadSc ty3 rfl rfl (hb16.cell 0 _ rfl)) rfl ?_
      refine WL.ung rfl rfl ?_
      refine WL.y (Y.gtr_i rfl rfl) rfl ?_
      refine WL.y (Y.pick (b := false) rfl rfl) rfl ?_
      refine WL.ren (v' := .bool ((decide (a0.Num < 1)) || (decide (536870911 < a0.Num)))) 11 rfl (congrArg Value.bool (orF hE21)) ?_
      exact WL.nil (At.join () rfl (.cons rfl (.cons rfl .nil)))
  · rintro _ _ rfl
    refine (show WL _ _ _ _ _ [(1, .pointer (some ⟨p17, 0, none⟩)), (11, .bool ((decide (a0.Num < 1)) || (decide (536870911 < a0.Num))))] _ from ?_)
    obtain ⟨t22, ht22, h⟩ := lt1 h
    refine WL.yE (Y.assign rfl) (congrArg Value.bool ht22.symm) rfl ?_
    refine WL.nil ?_
    refine At.then ?_
    rcases cnd h with ⟨hc23, h⟩ | ⟨hc23, h⟩
    · refine WC.condT' rfl hc23 ?_
      refine WC.seq ?_
      refine WC.region ?_
      refine WL.y (Y.assign rfl) rfl ?_
      refine WL.nil ?_
      refine At.then ?_
      refine WC.ret ?_
      refine At.inBlockR ?_
      refine At.thenR ?_
      obtain rfl := some1 h
      have hs24 : Stp [] (Lg.O0 A) w O18 wd19 := (Stp.up hst20 rfl)
      exact At.res (.inl rfl) rfl (.tmp rfl .nil) ⟨rfl, (Stp.ext hs24 rfl rfl)⟩
    · refine WC.condF' rfl hc23 ?_
      refine WC.seq ?_
      refine WC.region ?_
      refine WL.y (Y.fieldAddr fo40_1 rfl) rfl ?_
      refine WL.y (Y.loadSc ty3 rfl rfl (hb16.cell 1 _ rfl)) rfl ?_
      refine WL.y (Y.lss_i rfl rfl) rfl ?_
      refine WL.y (Y.move rfl) rfl ?_
      refine WL.cut 4 (σ := Unit) (fun _ w' => wd19 = w') (fun _ => [(1, .pointer (some ⟨p17, 0, none⟩)), (20, .bool ((decide (a0.Type_ < 0)) || (decide (2 < a0.Type_))))]) ?_ ?_
      · refine WL.part 16 rfl (fun hE25 => ?_) (fun hE25 => ?_)
        · refine WL.gS rfl rfl rfl rfl ?_
          refine WL.gS rfl rfl rfl rfl ?_
          refine WL.gS rfl rfl rfl rfl ?_
          refine WL.y (Y.pick (b := true) rfl rfl) rfl ?_
          refine WL.ren (v' := .bool ((decide (a0.Type_ < 0)) || (decide (2 < a0.Type_)))) 20 rfl (congrArg Value.bool (orT hE25)) ?_
          exact WL.nil (At.join () rfl (.cons rfl (.cons rfl .nil)))
        · refine WL.ung rfl rfl ?_
          refine WL.y (Y.fieldAddr fo40_1 rfl) rfl ?_
          refine WL.ung rfl rfl ?_
          refine WL.y (Y.loadSc ty3 rfl rfl (hb16.cell 1 _ rfl)) rfl ?_
          refine WL.ung rfl rfl ?_
          refine WL.y (Y.gtr_i rfl rfl) rfl ?_
          refine WL.y (Y.pick (b := false) rfl rfl) rfl ?_
          refine WL.ren (v' := .bool ((decide (a0.Type_ < 0)) || (decide (2 < a0.Type_)))) 20 rfl (congrArg Value.bool (orF hE25)) ?_
          exact WL.nil (At.join () rfl (.cons rfl (.cons rfl .nil)))
      · rintro _ _ rfl
        refine (show WL _ _ _ _ _ [(1, .pointer (some ⟨p17, 0, none⟩)), (20, .bool ((decide (a0.Type_ < 0)) || (decide (2 < a0.Type_))))] _ from ?_)
        obtain ⟨t26, ht26, h⟩ := lt1 h
        refine WL.yE (Y.assign rfl) (congrArg Value.bool ht26.symm) rfl ?_
        refine WL.nil ?_
        refine At.then ?_
        rcases cnd h with ⟨hc27, h⟩ | ⟨hc27, h⟩
        · refine WC.condT' rfl hc27 ?_
          refine WC.seq ?_
          refine WC.region ?_
          refine WL.y (Y.assign rfl) rfl ?_
          refine WL.nil ?_
          refine At.then ?_
          refine WC.ret ?_
          refine At.inBlockR ?_
          refine At.thenR ?_
          obtain rfl := some1 h
          have hs28 : Stp [] (Lg.O0 A) w O18 wd19 := (Stp.up hst20 rfl)
          exact At.res (.inl rfl) rfl (.tmp rfl .nil) ⟨rfl, (Stp.ext hs28 rfl rfl)⟩
        · refine WC.condF' rfl hc27 ?_
          refine WC.seq ?_
          refine WC.seq ?_
          refine WC.region ?_
          refine WL.y (Y.fieldAddr fo40_1 rfl) rfl ?_
          refine WL.y (Y.loadSc ty3 rfl rfl (hb16.cell 1 _ rfl)) rfl ?_
          refine WL.y (Y.neq_i rfl rfl) rfl ?_
          refine WL.y (Y.move rfl) rfl ?_
          refine WL.cut 5 (σ := Unit) (fun _ w' => wd19 = w') (fun _ => [(1, .pointer (some ⟨p17, 0, none⟩)), (30, .bool ((!decide (a0.Type_ = 2)) && (decide (0 < (a0.B.length : Int)))))]) ?_ ?_
          · refine WL.part 25 rfl (fun hE29 => ?_) (fun hE29 => ?_)
            · refine WL.ung rfl rfl ?_
              refine WL.y (Y.fieldAddr fo40_3 rfl) rfl ?_
              refine WL.ung rfl rfl ?_
              refine WL.y (Y.loadSc ty25 rfl rfl (hb16.cell 3 _ rfl)) rfl ?_
              refine WL.ung rfl rfl ?_
              have hf30 := hf11.mono (imm_st hst20 rfl rfl)
              refine WL.y (Y.len ty25 rfl hf30) rfl ?_
              refine WL.ung rfl rfl ?_
              refine WL.y (Y.gtr_i rfl rfl) rfl ?_
              refine WL.y (Y.pick (b := true) rfl rfl) rfl ?_
              refine WL.ren (v' := .bool ((!decide (a0.Type_ = 2)) && (decide (0 < (a0.B.length : Int))))) 30 rfl (congrArg Value.bool (andT hE29)) ?_
              exact WL.nil (At.join () rfl (.cons rfl (.cons rfl .nil)))
            · refine WL.gS rfl rfl rfl rfl ?_
              refine WL.gS rfl rfl rfl rfl ?_
              refine WL.gS rfl rfl rfl rfl ?_
              refine WL.gS rfl rfl rfl rfl ?_
              refine WL.y (Y.pick (b := false) rfl rfl) rfl ?_
              refine WL.ren (v' := .bool ((!decide (a0.Type_ = 2)) && (decide (0 < (a0.B.length : Int))))) 30 rfl (congrArg Value.bool (andF hE29)) ?_
              exact WL.nil (At.join () rfl (.cons rfl (.cons rfl .nil)))
          · rintro _ _ rfl
            refine (show WL _ _ _ _ _ [(1, .pointer (some ⟨p17, 0, none⟩)), (30, .bool ((!decide (a0.Type_ = 2)) && (decide (0 < (a0.B.length : Int)))))] _ from ?_)
            obtain ⟨t31, ht31, h⟩ := lt1 h
            refine WL.yE (Y.assign rfl) (congrArg Value.bool ht31.symm) rfl ?_
            refine WL.nil ?_
            refine At.then ?_
            rcases cnd h with ⟨hc32, h⟩ | ⟨hc32, h⟩
            · refine WC.condT' rfl hc32 ?_
              refine WC.skip ?_
              refine At.then ?_
              rcases cnd h with ⟨hc33, h⟩ | ⟨hc33, h⟩
              · refine WC.condT' rfl hc33 ?_
                refine WC.seq ?_
                refine WC.region ?_
                refine WL.y (Y.assign rfl) rfl ?_
                refine WL.nil ?_
                refine At.then ?_
                refine WC.ret ?_
                refine At.inBlockR ?_
                refine At.thenR ?_
                obtain rfl := some1 h
                have hs34 : Stp [] (Lg.O0 A) w O18 wd19 := (Stp.up hst20 rfl)
                exact At.res (.inl rfl) rfl (.tmp rfl .nil) ⟨rfl, (Stp.ext hs34 rfl rfl)⟩
              · refine WC.condF' rfl hc33 ?_
                refine WC.skip ?_
                refine At.inBlock ?_
                refine At.then ?_
                refine WC.seq ?_
                refine WC.region ?_
                refine WL.y (Y.assign rfl) rfl ?_
                refine WL.nil ?_
                refine At.then ?_
                refine WC.ret ?_
                obtain rfl := some1 h
                have hs35 : Stp [] (Lg.O0 A) w O18 wd19 := (Stp.up hst20 rfl)
                exact At.res (.inl rfl) rfl (.tmp rfl .nil) ⟨rfl, (Stp.ext hs35 rfl rfl)⟩
            · refine WC.condF' rfl hc32 ?_
              refine WC.region ?_
              refine WL.y (Y.fieldAddr fo40_1 rfl) rfl ?_
              refine WL.y (Y.loadSc ty3 rfl rfl (hb16.cell 1 _ rfl)) rfl ?_
              refine WL.y (Y.eql_i rfl rfl) rfl ?_
              refine WL.y (Y.move rfl) rfl ?_
              refine WL.cut 4 (σ := Unit) (fun _ w' => wd19 = w') (fun _ => [(38, .bool ((decide (a0.Type_ = 2)) && (!decide (a0.V = 0))))]) ?_ ?_
              · refine WL.part 34 rfl (fun hE36 => ?_) (fun hE36 => ?_)
                · refine WL.ung rfl rfl ?_
                  refine WL.y (Y.fieldAddr fo40_2 rfl) rfl ?_
                  refine WL.ung rfl rfl ?_
                  refine WL.y (Y.loadSc ty38 rfl rfl (hb16.cell 2 _ rfl)) rfl ?_
                  refine WL.ung rfl rfl ?_
                  refine WL.y (Y.neq_u (b := 0) rfl rfl) rfl ?_
                  refine WL.y (Y.pick (b := true) rfl rfl) rfl ?_
                  refine WL.ren (v' := .bool ((decide (a0.Type_ = 2)) && (!decide (a0.V = 0)))) 38 rfl (congrArg Value.bool (andT hE36)) ?_
                  exact WL.nil (At.join () rfl (.cons rfl .nil))
                · refine WL.gS rfl rfl rfl rfl ?_
                  refine WL.gS rfl rfl rfl rfl ?_
                  refine WL.gS rfl rfl rfl rfl ?_
                  refine WL.y (Y.pick (b := false) rfl rfl) rfl ?_
                  refine WL.ren (v' := .bool ((decide (a0.Type_ = 2)) && (!decide (a0.V = 0)))) 38 rfl (congrArg Value.bool (andF hE36)) ?_
                  exact WL.nil (At.join () rfl (.cons rfl .nil))
              · rintro _ _ rfl
                refine (show WL _ _ _ _ _ [(38, .bool ((decide (a0.Type_ = 2)) && (!decide (a0.V = 0))))] _ from ?_)
                obtain ⟨t37, ht37, h⟩ := lt1 h
                refine WL.yE (Y.assign rfl) (congrArg Value.bool ht37.symm) rfl ?_
                refine WL.nil ?_
                refine At.then ?_
                rcases cnd h with ⟨hc38, h⟩ | ⟨hc38, h⟩
                · refine WC.condT' rfl hc38 ?_
                  refine WC.seq ?_
                  refine WC.region ?_
                  refine WL.y (Y.assign rfl) rfl ?_
                  refine WL.nil ?_
                  refine At.then ?_
                  refine WC.ret ?_
                  refine At.inBlockR ?_
                  refine At.thenR ?_
                  obtain rfl := some1 h
                  have hs39 : Stp [] (Lg.O0 A) w O18 wd19 := (Stp.up hst20 rfl)
                  exact At.res (.inl rfl) rfl (.tmp rfl .nil) ⟨rfl, (Stp.ext hs39 rfl rfl)⟩
                · refine WC.condF' rfl hc38 ?_
                  refine WC.skip ?_
                  refine At.inBlock ?_
                  refine At.then ?_
                  refine WC.seq ?_
                  refine WC.region ?_
                  refine WL.y (Y.assign rfl) rfl ?_
                  refine WL.nil ?_
                  refine At.then ?_
                  refine WC.ret ?_
                  obtain rfl := some1 h
                  have hs40 : Stp [] (Lg.O0 A) w O18 wd19 := (Stp.up hst20 rfl)
                  exact At.res (.inl rfl) rfl (.tmp rfl .nil) ⟨rfl, (Stp.ext hs40 rfl rfl)⟩

theorem c_wire_eight {a0 : UInt64} {w : World} {r0 : List UInt8} (h : wire_eight a0 = some r0) : Rets Try.prog 21 [vu a0] w (fun v w' => ∃ (u0 : Value), v = u0 ∧ Ext w w' ∧ RowF Rep.b 5 w w' u0 r0) := by
  unfold wire_eight at h
  refine Rets.enter Try.func21 rfl rfl ?_
  refine (show WC _ _ _ _ [(0, vu a0)] _ from ?_)
  refine WC.seq ?_
  refine WC.region ?_
  refine WL.y (Y.assign rfl) rfl ?_
  refine WL.nil ?_
  refine At.then ?_
  refine WC.seq ?_
  refine WC.region ?_
  obtain ⟨t11, ht11, h⟩ := bnd h
  refine WL.make (O := (Lg.O0 (fun _ => False))) (R := Rep.b) (zx := (0 : UInt8)) 11 (by decide) ty25 ty5 rfl (by decide) (by decide) rfl rfl (fun _ _ => rfl) ht11 rfl ?_
  intro v12 O14 wd15 hst16 ho13
  refine WL.y (Y.assign rfl) rfl ?_
  refine WL.nil ?_
  refine At.then ?_
  refine WC.seq ?_
  refine WC.seq ?_
  refine WC.region ?_
  refine WL.y (Y.move rfl) rfl ?_
  refine WL.y (Y.len ty25 rfl ho13.src.sl) rfl ?_
  refine WL.y (Y.move rfl) rfl ?_
  refine WL.nil ?_
  refine At.then ?_
  refine WC.block ?_
  obtain ⟨p30, h, hk32⟩ := flow1 h
  obtain ⟨k31, h⟩ := loop_some h
  refine WC.joinB 0 (σ := (List UInt8 × Own)) (fun x w' => p30 = .go x.1 ∧ Stp [11, 1001] O14 wd15 x.2 w' ∧ OwnSl 1002 Rep.b 5 x.2 w' v12 x.1) (fun x => [(3, v12)]) ?_ ?_
  · obtain ⟨O33, hst34, ho35⟩ := OwnSl.rlb 1001 rfl ho13
    refine WC.loop (σ := (List UInt8 × Int × Own)) (fun x k w' => loopN k (wire_eight_lp1 a0 t11) (x.1, x.2.1) = some p30 ∧ Stp [11, 1001] O14 wd15 x.2.2 w' ∧ OwnSl 1001 Rep.b 5 x.2.2 w' v12 x.1) (fun x => [(0, vu a0), (3, v12), (7, vi (t11.length : Int)), (8, vi x.2.1)]) (t11, 0, O33) k31 (.cons rfl (.cons rfl (.cons rfl (.cons rfl .nil)))) ⟨h, (Stp.up hst34 rfl), ho35⟩ ?_
    rintro ⟨b17, x20, O21⟩ k31 wd22 ⟨h, hst23, hf19⟩
    obtain ⟨j36, q37, rfl, h, hn38⟩ := rnd1 h
    unfold wire_eight_lp1 at h
    try dsimp only at h hst23 hf19
    refine (show WC _ _ _ _ [(0, vu a0), (3, v12), (7, vi (t11.length : Int)), (8, vi x20)] _ from ?_)
    refine WC.seq ?_
    refine WC.region ?_
    refine WL.y (Y.lss_i rfl rfl) rfl ?_
    refine WL.nil ?_
    refine At.then ?_
    refine WC.seq ?_
    rcases cnd h with ⟨hc39, h⟩ | ⟨hc39, h⟩
    · refine WC.condT' rfl hc39 ?_
      refine WC.skip ?_
      refine At.then ?_
      refine WC.seq ?_
      refine WC.block ?_
      refine WC.seq ?_
      refine WC.region ?_
      refine WL.y (Y.move rfl) rfl ?_
      refine WL.y (Y.assign rfl) rfl ?_
      refine WL.nil ?_
      refine At.then ?_
      refine WC.region ?_
      refine WL.y (Y.move rfl) rfl ?_
      refine WL.y (Y.move rfl) rfl ?_
      refine WL.y (Y.move rfl) rfl ?_
      refine WL.y (Y.move rfl) rfl ?_
      refine WL.y (Y.mul_i rfl rfl) rfl ?_
      refine WL.y (Y.conv_iu ty3.u ty58.u rfl) rfl ?_
      refine WL.y (Y.shr_uu rfl rfl) rfl ?_
      refine WL.y (Y.conv_ub ty38.u ty5.u rfl) rfl ?_
      obtain ⟨e40, he40, h⟩ := bnd h
      obtain ⟨b41, cap48, cs47, hv42, hi43, hl44, hc45, hok46⟩ := OwnSl.at hf19 he40
      obtain rfl := hok46
      replace hc45 : CellsAt _ _ _ [vb e40] := hc45
      have hca49 := CAt.own hf19 hv42 hc45
      refine WL.y (Y.indexAddr ty25 ty5 rfl hv42 rfl hi43 hl44) rfl ?_
      obtain ⟨t50, ht50, h⟩ := lt1 h
      refine WL.ren 18 rfl (congrArg vb ht50.symm) ?_
      obtain ⟨xs51, hxs51, h⟩ := bnd h
      refine WL.storeOwn (by decide) ty5 rfl rfl rfl hf19 hv42 hxs51 ?_
      intro wd52 hst53 ho54
      refine WL.nil ?_
      refine At.inBlock ?_
      refine At.then ?_
      refine WC.region ?_
      refine WL.y (Y.add_i rfl rfl) rfl ?_
      refine WL.y (Y.move rfl) rfl ?_
      refine WL.nil ?_
      exact At.round (xs51, w64 (x20 + 1), O21) j36 (Nat.lt_succ_self _) ⟨next1 h hn38, (Stp.trans (Stp.up hst23 rfl) (Stp.up hst53 rfl)), ho54⟩ (.cons rfl (.cons rfl (.cons rfl (.cons rfl .nil))))
    · refine WC.condF' rfl hc39 ?_
      refine WC.exit ?_
      refine At.thenX ?_
      refine At.loopX ?_
      obtain ⟨O55, hst56, ho57⟩ := OwnSl.rlb 1002 rfl hf19
      exact At.hitB (σ := (List UInt8 × Own)) (b17, O55) ⟨brk1 h hn38, (Stp.trans (Stp.up hst23 rfl) (Stp.up hst56 rfl)), ho57⟩ (.cons rfl .nil)
  · rintro ⟨b24, O27⟩ wd28 ⟨rfl, hst29, hf26⟩
    replace h := flowK_go hk32
    try dsimp only at h hst29 hf26
    refine (show At _ _ _ [(3, v12)] _ from ?_)
    refine At.inBlockHit ?_
    refine At.then ?_
    refine WC.seq ?_
    refine WC.region ?_
    refine WL.y (Y.move rfl) rfl ?_
    refine WL.y (Y.assign rfl) rfl ?_
    refine WL.nil ?_
    refine At.then ?_
    refine WC.ret ?_
    obtain rfl := some1 h
    have hs58 : Stp [11, 1001] (Lg.O0 (fun _ => False)) w O27 wd28 := (Stp.trans (Stp.up hst16 rfl) (Stp.up hst29 rfl))
    exact At.res (.inl rfl) rfl (.tmp rfl .nil) ⟨v12, rfl, (Stp.ext hs58 rfl rfl), (OwnSl.outF hf26 hs58 low0 rfl)⟩

theorem c_wire_Encode {A : Nat → Prop} {a0 : List api_Fld} {v0 : Value} {w : World} (hs0 : Sl rep_api_Fld w A v0 a0) {r0 : List UInt8} {r1 : Int} (h : wire_Encode a0 = some (r0, r1)) : Rets Try.prog 8 [v0] w (fun v w' => ∃ (u0 : Value), v = .tuple (List.toArray [u0, vi r1]) ∧ Ext w w' ∧ RowF Rep.b 5 w w' u0 r0) := by
  unfold wire_Encode at h
  refine Rets.enter Try.func8 rfl rfl ?_
  have hf11 : Sl rep_api_Fld w (imm (Lg.O0 A)) v0 a0 := (Sl.start hs0)
  refine (show WC _ _ _ _ [(0, v0)] _ from ?_)
  refine WC.seq ?_
  refine WC.region ?_
  refine WL.y (Y.assign rfl) rfl ?_
  refine WL.y (Y.assign rfl) rfl ?_
  refine WL.nil ?_
  refine At.then ?_
  refine WC.seq ?_
  refine WC.region ?_
  refine WL.y (Y.assign rfl) rfl ?_
  refine WL.nil ?_
  refine At.then ?_
  refine WC.seq ?_
  refine WC.seq ?_
  refine WC.region ?_
  refine WL.y (Y.move rfl) rfl ?_
  refine WL.y (Y.len ty22 rfl hf11) rfl ?_
  refine WL.y (Y.move rfl) rfl ?_
  refine WL.nil ?_
  refine At.then ?_
  refine WC.block ?_
  obtain ⟨p25, h, hk27⟩ := flow1 h
  obtain ⟨k26, h⟩ := loop_some h
  refine WC.joinB 0 (σ := (List UInt8 × Own × Value)) (fun x w' => p25 = .go x.1 ∧ Stp [11, 13, 1002, 1004] (Lg.O0 A) w x.2.1 w' ∧ OwnSl 1008 Rep.b 5 x.2.1 w' x.2.2 x.1) (fun x => [(4, x.2.2)]) ?_ ?_
  · refine WC.loop (σ := (List UInt8 × Int × Own × Value)) (fun x k w' => loopN k (wire_Encode_lp1 a0) (x.1, x.2.1) = some p25 ∧ Stp [11, 13, 1002, 1004] (Lg.O0 A) w x.2.2.1 w' ∧ OwnSl 1004 Rep.b 5 x.2.2.1 w' x.2.2.2 x.1) (fun x => [(4, x.2.2.2), (8, v0), (9, vi (a0.length : Int)), (10, vi x.2.1)]) ([], 0, (Lg.O0 A), .slice none 0 0) k26 (.cons rfl (.cons rfl (.cons rfl (.cons rfl .nil)))) ⟨h, (Stp.refl _ _ _), (OwnSl.nil 1004 Rep.b 5)⟩ ?_
    rintro ⟨out12, x15, O16, v13⟩ k26 wd17 ⟨h, hst18, hf14⟩
    obtain ⟨j28, q29, rfl, h, hn30⟩ := rnd1 h
    unfold wire_Encode_lp1 at h
    try dsimp only at h hst18 hf14
    refine (show WC _ _ _ _ [(4, v13), (8, v0), (9, vi (a0.length : Int)), (10, vi x15)] _ from ?_)
    refine WC.seq ?_
    refine WC.region ?_
    refine WL.y (Y.lss_i rfl rfl) rfl ?_
    refine WL.nil ?_
    refine At.then ?_
    refine WC.seq ?_
    rcases cnd h with ⟨hc31, h⟩ | ⟨hc31, h⟩
    · refine WC.condT' rfl hc31 ?_
      refine WC.skip ?_
      refine At.then ?_
      refine WC.seq ?_
      refine WC.block ?_
      refine WC.seq ?_
      refine WC.region ?_
      obtain ⟨e32, he32, h⟩ := bnd h
      have hf41 := hf11.mono (imm_st hst18 rfl rfl)
      obtain ⟨b33, off44, cap40, cs39, hv34, hi35, hl36, hc37, hok38, hA45⟩ := Sl.at2 hf41 he32
      obtain ⟨_, _, rfl, rfl, ⟨_, _, rfl, rfl, ⟨_, _, rfl, rfl, ⟨v42, rfl, hf43⟩⟩⟩⟩ := hok38
      replace hc37 : CellsAt _ _ _ [vi e32.Num, vi e32.Type_, vu e32.V, v42] := hc37
      have hca46 := CAt.imm hc37 hA45
      refine WL.y (Y.indexAddr ty22 ty40 rfl hv34 rfl hi35 hl36) rfl ?_
      refine WL.y (Y.loadAg ty40 rfl rfl hca46.at_ rfl) rfl ?_
      refine WL.alloc (O := O16) 11 [vi 0, vi 0, vu 0, .slice none 0 0] ty40 rfl rfl ?_
      intro p48 O49 wd50 hst51 hb47
      have hf52 := hf43.mono (imm_st hst51 rfl rfl)
      have hh56 := h
      obtain ⟨p53, m54, c55, rfl⟩ := hf52.shape
      have h := hh56
      refine WL.store (v := .agg [vi e32.Num, vi e32.Type_, vu e32.V, (.slice p53 m54 c55)].toArray) (cells' := [vi e32.Num, vi e32.Type_, vu e32.V, (.slice p53 m54 c55)]) ty40 rfl rfl hb47 rfl (Nat.le_of_ble_eq_true rfl) rfl rfl ?_
      intro wd57 hst58 hb59
      refine WL.nil ?_
      refine At.then ?_
      refine WC.seq ?_
      refine WC.seq ?_
      refine WC.region ?_
      refine WL.y (Y.loadAg ty40 rfl rfl (hb59.cells 0 [vi e32.Num, vi e32.Type_, vu e32.V, (.slice p53 m54 c55)] rfl) rfl) rfl ?_
      have hf60 := hf52.mono (imm_st hst58 rfl rfl)
      obtain ⟨r61, hp62, h⟩ := bnd h
      refine WL.call (vals := [.agg [vi e32.Num, vi e32.Type_, vu e32.V, (.slice p53 m54 c55)].toArray]) kok20 rfl rfl (c_wire_check (A := fun _ => True) (a0 := e32) (Sl.all hf60) hp62) ?_
      rintro vr65 wd64 ⟨rfl, hm63⟩
      obtain ⟨O66, hold67, hnew68, hst69⟩ := adoptE O49 (fun k => 1) hm63
      refine WL.y (Y.assign rfl) rfl ?_
      refine WL.nil ?_
      refine At.then ?_
      refine WC.seq ?_
      refine WC.region ?_
      refine WL.y (Y.move rfl) rfl ?_
      refine WL.y (Y.neq_i rfl rfl) rfl ?_
      refine WL.nil ?_
      refine At.then ?_
      rcases cnd h with ⟨hc70, h⟩ | ⟨hc70, h⟩
      · refine WC.condT' rfl hc70 ?_
        refine WC.seq ?_
        refine WC.region ?_
        refine WL.y (Y.move rfl) rfl ?_
        refine WL.y (Y.assign rfl) rfl ?_
        refine WL.y (Y.assign rfl) rfl ?_
        refine WL.nil ?_
        refine At.then ?_
        refine WC.ret ?_
        refine At.thenR ?_
        refine At.inBlockR ?_
        refine At.thenR ?_
        refine At.loopR ?_
        have h := outr1 h hn30 hk27
        refine At.joinBR ?_
        refine At.inBlockR ?_
        refine At.thenR ?_
        obtain ⟨rfl, rfl⟩ := tup2 h
        have hs71 : Stp [11, 13, 1002, 1004] (Lg.O0 A) w O66 wd64 := (Stp.trans (Stp.up hst18 rfl) (Stp.trans (Stp.up hst51 rfl) (Stp.trans (Stp.up hst58 rfl) (Stp.up hst69 rfl))))
        exact At.res (.inl rfl) rfl (.tmp rfl (.tmp rfl .nil)) ⟨.slice none 0 0, rfl, (Stp.ext hs71 rfl rfl), RowF.nil⟩
      · refine WC.condF' rfl hc70 ?_
        refine WC.skip ?_
        refine At.then ?_
        refine WC.seq ?_
        refine WC.region ?_
        refine WL.y (Y.move rfl) rfl ?_
        refine WL.y (Y.fieldAddr fo40_0 rfl) rfl ?_
        have hf72 := hb59.st hst69 rfl
        refine WL.y (Y.loadSc ty3 rfl rfl (hf72.cell 0 _ rfl)) rfl ?_
        refine WL.y (Y.mul_i rfl rfl) rfl ?_
        refine WL.y (Y.fieldAddr fo40_1 rfl) rfl ?_
        refine WL.y (Y.loadSc ty3 rfl rfl (hf72.cell 1 _ rfl)) rfl ?_
        refine WL.y (Y.add_i rfl rfl) rfl ?_
        refine WL.y (Y.conv_iu ty3.u ty38.u rfl) rfl ?_
        obtain ⟨r73, hp74, h⟩ := bnd h
        refine WL.call (vals := [vu (toU64 (w64 ((w64 (8 * e32.Num)) + e32.Type_)))]) kok19 rfl rfl (c_wire_Var hp74) ?_
        rintro vr79 wd78 ⟨_, rfl, hm77, f76⟩
        obtain ⟨O80, hold81, hnew82, hst83⟩ := adoptE O66 (fun k => if Value.ownBlock vr79 = some k then 12 else 1) hm77
        have hf84 : OwnSl 12 Rep.b 5 O80 wd78 vr79 r73 := RowF.adopt 12 Flat.b f76 hnew82 (fun k hk => if_pos hk)
        obtain ⟨xs85, hxs85, h⟩ := bnd h
        have hf86 := hf14.st hst51 rfl rfl rfl
        have hf87 := hf86.st hst58 rfl rfl rfl
        have hf88 := hf87.st hst69 rfl rfl rfl
        have hf89 := hf88.st hst83 rfl rfl rfl
        refine WL.append (by decide) ty25 ty5 rfl (by decide) rfl rfl hf89 hf84.src hxs85 rfl ?_
        intro v93 O90 wd91 hst92 ho94
        refine WL.y (Y.assign rfl) rfl ?_
        refine WL.nil ?_
        refine At.then ?_
        refine WC.seq ?_
        refine WC.region ?_
        refine WL.y (Y.fieldAddr fo40_1 rfl) rfl ?_
        have hf95 := hf72.st hst83 rfl
        have hf96 := hf95.st hst92 rfl
        refine WL.y (Y.loadSc ty3 rfl rfl (hf96.cell 1 _ rfl)) rfl ?_
        refine WL.nil ?_
        refine At.then ?_
        obtain ⟨p103, h, hk104⟩ := bnd h
        refine WC.join (σ := (List UInt8 × Own × Value)) (fun x w' => x.1 = p103 ∧ Stp [1004] O90 wd91 x.2.1 w' ∧ OwnSl 1002 Rep.b 5 x.2.1 w' x.2.2 x.1) (fun x => [(4, x.2.2), (8, v0), (9, vi (a0.length : Int)), (10, vi x15)]) ?_ ?_
        · refine WC.block ?_
          refine WC.seq ?_
          refine WC.region ?_
          refine WL.y (Y.eql_i rfl rfl) rfl ?_
          obtain ⟨t105, ht105, h⟩ := lt1 h
          refine WL.yE (Y.assign rfl) (congrArg Value.bool ht105.symm) rfl ?_
          refine WL.nil ?_
          refine At.then ?_
          rcases cnd h with ⟨hc106, h⟩ | ⟨hc106, h⟩
          · refine WC.condT' rfl hc106 ?_
            refine WC.region ?_
            refine WL.y (Y.move rfl) rfl ?_
            refine WL.y (Y.fieldAddr fo40_2 rfl) rfl ?_
            refine WL.y (Y.loadSc ty38 rfl rfl (hf96.cell 2 _ rfl)) rfl ?_
            obtain ⟨r107, hp108, h⟩ := bnd h
            refine WL.call (vals := [vu e32.V]) kok19 rfl rfl (c_wire_Var hp108) ?_
            rintro vr113 wd112 ⟨_, rfl, hm111, f110⟩
            obtain ⟨O114, hold115, hnew116, hst117⟩ := adoptE O90 (fun k => if Value.ownBlock vr113 = some k then 13 else 1) hm111
            have hf118 : OwnSl 13 Rep.b 5 O114 wd112 vr113 r107 := RowF.adopt 13 Flat.b f110 hnew116 (fun k hk => if_pos hk)
            obtain ⟨xs119, hxs119, h⟩ := bnd h
            have hf120 := ho94.st hst117 rfl rfl rfl
            refine WL.append (by decide) ty25 ty5 rfl (by decide) rfl rfl hf120 hf118.src hxs119 rfl ?_
            intro v124 O121 wd122 hst123 ho125
            refine WL.y (Y.assign rfl) rfl ?_
            refine WL.nil ?_
            refine At.inBlock ?_
            obtain ⟨O126, hst127, ho128⟩ := OwnSl.rlb 1002 rfl ho125
            exact At.join (σ := (List UInt8 × Own × Value)) (xs119, O126, v124) ⟨some1 h, (Stp.trans (Stp.up hst117 rfl) (Stp.trans (Stp.up hst123 rfl) (Stp.up hst127 rfl))), ho128⟩ (.cons rfl (.cons rfl (.cons rfl (.cons rfl .nil))))
          · refine WC.condF' rfl hc106 ?_
            refine WC.seq ?_
            refine WC.region ?_
            refine WL.y (Y.eql_i rfl rfl) rfl ?_
            obtain ⟨t129, ht129, h⟩ := lt1 h
            refine WL.yE (Y.assign rfl) (congrArg Value.bool ht129.symm) rfl ?_
            refine WL.nil ?_
            refine At.then ?_
            rcases cnd h with ⟨hc130, h⟩ | ⟨hc130, h⟩
            · refine WC.condT' rfl hc130 ?_
              refine WC.region ?_
              refine WL.y (Y.move rfl) rfl ?_
              refine WL.y (Y.fieldAddr fo40_2 rfl) rfl ?_
              refine WL.y (Y.loadSc ty38 rfl rfl (hf96.cell 2 _ rfl)) rfl ?_
              obtain ⟨r131, hp132, h⟩ := bnd h
              refine WL.call (vals := [vu e32.V]) kok21 rfl rfl (c_wire_eight hp132) ?_
              rintro vr137 wd136 ⟨_, rfl, hm135, f134⟩
              obtain ⟨O138, hold139, hnew140, hst141⟩ := adoptE O90 (fun k => if Value.ownBlock vr137 = some k then 14 else 1) hm135
              have hf142 : OwnSl 14 Rep.b 5 O138 wd136 vr137 r131 := RowF.adopt 14 Flat.b f134 hnew140 (fun k hk => if_pos hk)
              obtain ⟨xs143, hxs143, h⟩ := bnd h
              have hf144 := ho94.st hst141 rfl rfl rfl
              refine WL.append (by decide) ty25 ty5 rfl (by decide) rfl rfl hf144 hf142.src hxs143 rfl ?_
              intro v148 O145 wd146 hst147 ho149
              refine WL.y (Y.assign rfl) rfl ?_
              refine WL.nil ?_
              refine At.inBlock ?_
              obtain ⟨O150, hst151, ho152⟩ := OwnSl.rlb 1002 rfl ho149
              exact At.join (σ := (List UInt8 × Own × Value)) (xs143, O150, v148) ⟨some1 h, (Stp.trans (Stp.up hst141 rfl) (Stp.trans (Stp.up hst147 rfl) (Stp.up hst151 rfl))), ho152⟩ (.cons rfl (.cons rfl (.cons rfl (.cons rfl .nil))))
            · refine WC.condF' rfl hc130 ?_
              refine WC.seq ?_
              refine WC.region ?_
              refine WL.y (Y.eql_i rfl rfl) rfl ?_
              obtain ⟨t153, ht153, h⟩ := lt1 h
              refine WL.yE (Y.assign rfl) (congrArg Value.bool ht153.symm) rfl ?_
              refine WL.nil ?_
              refine At.then ?_
              rcases cnd h with ⟨hc154, h⟩ | ⟨hc154, h⟩
              · refine WC.condT' rfl hc154 ?_
                refine WC.seq ?_
                refine WC.region ?_
                refine WL.y (Y.move rfl) rfl ?_
                refine WL.y (Y.fieldAddr fo40_3 rfl) rfl ?_
                refine WL.y (Y.loadSc ty25 rfl rfl (hf96.cell 3 _ rfl)) rfl ?_
                have hf155 := hf60.mono (imm_st hst69 rfl rfl)
                have hf156 := hf155.mono (imm_st hst83 rfl rfl)
                have hf157 := hf156.mono (imm_st hst92 rfl rfl)
                refine WL.y (Y.len ty25 rfl hf157) rfl ?_
                refine WL.y (Y.conv_iu ty3.u ty38.u rfl) rfl ?_
                obtain ⟨r158, hp159, h⟩ := bnd h
                refine WL.call (vals := [vu (toU64 (e32.B.length : Int))]) kok19 rfl rfl (c_wire_Var hp159) ?_
                rintro vr164 wd163 ⟨_, rfl, hm162, f161⟩
                obtain ⟨O165, hold166, hnew167, hst168⟩ := adoptE O90 (fun k => if Value.ownBlock vr164 = some k then 15 else 1) hm162
                have hf169 : OwnSl 15 Rep.b 5 O165 wd163 vr164 r158 := RowF.adopt 15 Flat.b f161 hnew167 (fun k hk => if_pos hk)
                obtain ⟨xs170, hxs170, h⟩ := bnd h
                have hf171 := ho94.st hst168 rfl rfl rfl
                refine WL.append (by decide) ty25 ty5 rfl (by decide) rfl rfl hf171 hf169.src hxs170 rfl ?_
                intro v175 O172 wd173 hst174 ho176
                refine WL.y (Y.assign rfl) rfl ?_
                refine WL.nil ?_
                refine At.then ?_
                refine WC.region ?_
                refine WL.y (Y.move rfl) rfl ?_
                refine WL.y (Y.fieldAddr fo40_3 rfl) rfl ?_
                have hf177 := hf96.st hst168 rfl
                have hf178 := hf177.st hst174 rfl
                refine WL.y (Y.loadSc ty25 rfl rfl (hf178.cell 3 _ rfl)) rfl ?_
                obtain ⟨xs179, hxs179, h⟩ := bnd h
                have hf180 := hf157.mono (imm_st hst168 rfl rfl)
                have hf181 := hf180.mono (imm_st hst174 rfl rfl)
                refine WL.append (by decide) ty25 ty5 rfl (by decide) rfl rfl ho176 (Sl.src hf181) hxs179 rfl ?_
                intro v185 O182 wd183 hst184 ho186
                refine WL.y (Y.assign rfl) rfl ?_
                refine WL.nil ?_
                refine At.inBlock ?_
                obtain ⟨O187, hst188, ho189⟩ := OwnSl.rlb 1002 rfl ho186
                exact At.join (σ := (List UInt8 × Own × Value)) (xs179, O187, v185) ⟨some1 h, (Stp.trans (Stp.up hst168 rfl) (Stp.trans (Stp.up hst174 rfl) (Stp.trans (Stp.up hst184 rfl) (Stp.up hst188 rfl)))), ho189⟩ (.cons rfl (.cons rfl (.cons rfl (.cons rfl .nil))))
              · refine WC.condF' rfl hc154 ?_
                refine WC.skip ?_
                refine At.inBlock ?_
                obtain ⟨O190, hst191, ho192⟩ := OwnSl.rlb 1002 rfl ho94
                exact At.join (σ := (List UInt8 × Own × Value)) (xs85, O190, v93) ⟨some1 h, (Stp.up hst191 rfl), ho192⟩ (.cons rfl (.cons rfl (.cons rfl (.cons rfl .nil))))
        · rintro ⟨out97, O100, v98⟩ wd101 ⟨rfl, hst102, hf99⟩
          replace h := hk104
          try dsimp only at h hst102 hf99
          refine (show At _ _ _ [(4, v98), (8, v0), (9, vi (a0.length : Int)), (10, vi x15)] _ from ?_)
          refine At.inBlock ?_
          refine At.then ?_
          refine WC.region ?_
          refine WL.y (Y.add_i rfl rfl) rfl ?_
          refine WL.y (Y.move rfl) rfl ?_
          refine WL.nil ?_
          obtain ⟨O193, hst194, ho195⟩ := OwnSl.rlb 1004 rfl hf99
          exact At.round (out97, w64 (x15 + 1), O193, v98) j28 (Nat.lt_succ_self _) ⟨next1 h hn30, (Stp.trans (Stp.up hst18 rfl) (Stp.trans (Stp.up hst51 rfl) (Stp.trans (Stp.up hst58 rfl) (Stp.trans (Stp.up hst69 rfl) (Stp.trans (Stp.up hst83 rfl) (Stp.trans (Stp.up hst92 rfl) (Stp.trans (Stp.up hst102 rfl) (Stp.up hst194 rfl)))))))), ho195⟩ (.cons rfl (.cons rfl (.cons rfl (.cons rfl .nil))))
    · refine WC.condF' rfl hc31 ?_
      refine WC.exit ?_
      refine At.thenX ?_
      refine At.loopX ?_
      obtain ⟨O196, hst197, ho198⟩ := OwnSl.rlb 1008 rfl hf14
      exact At.hitB (σ := (List UInt8 × Own × Value)) (out12, O196, v13) ⟨brk1 h hn30, (Stp.trans (Stp.up hst18 rfl) (Stp.up hst197 rfl)), ho198⟩ (.cons rfl .nil)
  · rintro ⟨out19, O22, v20⟩ wd23 ⟨rfl, hst24, hf21⟩
    replace h := flowK_go hk27
    try dsimp only at h hst24 hf21
    refine (show At _ _ _ [(4, v20)] _ from ?_)
    refine At.inBlockHit ?_
    refine At.then ?_
    refine WC.seq ?_
    refine WC.region ?_
    refine WL.y (Y.move rfl) rfl ?_
    refine WL.y (Y.assign rfl) rfl ?_
    refine WL.y (Y.assign rfl) rfl ?_
    refine WL.nil ?_
    refine At.then ?_
    refine WC.ret ?_
    obtain ⟨rfl, rfl⟩ := tup2 h
    have hs199 : Stp [11, 13, 1002, 1004] (Lg.O0 A) w O22 wd23 := (Stp.up hst24 rfl)
    exact At.res (.inl rfl) rfl (.tmp rfl (.tmp rfl .nil)) ⟨v20, rfl, (Stp.ext hs199 rfl rfl), (OwnSl.outF hf21 hs199 low0 rfl)⟩

theorem c_wire_GetVar {A : Nat → Prop} {a0 : List UInt8} {v0 : Value} {a1 : Int} {w : World} (hs0 : Sl Rep.b w A v0 a0) {r0 : UInt64} {r1 : Int} {r2 : Int} (h : wire_GetVar a0 a1 = some (r0, r1, r2)) : Rets Try.prog 18 [v0, vi a1] w (fun v w' => v = .tuple (List.toArray [vu r0, vi r1, vi r2]) ∧ Ext w w') := by
  unfold wire_GetVar at h
  refine Rets.enter Try.func18 rfl rfl ?_
  have hf11 : Sl Rep.b w (imm (Lg.O0 A)) v0 a0 := (Sl.start hs0)
  refine (show WC _ _ _ _ [(0, v0), (1, vi a1)] _ from ?_)
  refine WC.seq ?_
  refine WC.region ?_
  refine WL.y (Y.assign (v := vu 0) rfl) rfl ?_
  refine WL.y (Y.assign rfl) rfl ?_
  refine WL.y (Y.assign rfl) rfl ?_
  refine WL.nil ?_
  refine At.then ?_
  refine WC.seq ?_
  refine WC.seq ?_
  refine WC.region ?_
  refine WL.y (Y.move rfl) rfl ?_
  refine WL.y (Y.lss_i rfl rfl) rfl ?_
  refine WL.y (Y.move rfl) rfl ?_
  refine WL.cut 5 (σ := Unit) (fun _ w' => w = w') (fun _ => [(0, v0), (1, vi a1), (4, vu 0), (16, .bool ((decide (a1 < 0)) || (decide ((a0.length : Int) < a1))))]) ?_ ?_
  · refine WL.part 11 rfl (fun hE12 => ?_) (fun hE12 => ?_)
    · refine WL.gS rfl rfl rfl rfl ?_
      refine WL.gS rfl rfl rfl rfl ?_
      refine WL.gS rfl rfl rfl rfl ?_
      refine WL.gS rfl rfl rfl rfl ?_
      refine WL.y (Y.pick (b := true) rfl rfl) rfl ?_
      refine WL.ren (v' := .bool ((decide (a1 < 0)) || (decide ((a0.length : Int) < a1)))) 16 rfl (congrArg Value.bool (orT hE12)) ?_
      exact WL.nil (At.join () rfl (.cons rfl (.cons rfl (.cons rfl (.cons rfl .nil)))))
    · refine WL.ung rfl rfl ?_
      refine WL.y (Y.move rfl) rfl ?_
      refine WL.ung rfl rfl ?_
      refine WL.y (Y.move rfl) rfl ?_
      refine WL.ung rfl rfl ?_
      refine WL.y (Y.len ty25 rfl hf11) rfl ?_
      refine WL.ung rfl rfl ?_
      refine WL.y (Y.gtr_i rfl rfl) rfl ?_
      refine WL.y (Y.pick (b := false) rfl rfl) rfl ?_
      refine WL.ren (v' := .bool ((decide (a1 < 0)) || (decide ((a0.length : Int) < a1)))) 16 rfl (congrArg Value.bool (orF hE12)) ?_
      exact WL.nil (At.join () rfl (.cons rfl (.cons rfl (.cons rfl (.cons rfl .nil)))))
  · rintro _ _ rfl
    refine (show WL _ _ _ _ _ [(0, v0), (1, vi a1), (4, vu 0), (16, .bool ((decide (a1 < 0)) || (decide ((a0.length : Int) < a1))))] _ from ?_)
    refine WL.nil ?_
    refine At.then ?_
    rcases cnd h with ⟨hc13, h⟩ | ⟨hc13, h⟩
    · refine WC.condT' rfl hc13 ?_
      refine WC.seq ?_
      refine WC.region ?_
      refine WL.y (Y.assign (v := vu 0) rfl) rfl ?_
      refine WL.y (Y.assign rfl) rfl ?_
      refine WL.y (Y.assign rfl) rfl ?_
      refine WL.nil ?_
      refine At.then ?_
      refine WC.ret ?_
      refine At.thenR ?_
      obtain ⟨rfl, rfl, rfl⟩ := tup3 h
      have hs14 : Stp [] (Lg.O0 A) w (Lg.O0 A) w := (Stp.refl _ _ _)
      exact At.res (.inl rfl) rfl (.tmp rfl (.tmp rfl (.tmp rfl .nil))) ⟨rfl, (Stp.ext hs14 rfl rfl)⟩
    · refine WC.condF' rfl hc13 ?_
      refine WC.skip ?_
      refine At.then ?_
      refine WC.seq ?_
      refine WC.seq ?_
      refine WC.region ?_
      refine WL.y (Y.move rfl) rfl ?_
      refine WL.y (Y.move rfl) rfl ?_
      obtain ⟨t15, ht15, h⟩ := bnd h
      obtain ⟨v16, hY18, hf17⟩ := Sl.slice (ρ := [(17, v0), (18, vi a1)]) (x := (.tmp 17)) (lo := (some (.tmp 18))) (hi := none) ty25 ty5 rfl rfl rfl hf11 ht15
      refine WL.y (Y.sub (.cons rfl (.cons rfl .nil)) (hY18 _ _)) rfl ?_
      refine WL.y (Y.len ty25 rfl hf17) rfl ?_
      refine WL.y (Y.move rfl) rfl ?_
      refine WL.nil ?_
      refine At.then ?_
      refine WC.block ?_
      obtain ⟨p21, h, hk23⟩ := flow1 h
      obtain ⟨k22, h⟩ := loop_some h
      refine WC.joinB 0 (σ := Unit) (fun x w' => p21 = .go () ∧ w = w') (fun x => []) ?_ ?_
      · refine WC.loop (σ := (UInt64 × Int)) (fun x k w' => loopN k (wire_GetVar_lp1 t15) (x.1, x.2) = some p21 ∧ w = w') (fun x => [(4, vu x.1), (19, v16), (20, vi (t15.length : Int)), (21, vi x.2)]) (0, 0) k22 (.cons rfl (.cons rfl (.cons rfl (.cons rfl .nil)))) ⟨h, rfl⟩ ?_
        rintro ⟨v19, x20⟩ k22 _ ⟨h, rfl⟩
        obtain ⟨j24, q25, rfl, h, hn26⟩ := rnd1 h
        unfold wire_GetVar_lp1 at h
        try dsimp only at h
        refine (show WC _ _ _ _ [(4, vu v19), (19, v16), (20, vi (t15.length : Int)), (21, vi x20)] _ from ?_)
        refine WC.seq ?_
        refine WC.region ?_
        refine WL.y (Y.lss_i rfl rfl) rfl ?_
        refine WL.nil ?_
        refine At.then ?_
        refine WC.seq ?_
        rcases cnd h with ⟨hc27, h⟩ | ⟨hc27, h⟩
        · refine WC.condT' rfl hc27 ?_
          refine WC.skip ?_
          refine At.then ?_
          refine WC.seq ?_
          refine WC.block ?_
          refine WC.seq ?_
          refine WC.region ?_
          refine WL.y (Y.move rfl) rfl ?_
          obtain ⟨e28, he28, h⟩ := bnd h
          obtain ⟨b29, off37, cap36, cs35, hv30, hi31, hl32, hc33, hok34, hA38⟩ := Sl.at2 hf17 he28
          obtain rfl := hok34
          replace hc33 : CellsAt _ _ _ [vb e28] := hc33
          have hca39 := CAt.imm hc33 hA38
          refine WL.y (Y.indexAddr ty25 ty5 rfl hv30 rfl hi31 hl32) rfl ?_
          refine WL.y (Y.loadSc ty5 rfl rfl hca39.at_) rfl ?_
          refine WL.y (Y.assign rfl) rfl ?_
          refine WL.y (Y.assign rfl) rfl ?_
          refine WL.nil ?_
          refine At.then ?_
          refine WC.seq ?_
          refine WC.seq ?_
          refine WC.region ?_
          refine WL.y (Y.move rfl) rfl ?_
          refine WL.y (Y.eql_i rfl rfl) rfl ?_
          refine WL.y (Y.move rfl) rfl ?_
          refine WL.cut 3 (σ := Unit) (fun _ w' => w = w') (fun _ => [(4, vu v19), (7, vi x20), (8, vb e28), (19, v16), (20, vi (t15.length : Int)), (21, vi x20), (31, .bool ((decide (x20 = 9)) && (decide (1 < e28))))]) ?_ ?_
          · refine WL.part 28 rfl (fun hE40 => ?_) (fun hE40 => ?_)
            · refine WL.ung rfl rfl ?_
              refine WL.y (Y.move rfl) rfl ?_
              refine WL.ung rfl rfl ?_
              refine WL.y (Y.gtr_b (b := 1) rfl rfl) rfl ?_
              refine WL.y (Y.pick (b := true) rfl rfl) rfl ?_
              refine WL.ren (v' := .bool ((decide (x20 = 9)) && (decide (1 < e28)))) 31 rfl (congrArg Value.bool (andT hE40)) ?_
              exact WL.nil (At.join () rfl (.cons rfl (.cons rfl (.cons rfl (.cons rfl (.cons rfl (.cons rfl (.cons rfl .nil))))))))
            · refine WL.gS rfl rfl rfl rfl ?_
              refine WL.gS rfl rfl rfl rfl ?_
              refine WL.y (Y.pick (b := false) rfl rfl) rfl ?_
              refine WL.ren (v' := .bool ((decide (x20 = 9)) && (decide (1 < e28)))) 31 rfl (congrArg Value.bool (andF hE40)) ?_
              exact WL.nil (At.join () rfl (.cons rfl (.cons rfl (.cons rfl (.cons rfl (.cons rfl (.cons rfl (.cons rfl .nil))))))))
          · rintro _ _ rfl
            refine (show WL _ _ _ _ _ [(4, vu v19), (7, vi x20), (8, vb e28), (19, v16), (20, vi (t15.length : Int)), (21, vi x20), (31, .bool ((decide (x20 = 9)) && (decide (1 < e28))))] _ from ?_)
            refine WL.nil ?_
            refine At.then ?_
            rcases cnd h with ⟨hc41, h⟩ | ⟨hc41, h⟩
            · refine WC.condT' rfl hc41 ?_
              refine WC.seq ?_
              refine WC.region ?_
              refine WL.y (Y.assign (v := vu 0) rfl) rfl ?_
              refine WL.y (Y.assign rfl) rfl ?_
              refine WL.y (Y.assign rfl) rfl ?_
              refine WL.nil ?_
              refine At.then ?_
              refine WC.ret ?_
              refine At.thenR ?_
              refine At.inBlockR ?_
              refine At.thenR ?_
              refine At.loopR ?_
              have h := outr1 h hn26 hk23
              refine At.joinBR ?_
              refine At.inBlockR ?_
              refine At.thenR ?_
              obtain ⟨rfl, rfl, rfl⟩ := tup3 h
              have hs42 : Stp [] (Lg.O0 A) w (Lg.O0 A) w := (Stp.refl _ _ _)
              exact At.res (.inl rfl) rfl (.tmp rfl (.tmp rfl (.tmp rfl .nil))) ⟨rfl, (Stp.ext hs42 rfl rfl)⟩
            · refine WC.condF' rfl hc41 ?_
              refine WC.skip ?_
              refine At.then ?_
              refine WC.seq ?_
              refine WC.region ?_
              refine WL.y (Y.move rfl) rfl ?_
              refine WL.y (Y.move rfl) rfl ?_
              refine WL.y (Y.and_b (b := 127) rfl rfl) rfl ?_
              refine WL.y (Y.conv_bu ty5.u ty38.u rfl) rfl ?_
              refine WL.y (Y.move rfl) rfl ?_
              refine WL.y (Y.mul_i rfl rfl) rfl ?_
              refine WL.y (Y.conv_iu ty3.u ty58.u rfl) rfl ?_
              refine WL.y (Y.shl_uu rfl rfl) rfl ?_
              refine WL.y (Y.or_u rfl rfl) rfl ?_
              obtain ⟨v43, hv43, h⟩ := lt1 h
              refine WL.yE (Y.assign rfl) (congrArg vu hv43.symm) rfl ?_
              refine WL.nil ?_
              refine At.then ?_
              refine WC.seq ?_
              refine WC.region ?_
              refine WL.y (Y.move rfl) rfl ?_
              refine WL.y (Y.lss_b (b := 128) rfl rfl) rfl ?_
              refine WL.nil ?_
              refine At.then ?_
              rcases cnd h with ⟨hc44, h⟩ | ⟨hc44, h⟩
              · refine WC.condT' rfl hc44 ?_
                refine WC.seq ?_
                refine WC.seq ?_
                refine WC.region ?_
                refine WL.y (Y.move rfl) rfl ?_
                refine WL.y (Y.eql_b (b := 0) rfl rfl) rfl ?_
                refine WL.y (Y.move rfl) rfl ?_
                refine WL.cut 3 (σ := Unit) (fun _ w' => w = w') (fun _ => [(4, vu v43), (7, vi x20), (48, .bool ((decide (e28 = 0)) && (decide (0 < x20))))]) ?_ ?_
                · refine WL.part 45 rfl (fun hE45 => ?_) (fun hE45 => ?_)
                  · refine WL.ung rfl rfl ?_
                    refine WL.y (Y.move rfl) rfl ?_
                    refine WL.ung rfl rfl ?_
                    refine WL.y (Y.gtr_i rfl rfl) rfl ?_
                    refine WL.y (Y.pick (b := true) rfl rfl) rfl ?_
                    refine WL.ren (v' := .bool ((decide (e28 = 0)) && (decide (0 < x20)))) 48 rfl (congrArg Value.bool (andT hE45)) ?_
                    exact WL.nil (At.join () rfl (.cons rfl (.cons rfl (.cons rfl .nil))))
                  · refine WL.gS rfl rfl rfl rfl ?_
                    refine WL.gS rfl rfl rfl rfl ?_
                    refine WL.y (Y.pick (b := false) rfl rfl) rfl ?_
                    refine WL.ren (v' := .bool ((decide (e28 = 0)) && (decide (0 < x20)))) 48 rfl (congrArg Value.bool (andF hE45)) ?_
                    exact WL.nil (At.join () rfl (.cons rfl (.cons rfl (.cons rfl .nil))))
                · rintro _ _ rfl
                  refine (show WL _ _ _ _ _ [(4, vu v43), (7, vi x20), (48, .bool ((decide (e28 = 0)) && (decide (0 < x20))))] _ from ?_)
                  refine WL.nil ?_
                  refine At.then ?_
                  rcases cnd h with ⟨hc46, h⟩ | ⟨hc46, h⟩
                  · refine WC.condT' rfl hc46 ?_
                    refine WC.seq ?_
                    refine WC.region ?_
                    refine WL.y (Y.assign (v := vu 0) rfl) rfl ?_
                    refine WL.y (Y.assign rfl) rfl ?_
                    refine WL.y (Y.assign rfl) rfl ?_
                    refine WL.nil ?_
                    refine At.then ?_
                    refine WC.ret ?_
                    refine At.thenR ?_
                    refine At.inBlockR ?_
                    refine At.thenR ?_
                    refine At.loopR ?_
                    have h := outr1 h hn26 hk23
                    refine At.joinBR ?_
                    refine At.inBlockR ?_
                    refine At.thenR ?_
                    obtain ⟨rfl, rfl, rfl⟩ := tup3 h
                    have hs47 : Stp [] (Lg.O0 A) w (Lg.O0 A) w := (Stp.refl _ _ _)
                    exact At.res (.inl rfl) rfl (.tmp rfl (.tmp rfl (.tmp rfl .nil))) ⟨rfl, (Stp.ext hs47 rfl rfl)⟩
                  · refine WC.condF' rfl hc46 ?_
                    refine WC.skip ?_
                    refine At.then ?_
                    refine WC.seq ?_
                    refine WC.region ?_
                    refine WL.y (Y.move rfl) rfl ?_
                    refine WL.y (Y.move rfl) rfl ?_
                    refine WL.y (Y.add_i rfl rfl) rfl ?_
                    refine WL.y (Y.assign rfl) rfl ?_
                    obtain ⟨nv48, hnv48, h⟩ := lt1 h
                    refine WL.yE (Y.assign rfl) (congrArg vi hnv48.symm) rfl ?_
                    refine WL.y (Y.assign rfl) rfl ?_
                    refine WL.nil ?_
                    refine At.then ?_
                    refine WC.ret ?_
                    refine At.inBlockR ?_
                    refine At.thenR ?_
                    refine At.loopR ?_
                    have h := outr1 h hn26 hk23
                    refine At.joinBR ?_
                    refine At.inBlockR ?_
                    refine At.thenR ?_
                    obtain ⟨rfl, rfl, rfl⟩ := tup3 h
                    have hs49 : Stp [] (Lg.O0 A) w (Lg.O0 A) w := (Stp.refl _ _ _)
                    exact At.res (.inl rfl) rfl (.tmp rfl (.tmp rfl (.tmp rfl .nil))) ⟨rfl, (Stp.ext hs49 rfl rfl)⟩
              · refine WC.condF' rfl hc44 ?_
                refine WC.skip ?_
                refine At.inBlock ?_
                refine At.then ?_
                refine WC.region ?_
                refine WL.y (Y.add_i rfl rfl) rfl ?_
                refine WL.y (Y.move rfl) rfl ?_
                refine WL.nil ?_
                exact At.round (v43, w64 (x20 + 1)) j24 (Nat.lt_succ_self _) ⟨next1 h hn26, rfl⟩ (.cons rfl (.cons rfl (.cons rfl (.cons rfl .nil))))
        · refine WC.condF' rfl hc27 ?_
          refine WC.exit ?_
          refine At.thenX ?_
          refine At.loopX ?_
          exact At.hitB (σ := Unit) () ⟨brk1 h hn26, rfl⟩ .nil
      · rintro _ _ ⟨rfl, rfl⟩
        replace h := flowK_go hk23
        refine (show At _ _ _ [] _ from ?_)
        refine At.inBlockHit ?_
        refine At.then ?_
        refine WC.seq ?_
        refine WC.region ?_
        refine WL.y (Y.assign (v := vu 0) rfl) rfl ?_
        refine WL.y (Y.assign rfl) rfl ?_
        refine WL.y (Y.assign rfl) rfl ?_
        refine WL.nil ?_
        refine At.then ?_
        refine WC.ret ?_
        obtain ⟨rfl, rfl, rfl⟩ := tup3 h
        have hs50 : Stp [] (Lg.O0 A) w (Lg.O0 A) w := (Stp.refl _ _ _)
        exact At.res (.inl rfl) rfl (.tmp rfl (.tmp rfl (.tmp rfl .nil))) ⟨rfl, (Stp.ext hs50 rfl rfl)⟩

theorem c_bytes_Clone {A : Nat → Prop} {a0 : List UInt8} {v0 : Value} {w : World} (hs0 : Sl Rep.b w A v0 a0) {r0 : List UInt8} (h : bytes_Clone a0 = some r0) : Rets Try.prog 26 [v0] w (fun v w' => ∃ (u0 : Value), v = u0 ∧ Ext w w' ∧ RowF Rep.b 5 w w' u0 r0) := by
  unfold bytes_Clone at h
  refine Rets.enter Try.func26 rfl rfl ?_
  refine (show WC _ _ _ _ [(0, v0)] _ from ?_)
  refine WC.seq (WC.region (WL.y (Y.assign rfl) rfl (WL.nil (At.then ?_))))
  refine WC.seq (WC.seq (WC.region ?_))
  refine WL.y (Y.move rfl) rfl ?_
  rcases hs0.nilOr with ⟨rfl, rfl⟩ | ⟨q, n, c, rfl⟩
  · refine WL.y (Y.slnil (p := none) (n := 0) (c := 0) ty25.u rfl rfl) rfl (WL.nil (At.then ?_))
    refine WC.condT rfl (WC.seq (WC.region (WL.y (Y.assign rfl) rfl (WL.nil (At.then (WC.ret (At.thenR ?_)))))))
    have : r0 = [] := by simpa [app] using h.symm
    subst this
    exact At.res (.inl rfl) rfl (.tmp rfl .nil) ⟨_, rfl, Ext.refl w, RowF.nil⟩
  · refine WL.y (Y.slnil (p := some _) ty25.u rfl rfl) rfl (WL.nil (At.then ?_))
    refine WC.condF rfl (WC.skip (At.then ?_))
    refine WC.seq (WC.region ?_)
    have hs := hs0
    refine WL.buildSlice (O := Lg.O0 A) (R := Rep.b) (vals := []) 11 [] (xs := []) (by decide) ty25 ty5 (by decide) (by decide) (Fits.evalp rfl) (by kernel_rfl) rfl rfl rfl ?_
    intro v O1 w1 hst1 ho1
    refine WL.y (Y.move rfl) rfl ?_
    have hs1 := (Sl.start hs).mono (imm_st hst1 rfl rfl)
    refine WL.append (by decide) ty25 ty5 rfl (by decide) rfl rfl ho1 hs1.src h rfl ?_
    intro v2 O2 w2 hst2 ho2
    refine WL.y (Y.assign rfl) rfl (WL.nil (At.then (WC.ret ?_)))
    have hs9 : Stp [11] (Lg.O0 A) w O2 w2 := (Stp.trans (Stp.up hst1 rfl) hst2)
    exact At.res (.inl rfl) rfl (.tmp rfl .nil) ⟨_, rfl, Stp.ext hs9 rfl rfl, OwnSl.outF ho2 hs9 low0 rfl⟩

theorem c_wire_field {A : Nat → Prop} {a0 : List UInt8} {v0 : Value} {a1 : Int} {w : World} (hs0 : Sl Rep.b w A v0 a0) {r0 : api_Fld} {r1 : Int} {r2 : Int} (h : wire_field a0 a1 = some (r0, r1, r2)) : Rets Try.prog 24 [v0, vi a1] w (fun v w' => ∃ (u0_3 : Value), v = .tuple (List.toArray [.agg (List.toArray [vi r0.Num, vi r0.Type_, vu r0.V, u0_3]), vi r1, vi r2]) ∧ Ext w w' ∧ Sl Rep.b w' (fun k => w.heap.size ≤ k) u0_3 r0.B) := by
  unfold wire_field at h
  refine Rets.enter Try.func24 rfl rfl ?_
  have hf11 : Sl Rep.b w (imm (Lg.O0 A)) v0 a0 := (Sl.start hs0)
  refine (show WC _ _ _ _ [(0, v0), (1, vi a1)] _ from ?_)
  refine WC.seq ?_
  refine WC.region ?_
  refine WL.alloc (O := (Lg.O0 A)) 11 [vi 0, vi 0, vu 0, .slice none 0 0] ty40 rfl rfl ?_
  intro p13 O14 wd15 hst16 hb12
  refine WL.y (Y.assign rfl) rfl ?_
  refine WL.y (Y.assign rfl) rfl ?_
  refine WL.nil ?_
  refine At.then ?_
  refine WC.seq ?_
  refine WC.region ?_
  refine WL.y (Y.move rfl) rfl ?_
  refine WL.y (Y.move rfl) rfl ?_
  have hf17 := hf11.mono (imm_st hst16 rfl rfl)
  obtain ⟨⟨r18, r19, r20⟩, hp21, h⟩ := bnd h
  refine WL.call (vals := [v0, vi a1]) kok18 rfl rfl (c_wire_GetVar (A := fun _ => True) (Sl.all hf17) hp21) ?_
  rintro vr24 wd23 ⟨rfl, hm22⟩
  obtain ⟨O25, hold26, hnew27, hst28⟩ := adoptE O14 (fun k => 1) hm22
  refine WL.y (Y.move rfl) rfl ?_
  refine WL.y (Y.extract rfl rfl) rfl ?_
  refine WL.y (Y.extract rfl rfl) rfl ?_
  refine WL.y (Y.extract rfl rfl) rfl ?_
  refine WL.y (Y.assign rfl) rfl ?_
  refine WL.y (Y.assign rfl) rfl ?_
  refine WL.y (Y.assign rfl) rfl ?_
  refine WL.nil ?_
  refine At.then ?_
  refine WC.seq ?_
  refine WC.seq ?_
  refine WC.region ?_
  refine WL.y (Y.move rfl) rfl ?_
  refine WL.y (Y.neq_i rfl rfl) rfl ?_
  refine WL.nil ?_
  refine At.then ?_
  rcases cnd h with ⟨hc29, h⟩ | ⟨hc29, h⟩
  · refine WC.condT' rfl hc29 ?_
    refine WC.seq ?_
    refine WC.region ?_
    have hf30 := hb12.st hst28 rfl
    refine WL.y (Y.loadAg ty40 rfl rfl (hf30.cells 0 [vi 0, vi 0, vu 0, .slice none 0 0] rfl) rfl) rfl ?_
    refine WL.y (Y.move rfl) rfl ?_
    refine WL.store (v := .agg [vi 0, vi 0, vu 0, .slice none 0 0].toArray) (cells' := [vi 0, vi 0, vu 0, .slice none 0 0]) ty40 rfl rfl hf30 rfl (Nat.le_of_ble_eq_true rfl) rfl rfl ?_
    intro wd31 hst32 hb33
    refine WL.y (Y.assign rfl) rfl ?_
    refine WL.y (Y.assign rfl) rfl ?_
    refine WL.nil ?_
    refine At.then ?_
    refine WC.ret ?_
    refine At.thenR ?_
    obtain ⟨rfl, rfl, rfl⟩ := tup3 h
    have hs34 : Stp [11] (Lg.O0 A) w O25 wd31 := (Stp.trans (Stp.up hst16 rfl) (Stp.trans (Stp.up hst28 rfl) (Stp.up hst32 rfl)))
    exact At.res (.inl rfl) rfl (.cell rfl (hb33.runAg 0 [vi 0, vi 0, vu 0, .slice none 0 0] ty40 rfl rfl rfl) (.tmp rfl (.tmp rfl .nil))) ⟨.slice none 0 0, rfl, (Stp.ext hs34 rfl rfl), (Or.inl ⟨rfl, rfl⟩)⟩
  · refine WC.condF' rfl hc29 ?_
    refine WC.skip ?_
    refine At.then ?_
    refine WC.seq ?_
    refine WC.region ?_
    refine WL.y (Y.move rfl) rfl ?_
    refine WL.y (Y.move rfl) rfl ?_
    refine WL.y (Y.add_i rfl rfl) rfl ?_
    obtain ⟨at35, hat35, h⟩ := lt1 h
    refine WL.yE (Y.assign rfl) (congrArg vi hat35.symm) rfl ?_
    refine WL.nil ?_
    refine At.then ?_
    refine WC.seq ?_
    refine WC.seq ?_
    refine WC.region ?_
    refine WL.y (Y.move rfl) rfl ?_
    refine WL.y (Y.and_u (b := 7) rfl rfl) rfl ?_
    refine WL.y (Y.gtr_u (b := 2) rfl rfl) rfl ?_
    refine WL.nil ?_
    refine At.then ?_
    rcases cnd h with ⟨hc36, h⟩ | ⟨hc36, h⟩
    · refine WC.condT' rfl hc36 ?_
      refine WC.seq ?_
      refine WC.region ?_
      have hf37 := hb12.st hst28 rfl
      refine WL.y (Y.loadAg ty40 rfl rfl (hf37.cells 0 [vi 0, vi 0, vu 0, .slice none 0 0] rfl) rfl) rfl ?_
      refine WL.store (v := .agg [vi 0, vi 0, vu 0, .slice none 0 0].toArray) (cells' := [vi 0, vi 0, vu 0, .slice none 0 0]) ty40 rfl rfl hf37 rfl (Nat.le_of_ble_eq_true rfl) rfl rfl ?_
      intro wd38 hst39 hb40
      refine WL.y (Y.assign rfl) rfl ?_
      refine WL.y (Y.assign rfl) rfl ?_
      refine WL.nil ?_
      refine At.then ?_
      refine WC.ret ?_
      refine At.thenR ?_
      obtain ⟨rfl, rfl, rfl⟩ := tup3 h
      have hs41 : Stp [11] (Lg.O0 A) w O25 wd38 := (Stp.trans (Stp.up hst16 rfl) (Stp.trans (Stp.up hst28 rfl) (Stp.up hst39 rfl)))
      exact At.res (.inl rfl) rfl (.cell rfl (hb40.runAg 0 [vi 0, vi 0, vu 0, .slice none 0 0] ty40 rfl rfl rfl) (.tmp rfl (.tmp rfl .nil))) ⟨.slice none 0 0, rfl, (Stp.ext hs41 rfl rfl), (Or.inl ⟨rfl, rfl⟩)⟩
    · refine WC.condF' rfl hc36 ?_
      refine WC.skip ?_
      refine At.then ?_
      refine WC.seq ?_
      refine WC.seq ?_
      refine WC.region ?_
      refine WL.y (Y.move rfl) rfl ?_
      refine WL.y (Y.shr_uu (m := 3) rfl rfl) rfl ?_
      refine WL.y (Y.lss_u (b := 1) rfl rfl) rfl ?_
      refine WL.y (Y.move rfl) rfl ?_
      refine WL.cut 4 (σ := Unit) (fun _ w' => wd23 = w') (fun _ => [(0, v0), (1, vi at35), (4, .pointer (some ⟨p13, 0, none⟩)), (7, vu r18), (37, .bool ((decide (shrU r18 ((3 : UInt64).toNat) < 1)) || (decide (536870911 < shrU r18 ((3 : UInt64).toNat)))))]) ?_ ?_
      · refine WL.part 33 rfl (fun hE42 => ?_) (fun hE42 => ?_)
        · refine WL.gS rfl rfl rfl rfl ?_
          refine WL.gS rfl rfl rfl rfl ?_
          refine WL.gS rfl rfl rfl rfl ?_
          refine WL.y (Y.pick (b := true) rfl rfl) rfl ?_
          refine WL.ren (v' := .bool ((decide (shrU r18 ((3 : UInt64).toNat) < 1)) || (decide (536870911 < shrU r18 ((3 : UInt64).toNat))))) 37 rfl (congrArg Value.bool (orT hE42)) ?_
          exact WL.nil (At.join () rfl (.cons rfl (.cons rfl (.cons rfl (.cons rfl (.cons rfl .nil))))))
        · refine WL.ung rfl rfl ?_
          refine WL.y (Y.move rfl) rfl ?_
          refine WL.ung rfl rfl ?_
          refine WL.y (Y.shr_uu (m := 3) rfl rfl) rfl ?_
          refine WL.ung rfl rfl ?_
          refine WL.y (Y.gtr_u (b := 536870911) rfl rfl) rfl ?_
          refine WL.y (Y.pick (b := false) rfl rfl) rfl ?_
          refine WL.ren (v' := .bool ((decide (shrU r18 ((3 : UInt64).toNat) < 1)) || (decide (536870911 < shrU r18 ((3 : UInt64).toNat))))) 37 rfl (congrArg Value.bool (orF hE42)) ?_
          exact WL.nil (At.join () rfl (.cons rfl (.cons rfl (.cons rfl (.cons rfl (.cons rfl .nil))))))
      · rintro _ _ rfl
        refine (show WL _ _ _ _ _ [(0, v0), (1, vi at35), (4, .pointer (some ⟨p13, 0, none⟩)), (7, vu r18), (37, .bool ((decide (shrU r18 ((3 : UInt64).toNat) < 1)) || (decide (536870911 < shrU r18 ((3 : UInt64).toNat)))))] _ from ?_)
        refine WL.nil ?_
        refine At.then ?_
        rcases cnd h with ⟨hc43, h⟩ | ⟨hc43, h⟩
        · refine WC.condT' rfl hc43 ?_
          refine WC.seq ?_
          refine WC.region ?_
          have hf44 := hb12.st hst28 rfl
          refine WL.y (Y.loadAg ty40 rfl rfl (hf44.cells 0 [vi 0, vi 0, vu 0, .slice none 0 0] rfl) rfl) rfl ?_
          refine WL.store (v := .agg [vi 0, vi 0, vu 0, .slice none 0 0].toArray) (cells' := [vi 0, vi 0, vu 0, .slice none 0 0]) ty40 rfl rfl hf44 rfl (Nat.le_of_ble_eq_true rfl) rfl rfl ?_
          intro wd45 hst46 hb47
          refine WL.y (Y.assign rfl) rfl ?_
          refine WL.y (Y.assign rfl) rfl ?_
          refine WL.nil ?_
          refine At.then ?_
          refine WC.ret ?_
          refine At.thenR ?_
          obtain ⟨rfl, rfl, rfl⟩ := tup3 h
          have hs48 : Stp [11] (Lg.O0 A) w O25 wd45 := (Stp.trans (Stp.up hst16 rfl) (Stp.trans (Stp.up hst28 rfl) (Stp.up hst46 rfl)))
          exact At.res (.inl rfl) rfl (.cell rfl (hb47.runAg 0 [vi 0, vi 0, vu 0, .slice none 0 0] ty40 rfl rfl rfl) (.tmp rfl (.tmp rfl .nil))) ⟨.slice none 0 0, rfl, (Stp.ext hs48 rfl rfl), (Or.inl ⟨rfl, rfl⟩)⟩
        · refine WC.condF' rfl hc43 ?_
          refine WC.skip ?_
          refine At.then ?_
          refine WC.seq ?_
          refine WC.region ?_
          refine WL.y (Y.move rfl) rfl ?_
          refine WL.y (Y.shr_uu (m := 3) rfl rfl) rfl ?_
          refine WL.y (Y.conv_ui ty38.u ty3.u rfl) rfl ?_
          refine WL.y (Y.move rfl) rfl ?_
          refine WL.y (Y.and_u (b := 7) rfl rfl) rfl ?_
          refine WL.y (Y.conv_ui ty38.u ty3.u rfl) rfl ?_
          refine WL.y (Y.fieldAddr fo40_0 rfl) rfl ?_
          obtain ⟨t49, ht49, h⟩ := lt1 h
          refine WL.ren 41 rfl (congrArg vi ht49.symm) ?_
          have hf50 := hb12.st hst28 rfl
          refine WL.store (v := vi t49) (cells' := [vi t49, vi 0, vu 0, .slice none 0 0]) ty3 rfl rfl hf50 rfl (Nat.le_of_ble_eq_true rfl) rfl rfl ?_
          intro wd51 hst52 hb53
          refine WL.y (Y.fieldAddr fo40_1 rfl) rfl ?_
          obtain ⟨t54, ht54, h⟩ := lt1 h
          refine WL.ren 44 rfl (congrArg vi ht54.symm) ?_
          refine WL.store (v := vi t54) (cells' := [vi t49, vi t54, vu 0, .slice none 0 0]) ty3 rfl rfl hb53 rfl (Nat.le_of_ble_eq_true rfl) rfl rfl ?_
          intro wd55 hst56 hb57
          refine WL.nil ?_
          refine At.then ?_
          refine WC.seq ?_
          refine WC.seq ?_
          refine WC.region ?_
          refine WL.y (Y.fieldAddr fo40_1 rfl) rfl ?_
          refine WL.y (Y.loadSc ty3 rfl rfl (hb57.cell 1 _ rfl)) rfl ?_
          refine WL.y (Y.eql_i rfl rfl) rfl ?_
          refine WL.nil ?_
          refine At.then ?_
          rcases cnd h with ⟨hc58, h⟩ | ⟨hc58, h⟩
          · refine WC.condT' rfl hc58 ?_
            refine WC.seq ?_
            refine WC.seq ?_
            refine WC.region ?_
            refine WL.y (Y.move rfl) rfl ?_
            have hf59 := hf17.mono (imm_st hst28 rfl rfl)
            have hf60 := hf59.mono (imm_st hst52 rfl rfl)
            have hf61 := hf60.mono (imm_st hst56 rfl rfl)
            refine WL.y (Y.len ty25 rfl hf61) rfl ?_
            refine WL.y (Y.move rfl) rfl ?_
            refine WL.y (Y.sub_i rfl rfl) rfl ?_
            refine WL.y (Y.lss_i rfl rfl) rfl ?_
            refine WL.nil ?_
            refine At.then ?_
            rcases cnd h with ⟨hc62, h⟩ | ⟨hc62, h⟩
            · refine WC.condT' rfl hc62 ?_
              refine WC.seq ?_
              refine WC.region ?_
              refine WL.y (Y.loadAg ty40 rfl rfl (hb57.cells 0 [vi t49, vi t54, vu 0, .slice none 0 0] rfl) rfl) rfl ?_
              refine WL.store (v := .agg [vi t49, vi t54, vu 0, .slice none 0 0].toArray) (cells' := [vi t49, vi t54, vu 0, .slice none 0 0]) ty40 rfl rfl hb57 rfl (Nat.le_of_ble_eq_true rfl) rfl rfl ?_
              intro wd63 hst64 hb65
              refine WL.y (Y.assign rfl) rfl ?_
              refine WL.y (Y.assign rfl) rfl ?_
              refine WL.nil ?_
              refine At.then ?_
              refine WC.ret ?_
              refine At.thenR ?_
              refine At.thenR ?_
              obtain ⟨rfl, rfl, rfl⟩ := tup3 h
              have hs66 : Stp [11] (Lg.O0 A) w O25 wd63 := (Stp.trans (Stp.up hst16 rfl) (Stp.trans (Stp.up hst28 rfl) (Stp.trans (Stp.up hst52 rfl) (Stp.trans (Stp.up hst56 rfl) (Stp.up hst64 rfl)))))
              exact At.res (.inl rfl) rfl (.cell rfl (hb65.runAg 0 [vi t49, vi t54, vu 0, .slice none 0 0] ty40 rfl rfl rfl) (.tmp rfl (.tmp rfl .nil))) ⟨.slice none 0 0, rfl, (Stp.ext hs66 rfl rfl), (Or.inl ⟨rfl, rfl⟩)⟩
            · refine WC.condF' rfl hc62 ?_
              refine WC.skip ?_
              refine At.then ?_
              refine WC.seq ?_
              refine WC.seq ?_
              refine WC.region ?_
              refine WL.y (Y.move rfl) rfl ?_
              refine WL.y (Y.move rfl) rfl ?_
              refine WL.y (Y.move rfl) rfl ?_
              refine WL.y (Y.add_i rfl rfl) rfl ?_
              obtain ⟨t67, ht67, h⟩ := bnd h
              obtain ⟨v68, hY70, hf69⟩ := Sl.slice (ρ := [(56, v0), (57, vi at35), (59, vi (w64 (at35 + 8)))]) (x := (.tmp 56)) (lo := (some (.tmp 57))) (hi := (some (.tmp 59))) ty25 ty5 rfl rfl rfl hf61 ht67
              refine WL.y (Y.sub (.cons rfl (.cons rfl (.cons rfl .nil))) (hY70 _ _)) rfl ?_
              refine WL.y (Y.len ty25 rfl hf69) rfl ?_
              refine WL.y (Y.move rfl) rfl ?_
              refine WL.nil ?_
              refine At.then ?_
              obtain ⟨p76, h, hk77⟩ := bnd h
              refine WC.join (σ := (UInt64 × Own)) (fun x w' => x.1 = p76 ∧ Stp [11] O25 wd55 x.2 w' ∧ Blk 11 x.2 w' p13 40 [vi t49, vi t54, vu x.1, .slice none 0 0]) (fun x => [(1, vi at35), (4, .pointer (some ⟨p13, 0, none⟩))]) ?_ ?_
              · refine WC.block ?_
                obtain ⟨p89, h, hk91⟩ := flow1 h
                obtain ⟨k90, h⟩ := loop_some h
                refine WC.joinB 0 (σ := (UInt64 × Own)) (fun x w' => p89 = .go x.1 ∧ Stp [11] O25 wd55 x.2 w' ∧ Blk 11 x.2 w' p13 40 [vi t49, vi t54, vu x.1, .slice none 0 0]) (fun x => [(1, vi at35), (4, .pointer (some ⟨p13, 0, none⟩))]) ?_ ?_
                · refine WC.loop (σ := (UInt64 × Int × Own)) (fun x k w' => loopN k (wire_field_lp1 t67) (x.1, x.2.1) = some p89 ∧ Stp [11] O25 wd55 x.2.2 w' ∧ Blk 11 x.2.2 w' p13 40 [vi t49, vi t54, vu x.1, .slice none 0 0]) (fun x => [(1, vi at35), (4, .pointer (some ⟨p13, 0, none⟩)), (60, v68), (61, vi (t67.length : Int)), (62, vi x.2.1)]) (0, 0, O25) k90 (.cons rfl (.cons rfl (.cons rfl (.cons rfl (.cons rfl .nil))))) ⟨h, (Stp.refl _ _ _), hb57⟩ ?_
                  rintro ⟨c79, x80, O81⟩ k90 wd82 ⟨h, hst83, hb78⟩
                  obtain ⟨j92, q93, rfl, h, hn94⟩ := rnd1 h
                  unfold wire_field_lp1 at h
                  try dsimp only at h hst83 hb78
                  refine (show WC _ _ _ _ [(1, vi at35), (4, .pointer (some ⟨p13, 0, none⟩)), (60, v68), (61, vi (t67.length : Int)), (62, vi x80)] _ from ?_)
                  refine WC.seq ?_
                  refine WC.region ?_
                  refine WL.y (Y.lss_i rfl rfl) rfl ?_
                  refine WL.nil ?_
                  refine At.then ?_
                  refine WC.seq ?_
                  rcases cnd h with ⟨hc95, h⟩ | ⟨hc95, h⟩
                  · refine WC.condT' rfl hc95 ?_
                    refine WC.skip ?_
                    refine At.then ?_
                    refine WC.seq ?_
                    refine WC.block ?_
                    refine WC.seq ?_
                    refine WC.region ?_
                    refine WL.y (Y.move rfl) rfl ?_
                    obtain ⟨e96, he96, h⟩ := bnd h
                    have hf105 := hf69.mono (imm_st hst83 rfl rfl)
                    obtain ⟨b97, off106, cap104, cs103, hv98, hi99, hl100, hc101, hok102, hA107⟩ := Sl.at2 hf105 he96
                    obtain rfl := hok102
                    replace hc101 : CellsAt _ _ _ [vb e96] := hc101
                    have hca108 := CAt.imm hc101 hA107
                    refine WL.y (Y.indexAddr ty25 ty5 rfl hv98 rfl hi99 hl100) rfl ?_
                    refine WL.y (Y.loadSc ty5 rfl rfl hca108.at_) rfl ?_
                    refine WL.y (Y.assign rfl) rfl ?_
                    refine WL.y (Y.assign rfl) rfl ?_
                    refine WL.nil ?_
                    refine At.then ?_
                    refine WC.region ?_
                    refine WL.y (Y.fieldAddr fo40_2 rfl) rfl ?_
                    refine WL.y (Y.loadSc ty38 rfl rfl (hb78.cell 2 _ rfl)) rfl ?_
                    refine WL.y (Y.move rfl) rfl ?_
                    refine WL.y (Y.conv_bu ty5.u ty38.u rfl) rfl ?_
                    refine WL.y (Y.move rfl) rfl ?_
                    refine WL.y (Y.mul_i rfl rfl) rfl ?_
                    refine WL.y (Y.conv_iu ty3.u ty58.u rfl) rfl ?_
                    refine WL.y (Y.shl_uu rfl rfl) rfl ?_
                    refine WL.y (Y.or_u rfl rfl) rfl ?_
                    refine WL.y (Y.fieldAddr fo40_2 rfl) rfl ?_
                    obtain ⟨t109, ht109, h⟩ := lt1 h
                    refine WL.ren 75 rfl (congrArg vu ht109.symm) ?_
                    refine WL.store (v := vu t109) (cells' := [vi t49, vi t54, vu t109, .slice none 0 0]) ty38 rfl rfl hb78 rfl (Nat.le_of_ble_eq_true rfl) rfl rfl ?_
                    intro wd110 hst111 hb112
                    refine WL.nil ?_
                    refine At.inBlock ?_
                    refine At.then ?_
                    refine WC.region ?_
                    refine WL.y (Y.add_i rfl rfl) rfl ?_
                    refine WL.y (Y.move rfl) rfl ?_
                    refine WL.nil ?_
                    exact At.round (t109, w64 (x80 + 1), O81) j92 (Nat.lt_succ_self _) ⟨next1 h hn94, (Stp.trans (Stp.up hst83 rfl) (Stp.up hst111 rfl)), hb112⟩ (.cons rfl (.cons rfl (.cons rfl (.cons rfl (.cons rfl .nil)))))
                  · refine WC.condF' rfl hc95 ?_
                    refine WC.exit ?_
                    refine At.thenX ?_
                    refine At.loopX ?_
                    exact At.hitB (σ := (UInt64 × Own)) (c79, O81) ⟨brk1 h hn94, (Stp.up hst83 rfl), hb78⟩ (.cons rfl (.cons rfl .nil))
                · rintro ⟨c85, O86⟩ wd87 ⟨rfl, hst88, hb84⟩
                  replace h := flowK_go hk91
                  try dsimp only at h hst88 hb84
                  refine (show At _ _ _ [(1, vi at35), (4, .pointer (some ⟨p13, 0, none⟩))] _ from ?_)
                  refine At.inBlockHit ?_
                  exact At.join (σ := (UInt64 × Own)) (c85, O86) ⟨some1 h, (Stp.up hst88 rfl), hb84⟩ (.cons rfl (.cons rfl .nil))
              · rintro ⟨c72, O73⟩ wd74 ⟨rfl, hst75, hb71⟩
                replace h := hk77
                try dsimp only at h hst75 hb71
                refine (show At _ _ _ [(1, vi at35), (4, .pointer (some ⟨p13, 0, none⟩))] _ from ?_)
                refine At.then ?_
                refine WC.seq ?_
                refine WC.region ?_
                refine WL.y (Y.loadAg ty40 rfl rfl (hb71.cells 0 [vi t49, vi t54, vu c72, .slice none 0 0] rfl) rfl) rfl ?_
                refine WL.y (Y.move rfl) rfl ?_
                refine WL.y (Y.add_i rfl rfl) rfl ?_
                refine WL.store (v := .agg [vi t49, vi t54, vu c72, .slice none 0 0].toArray) (cells' := [vi t49, vi t54, vu c72, .slice none 0 0]) ty40 rfl rfl hb71 rfl (Nat.le_of_ble_eq_true rfl) rfl rfl ?_
                intro wd113 hst114 hb115
                obtain ⟨next116, hnext116, h⟩ := lt1 h
                refine WL.yE (Y.assign rfl) (congrArg vi hnext116.symm) rfl ?_
                refine WL.y (Y.assign rfl) rfl ?_
                refine WL.nil ?_
                refine At.then ?_
                refine WC.ret ?_
                refine At.thenR ?_
                obtain ⟨rfl, rfl, rfl⟩ := tup3 h
                have hs117 : Stp [11] (Lg.O0 A) w O73 wd113 := (Stp.trans (Stp.up hst16 rfl) (Stp.trans (Stp.up hst28 rfl) (Stp.trans (Stp.up hst52 rfl) (Stp.trans (Stp.up hst56 rfl) (Stp.trans (Stp.up hst75 rfl) (Stp.up hst114 rfl))))))
                exact At.res (.inl rfl) rfl (.cell rfl (hb115.runAg 0 [vi t49, vi t54, vu c72, .slice none 0 0] ty40 rfl rfl rfl) (.tmp rfl (.tmp rfl .nil))) ⟨.slice none 0 0, rfl, (Stp.ext hs117 rfl rfl), (Or.inl ⟨rfl, rfl⟩)⟩
          · refine WC.condF' rfl hc58 ?_
            refine WC.skip ?_
            refine At.then ?_
            refine WC.seq ?_
            refine WC.region ?_
            refine WL.y (Y.move rfl) rfl ?_
            refine WL.y (Y.move rfl) rfl ?_
            have hf118 := hf17.mono (imm_st hst28 rfl rfl)
            have hf119 := hf118.mono (imm_st hst52 rfl rfl)
            have hf120 := hf119.mono (imm_st hst56 rfl rfl)
            obtain ⟨⟨r121, r122, r123⟩, hp124, h⟩ := bnd h
            refine WL.call (vals := [v0, vi at35]) kok18 rfl rfl (c_wire_GetVar (A := fun _ => True) (Sl.all hf120) hp124) ?_
            rintro vr127 wd126 ⟨rfl, hm125⟩
            obtain ⟨O128, hold129, hnew130, hst131⟩ := adoptE O25 (fun k => 1) hm125
            refine WL.y (Y.move rfl) rfl ?_
            refine WL.y (Y.extract rfl rfl) rfl ?_
            refine WL.y (Y.extract rfl rfl) rfl ?_
            refine WL.y (Y.extract rfl rfl) rfl ?_
            refine WL.y (Y.assign rfl) rfl ?_
            refine WL.y (Y.assign rfl) rfl ?_
            refine WL.y (Y.assign rfl) rfl ?_
            refine WL.nil ?_
            refine At.then ?_
            refine WC.seq ?_
            refine WC.seq ?_
            refine WC.region ?_
            refine WL.y (Y.move rfl) rfl ?_
            refine WL.y (Y.neq_i rfl rfl) rfl ?_
            refine WL.nil ?_
            refine At.then ?_
            rcases cnd h with ⟨hc132, h⟩ | ⟨hc132, h⟩
            · refine WC.condT' rfl hc132 ?_
              refine WC.seq ?_
              refine WC.region ?_
              have hf133 := hb57.st hst131 rfl
              refine WL.y (Y.loadAg ty40 rfl rfl (hf133.cells 0 [vi t49, vi t54, vu 0, .slice none 0 0] rfl) rfl) rfl ?_
              refine WL.y (Y.move rfl) rfl ?_
              refine WL.store (v := .agg [vi t49, vi t54, vu 0, .slice none 0 0].toArray) (cells' := [vi t49, vi t54, vu 0, .slice none 0 0]) ty40 rfl rfl hf133 rfl (Nat.le_of_ble_eq_true rfl) rfl rfl ?_
              intro wd134 hst135 hb136
              refine WL.y (Y.assign rfl) rfl ?_
              refine WL.y (Y.assign rfl) rfl ?_
              refine WL.nil ?_
              refine At.then ?_
              refine WC.ret ?_
              refine At.thenR ?_
              obtain ⟨rfl, rfl, rfl⟩ := tup3 h
              have hs137 : Stp [11] (Lg.O0 A) w O128 wd134 := (Stp.trans (Stp.up hst16 rfl) (Stp.trans (Stp.up hst28 rfl) (Stp.trans (Stp.up hst52 rfl) (Stp.trans (Stp.up hst56 rfl) (Stp.trans (Stp.up hst131 rfl) (Stp.up hst135 rfl))))))
              exact At.res (.inl rfl) rfl (.cell rfl (hb136.runAg 0 [vi t49, vi t54, vu 0, .slice none 0 0] ty40 rfl rfl rfl) (.tmp rfl (.tmp rfl .nil))) ⟨.slice none 0 0, rfl, (Stp.ext hs137 rfl rfl), (Or.inl ⟨rfl, rfl⟩)⟩
            · refine WC.condF' rfl hc132 ?_
              refine WC.skip ?_
              refine At.then ?_
              refine WC.seq ?_
              refine WC.region ?_
              refine WL.y (Y.move rfl) rfl ?_
              refine WL.y (Y.move rfl) rfl ?_
              refine WL.y (Y.add_i rfl rfl) rfl ?_
              obtain ⟨at138, hat138, h⟩ := lt1 h
              refine WL.yE (Y.assign rfl) (congrArg vi hat138.symm) rfl ?_
              refine WL.nil ?_
              refine At.then ?_
              refine WC.seq ?_
              refine WC.seq ?_
              refine WC.region ?_
              refine WL.y (Y.fieldAddr fo40_1 rfl) rfl ?_
              have hf139 := hb57.st hst131 rfl
              refine WL.y (Y.loadSc ty3 rfl rfl (hf139.cell 1 _ rfl)) rfl ?_
              refine WL.y (Y.eql_i rfl rfl) rfl ?_
              refine WL.nil ?_
              refine At.then ?_
              rcases cnd h with ⟨hc140, h⟩ | ⟨hc140, h⟩
              · refine WC.condT' rfl hc140 ?_
                refine WC.seq ?_
                refine WC.region ?_
                refine WL.y (Y.move rfl) rfl ?_
                refine WL.y (Y.fieldAddr fo40_2 rfl) rfl ?_
                refine WL.store (v := vu r121) (cells' := [vi t49, vi t54, vu r121, .slice none 0 0]) ty38 rfl rfl hf139 rfl (Nat.le_of_ble_eq_true rfl) rfl rfl ?_
                intro wd141 hst142 hb143
                refine WL.nil ?_
                refine At.then ?_
                refine WC.seq ?_
                refine WC.region ?_
                refine WL.y (Y.loadAg ty40 rfl rfl (hb143.cells 0 [vi t49, vi t54, vu r121, .slice none 0 0] rfl) rfl) rfl ?_
                refine WL.y (Y.move rfl) rfl ?_
                refine WL.store (v := .agg [vi t49, vi t54, vu r121, .slice none 0 0].toArray) (cells' := [vi t49, vi t54, vu r121, .slice none 0 0]) ty40 rfl rfl hb143 rfl (Nat.le_of_ble_eq_true rfl) rfl rfl ?_
                intro wd144 hst145 hb146
                refine WL.y (Y.assign rfl) rfl ?_
                refine WL.y (Y.assign rfl) rfl ?_
                refine WL.nil ?_
                refine At.then ?_
                refine WC.ret ?_
                refine At.thenR ?_
                obtain ⟨rfl, rfl, rfl⟩ := tup3 h
                have hs147 : Stp [11] (Lg.O0 A) w O128 wd144 := (Stp.trans (Stp.up hst16 rfl) (Stp.trans (Stp.up hst28 rfl) (Stp.trans (Stp.up hst52 rfl) (Stp.trans (Stp.up hst56 rfl) (Stp.trans (Stp.up hst131 rfl) (Stp.trans (Stp.up hst142 rfl) (Stp.up hst145 rfl)))))))
                exact At.res (.inl rfl) rfl (.cell rfl (hb146.runAg 0 [vi t49, vi t54, vu r121, .slice none 0 0] ty40 rfl rfl rfl) (.tmp rfl (.tmp rfl .nil))) ⟨.slice none 0 0, rfl, (Stp.ext hs147 rfl rfl), (Or.inl ⟨rfl, rfl⟩)⟩
              · refine WC.condF' rfl hc140 ?_
                refine WC.skip ?_
                refine At.then ?_
                refine WC.seq ?_
                refine WC.seq ?_
                refine WC.region ?_
                refine WL.y (Y.move rfl) rfl ?_
                refine WL.y (Y.move rfl) rfl ?_
                have hf148 := hf120.mono (imm_st hst131 rfl rfl)
                refine WL.y (Y.len ty25 rfl hf148) rfl ?_
                refine WL.y (Y.move rfl) rfl ?_
                refine WL.y (Y.sub_i rfl rfl) rfl ?_
                refine WL.y (Y.conv_iu ty3.u ty38.u rfl) rfl ?_
                refine WL.y (Y.gtr_u rfl rfl) rfl ?_
                refine WL.nil ?_
                refine At.then ?_
                rcases cnd h with ⟨hc149, h⟩ | ⟨hc149, h⟩
                · refine WC.condT' rfl hc149 ?_
                  refine WC.seq ?_
                  refine WC.region ?_
                  refine WL.y (Y.loadAg ty40 rfl rfl (hf139.cells 0 [vi t49, vi t54, vu 0, .slice none 0 0] rfl) rfl) rfl ?_
                  refine WL.store (v := .agg [vi t49, vi t54, vu 0, .slice none 0 0].toArray) (cells' := [vi t49, vi t54, vu 0, .slice none 0 0]) ty40 rfl rfl hf139 rfl (Nat.le_of_ble_eq_true rfl) rfl rfl ?_
                  intro wd150 hst151 hb152
                  refine WL.y (Y.assign rfl) rfl ?_
                  refine WL.y (Y.assign rfl) rfl ?_
                  refine WL.nil ?_
                  refine At.then ?_
                  refine WC.ret ?_
                  refine At.thenR ?_
                  obtain ⟨rfl, rfl, rfl⟩ := tup3 h
                  have hs153 : Stp [11] (Lg.O0 A) w O128 wd150 := (Stp.trans (Stp.up hst16 rfl) (Stp.trans (Stp.up hst28 rfl) (Stp.trans (Stp.up hst52 rfl) (Stp.trans (Stp.up hst56 rfl) (Stp.trans (Stp.up hst131 rfl) (Stp.up hst151 rfl))))))
                  exact At.res (.inl rfl) rfl (.cell rfl (hb152.runAg 0 [vi t49, vi t54, vu 0, .slice none 0 0] ty40 rfl rfl rfl) (.tmp rfl (.tmp rfl .nil))) ⟨.slice none 0 0, rfl, (Stp.ext hs153 rfl rfl), (Or.inl ⟨rfl, rfl⟩)⟩
                · refine WC.condF' rfl hc149 ?_
                  refine WC.skip ?_
                  refine At.then ?_
                  refine WC.seq ?_
                  refine WC.region ?_
                  refine WL.y (Y.move rfl) rfl ?_
                  refine WL.y (Y.move rfl) rfl ?_
                  refine WL.y (Y.move rfl) rfl ?_
                  refine WL.y (Y.move rfl) rfl ?_
                  refine WL.y (Y.conv_ui ty38.u ty3.u rfl) rfl ?_
                  refine WL.y (Y.add_i rfl rfl) rfl ?_
                  obtain ⟨t154, ht154, h⟩ := bnd h
                  obtain ⟨v155, hY157, hf156⟩ := Sl.slice (ρ := [(110, v0), (111, vi at138), (115, vi (w64 (at138 + (w64 (r121.toNat : Int)))))]) (x := (.tmp 110)) (lo := (some (.tmp 111))) (hi := (some (.tmp 115))) ty25 ty5 rfl rfl rfl hf148 ht154
                  refine WL.y (Y.sub (.cons rfl (.cons rfl (.cons rfl .nil))) (hY157 _ _)) rfl ?_
                  obtain ⟨r158, hp159, h⟩ := bnd h
                  refine WL.call (vals := [v155]) kok26 rfl rfl (c_bytes_Clone (A := fun _ => True) (Sl.all hf156) hp159) ?_
                  rintro vr164 wd163 ⟨_, rfl, hm162, f161⟩
                  obtain ⟨O165, hold166, hnew167, hst168⟩ := adoptE O128 (fun k => if Value.ownBlock vr164 = some k then 12 else 1) hm162
                  have hf169 : OwnSl 12 Rep.b 5 O165 wd163 vr164 r158 := RowF.adopt 12 Flat.b f161 hnew167 (fun k hk => if_pos hk)
                  refine WL.y (Y.fieldAddr fo40_3 rfl) rfl ?_
                  have hh173 := h
                  obtain ⟨p170, m171, c172, rfl⟩ := hf169.shape
                  have h := hh173
                  have hf174 := hf139.st hst168 rfl
                  refine WL.store (v := (.slice p170 m171 c172)) (cells' := [vi t49, vi t54, vu 0, (.slice p170 m171 c172)]) ty25 rfl rfl hf174 rfl (Nat.le_of_ble_eq_true rfl) rfl rfl ?_
                  intro wd175 hst176 hb177
                  refine WL.nil ?_
                  refine At.then ?_
                  refine WC.seq ?_
                  refine WC.region ?_
                  refine WL.y (Y.loadAg ty40 rfl rfl (hb177.cells 0 [vi t49, vi t54, vu 0, (.slice p170 m171 c172)] rfl) rfl) rfl ?_
                  refine WL.y (Y.move rfl) rfl ?_
                  refine WL.y (Y.move rfl) rfl ?_
                  refine WL.y (Y.conv_ui ty38.u ty3.u rfl) rfl ?_
                  refine WL.y (Y.add_i rfl rfl) rfl ?_
                  refine WL.store (v := .agg [vi t49, vi t54, vu 0, (.slice p170 m171 c172)].toArray) (cells' := [vi t49, vi t54, vu 0, (.slice p170 m171 c172)]) ty40 rfl rfl hb177 rfl (Nat.le_of_ble_eq_true rfl) rfl rfl ?_
                  intro wd178 hst179 hb180
                  obtain ⟨next181, hnext181, h⟩ := lt1 h
                  refine WL.yE (Y.assign rfl) (congrArg vi hnext181.symm) rfl ?_
                  refine WL.y (Y.assign rfl) rfl ?_
                  refine WL.nil ?_
                  refine At.then ?_
                  refine WC.ret ?_
                  obtain ⟨rfl, rfl, rfl⟩ := tup3 h
                  have hf182 := hf169.st hst176 rfl rfl rfl
                  have hf183 := hf182.st hst179 rfl rfl rfl
                  obtain ⟨O184, hst185, hf186⟩ := OwnSl.giveF rfl Flat.b hf183
                  have hs187 : Stp [11, 12] (Lg.O0 A) w O184 wd178 := (Stp.trans (Stp.up hst16 rfl) (Stp.trans (Stp.up hst28 rfl) (Stp.trans (Stp.up hst52 rfl) (Stp.trans (Stp.up hst56 rfl) (Stp.trans (Stp.up hst131 rfl) (Stp.trans (Stp.up hst168 rfl) (Stp.trans (Stp.up hst176 rfl) (Stp.trans (Stp.up hst179 rfl) (Stp.up hst185 rfl)))))))))
                  have hf188 := hb180.st hst185 rfl
                  exact At.res (.inl rfl) rfl (.cell rfl (hf188.runAg 0 [vi t49, vi t54, vu 0, (.slice p170 m171 c172)] ty40 rfl rfl rfl) (.tmp rfl (.tmp rfl .nil))) ⟨(.slice p170 m171 c172), rfl, (Stp.ext hs187 rfl rfl), (Sl.outF hf186 hs187 low0)⟩

theorem c_wire_Decode {A : Nat → Prop} {a0 : List UInt8} {v0 : Value} {w : World} (hs0 : Sl Rep.b w A v0 a0) {r0 : List api_Fld} {r1 : Int} {r2 : Int} (h : wire_Decode a0 = some (r0, r1, r2)) : Rets Try.prog 10 [v0] w (fun v w' => ∃ (u0 : Value), v = .tuple (List.toArray [u0, vi r1, vi r2]) ∧ Ext w w' ∧ Sl rep_api_Fld w' (fun k => A k ∨ w.heap.size ≤ k) u0 r0) := by
  unfold wire_Decode at h
  refine Rets.enter Try.func10 rfl rfl ?_
  have hf11 : Sl Rep.b w (imm (Lg.O0 A)) v0 a0 := (Sl.start hs0)
  refine (show WC _ _ _ _ [(0, v0)] _ from ?_)
  refine WC.seq ?_
  refine WC.region ?_
  refine WL.y (Y.assign rfl) rfl ?_
  refine WL.y (Y.assign rfl) rfl ?_
  refine WL.y (Y.assign rfl) rfl ?_
  refine WL.nil ?_
  refine At.then ?_
  refine WC.seq ?_
  refine WC.block ?_
  obtain ⟨p25, h, hk27⟩ := flow1 h
  obtain ⟨k26, h⟩ := loop_some h
  refine WC.joinB 0 (σ := (List api_Fld × Own × Value)) (fun x w' => p25 = .go x.1 ∧ Stp [11, 13, 1001] (Lg.O0 A) w x.2.1 w' ∧ OwnSl 1002 rep_api_Fld 40 x.2.1 w' x.2.2 x.1) (fun x => [(2, x.2.2)]) ?_ ?_
  · refine WC.loop (σ := (List api_Fld × Int × Own × Value)) (fun x k w' => loopN k (wire_Decode_lp1 a0) (x.1, x.2.1) = some p25 ∧ Stp [11, 13, 1001] (Lg.O0 A) w x.2.2.1 w' ∧ OwnSl 1001 rep_api_Fld 40 x.2.2.1 w' x.2.2.2 x.1) (fun x => [(0, v0), (2, x.2.2.2), (3, vi x.2.1)]) ([], 0, (Lg.O0 A), .slice none 0 0) k26 (.cons rfl (.cons rfl (.cons rfl .nil))) ⟨h, (Stp.refl _ _ _), (OwnSl.nil 1001 rep_api_Fld 40)⟩ ?_
    rintro ⟨l12, at15, O16, v13⟩ k26 wd17 ⟨h, hst18, hf14⟩
    obtain ⟨j28, q29, rfl, h, hn30⟩ := rnd1 h
    unfold wire_Decode_lp1 at h
    try dsimp only at h hst18 hf14
    refine (show WC _ _ _ _ [(0, v0), (2, v13), (3, vi at15)] _ from ?_)
    refine WC.seq ?_
    refine WC.seq ?_
    refine WC.region ?_
    refine WL.y (Y.move rfl) rfl ?_
    refine WL.y (Y.move rfl) rfl ?_
    have hf31 := hf11.mono (imm_st hst18 rfl rfl)
    refine WL.y (Y.len ty25 rfl hf31) rfl ?_
    refine WL.y (Y.lss_i rfl rfl) rfl ?_
    refine WL.nil ?_
    refine At.then ?_
    rcases cnd h with ⟨hc32, h⟩ | ⟨hc32, h⟩
    · refine WC.condT' rfl hc32 ?_
      refine WC.skip ?_
      refine At.then ?_
      refine WC.block ?_
      refine WC.seq ?_
      refine WC.region ?_
      refine WL.y (Y.move rfl) rfl ?_
      refine WL.y (Y.move rfl) rfl ?_
      obtain ⟨⟨r33, r34, r35⟩, hp36, h⟩ := bnd h
      refine WL.call (vals := [v0, vi at15]) kok24 rfl rfl (c_wire_field (A := fun _ => True) (Sl.all hf31) hp36) ?_
      rintro vr41 wd40 ⟨u37, rfl, hm39, f38⟩
      obtain ⟨O42, hold43, hnew44, hst45⟩ := adoptE O16 (fun k => 1) hm39
      have hf46 : Sl Rep.b wd40 (frs O42) u37 r33.B := Sl.adoptF f38 (fun k hk => ⟨hk, rfl⟩) hnew44
      refine WL.y (Y.move rfl) rfl ?_
      refine WL.y (Y.extract rfl rfl) rfl ?_
      refine WL.y (Y.extract rfl rfl) rfl ?_
      refine WL.y (Y.extract rfl rfl) rfl ?_
      refine WL.alloc (O := O42) 11 [vi 0, vi 0, vu 0, .slice none 0 0] ty40 rfl rfl ?_
      intro p48 O49 wd50 hst51 hb47
      have hf52 := hf46.mono (frs_st hst51 rfl)
      have hh56 := h
      obtain ⟨p53, m54, c55, rfl⟩ := hf52.shape
      have h := hh56
      refine WL.store (v := .agg [vi r33.Num, vi r33.Type_, vu r33.V, (.slice p53 m54 c55)].toArray) (cells' := [vi r33.Num, vi r33.Type_, vu r33.V, (.slice p53 m54 c55)]) ty40 rfl rfl hb47 rfl (Nat.le_of_ble_eq_true rfl) rfl rfl ?_
      intro wd57 hst58 hb59
      refine WL.y (Y.assign rfl) rfl ?_
      refine WL.y (Y.assign rfl) rfl ?_
      refine WL.nil ?_
      refine At.then ?_
      refine WC.seq ?_
      refine WC.seq ?_
      refine WC.region ?_
      refine WL.y (Y.move rfl) rfl ?_
      refine WL.y (Y.neq_i rfl rfl) rfl ?_
      refine WL.nil ?_
      refine At.then ?_
      rcases cnd h with ⟨hc60, h⟩ | ⟨hc60, h⟩
      · refine WC.condT' rfl hc60 ?_
        refine WC.seq ?_
        refine WC.region ?_
        refine WL.y (Y.move rfl) rfl ?_
        refine WL.y (Y.move rfl) rfl ?_
        refine WL.y (Y.assign rfl) rfl ?_
        refine WL.y (Y.assign rfl) rfl ?_
        refine WL.y (Y.assign rfl) rfl ?_
        refine WL.nil ?_
        refine At.then ?_
        refine WC.ret ?_
        refine At.thenR ?_
        refine At.inBlockR ?_
        refine At.loopR ?_
        have h := outr1 h hn30 hk27
        refine At.joinBR ?_
        refine At.inBlockR ?_
        refine At.thenR ?_
        obtain ⟨rfl, rfl, rfl⟩ := tup3 h
        have hs61 : Stp [11, 13, 1001] (Lg.O0 A) w O49 wd57 := (Stp.trans (Stp.up hst18 rfl) (Stp.trans (Stp.up hst45 rfl) (Stp.trans (Stp.up hst51 rfl) (Stp.up hst58 rfl))))
        exact At.res (.inl rfl) rfl (.tmp rfl (.tmp rfl (.tmp rfl .nil))) ⟨.slice none 0 0, rfl, (Stp.ext hs61 rfl rfl), (Or.inl ⟨rfl, rfl⟩)⟩
      · refine WC.condF' rfl hc60 ?_
        refine WC.skip ?_
        refine At.then ?_
        refine WC.seq ?_
        refine WC.region ?_
        refine WL.y (Y.move rfl) rfl ?_
        refine WL.y (Y.loadAg ty40 rfl rfl (hb59.cells 0 [vi r33.Num, vi r33.Type_, vu r33.V, (.slice p53 m54 c55)] rfl) rfl) rfl ?_
        have hf64 := hf52.mono (frs_st hst58 rfl)
        refine WL.buildSlice (O := O49) (R := rep_api_Fld) (vals := [(0, .agg [vi r33.Num, vi r33.Type_, vu r33.V, (.slice p53 m54 c55)].toArray)]) 12 [vi r33.Num, vi r33.Type_, vu r33.V, (.slice p53 m54 c55)] (xs := [r33]) (by decide) ty22 ty40 (by decide) (by decide) (Fits.evalp rfl) (by kernel_rfl) rfl ⟨[vi r33.Num, vi r33.Type_, vu r33.V, (.slice p53 m54 c55)], [], rfl, ⟨[vi r33.Num], [vi r33.Type_, vu r33.V, (.slice p53 m54 c55)], rfl, rfl, ⟨[vi r33.Type_], [vu r33.V, (.slice p53 m54 c55)], rfl, rfl, ⟨[vu r33.V], [(.slice p53 m54 c55)], rfl, rfl, ⟨_, rfl, (Sl.mono hf64 frs_imm)⟩⟩⟩⟩, rfl⟩ rfl ?_
        intro v62 O65 wd66 hst67 ho63
        obtain ⟨xs68, hxs68, h⟩ := bnd h
        have hf69 := hf14.st hst45 rfl rfl rfl
        have hf70 := hf69.st hst51 rfl rfl rfl
        have hf71 := hf70.st hst58 rfl rfl rfl
        have hf72 := hf71.st hst67 rfl rfl rfl
        refine WL.append (by decide) ty22 ty40 rfl (by decide) rfl rfl hf72 ho63.src hxs68 rfl ?_
        intro v76 O73 wd74 hst75 ho77
        refine WL.y (Y.assign rfl) rfl ?_
        refine WL.nil ?_
        refine At.then ?_
        refine WC.region ?_
        refine WL.y (Y.move rfl) rfl ?_
        refine WL.y (Y.assign rfl) rfl ?_
        refine WL.nil ?_
        refine At.inBlock ?_
        exact At.round (xs68, r34, O73, v76) j28 (Nat.lt_succ_self _) ⟨next1 h hn30, (Stp.trans (Stp.up hst18 rfl) (Stp.trans (Stp.up hst45 rfl) (Stp.trans (Stp.up hst51 rfl) (Stp.trans (Stp.up hst58 rfl) (Stp.trans (Stp.up hst67 rfl) (Stp.up hst75 rfl)))))), ho77⟩ (.cons rfl (.cons rfl (.cons rfl .nil)))
    · refine WC.condF' rfl hc32 ?_
      refine WC.exit ?_
      refine At.thenX ?_
      refine At.loopX ?_
      obtain ⟨O78, hst79, ho80⟩ := OwnSl.rlb 1002 rfl hf14
      exact At.hitB (σ := (List api_Fld × Own × Value)) (l12, O78, v13) ⟨brk1 h hn30, (Stp.trans (Stp.up hst18 rfl) (Stp.up hst79 rfl)), ho80⟩ (.cons rfl .nil)
  · rintro ⟨l19, O22, v20⟩ wd23 ⟨rfl, hst24, hf21⟩
    replace h := flowK_go hk27
    try dsimp only at h hst24 hf21
    refine (show At _ _ _ [(2, v20)] _ from ?_)
    refine At.inBlockHit ?_
    refine At.then ?_
    refine WC.seq ?_
    refine WC.region ?_
    refine WL.y (Y.move rfl) rfl ?_
    refine WL.y (Y.assign rfl) rfl ?_
    refine WL.y (Y.assign rfl) rfl ?_
    refine WL.y (Y.assign rfl) rfl ?_
    refine WL.nil ?_
    refine At.then ?_
    refine WC.ret ?_
    obtain ⟨rfl, rfl, rfl⟩ := tup3 h
    obtain ⟨O81, hst82, hf83⟩ := OwnSl.give rfl hf21
    have hs84 : Stp [11, 13, 1001, 1002] (Lg.O0 A) w O81 wd23 := (Stp.trans (Stp.up hst24 rfl) (Stp.up hst82 rfl))
    exact At.res (.inl rfl) rfl (.tmp rfl (.tmp rfl (.tmp rfl .nil))) ⟨v20, rfl, (Stp.ext hs84 rfl rfl), (Sl.outI hf83 hs84 low0 O0_A)⟩

theorem c_law30_awake {w : World} {r0 : Bool} (h : law30_awake = some r0) : Rets Try.prog 6 [] w (fun v w' => v = .bool r0 ∧ Ext w w') := by
  unfold law30_awake at h
  refine Rets.enter Try.func6 rfl rfl ?_
  refine (show WC _ _ _ _ [] _ from ?_)
  refine WC.seq ?_
  refine WC.region ?_
  refine WL.y (Y.assign rfl) rfl ?_
  refine WL.nil ?_
  refine At.then ?_
  refine WC.seq ?_
  refine WC.region ?_
  refine WL.y (Y.build (vals := [(0, vi 1), (2, vu 150)]) (cells := [vi 1, vi 0, vu 150, .slice none 0 0]) (Fits.evalp rfl) (by kernel_rfl)) rfl ?_
  refine WL.buildSlice (O := (Lg.O0 (fun _ => False))) (R := rep_api_Fld) (vals := [(0, .agg [vi 1, vi 0, vu 150, .slice none 0 0].toArray)]) 11 [vi 1, vi 0, vu 150, .slice none 0 0] (xs := [(api_Fld.mk 1 0 150 [])]) (by decide) ty22 ty40 (by decide) (by decide) (Fits.evalp rfl) (by kernel_rfl) rfl ⟨[vi 1, vi 0, vu 150, .slice none 0 0], [], rfl, ⟨[vi 1], [vi 0, vu 150, .slice none 0 0], rfl, rfl, ⟨[vi 0], [vu 150, .slice none 0 0], rfl, rfl, ⟨[vu 150], [.slice none 0 0], rfl, rfl, ⟨_, rfl, (Or.inl ⟨rfl, rfl⟩)⟩⟩⟩⟩, rfl⟩ rfl ?_
  intro v11 O13 wd14 hst15 ho12
  obtain ⟨⟨r16, r17⟩, hp18, h⟩ := bnd h
  refine WL.call (vals := [v11]) kok8 rfl rfl (c_wire_Encode (A := fun _ => True) (ho12.src.sl) hp18) ?_
  rintro vr23 wd22 ⟨u19, rfl, hm21, f20⟩
  obtain ⟨O24, hold25, hnew26, hst27⟩ := adoptE O13 (fun k => if Value.ownBlock u19 = some k then 12 else 1) hm21
  have hf28 : OwnSl 12 Rep.b 5 O24 wd22 u19 r16 := RowF.adopt 12 Flat.b f20 hnew26 (fun k hk => if_pos hk)
  refine WL.y (Y.move rfl) rfl ?_
  refine WL.y (Y.extract rfl rfl) rfl ?_
  refine WL.y (Y.extract rfl rfl) rfl ?_
  refine WL.y (Y.assign rfl) rfl ?_
  refine WL.y (Y.assign rfl) rfl ?_
  refine WL.nil ?_
  refine At.then ?_
  refine WC.seq ?_
  refine WC.region ?_
  refine WL.buildSlice (O := O24) (R := Rep.b) (vals := [(0, vb 128), (1, vb 0)]) 13 [vb 128, vb 0] (xs := [128, 0]) (by decide) ty25 ty5 (by decide) (by decide) (Fits.evalp rfl) (by kernel_rfl) rfl ⟨[vb 128], [vb 0], rfl, rfl, ⟨[vb 0], [], rfl, rfl, rfl⟩⟩ rfl ?_
  intro v29 O31 wd32 hst33 ho30
  obtain ⟨⟨r34, r35, r36⟩, hp37, h⟩ := bnd h
  refine WL.call (vals := [v29, vi 0]) kok18 rfl rfl (c_wire_GetVar (A := fun _ => True) (ho30.src.sl) hp37) ?_
  rintro vr40 wd39 ⟨rfl, hm38⟩
  obtain ⟨O41, hold42, hnew43, hst44⟩ := adoptE O31 (fun k => 1) hm38
  refine WL.y (Y.move rfl) rfl ?_
  refine WL.y (Y.extract rfl rfl) rfl ?_
  refine WL.y (Y.extract rfl rfl) rfl ?_
  refine WL.y (Y.extract rfl rfl) rfl ?_
  refine WL.y (Y.assign rfl) rfl ?_
  refine WL.y (Y.assign rfl) rfl ?_
  refine WL.y (Y.assign rfl) rfl ?_
  refine WL.nil ?_
  refine At.then ?_
  refine WC.seq ?_
  refine WC.region ?_
  refine WL.buildSlice (O := O41) (R := Rep.b) (vals := [(0, vb 8), (1, vb 1), (2, vb 13)]) 14 [vb 8, vb 1, vb 13] (xs := [8, 1, 13]) (by decide) ty25 ty5 (by decide) (by decide) (Fits.evalp rfl) (by kernel_rfl) rfl ⟨[vb 8], [vb 1, vb 13], rfl, rfl, ⟨[vb 1], [vb 13], rfl, rfl, ⟨[vb 13], [], rfl, rfl, rfl⟩⟩⟩ rfl ?_
  intro v45 O47 wd48 hst49 ho46
  obtain ⟨O50, hst51, hf52⟩ := OwnSl.giveF rfl Flat.b ho46
  obtain ⟨⟨r53, r54, r55⟩, hp56, h⟩ := bnd h
  refine WL.call (vals := [v45]) kok10 rfl rfl (c_wire_Decode (A := imm O50) (Sl.mono hf52 frs_imm) hp56) ?_
  rintro vr61 wd60 ⟨u57, rfl, hm59, f58⟩
  obtain ⟨O62, hold63, hnew64, hst65⟩ := adoptE O50 (fun k => 1) hm59
  have hf66 : Sl rep_api_Fld wd60 (imm O62) u57 r53 := Sl.adoptI (O := O50) f58 (fun _ hk => hk) (fun _ _ => Nat.le_refl _) hold63 hnew64
  refine WL.y (Y.move rfl) rfl ?_
  refine WL.y (Y.extract rfl rfl) rfl ?_
  refine WL.y (Y.extract rfl rfl) rfl ?_
  refine WL.y (Y.extract rfl rfl) rfl ?_
  refine WL.y (Y.assign rfl) rfl ?_
  refine WL.y (Y.assign rfl) rfl ?_
  refine WL.y (Y.assign rfl) rfl ?_
  refine WL.nil ?_
  refine At.then ?_
  refine WC.seq ?_
  refine WC.region ?_
  obtain ⟨r67, hp68, h⟩ := bnd h
  refine WL.call (vals := [vu 300]) kok19 rfl rfl (c_wire_Var hp68) ?_
  rintro vr73 wd72 ⟨_, rfl, hm71, f70⟩
  obtain ⟨O74, hold75, hnew76, hst77⟩ := adoptE O62 (fun k => if Value.ownBlock vr73 = some k then 15 else 1) hm71
  have hf78 : OwnSl 15 Rep.b 5 O74 wd72 vr73 r67 := RowF.adopt 15 Flat.b f70 hnew76 (fun k hk => if_pos hk)
  refine WL.y (Y.b2s ty25 ty5 ty9 rfl hf78.src.sl) rfl ?_
  refine WL.y (Y.eql_s (b := [172, 2]) rfl rfl) rfl ?_
  refine WL.y (Y.move rfl) rfl ?_
  refine WL.cut 4 (σ := Unit) (fun _ w' => wd72 = w') (fun _ => [(2, vi r17), (5, vi r36), (7, vi r54), (8, vi r55), (34, .bool ((decide (r67 = [172, 2])) && (decide (r16 = [8, 150, 1]))))]) ?_ ?_
  · refine WL.part 30 rfl (fun hE79 => ?_) (fun hE79 => ?_)
    · refine WL.ung rfl rfl ?_
      refine WL.y (Y.move rfl) rfl ?_
      refine WL.ung rfl rfl ?_
      have hf80 := hf28.st hst33 rfl rfl rfl
      have hf81 := hf80.st hst44 rfl rfl rfl
      have hf82 := hf81.st hst49 rfl rfl rfl
      have hf83 := hf82.st hst51 rfl rfl rfl
      have hf84 := hf83.st hst65 rfl rfl rfl
      have hf85 := hf84.st hst77 rfl rfl rfl
      refine WL.y (Y.b2s ty25 ty5 ty9 rfl hf85.src.sl) rfl ?_
      refine WL.ung rfl rfl ?_
      refine WL.y (Y.eql_s (b := [8, 150, 1]) rfl rfl) rfl ?_
      refine WL.y (Y.pick (b := true) rfl rfl) rfl ?_
      refine WL.ren (v' := .bool ((decide (r67 = [172, 2])) && (decide (r16 = [8, 150, 1])))) 34 rfl (congrArg Value.bool (andT hE79)) ?_
      exact WL.nil (At.join () rfl (.cons rfl (.cons rfl (.cons rfl (.cons rfl (.cons rfl .nil))))))
    · refine WL.gS rfl rfl rfl rfl ?_
      refine WL.gS rfl rfl rfl rfl ?_
      refine WL.gS rfl rfl rfl rfl ?_
      refine WL.y (Y.pick (b := false) rfl rfl) rfl ?_
      refine WL.ren (v' := .bool ((decide (r67 = [172, 2])) && (decide (r16 = [8, 150, 1])))) 34 rfl (congrArg Value.bool (andF hE79)) ?_
      exact WL.nil (At.join () rfl (.cons rfl (.cons rfl (.cons rfl (.cons rfl (.cons rfl .nil))))))
  · rintro _ _ rfl
    refine (show WL _ _ _ _ _ [(2, vi r17), (5, vi r36), (7, vi r54), (8, vi r55), (34, .bool ((decide (r67 = [172, 2])) && (decide (r16 = [8, 150, 1]))))] _ from ?_)
    refine WL.y (Y.move rfl) rfl ?_
    refine WL.cut 3 (σ := Unit) (fun _ w' => wd72 = w') (fun _ => [(5, vi r36), (7, vi r54), (8, vi r55), (38, .bool (((decide (r67 = [172, 2])) && (decide (r16 = [8, 150, 1]))) && (decide (r17 = 0))))]) ?_ ?_
    · refine WL.part 35 rfl (fun hE86 => ?_) (fun hE86 => ?_)
      · refine WL.ung rfl rfl ?_
        refine WL.y (Y.move rfl) rfl ?_
        refine WL.ung rfl rfl ?_
        refine WL.y (Y.eql_i rfl rfl) rfl ?_
        refine WL.y (Y.pick (b := true) rfl rfl) rfl ?_
        refine WL.ren (v' := .bool (((decide (r67 = [172, 2])) && (decide (r16 = [8, 150, 1]))) && (decide (r17 = 0)))) 38 rfl (congrArg Value.bool (andT hE86)) ?_
        exact WL.nil (At.join () rfl (.cons rfl (.cons rfl (.cons rfl (.cons rfl .nil)))))
      · refine WL.gS rfl rfl rfl rfl ?_
        refine WL.gS rfl rfl rfl rfl ?_
        refine WL.y (Y.pick (b := false) rfl rfl) rfl ?_
        refine WL.ren (v' := .bool (((decide (r67 = [172, 2])) && (decide (r16 = [8, 150, 1]))) && (decide (r17 = 0)))) 38 rfl (congrArg Value.bool (andF hE86)) ?_
        exact WL.nil (At.join () rfl (.cons rfl (.cons rfl (.cons rfl (.cons rfl .nil)))))
    · rintro _ _ rfl
      refine (show WL _ _ _ _ _ [(5, vi r36), (7, vi r54), (8, vi r55), (38, .bool (((decide (r67 = [172, 2])) && (decide (r16 = [8, 150, 1]))) && (decide (r17 = 0))))] _ from ?_)
      refine WL.y (Y.move rfl) rfl ?_
      refine WL.cut 3 (σ := Unit) (fun _ w' => wd72 = w') (fun _ => [(7, vi r54), (8, vi r55), (42, .bool ((((decide (r67 = [172, 2])) && (decide (r16 = [8, 150, 1]))) && (decide (r17 = 0))) && (decide (r36 = 3))))]) ?_ ?_
      · refine WL.part 39 rfl (fun hE87 => ?_) (fun hE87 => ?_)
        · refine WL.ung rfl rfl ?_
          refine WL.y (Y.move rfl) rfl ?_
          refine WL.ung rfl rfl ?_
          refine WL.y (Y.eql_i rfl rfl) rfl ?_
          refine WL.y (Y.pick (b := true) rfl rfl) rfl ?_
          refine WL.ren (v' := .bool ((((decide (r67 = [172, 2])) && (decide (r16 = [8, 150, 1]))) && (decide (r17 = 0))) && (decide (r36 = 3)))) 42 rfl (congrArg Value.bool (andT hE87)) ?_
          exact WL.nil (At.join () rfl (.cons rfl (.cons rfl (.cons rfl .nil))))
        · refine WL.gS rfl rfl rfl rfl ?_
          refine WL.gS rfl rfl rfl rfl ?_
          refine WL.y (Y.pick (b := false) rfl rfl) rfl ?_
          refine WL.ren (v' := .bool ((((decide (r67 = [172, 2])) && (decide (r16 = [8, 150, 1]))) && (decide (r17 = 0))) && (decide (r36 = 3)))) 42 rfl (congrArg Value.bool (andF hE87)) ?_
          exact WL.nil (At.join () rfl (.cons rfl (.cons rfl (.cons rfl .nil))))
      · rintro _ _ rfl
        refine (show WL _ _ _ _ _ [(7, vi r54), (8, vi r55), (42, .bool ((((decide (r67 = [172, 2])) && (decide (r16 = [8, 150, 1]))) && (decide (r17 = 0))) && (decide (r36 = 3))))] _ from ?_)
        refine WL.y (Y.move rfl) rfl ?_
        refine WL.cut 3 (σ := Unit) (fun _ w' => wd72 = w') (fun _ => [(8, vi r55), (46, .bool (((((decide (r67 = [172, 2])) && (decide (r16 = [8, 150, 1]))) && (decide (r17 = 0))) && (decide (r36 = 3))) && (decide (r54 = 2))))]) ?_ ?_
        · refine WL.part 43 rfl (fun hE88 => ?_) (fun hE88 => ?_)
          · refine WL.ung rfl rfl ?_
            refine WL.y (Y.move rfl) rfl ?_
            refine WL.ung rfl rfl ?_
            refine WL.y (Y.eql_i rfl rfl) rfl ?_
            refine WL.y (Y.pick (b := true) rfl rfl) rfl ?_
            refine WL.ren (v' := .bool (((((decide (r67 = [172, 2])) && (decide (r16 = [8, 150, 1]))) && (decide (r17 = 0))) && (decide (r36 = 3))) && (decide (r54 = 2)))) 46 rfl (congrArg Value.bool (andT hE88)) ?_
            exact WL.nil (At.join () rfl (.cons rfl (.cons rfl .nil)))
          · refine WL.gS rfl rfl rfl rfl ?_
            refine WL.gS rfl rfl rfl rfl ?_
            refine WL.y (Y.pick (b := false) rfl rfl) rfl ?_
            refine WL.ren (v' := .bool (((((decide (r67 = [172, 2])) && (decide (r16 = [8, 150, 1]))) && (decide (r17 = 0))) && (decide (r36 = 3))) && (decide (r54 = 2)))) 46 rfl (congrArg Value.bool (andF hE88)) ?_
            exact WL.nil (At.join () rfl (.cons rfl (.cons rfl .nil)))
        · rintro _ _ rfl
          refine (show WL _ _ _ _ _ [(8, vi r55), (46, .bool (((((decide (r67 = [172, 2])) && (decide (r16 = [8, 150, 1]))) && (decide (r17 = 0))) && (decide (r36 = 3))) && (decide (r54 = 2))))] _ from ?_)
          refine WL.y (Y.move rfl) rfl ?_
          refine WL.cut 3 (σ := Unit) (fun _ w' => wd72 = w') (fun _ => [(50, .bool ((((((decide (r67 = [172, 2])) && (decide (r16 = [8, 150, 1]))) && (decide (r17 = 0))) && (decide (r36 = 3))) && (decide (r54 = 2))) && (decide (r55 = 14))))]) ?_ ?_
          · refine WL.part 47 rfl (fun hE89 => ?_) (fun hE89 => ?_)
            · refine WL.ung rfl rfl ?_
              refine WL.y (Y.move rfl) rfl ?_
              refine WL.ung rfl rfl ?_
              refine WL.y (Y.eql_i rfl rfl) rfl ?_
              refine WL.y (Y.pick (b := true) rfl rfl) rfl ?_
              refine WL.ren (v' := .bool ((((((decide (r67 = [172, 2])) && (decide (r16 = [8, 150, 1]))) && (decide (r17 = 0))) && (decide (r36 = 3))) && (decide (r54 = 2))) && (decide (r55 = 14)))) 50 rfl (congrArg Value.bool (andT hE89)) ?_
              exact WL.nil (At.join () rfl (.cons rfl .nil))
            · refine WL.gS rfl rfl rfl rfl ?_
              refine WL.gS rfl rfl rfl rfl ?_
              refine WL.y (Y.pick (b := false) rfl rfl) rfl ?_
              refine WL.ren (v' := .bool ((((((decide (r67 = [172, 2])) && (decide (r16 = [8, 150, 1]))) && (decide (r17 = 0))) && (decide (r36 = 3))) && (decide (r54 = 2))) && (decide (r55 = 14)))) 50 rfl (congrArg Value.bool (andF hE89)) ?_
              exact WL.nil (At.join () rfl (.cons rfl .nil))
          · rintro _ _ rfl
            refine (show WL _ _ _ _ _ [(50, .bool ((((((decide (r67 = [172, 2])) && (decide (r16 = [8, 150, 1]))) && (decide (r17 = 0))) && (decide (r36 = 3))) && (decide (r54 = 2))) && (decide (r55 = 14))))] _ from ?_)
            obtain ⟨t90, ht90, h⟩ := lt1 h
            refine WL.yE (Y.assign rfl) (congrArg Value.bool ht90.symm) rfl ?_
            refine WL.nil ?_
            refine At.then ?_
            refine WC.ret ?_
            obtain rfl := some1 h
            have hs91 : Stp [14] (Lg.O0 (fun _ => False)) w O74 wd72 := (Stp.trans (Stp.up hst15 rfl) (Stp.trans (Stp.up hst27 rfl) (Stp.trans (Stp.up hst33 rfl) (Stp.trans (Stp.up hst44 rfl) (Stp.trans (Stp.up hst49 rfl) (Stp.trans (Stp.up hst51 rfl) (Stp.trans (Stp.up hst65 rfl) (Stp.up hst77 rfl))))))))
            exact At.res (.inl rfl) rfl (.tmp rfl .nil) ⟨rfl, (Stp.ext hs91 rfl rfl)⟩

theorem c_ref30_Same {A : Nat → Prop} {a0 : List api_Fld} {v0 : Value} {a1 : List api_Fld} {v1 : Value} {w : World} (hs0 : Sl rep_api_Fld w A v0 a0) (hs1 : Sl rep_api_Fld w A v1 a1) {r0 : Bool} (h : ref30_Same a0 a1 = some r0) : Rets Try.prog 11 [v0, v1] w (fun v w' => v = .bool r0 ∧ Ext w w') := by
  unfold ref30_Same at h
  refine Rets.enter Try.func11 rfl rfl ?_
  have hf11 : Sl rep_api_Fld w (imm (Lg.O0 A)) v0 a0 := (Sl.start hs0)
  have hf12 : Sl rep_api_Fld w (imm (Lg.O0 A)) v1 a1 := (Sl.start hs1)
  refine (show WC _ _ _ _ [(0, v0), (1, v1)] _ from ?_)
  refine WC.seq ?_
  refine WC.region ?_
  refine WL.y (Y.assign rfl) rfl ?_
  refine WL.nil ?_
  refine At.then ?_
  refine WC.seq ?_
  refine WC.seq ?_
  refine WC.region ?_
  refine WL.y (Y.move rfl) rfl ?_
  refine WL.y (Y.len ty22 rfl hf11) rfl ?_
  refine WL.y (Y.move rfl) rfl ?_
  refine WL.y (Y.len ty22 rfl hf12) rfl ?_
  refine WL.y (Y.neq_i rfl rfl) rfl ?_
  refine WL.nil ?_
  refine At.then ?_
  rcases cnd h with ⟨hc13, h⟩ | ⟨hc13, h⟩
  · refine WC.condT' rfl hc13 ?_
    refine WC.seq ?_
    refine WC.region ?_
    refine WL.y (Y.assign rfl) rfl ?_
    refine WL.nil ?_
    refine At.then ?_
    refine WC.ret ?_
    refine At.thenR ?_
    obtain rfl := some1 h
    have hs14 : Stp [] (Lg.O0 A) w (Lg.O0 A) w := (Stp.refl _ _ _)
    exact At.res (.inl rfl) rfl (.tmp rfl .nil) ⟨rfl, (Stp.ext hs14 rfl rfl)⟩
  · refine WC.condF' rfl hc13 ?_
    refine WC.skip ?_
    refine At.then ?_
    refine WC.seq ?_
    refine WC.seq ?_
    refine WC.region ?_
    refine WL.y (Y.assign rfl) rfl ?_
    refine WL.nil ?_
    refine At.then ?_
    refine WC.block ?_
    obtain ⟨p22, h, hk24⟩ := flow1 h
    obtain ⟨k23, h⟩ := loop_some h
    refine WC.joinB 0 (σ := Own) (fun x w' => p22 = .go () ∧ Stp [] (Lg.O0 A) w x w') (fun x => []) ?_ ?_
    · refine WC.loop (σ := (Int × Own)) (fun x k w' => loopN k (ref30_Same_lp1 a0 a1) x.1 = some p22 ∧ Stp [] (Lg.O0 A) w x.2 w') (fun x => [(0, v0), (1, v1), (5, vi x.1)]) (0, (Lg.O0 A)) k23 (.cons rfl (.cons rfl (.cons rfl .nil))) ⟨h, (Stp.refl _ _ _)⟩ ?_
      rintro ⟨i15, O16⟩ k23 wd17 ⟨h, hst18⟩
      obtain ⟨j25, q26, rfl, h, hn27⟩ := rnd1 h
      unfold ref30_Same_lp1 at h
      try dsimp only at h hst18
      refine (show WC _ _ _ _ [(0, v0), (1, v1), (5, vi i15)] _ from ?_)
      refine WC.seq ?_
      refine WC.seq ?_
      refine WC.region ?_
      refine WL.y (Y.move rfl) rfl ?_
      refine WL.y (Y.move rfl) rfl ?_
      have hf28 := hf11.mono (imm_st hst18 rfl rfl)
      refine WL.y (Y.len ty22 rfl hf28) rfl ?_
      refine WL.y (Y.lss_i rfl rfl) rfl ?_
      refine WL.nil ?_
      refine At.then ?_
      rcases cnd h with ⟨hc29, h⟩ | ⟨hc29, h⟩
      · refine WC.condT' rfl hc29 ?_
        refine WC.skip ?_
        refine At.then ?_
        refine WC.seq ?_
        refine WC.block ?_
        refine WC.seq ?_
        refine WC.drawH [] [0, 1, 2, 3, 4, 5, 6, 7, 8, 9, 10, 11, 12, 13, 14, 15, 16, 17, 18, 19, 20, 21, 22, 23, 24, 25, 26, 27, 28, 29, 30, 31, 32, 33, 34, 35, 36, 37, 38, 39, 40, 41, 42, 43, 44, 45, 46, 47, 48, 49, 50, 51] O16 52 fmix rfl (by kernel_rfl) ?_
        intro wd30 hst31
        refine WD.y 0 rfl (by kernel_rfl) (fun _ _ _ => Y.move rfl) rfl ?_
        refine WD.y 1 rfl (by kernel_rfl) (fun _ _ _ => Y.move rfl) rfl ?_
        obtain ⟨e38, he38, h⟩ := bnd h
        have hf47 := hf28.mono (imm_st hst31 rfl rfl)
        obtain ⟨b39, off50, cap46, cs45, hv40, hi41, hl42, hc43, hok44, hA51⟩ := Sl.at2 hf47 he38
        obtain ⟨_, _, rfl, rfl, ⟨_, _, rfl, rfl, ⟨_, _, rfl, rfl, ⟨v48, rfl, hf49⟩⟩⟩⟩ := hok44
        replace hc43 : CellsAt _ _ _ [vi e38.Num, vi e38.Type_, vu e38.V, v48] := hc43
        have hca52 := CAt.imm hc43 hA51
        refine WD.y 2 rfl (by kernel_rfl) (fun _ _ _ => Y.indexAddr ty22 ty40 rfl hv40 rfl hi41 hl42) rfl ?_
        refine WD.y 3 rfl (by kernel_rfl) (fun _ _ _ => Y.fieldAddr fo40_0 rfl) rfl ?_
        refine WD.y 4 rfl (by kernel_rfl) (fun wd60 O59 hst61 => have hf62 := hca52.st hst61 rfl; Y.loadSc ty3 rfl rfl (hf62.at_.sub 0 [vi e38.Num] rfl)) rfl ?_
        refine WD.y 5 rfl (by kernel_rfl) (fun _ _ _ => Y.move rfl) rfl ?_
        refine WD.y 6 rfl (by kernel_rfl) (fun _ _ _ => Y.move rfl) rfl ?_
        obtain ⟨e69, he69, h⟩ := bnd h
        have hf78 := hf12.mono (imm_st hst18 rfl rfl)
        have hf79 := hf78.mono (imm_st hst31 rfl rfl)
        obtain ⟨b70, off82, cap77, cs76, hv71, hi72, hl73, hc74, hok75, hA83⟩ := Sl.at2 hf79 he69
        obtain ⟨_, _, rfl, rfl, ⟨_, _, rfl, rfl, ⟨_, _, rfl, rfl, ⟨v80, rfl, hf81⟩⟩⟩⟩ := hok75
        replace hc74 : CellsAt _ _ _ [vi e69.Num, vi e69.Type_, vu e69.V, v80] := hc74
        have hca84 := CAt.imm hc74 hA83
        refine WD.y 7 rfl (by kernel_rfl) (fun _ _ _ => Y.indexAddr ty22 ty40 rfl hv71 rfl hi72 hl73) rfl ?_
        refine WD.y 8 rfl (by kernel_rfl) (fun _ _ _ => Y.fieldAddr fo40_0 rfl) rfl ?_
        refine WD.y 9 rfl (by kernel_rfl) (fun wd92 O91 hst93 => have hf94 := hca84.st hst93 rfl; Y.loadSc ty3 rfl rfl (hf94.at_.sub 0 [vi e69.Num] rfl)) rfl ?_
        refine WD.y 10 rfl (by kernel_rfl) (fun _ _ _ => Y.neq_i rfl rfl) rfl ?_
        refine WD.y 11 rfl (by kernel_rfl) (fun _ _ _ => Y.move rfl) rfl ?_
        obtain ⟨p102, h, hk103⟩ := bnd h
        refine WD.join (σ := Bool) (f' := 28) [23, 22, 21, 20, 19, 18, 17, 16, 15, 14, 13, 12, 11, 10, 9, 8, 7, 6, 5, 4, 3, 2, 1, 0] (fun x O' w' => x = p102 ∧ wd30 = w' ∧ O16 = O') (fun x => [(0, v0), (1, v1), (5, vi i15), (40, .bool x)]) (fun hJ104 => ?_) ?_
        · rcases cnd h with ⟨hE105, h⟩ | ⟨hE105, h⟩
          · refine WD.ren 28 rfl (congrArg Value.bool hE105) ?_
            refine WD.gS 12 rfl (by kernel_rfl) rfl rfl rfl rfl ?_
            refine WD.gS 13 rfl (by kernel_rfl) rfl rfl rfl rfl ?_
            refine WD.gS 14 rfl (by kernel_rfl) rfl rfl rfl rfl ?_
            refine WD.gS 15 rfl (by kernel_rfl) rfl rfl rfl rfl ?_
            refine WD.gS 16 rfl (by kernel_rfl) rfl rfl rfl rfl ?_
            refine WD.gS 17 rfl (by kernel_rfl) rfl rfl rfl rfl ?_
            refine WD.gS 18 rfl (by kernel_rfl) rfl rfl rfl rfl ?_
            refine WD.gS 19 rfl (by kernel_rfl) rfl rfl rfl rfl ?_
            refine WD.gS 20 rfl (by kernel_rfl) rfl rfl rfl rfl ?_
            refine WD.gS 21 rfl (by kernel_rfl) rfl rfl rfl rfl ?_
            refine WD.gS 22 rfl (by kernel_rfl) rfl rfl rfl rfl ?_
            refine WD.y 23 rfl (by kernel_rfl) (fun _ _ _ => Y.pick (b := true) rfl rfl) rfl ?_
            refine WD.ren 28 rfl (congrArg Value.bool hE105.symm) ?_
            exact hJ104 true _ _ _ ⟨some1 h, rfl, rfl⟩ (.cons rfl (.cons rfl (.cons rfl (.cons rfl .nil))))
          · refine WD.ren 28 rfl (congrArg Value.bool hE105) ?_
            refine WD.gT 12 rfl (by kernel_rfl) rfl rfl (fun _ _ _ => Y.move rfl) rfl ?_
            refine WD.gT 13 rfl (by kernel_rfl) rfl rfl (fun _ _ _ => Y.move rfl) rfl ?_
            obtain ⟨e115, he115, h⟩ := bnd h
            obtain ⟨b116, off126, cap123, cs122, hv117, hi118, hl119, hc120, hok121, hA127⟩ := Sl.at2 hf47 he115
            obtain ⟨_, _, rfl, rfl, ⟨_, _, rfl, rfl, ⟨_, _, rfl, rfl, ⟨v124, rfl, hf125⟩⟩⟩⟩ := hok121
            replace hc120 : CellsAt _ _ _ [vi e115.Num, vi e115.Type_, vu e115.V, v124] := hc120
            have hca128 := CAt.imm hc120 hA127
            refine WD.gT 14 rfl (by kernel_rfl) rfl rfl (fun _ _ _ => Y.indexAddr ty22 ty40 rfl hv117 rfl hi118 hl119) rfl ?_
            refine WD.gT 15 rfl (by kernel_rfl) rfl rfl (fun _ _ _ => Y.fieldAddr fo40_1 rfl) rfl ?_
            refine WD.gT 16 rfl (by kernel_rfl) rfl rfl (fun wd136 O135 hst137 => have hf138 := hca128.st hst137 rfl; Y.loadSc ty3 rfl rfl (hf138.at_.sub 1 [vi e115.Type_] rfl)) rfl ?_
            refine WD.gT 17 rfl (by kernel_rfl) rfl rfl (fun _ _ _ => Y.move rfl) rfl ?_
            refine WD.gT 18 rfl (by kernel_rfl) rfl rfl (fun _ _ _ => Y.move rfl) rfl ?_
            obtain ⟨e145, he145, h⟩ := bnd h
            obtain ⟨b146, off156, cap153, cs152, hv147, hi148, hl149, hc150, hok151, hA157⟩ := Sl.at2 hf79 he145
            obtain ⟨_, _, rfl, rfl, ⟨_, _, rfl, rfl, ⟨_, _, rfl, rfl, ⟨v154, rfl, hf155⟩⟩⟩⟩ := hok151
            replace hc150 : CellsAt _ _ _ [vi e145.Num, vi e145.Type_, vu e145.V, v154] := hc150
            have hca158 := CAt.imm hc150 hA157
            refine WD.gT 19 rfl (by kernel_rfl) rfl rfl (fun _ _ _ => Y.indexAddr ty22 ty40 rfl hv147 rfl hi148 hl149) rfl ?_
            refine WD.gT 20 rfl (by kernel_rfl) rfl rfl (fun _ _ _ => Y.fieldAddr fo40_1 rfl) rfl ?_
            refine WD.gT 21 rfl (by kernel_rfl) rfl rfl (fun wd166 O165 hst167 => have hf168 := hca158.st hst167 rfl; Y.loadSc ty3 rfl rfl (hf168.at_.sub 1 [vi e145.Type_] rfl)) rfl ?_
            refine WD.gT 22 rfl (by kernel_rfl) rfl rfl (fun _ _ _ => Y.neq_i rfl rfl) rfl ?_
            refine WD.y 23 rfl (by kernel_rfl) (fun _ _ _ => Y.pick (b := false) rfl rfl) rfl ?_
            refine WD.ren 28 rfl (congrArg Value.bool hE105.symm) ?_
            exact hJ104 (!decide (e115.Type_ = e145.Type_)) _ _ _ ⟨some1 h, rfl, rfl⟩ (.cons rfl (.cons rfl (.cons rfl (.cons rfl .nil))))
        · rintro x101 _ _ ⟨rfl, rfl, rfl⟩
          replace h := hk103
          try dsimp only at h
          refine (show WD _ _ _ _ _ _ _ _ [(0, v0), (1, v1), (5, vi i15), (40, .bool x101)] _ _ from ?_)
          refine WD.y 24 rfl (by kernel_rfl) (fun _ _ _ => Y.move rfl) rfl ?_
          obtain ⟨p179, h, hk180⟩ := bnd h
          refine WD.join (σ := Bool) (f' := 15) [36, 35, 34, 33, 32, 31, 30, 29, 28, 27, 26, 25, 24, 23, 22, 21, 20, 19, 18, 17, 16, 15, 14, 13, 12, 11, 10, 9, 8, 7, 6, 5, 4, 3, 2, 1, 0] (fun x O' w' => x = p179 ∧ wd30 = w' ∧ O16 = O') (fun x => [(0, v0), (1, v1), (5, vi i15), (53, .bool x)]) (fun hJ181 => ?_) ?_
          · rcases cnd h with ⟨hE182, h⟩ | ⟨hE182, h⟩
            · refine WD.ren 41 rfl (congrArg Value.bool hE182) ?_
              refine WD.gS 25 rfl (by kernel_rfl) rfl rfl rfl rfl ?_
              refine WD.gS 26 rfl (by kernel_rfl) rfl rfl rfl rfl ?_
              refine WD.gS 27 rfl (by kernel_rfl) rfl rfl rfl rfl ?_
              refine WD.gS 28 rfl (by kernel_rfl) rfl rfl rfl rfl ?_
              refine WD.gS 29 rfl (by kernel_rfl) rfl rfl rfl rfl ?_
              refine WD.gS 30 rfl (by kernel_rfl) rfl rfl rfl rfl ?_
              refine WD.gS 31 rfl (by kernel_rfl) rfl rfl rfl rfl ?_
              refine WD.gS 32 rfl (by kernel_rfl) rfl rfl rfl rfl ?_
              refine WD.gS 33 rfl (by kernel_rfl) rfl rfl rfl rfl ?_
              refine WD.gS 34 rfl (by kernel_rfl) rfl rfl rfl rfl ?_
              refine WD.gS 35 rfl (by kernel_rfl) rfl rfl rfl rfl ?_
              refine WD.y 36 rfl (by kernel_rfl) (fun _ _ _ => Y.pick (b := true) rfl rfl) rfl ?_
              refine WD.ren 41 rfl (congrArg Value.bool hE182.symm) ?_
              exact hJ181 true _ _ _ ⟨some1 h, rfl, rfl⟩ (.cons rfl (.cons rfl (.cons rfl (.cons rfl .nil))))
            · refine WD.ren 41 rfl (congrArg Value.bool hE182) ?_
              refine WD.gT 25 rfl (by kernel_rfl) rfl rfl (fun _ _ _ => Y.move rfl) rfl ?_
              refine WD.gT 26 rfl (by kernel_rfl) rfl rfl (fun _ _ _ => Y.move rfl) rfl ?_
              obtain ⟨e192, he192, h⟩ := bnd h
              obtain ⟨b193, off203, cap200, cs199, hv194, hi195, hl196, hc197, hok198, hA204⟩ := Sl.at2 hf47 he192
              obtain ⟨_, _, rfl, rfl, ⟨_, _, rfl, rfl, ⟨_, _, rfl, rfl, ⟨v201, rfl, hf202⟩⟩⟩⟩ := hok198
              replace hc197 : CellsAt _ _ _ [vi e192.Num, vi e192.Type_, vu e192.V, v201] := hc197
              have hca205 := CAt.imm hc197 hA204
              refine WD.gT 27 rfl (by kernel_rfl) rfl rfl (fun _ _ _ => Y.indexAddr ty22 ty40 rfl hv194 rfl hi195 hl196) rfl ?_
              refine WD.gT 28 rfl (by kernel_rfl) rfl rfl (fun _ _ _ => Y.fieldAddr fo40_2 rfl) rfl ?_
              refine WD.gT 29 rfl (by kernel_rfl) rfl rfl (fun wd213 O212 hst214 => have hf215 := hca205.st hst214 rfl; Y.loadSc ty38 rfl rfl (hf215.at_.sub 2 [vu e192.V] rfl)) rfl ?_
              refine WD.gT 30 rfl (by kernel_rfl) rfl rfl (fun _ _ _ => Y.move rfl) rfl ?_
              refine WD.gT 31 rfl (by kernel_rfl) rfl rfl (fun _ _ _ => Y.move rfl) rfl ?_
              obtain ⟨e222, he222, h⟩ := bnd h
              obtain ⟨b223, off233, cap230, cs229, hv224, hi225, hl226, hc227, hok228, hA234⟩ := Sl.at2 hf79 he222
              obtain ⟨_, _, rfl, rfl, ⟨_, _, rfl, rfl, ⟨_, _, rfl, rfl, ⟨v231, rfl, hf232⟩⟩⟩⟩ := hok228
              replace hc227 : CellsAt _ _ _ [vi e222.Num, vi e222.Type_, vu e222.V, v231] := hc227
              have hca235 := CAt.imm hc227 hA234
              refine WD.gT 32 rfl (by kernel_rfl) rfl rfl (fun _ _ _ => Y.indexAddr ty22 ty40 rfl hv224 rfl hi225 hl226) rfl ?_
              refine WD.gT 33 rfl (by kernel_rfl) rfl rfl (fun _ _ _ => Y.fieldAddr fo40_2 rfl) rfl ?_
              refine WD.gT 34 rfl (by kernel_rfl) rfl rfl (fun wd243 O242 hst244 => have hf245 := hca235.st hst244 rfl; Y.loadSc ty38 rfl rfl (hf245.at_.sub 2 [vu e222.V] rfl)) rfl ?_
              refine WD.gT 35 rfl (by kernel_rfl) rfl rfl (fun _ _ _ => Y.neq_u rfl rfl) rfl ?_
              refine WD.y 36 rfl (by kernel_rfl) (fun _ _ _ => Y.pick (b := false) rfl rfl) rfl ?_
              refine WD.ren 41 rfl (congrArg Value.bool hE182.symm) ?_
              exact hJ181 (!decide (e192.V = e222.V)) _ _ _ ⟨some1 h, rfl, rfl⟩ (.cons rfl (.cons rfl (.cons rfl (.cons rfl .nil))))
          · rintro x178 _ _ ⟨rfl, rfl, rfl⟩
            replace h := hk180
            try dsimp only at h
            refine (show WD _ _ _ _ _ _ _ _ [(0, v0), (1, v1), (5, vi i15), (53, .bool x178)] _ _ from ?_)
            refine WD.y 37 rfl (by kernel_rfl) (fun _ _ _ => Y.move rfl) rfl ?_
            obtain ⟨p256, h, hk257⟩ := bnd h
            refine WD.join (σ := Bool) (f' := 0) [51, 50, 49, 48, 47, 46, 45, 44, 43, 42, 41, 40, 39, 38, 37, 36, 35, 34, 33, 32, 31, 30, 29, 28, 27, 26, 25, 24, 23, 22, 21, 20, 19, 18, 17, 16, 15, 14, 13, 12, 11, 10, 9, 8, 7, 6, 5, 4, 3, 2, 1, 0] (fun x O' w' => x = p256 ∧ wd30 = w' ∧ O16 = O') (fun x => [(0, v0), (1, v1), (5, vi i15), (68, .bool x)]) (fun hJ258 => ?_) ?_
            · rcases cnd h with ⟨hE259, h⟩ | ⟨hE259, h⟩
              · refine WD.ren 54 rfl (congrArg Value.bool hE259) ?_
                refine WD.gS 38 rfl (by kernel_rfl) rfl rfl rfl rfl ?_
                refine WD.gS 39 rfl (by kernel_rfl) rfl rfl rfl rfl ?_
                refine WD.gS 40 rfl (by kernel_rfl) rfl rfl rfl rfl ?_
                refine WD.gS 41 rfl (by kernel_rfl) rfl rfl rfl rfl ?_
                refine WD.gS 42 rfl (by kernel_rfl) rfl rfl rfl rfl ?_
                refine WD.gS 43 rfl (by kernel_rfl) rfl rfl rfl rfl ?_
                refine WD.gS 44 rfl (by kernel_rfl) rfl rfl rfl rfl ?_
                refine WD.gS 45 rfl (by kernel_rfl) rfl rfl rfl rfl ?_
                refine WD.gS 46 rfl (by kernel_rfl) rfl rfl rfl rfl ?_
                refine WD.gS 47 rfl (by kernel_rfl) rfl rfl rfl rfl ?_
                refine WD.gS 48 rfl (by kernel_rfl) rfl rfl rfl rfl ?_
                refine WD.gS 49 rfl (by kernel_rfl) rfl rfl rfl rfl ?_
                refine WD.gS 50 rfl (by kernel_rfl) rfl rfl rfl rfl ?_
                refine WD.y 51 rfl (by kernel_rfl) (fun _ _ _ => Y.pick (b := true) rfl rfl) rfl ?_
                refine WD.ren 54 rfl (congrArg Value.bool hE259.symm) ?_
                exact hJ258 true _ _ _ ⟨some1 h, rfl, rfl⟩ (.cons rfl (.cons rfl (.cons rfl (.cons rfl .nil))))
              · refine WD.ren 54 rfl (congrArg Value.bool hE259) ?_
                refine WD.gT 38 rfl (by kernel_rfl) rfl rfl (fun _ _ _ => Y.move rfl) rfl ?_
                refine WD.gT 39 rfl (by kernel_rfl) rfl rfl (fun _ _ _ => Y.move rfl) rfl ?_
                obtain ⟨e269, he269, h⟩ := bnd h
                obtain ⟨b270, off280, cap277, cs276, hv271, hi272, hl273, hc274, hok275, hA281⟩ := Sl.at2 hf47 he269
                obtain ⟨_, _, rfl, rfl, ⟨_, _, rfl, rfl, ⟨_, _, rfl, rfl, ⟨v278, rfl, hf279⟩⟩⟩⟩ := hok275
                replace hc274 : CellsAt _ _ _ [vi e269.Num, vi e269.Type_, vu e269.V, v278] := hc274
                have hca282 := CAt.imm hc274 hA281
                refine WD.gT 40 rfl (by kernel_rfl) rfl rfl (fun _ _ _ => Y.indexAddr ty22 ty40 rfl hv271 rfl hi272 hl273) rfl ?_
                refine WD.gT 41 rfl (by kernel_rfl) rfl rfl (fun _ _ _ => Y.fieldAddr fo40_3 rfl) rfl ?_
                refine WD.gT 42 rfl (by kernel_rfl) rfl rfl (fun wd290 O289 hst291 => have hf292 := hca282.st hst291 rfl; Y.loadSc ty25 rfl rfl (hf292.at_.sub 3 [v278] rfl)) rfl ?_
                refine WD.gT 43 rfl (by kernel_rfl) rfl rfl (fun wd294 O293 hst295 => have hf296 := hf279.mono (imm_st hst295 rfl rfl); Y.b2s ty25 ty5 ty9 rfl hf296) rfl ?_
                refine WD.gT 44 rfl (by kernel_rfl) rfl rfl (fun _ _ _ => Y.move rfl) rfl ?_
                refine WD.gT 45 rfl (by kernel_rfl) rfl rfl (fun _ _ _ => Y.move rfl) rfl ?_
                obtain ⟨e303, he303, h⟩ := bnd h
                obtain ⟨b304, off314, cap311, cs310, hv305, hi306, hl307, hc308, hok309, hA315⟩ := Sl.at2 hf79 he303
                obtain ⟨_, _, rfl, rfl, ⟨_, _, rfl, rfl, ⟨_, _, rfl, rfl, ⟨v312, rfl, hf313⟩⟩⟩⟩ := hok309
                replace hc308 : CellsAt _ _ _ [vi e303.Num, vi e303.Type_, vu e303.V, v312] := hc308
                have hca316 := CAt.imm hc308 hA315
                refine WD.gT 46 rfl (by kernel_rfl) rfl rfl (fun _ _ _ => Y.indexAddr ty22 ty40 rfl hv305 rfl hi306 hl307) rfl ?_
                refine WD.gT 47 rfl (by kernel_rfl) rfl rfl (fun _ _ _ => Y.fieldAddr fo40_3 rfl) rfl ?_
                refine WD.gT 48 rfl (by kernel_rfl) rfl rfl (fun wd324 O323 hst325 => have hf326 := hca316.st hst325 rfl; Y.loadSc ty25 rfl rfl (hf326.at_.sub 3 [v312] rfl)) rfl ?_
                refine WD.gT 49 rfl (by kernel_rfl) rfl rfl (fun wd328 O327 hst329 => have hf330 := hf313.mono (imm_st hst329 rfl rfl); Y.b2s ty25 ty5 ty9 rfl hf330) rfl ?_
                refine WD.gT 50 rfl (by kernel_rfl) rfl rfl (fun _ _ _ => Y.neq_s rfl rfl) rfl ?_
                refine WD.y 51 rfl (by kernel_rfl) (fun _ _ _ => Y.pick (b := false) rfl rfl) rfl ?_
                refine WD.ren 54 rfl (congrArg Value.bool hE259.symm) ?_
                exact hJ258 (!decide (e269.B = e303.B)) _ _ _ ⟨some1 h, rfl, rfl⟩ (.cons rfl (.cons rfl (.cons rfl (.cons rfl .nil))))
            · rintro x255 _ _ ⟨rfl, rfl, rfl⟩
              replace h := hk257
              try dsimp only at h
              refine (show WD _ _ _ _ _ _ _ _ [(0, v0), (1, v1), (5, vi i15), (68, .bool x255)] _ _ from ?_)
              refine WD.done_ (by kernel_rfl) ?_
              refine At.then ?_
              rcases cnd h with ⟨hc337, h⟩ | ⟨hc337, h⟩
              · refine WC.condT' rfl hc337 ?_
                refine WC.seq ?_
                refine WC.region ?_
                refine WL.y (Y.assign rfl) rfl ?_
                refine WL.nil ?_
                refine At.then ?_
                refine WC.ret ?_
                refine At.inBlockR ?_
                refine At.thenR ?_
                refine At.loopR ?_
                have h := outr1 h hn27 hk24
                refine At.joinBR ?_
                refine At.inBlockR ?_
                refine At.thenR ?_
                obtain rfl := some1 h
                have hs338 : Stp [] (Lg.O0 A) w O16 wd30 := (Stp.trans (Stp.up hst18 rfl) (Stp.up hst31 rfl))
                exact At.res (.inl rfl) rfl (.tmp rfl .nil) ⟨rfl, (Stp.ext hs338 rfl rfl)⟩
              · refine WC.condF' rfl hc337 ?_
                refine WC.skip ?_
                refine At.inBlock ?_
                refine At.then ?_
                refine WC.region ?_
                refine WL.y (Y.move rfl) rfl ?_
                refine WL.y (Y.add_i rfl rfl) rfl ?_
                obtain ⟨i339, hi339, h⟩ := lt1 h
                refine WL.yE (Y.assign rfl) (congrArg vi hi339.symm) rfl ?_
                refine WL.nil ?_
                exact At.round (i339, O16) j25 (Nat.lt_succ_self _) ⟨next1 h hn27, (Stp.trans (Stp.up hst18 rfl) (Stp.up hst31 rfl))⟩ (.cons rfl (.cons rfl (.cons rfl .nil)))
      · refine WC.condF' rfl hc29 ?_
        refine WC.exit ?_
        refine At.thenX ?_
        refine At.loopX ?_
        exact At.hitB (σ := Own) O16 ⟨brk1 h hn27, (Stp.up hst18 rfl)⟩ .nil
    · rintro O19 wd20 ⟨rfl, hst21⟩
      replace h := flowK_go hk24
      refine (show At _ _ _ [] _ from ?_)
      refine At.inBlockHit ?_
      refine At.then ?_
      refine WC.seq ?_
      refine WC.region ?_
      refine WL.y (Y.assign rfl) rfl ?_
      refine WL.nil ?_
      refine At.then ?_
      refine WC.ret ?_
      obtain rfl := some1 h
      have hs340 : Stp [] (Lg.O0 A) w O19 wd20 := (Stp.up hst21 rfl)
      exact At.res (.inl rfl) rfl (.tmp rfl .nil) ⟨rfl, (Stp.ext hs340 rfl rfl)⟩

theorem c_ref30_GetVar {A : Nat → Prop} {a0 : List UInt8} {v0 : Value} {a1 : Int} {w : World} (hs0 : Sl Rep.b w A v0 a0) {r0 : ref30_Got} (h : ref30_GetVar a0 a1 = some r0) : Rets Try.prog 25 [v0, vi a1] w (fun v w' => v = .agg (List.toArray [vu r0.V, vi r0.N, vi r0.E]) ∧ Ext w w') := by
  unfold ref30_GetVar at h
  refine Rets.enter Try.func25 rfl rfl ?_
  have hf11 : Sl Rep.b w (imm (Lg.O0 A)) v0 a0 := (Sl.start hs0)
  refine (show WC _ _ _ _ [(0, v0), (1, vi a1)] _ from ?_)
  refine WC.seq ?_
  refine WC.region ?_
  refine WL.alloc (O := (Lg.O0 A)) 11 [vu 0, vi 0, vi 0] ty55 rfl rfl ?_
  intro p13 O14 wd15 hst16 hb12
  refine WL.nil ?_
  refine At.then ?_
  refine WC.seq ?_
  refine WC.seq ?_
  refine WC.region ?_
  refine WL.y (Y.move rfl) rfl ?_
  refine WL.y (Y.lss_i rfl rfl) rfl ?_
  refine WL.y (Y.move rfl) rfl ?_
  refine WL.cut 5 (σ := Unit) (fun _ w' => wd15 = w') (fun _ => [(0, v0), (1, vi a1), (4, .pointer (some ⟨p13, 0, none⟩)), (15, .bool ((decide (a1 < 0)) || (decide ((a0.length : Int) < a1))))]) ?_ ?_
  · refine WL.part 10 rfl (fun hE17 => ?_) (fun hE17 => ?_)
    · refine WL.gS rfl rfl rfl rfl ?_
      refine WL.gS rfl rfl rfl rfl ?_
      refine WL.gS rfl rfl rfl rfl ?_
      refine WL.gS rfl rfl rfl rfl ?_
      refine WL.y (Y.pick (b := true) rfl rfl) rfl ?_
      refine WL.ren (v' := .bool ((decide (a1 < 0)) || (decide ((a0.length : Int) < a1)))) 15 rfl (congrArg Value.bool (orT hE17)) ?_
      exact WL.nil (At.join () rfl (.cons rfl (.cons rfl (.cons rfl (.cons rfl .nil)))))
    · refine WL.ung rfl rfl ?_
      refine WL.y (Y.move rfl) rfl ?_
      refine WL.ung rfl rfl ?_
      refine WL.y (Y.move rfl) rfl ?_
      refine WL.ung rfl rfl ?_
      have hf18 := hf11.mono (imm_st hst16 rfl rfl)
      refine WL.y (Y.len ty25 rfl hf18) rfl ?_
      refine WL.ung rfl rfl ?_
      refine WL.y (Y.gtr_i rfl rfl) rfl ?_
      refine WL.y (Y.pick (b := false) rfl rfl) rfl ?_
      refine WL.ren (v' := .bool ((decide (a1 < 0)) || (decide ((a0.length : Int) < a1)))) 15 rfl (congrArg Value.bool (orF hE17)) ?_
      exact WL.nil (At.join () rfl (.cons rfl (.cons rfl (.cons rfl (.cons rfl .nil)))))
  · rintro _ _ rfl
    refine (show WL _ _ _ _ _ [(0, v0), (1, vi a1), (4, .pointer (some ⟨p13, 0, none⟩)), (15, .bool ((decide (a1 < 0)) || (decide ((a0.length : Int) < a1))))] _ from ?_)
    refine WL.nil ?_
    refine At.then ?_
    rcases cnd h with ⟨hc19, h⟩ | ⟨hc19, h⟩
    · refine WC.condT' rfl hc19 ?_
      refine WC.seq ?_
      refine WC.region ?_
      refine WL.y (Y.build (vals := [(2, vi 1)]) (cells := [vu 0, vi 0, vi 1]) (Fits.evalp rfl) (by kernel_rfl)) rfl ?_
      refine WL.store (v := .agg [vu 0, vi 0, vi 1].toArray) (cells' := [vu 0, vi 0, vi 1]) ty55 rfl rfl hb12 rfl (Nat.le_of_ble_eq_true rfl) rfl rfl ?_
      intro wd20 hst21 hb22
      refine WL.nil ?_
      refine At.then ?_
      refine WC.ret ?_
      refine At.thenR ?_
      obtain rfl := some1 h
      have hs23 : Stp [11] (Lg.O0 A) w O14 wd20 := (Stp.trans (Stp.up hst16 rfl) (Stp.up hst21 rfl))
      exact At.res (.inl rfl) rfl (.cell rfl (hb22.runAg 0 [vu 0, vi 0, vi 1] ty55 rfl rfl rfl) .nil) ⟨rfl, (Stp.ext hs23 rfl rfl)⟩
    · refine WC.condF' rfl hc19 ?_
      refine WC.skip ?_
      refine At.then ?_
      refine WC.seq ?_
      refine WC.region ?_
      refine WL.y (Y.assign rfl) rfl ?_
      refine WL.nil ?_
      refine At.then ?_
      refine WC.seq ?_
      obtain ⟨p25, h, hk26⟩ := flow1 h
      refine WC.join (σ := Int) (fun x w' => p25 = .go x ∧ wd15 = w') (fun x => [(0, v0), (1, vi a1), (4, .pointer (some ⟨p13, 0, none⟩)), (5, vi x)]) ?_ ?_
      · refine WC.block ?_
        obtain ⟨p29, h, hk31⟩ := flow1 h
        obtain ⟨k30, h⟩ := loop_some h
        refine WC.joinB 0 (σ := Int) (fun x w' => p29 = .go x ∧ wd15 = w') (fun x => [(0, v0), (1, vi a1), (4, .pointer (some ⟨p13, 0, none⟩)), (5, vi x)]) ?_ ?_
        · refine WC.loop (σ := Int) (fun x k w' => loopN k (ref30_GetVar_lp1 a0 a1) x = some p29 ∧ wd15 = w') (fun x => [(0, v0), (1, vi a1), (4, .pointer (some ⟨p13, 0, none⟩)), (5, vi x)]) 0 k30 (.cons rfl (.cons rfl (.cons rfl (.cons rfl .nil)))) ⟨h, rfl⟩ ?_
          rintro nv27 k30 _ ⟨h, rfl⟩
          obtain ⟨j32, q33, rfl, h, hn34⟩ := rnd1 h
          unfold ref30_GetVar_lp1 at h
          try dsimp only at h
          refine (show WC _ _ _ _ [(0, v0), (1, vi a1), (4, .pointer (some ⟨p13, 0, none⟩)), (5, vi nv27)] _ from ?_)
          refine WC.seq ?_
          refine WC.seq ?_
          refine WC.region ?_
          refine WL.y (Y.move rfl) rfl ?_
          refine WL.y (Y.move rfl) rfl ?_
          refine WL.y (Y.add_i rfl rfl) rfl ?_
          refine WL.y (Y.move rfl) rfl ?_
          have hf35 := hf11.mono (imm_st hst16 rfl rfl)
          refine WL.y (Y.len ty25 rfl hf35) rfl ?_
          refine WL.y (Y.lss_i rfl rfl) rfl ?_
          refine WL.y (Y.move rfl) rfl ?_
          obtain ⟨p37, h, hk38⟩ := bnd h
          refine WL.cut 8 (σ := Bool) (fun x w' => x = p37 ∧ wd15 = w') (fun x => [(0, v0), (1, vi a1), (4, .pointer (some ⟨p13, 0, none⟩)), (5, vi nv27), (31, .bool x)]) ?_ ?_
          · rcases cnd h with ⟨hE39, h⟩ | ⟨hE39, h⟩
            · refine WL.ren 23 rfl (congrArg Value.bool hE39) ?_
              refine WL.ung rfl rfl ?_
              refine WL.y (Y.move rfl) rfl ?_
              refine WL.ung rfl rfl ?_
              refine WL.y (Y.move rfl) rfl ?_
              refine WL.ung rfl rfl ?_
              refine WL.y (Y.move rfl) rfl ?_
              refine WL.ung rfl rfl ?_
              refine WL.y (Y.add_i rfl rfl) rfl ?_
              refine WL.ung rfl rfl ?_
              obtain ⟨e40, he40, h⟩ := bnd h
              obtain ⟨b41, off49, cap48, cs47, hv42, hi43, hl44, hc45, hok46, hA50⟩ := Sl.at2 hf35 he40
              obtain rfl := hok46
              replace hc45 : CellsAt _ _ _ [vb e40] := hc45
              have hca51 := CAt.imm hc45 hA50
              refine WL.y (Y.indexAddr ty25 ty5 rfl hv42 rfl hi43 hl44) rfl ?_
              refine WL.ung rfl rfl ?_
              refine WL.y (Y.loadSc ty5 rfl rfl hca51.at_) rfl ?_
              refine WL.ung rfl rfl ?_
              refine WL.y (Y.geq_b (b := 128) rfl rfl) rfl ?_
              refine WL.y (Y.pick (b := true) rfl rfl) rfl ?_
              exact WL.nil (At.join (σ := Bool) (decide (128 ≤ e40)) ⟨some1 h, rfl⟩ (.cons rfl (.cons rfl (.cons rfl (.cons rfl (.cons rfl .nil))))))
            · refine WL.ren 23 rfl (congrArg Value.bool hE39) ?_
              refine WL.gS rfl rfl rfl rfl ?_
              refine WL.gS rfl rfl rfl rfl ?_
              refine WL.gS rfl rfl rfl rfl ?_
              refine WL.gS rfl rfl rfl rfl ?_
              refine WL.gS rfl rfl rfl rfl ?_
              refine WL.gS rfl rfl rfl rfl ?_
              refine WL.gS rfl rfl rfl rfl ?_
              refine WL.y (Y.pick (b := false) rfl rfl) rfl ?_
              exact WL.nil (At.join (σ := Bool) false ⟨some1 h, rfl⟩ (.cons rfl (.cons rfl (.cons rfl (.cons rfl (.cons rfl .nil))))))
          · rintro x36 _ ⟨rfl, rfl⟩
            replace h := hk38
            try dsimp only at h
            refine (show WL _ _ _ _ _ [(0, v0), (1, vi a1), (4, .pointer (some ⟨p13, 0, none⟩)), (5, vi nv27), (31, .bool x36)] _ from ?_)
            refine WL.nil ?_
            refine At.then ?_
            rcases cnd h with ⟨hc52, h⟩ | ⟨hc52, h⟩
            · refine WC.condT' rfl hc52 ?_
              refine WC.skip ?_
              refine At.then ?_
              refine WC.block ?_
              refine WC.seq ?_
              refine WC.seq ?_
              refine WC.region ?_
              refine WL.y (Y.move rfl) rfl ?_
              refine WL.y (Y.eql_i rfl rfl) rfl ?_
              refine WL.nil ?_
              refine At.then ?_
              rcases cnd h with ⟨hc53, h⟩ | ⟨hc53, h⟩
              · refine WC.condT' rfl hc53 ?_
                refine WC.seq ?_
                refine WC.region ?_
                refine WL.y (Y.build (vals := [(2, vi 3)]) (cells := [vu 0, vi 0, vi 3]) (Fits.evalp rfl) (by kernel_rfl)) rfl ?_
                refine WL.store (v := .agg [vu 0, vi 0, vi 3].toArray) (cells' := [vu 0, vi 0, vi 3]) ty55 rfl rfl hb12 rfl (Nat.le_of_ble_eq_true rfl) rfl rfl ?_
                intro wd54 hst55 hb56
                refine WL.nil ?_
                refine At.then ?_
                refine WC.ret ?_
                refine At.thenR ?_
                refine At.inBlockR ?_
                refine At.loopR ?_
                have h := outr1 h hn34 hk31
                refine At.joinBR ?_
                refine At.inBlockR ?_
                have h := outs1 h hk26
                refine At.joinR ?_
                refine At.thenR ?_
                obtain rfl := some1 h
                have hs57 : Stp [11] (Lg.O0 A) w O14 wd54 := (Stp.trans (Stp.up hst16 rfl) (Stp.up hst55 rfl))
                exact At.res (.inl rfl) rfl (.cell rfl (hb56.runAg 0 [vu 0, vi 0, vi 3] ty55 rfl rfl rfl) .nil) ⟨rfl, (Stp.ext hs57 rfl rfl)⟩
              · refine WC.condF' rfl hc53 ?_
                refine WC.skip ?_
                refine At.then ?_
                refine WC.region ?_
                refine WL.y (Y.move rfl) rfl ?_
                refine WL.y (Y.add_i rfl rfl) rfl ?_
                obtain ⟨nv58, hnv58, h⟩ := lt1 h
                refine WL.yE (Y.assign rfl) (congrArg vi hnv58.symm) rfl ?_
                refine WL.nil ?_
                refine At.inBlock ?_
                exact At.round nv58 j32 (Nat.lt_succ_self _) ⟨next1 h hn34, rfl⟩ (.cons rfl (.cons rfl (.cons rfl (.cons rfl .nil))))
            · refine WC.condF' rfl hc52 ?_
              refine WC.exit ?_
              refine At.thenX ?_
              refine At.loopX ?_
              exact At.hitB (σ := Int) nv27 ⟨brk1 h hn34, rfl⟩ (.cons rfl (.cons rfl (.cons rfl (.cons rfl .nil))))
        · rintro nv28 _ ⟨rfl, rfl⟩
          replace h := flowK_go hk31
          try dsimp only at h
          refine (show At _ _ _ [(0, v0), (1, vi a1), (4, .pointer (some ⟨p13, 0, none⟩)), (5, vi nv28)] _ from ?_)
          refine At.inBlockHit ?_
          exact At.join (σ := Int) nv28 ⟨go2 h, rfl⟩ (.cons rfl (.cons rfl (.cons rfl (.cons rfl .nil))))
      · rintro nv24 _ ⟨rfl, rfl⟩
        replace h := flowK_go hk26
        try dsimp only at h
        refine (show At _ _ _ [(0, v0), (1, vi a1), (4, .pointer (some ⟨p13, 0, none⟩)), (5, vi nv24)] _ from ?_)
        refine At.then ?_
        refine WC.seq ?_
        refine WC.seq ?_
        refine WC.region ?_
        refine WL.y (Y.move rfl) rfl ?_
        refine WL.y (Y.move rfl) rfl ?_
        refine WL.y (Y.add_i rfl rfl) rfl ?_
        refine WL.y (Y.move rfl) rfl ?_
        have hf59 := hf11.mono (imm_st hst16 rfl rfl)
        refine WL.y (Y.len ty25 rfl hf59) rfl ?_
        refine WL.y (Y.eql_i rfl rfl) rfl ?_
        refine WL.nil ?_
        refine At.then ?_
        rcases cnd h with ⟨hc60, h⟩ | ⟨hc60, h⟩
        · refine WC.condT' rfl hc60 ?_
          refine WC.seq ?_
          refine WC.region ?_
          refine WL.y (Y.build (vals := [(2, vi 2)]) (cells := [vu 0, vi 0, vi 2]) (Fits.evalp rfl) (by kernel_rfl)) rfl ?_
          refine WL.store (v := .agg [vu 0, vi 0, vi 2].toArray) (cells' := [vu 0, vi 0, vi 2]) ty55 rfl rfl hb12 rfl (Nat.le_of_ble_eq_true rfl) rfl rfl ?_
          intro wd61 hst62 hb63
          refine WL.nil ?_
          refine At.then ?_
          refine WC.ret ?_
          refine At.thenR ?_
          obtain rfl := some1 h
          have hs64 : Stp [11] (Lg.O0 A) w O14 wd61 := (Stp.trans (Stp.up hst16 rfl) (Stp.up hst62 rfl))
          exact At.res (.inl rfl) rfl (.cell rfl (hb63.runAg 0 [vu 0, vi 0, vi 2] ty55 rfl rfl rfl) .nil) ⟨rfl, (Stp.ext hs64 rfl rfl)⟩
        · refine WC.condF' rfl hc60 ?_
          refine WC.skip ?_
          refine At.then ?_
          refine WC.seq ?_
          refine WC.seq ?_
          refine WC.region ?_
          refine WL.y (Y.move rfl) rfl ?_
          refine WL.y (Y.eql_i rfl rfl) rfl ?_
          refine WL.y (Y.move rfl) rfl ?_
          obtain ⟨p66, h, hk67⟩ := bnd h
          refine WL.cut 8 (σ := Bool) (fun x w' => x = p66 ∧ wd15 = w') (fun x => [(0, v0), (1, vi a1), (4, .pointer (some ⟨p13, 0, none⟩)), (5, vi nv24), (54, .bool x)]) ?_ ?_
          · rcases cnd h with ⟨hE68, h⟩ | ⟨hE68, h⟩
            · refine WL.ren 46 rfl (congrArg Value.bool hE68) ?_
              refine WL.ung rfl rfl ?_
              refine WL.y (Y.move rfl) rfl ?_
              refine WL.ung rfl rfl ?_
              refine WL.y (Y.move rfl) rfl ?_
              refine WL.ung rfl rfl ?_
              refine WL.y (Y.move rfl) rfl ?_
              refine WL.ung rfl rfl ?_
              refine WL.y (Y.add_i rfl rfl) rfl ?_
              refine WL.ung rfl rfl ?_
              obtain ⟨e69, he69, h⟩ := bnd h
              obtain ⟨b70, off78, cap77, cs76, hv71, hi72, hl73, hc74, hok75, hA79⟩ := Sl.at2 hf59 he69
              obtain rfl := hok75
              replace hc74 : CellsAt _ _ _ [vb e69] := hc74
              have hca80 := CAt.imm hc74 hA79
              refine WL.y (Y.indexAddr ty25 ty5 rfl hv71 rfl hi72 hl73) rfl ?_
              refine WL.ung rfl rfl ?_
              refine WL.y (Y.loadSc ty5 rfl rfl hca80.at_) rfl ?_
              refine WL.ung rfl rfl ?_
              refine WL.y (Y.gtr_b (b := 1) rfl rfl) rfl ?_
              refine WL.y (Y.pick (b := true) rfl rfl) rfl ?_
              exact WL.nil (At.join (σ := Bool) (decide (1 < e69)) ⟨some1 h, rfl⟩ (.cons rfl (.cons rfl (.cons rfl (.cons rfl (.cons rfl .nil))))))
            · refine WL.ren 46 rfl (congrArg Value.bool hE68) ?_
              refine WL.gS rfl rfl rfl rfl ?_
              refine WL.gS rfl rfl rfl rfl ?_
              refine WL.gS rfl rfl rfl rfl ?_
              refine WL.gS rfl rfl rfl rfl ?_
              refine WL.gS rfl rfl rfl rfl ?_
              refine WL.gS rfl rfl rfl rfl ?_
              refine WL.gS rfl rfl rfl rfl ?_
              refine WL.y (Y.pick (b := false) rfl rfl) rfl ?_
              exact WL.nil (At.join (σ := Bool) false ⟨some1 h, rfl⟩ (.cons rfl (.cons rfl (.cons rfl (.cons rfl (.cons rfl .nil))))))
          · rintro x65 _ ⟨rfl, rfl⟩
            replace h := hk67
            try dsimp only at h
            refine (show WL _ _ _ _ _ [(0, v0), (1, vi a1), (4, .pointer (some ⟨p13, 0, none⟩)), (5, vi nv24), (54, .bool x65)] _ from ?_)
            refine WL.y (Y.move rfl) rfl ?_
            obtain ⟨p82, h, hk83⟩ := bnd h
            refine WL.cut 12 (σ := Bool) (fun x w' => x = p82 ∧ wd15 = w') (fun x => [(0, v0), (1, vi a1), (4, .pointer (some ⟨p13, 0, none⟩)), (5, vi nv24), (67, .bool x)]) ?_ ?_
            · rcases cnd h with ⟨hE84, h⟩ | ⟨hE84, h⟩
              · refine WL.ren 55 rfl (congrArg Value.bool hE84) ?_
                refine WL.gS rfl rfl rfl rfl ?_
                refine WL.gS rfl rfl rfl rfl ?_
                refine WL.gS rfl rfl rfl rfl ?_
                refine WL.gS rfl rfl rfl rfl ?_
                refine WL.gS rfl rfl rfl rfl ?_
                refine WL.gS rfl rfl rfl rfl ?_
                refine WL.gS rfl rfl rfl rfl ?_
                refine WL.gS rfl rfl rfl rfl ?_
                refine WL.gS rfl rfl rfl rfl ?_
                refine WL.gS rfl rfl rfl rfl ?_
                refine WL.gS rfl rfl rfl rfl ?_
                refine WL.y (Y.pick (b := true) rfl rfl) rfl ?_
                exact WL.nil (At.join (σ := Bool) true ⟨some1 h, rfl⟩ (.cons rfl (.cons rfl (.cons rfl (.cons rfl (.cons rfl .nil))))))
              · refine WL.ren 55 rfl (congrArg Value.bool hE84) ?_
                refine WL.ung rfl rfl ?_
                refine WL.y (Y.move rfl) rfl ?_
                refine WL.ung rfl rfl ?_
                refine WL.y (Y.gtr_i rfl rfl) rfl ?_
                refine WL.ung rfl rfl ?_
                refine WL.y (Y.move rfl) rfl ?_
                obtain ⟨p86, h, hk87⟩ := bnd h
                refine WL.cut 8 (σ := Bool) (fun x w' => x = p86 ∧ wd15 = w') (fun x => [(0, v0), (1, vi a1), (4, .pointer (some ⟨p13, 0, none⟩)), (5, vi nv24), (55, .bool false), (66, .bool x)]) ?_ ?_
                · rcases cnd h with ⟨hE88, h⟩ | ⟨hE88, h⟩
                  · refine WL.ren 58 rfl (congrArg Value.bool hE88) ?_
                    refine WL.ung rfl rfl ?_
                    refine WL.y (Y.move rfl) rfl ?_
                    refine WL.ung rfl rfl ?_
                    refine WL.y (Y.move rfl) rfl ?_
                    refine WL.ung rfl rfl ?_
                    refine WL.y (Y.move rfl) rfl ?_
                    refine WL.ung rfl rfl ?_
                    refine WL.y (Y.add_i rfl rfl) rfl ?_
                    refine WL.ung rfl rfl ?_
                    obtain ⟨e89, he89, h⟩ := bnd h
                    obtain ⟨b90, off98, cap97, cs96, hv91, hi92, hl93, hc94, hok95, hA99⟩ := Sl.at2 hf59 he89
                    obtain rfl := hok95
                    replace hc94 : CellsAt _ _ _ [vb e89] := hc94
                    have hca100 := CAt.imm hc94 hA99
                    refine WL.y (Y.indexAddr ty25 ty5 rfl hv91 rfl hi92 hl93) rfl ?_
                    refine WL.ung rfl rfl ?_
                    refine WL.y (Y.loadSc ty5 rfl rfl hca100.at_) rfl ?_
                    refine WL.ung rfl rfl ?_
                    refine WL.y (Y.eql_b (b := 0) rfl rfl) rfl ?_
                    refine WL.ung rfl rfl ?_
                    refine WL.y (Y.pick (b := true) rfl rfl) rfl ?_
                    exact WL.nil (At.join (σ := Bool) (decide (e89 = 0)) ⟨some1 h, rfl⟩ (.cons rfl (.cons rfl (.cons rfl (.cons rfl (.cons rfl (.cons rfl .nil)))))))
                  · refine WL.ren 58 rfl (congrArg Value.bool hE88) ?_
                    refine WL.gS rfl rfl rfl rfl ?_
                    refine WL.gS rfl rfl rfl rfl ?_
                    refine WL.gS rfl rfl rfl rfl ?_
                    refine WL.gS rfl rfl rfl rfl ?_
                    refine WL.gS rfl rfl rfl rfl ?_
                    refine WL.gS rfl rfl rfl rfl ?_
                    refine WL.gS rfl rfl rfl rfl ?_
                    refine WL.ung rfl rfl ?_
                    refine WL.y (Y.pick (b := false) rfl rfl) rfl ?_
                    exact WL.nil (At.join (σ := Bool) false ⟨some1 h, rfl⟩ (.cons rfl (.cons rfl (.cons rfl (.cons rfl (.cons rfl (.cons rfl .nil)))))))
                · rintro x85 _ ⟨rfl, rfl⟩
                  replace h := hk87
                  try dsimp only at h
                  refine (show WL _ _ _ _ _ [(0, v0), (1, vi a1), (4, .pointer (some ⟨p13, 0, none⟩)), (5, vi nv24), (55, .bool false), (66, .bool x85)] _ from ?_)
                  refine WL.y (Y.pick (b := false) rfl rfl) rfl ?_
                  exact WL.nil (At.join (σ := Bool) x85 ⟨some1 h, rfl⟩ (.cons rfl (.cons rfl (.cons rfl (.cons rfl (.cons rfl .nil))))))
            · rintro x81 _ ⟨rfl, rfl⟩
              replace h := hk83
              try dsimp only at h
              refine (show WL _ _ _ _ _ [(0, v0), (1, vi a1), (4, .pointer (some ⟨p13, 0, none⟩)), (5, vi nv24), (67, .bool x81)] _ from ?_)
              refine WL.nil ?_
              refine At.then ?_
              rcases cnd h with ⟨hc101, h⟩ | ⟨hc101, h⟩
              · refine WC.condT' rfl hc101 ?_
                refine WC.seq ?_
                refine WC.region ?_
                refine WL.y (Y.build (vals := [(2, vi 3)]) (cells := [vu 0, vi 0, vi 3]) (Fits.evalp rfl) (by kernel_rfl)) rfl ?_
                refine WL.store (v := .agg [vu 0, vi 0, vi 3].toArray) (cells' := [vu 0, vi 0, vi 3]) ty55 rfl rfl hb12 rfl (Nat.le_of_ble_eq_true rfl) rfl rfl ?_
                intro wd102 hst103 hb104
                refine WL.nil ?_
                refine At.then ?_
                refine WC.ret ?_
                refine At.thenR ?_
                obtain rfl := some1 h
                have hs105 : Stp [11] (Lg.O0 A) w O14 wd102 := (Stp.trans (Stp.up hst16 rfl) (Stp.up hst103 rfl))
                exact At.res (.inl rfl) rfl (.cell rfl (hb104.runAg 0 [vu 0, vi 0, vi 3] ty55 rfl rfl rfl) .nil) ⟨rfl, (Stp.ext hs105 rfl rfl)⟩
              · refine WC.condF' rfl hc101 ?_
                refine WC.skip ?_
                refine At.then ?_
                refine WC.seq ?_
                refine WC.region ?_
                refine WL.y (Y.assign (v := vu 0) rfl) rfl ?_
                refine WL.nil ?_
                refine At.then ?_
                refine WC.seq ?_
                refine WC.seq ?_
                refine WC.region ?_
                refine WL.y (Y.move rfl) rfl ?_
                refine WL.y (Y.assign rfl) rfl ?_
                refine WL.nil ?_
                refine At.then ?_
                obtain ⟨p107, h, hk108⟩ := bnd h
                refine WC.join (σ := UInt64) (fun x w' => x = p107 ∧ wd15 = w') (fun x => [(4, .pointer (some ⟨p13, 0, none⟩)), (5, vi nv24), (6, vu x)]) ?_ ?_
                · refine WC.block ?_
                  obtain ⟨p112, h, hk114⟩ := flow1 h
                  obtain ⟨k113, h⟩ := loop_some h
                  refine WC.joinB 2 (σ := UInt64) (fun x w' => p112 = .go x ∧ wd15 = w') (fun x => [(4, .pointer (some ⟨p13, 0, none⟩)), (5, vi nv24), (6, vu x)]) ?_ ?_
                  · refine WC.loop (σ := (UInt64 × Int)) (fun x k w' => loopN k (ref30_GetVar_lp2 a0 a1) (x.1, x.2) = some p112 ∧ wd15 = w') (fun x => [(0, v0), (1, vi a1), (4, .pointer (some ⟨p13, 0, none⟩)), (5, vi nv24), (6, vu x.1), (7, vi x.2)]) (0, nv24) k113 (.cons rfl (.cons rfl (.cons rfl (.cons rfl (.cons rfl (.cons rfl .nil)))))) ⟨h, rfl⟩ ?_
                    rintro ⟨v109, i110⟩ k113 _ ⟨h, rfl⟩
                    obtain ⟨j115, q116, rfl, h, hn117⟩ := rnd1 h
                    unfold ref30_GetVar_lp2 at h
                    try dsimp only at h
                    refine (show WC _ _ _ _ [(0, v0), (1, vi a1), (4, .pointer (some ⟨p13, 0, none⟩)), (5, vi nv24), (6, vu v109), (7, vi i110)] _ from ?_)
                    refine WC.seq ?_
                    refine WC.seq ?_
                    refine WC.region ?_
                    refine WL.y (Y.move rfl) rfl ?_
                    refine WL.y (Y.geq_i rfl rfl) rfl ?_
                    refine WL.nil ?_
                    refine At.then ?_
                    rcases cnd h with ⟨hc118, h⟩ | ⟨hc118, h⟩
                    · refine WC.condT' rfl hc118 ?_
                      refine WC.skip ?_
                      refine At.then ?_
                      refine WC.seq ?_
                      refine WC.block ?_
                      refine WC.region ?_
                      refine WL.y (Y.move rfl) rfl ?_
                      refine WL.y (Y.mul_u (a := 128) rfl rfl) rfl ?_
                      refine WL.y (Y.move rfl) rfl ?_
                      refine WL.y (Y.move rfl) rfl ?_
                      refine WL.y (Y.move rfl) rfl ?_
                      refine WL.y (Y.add_i rfl rfl) rfl ?_
                      obtain ⟨e119, he119, h⟩ := bnd h
                      obtain ⟨b120, off128, cap127, cs126, hv121, hi122, hl123, hc124, hok125, hA129⟩ := Sl.at2 hf59 he119
                      obtain rfl := hok125
                      replace hc124 : CellsAt _ _ _ [vb e119] := hc124
                      have hca130 := CAt.imm hc124 hA129
                      refine WL.y (Y.indexAddr ty25 ty5 rfl hv121 rfl hi122 hl123) rfl ?_
                      refine WL.y (Y.loadSc ty5 rfl rfl hca130.at_) rfl ?_
                      refine WL.y (Y.rem_b (b := 128) (by decide) rfl rfl) rfl ?_
                      refine WL.y (Y.conv_bu ty5.u ty38.u rfl) rfl ?_
                      refine WL.y (Y.add_u rfl rfl) rfl ?_
                      obtain ⟨v131, hv131, h⟩ := lt1 h
                      refine WL.yE (Y.assign rfl) (congrArg vu hv131.symm) rfl ?_
                      refine WL.nil ?_
                      refine At.inBlock ?_
                      refine At.then ?_
                      refine WC.region ?_
                      refine WL.y (Y.move rfl) rfl ?_
                      refine WL.y (Y.sub_i rfl rfl) rfl ?_
                      obtain ⟨i132, hi132, h⟩ := lt1 h
                      refine WL.yE (Y.assign rfl) (congrArg vi hi132.symm) rfl ?_
                      refine WL.nil ?_
                      exact At.round (v131, i132) j115 (Nat.lt_succ_self _) ⟨next1 h hn117, rfl⟩ (.cons rfl (.cons rfl (.cons rfl (.cons rfl (.cons rfl (.cons rfl .nil))))))
                    · refine WC.condF' rfl hc118 ?_
                      refine WC.exit ?_
                      refine At.thenX ?_
                      refine At.loopX ?_
                      exact At.hitB (σ := UInt64) v109 ⟨brk1 h hn117, rfl⟩ (.cons rfl (.cons rfl (.cons rfl .nil)))
                  · rintro v111 _ ⟨rfl, rfl⟩
                    replace h := flowK_go hk114
                    try dsimp only at h
                    refine (show At _ _ _ [(4, .pointer (some ⟨p13, 0, none⟩)), (5, vi nv24), (6, vu v111)] _ from ?_)
                    refine At.inBlockHit ?_
                    exact At.join (σ := UInt64) v111 ⟨some1 h, rfl⟩ (.cons rfl (.cons rfl (.cons rfl .nil)))
                · rintro v106 _ ⟨rfl, rfl⟩
                  replace h := hk108
                  try dsimp only at h
                  refine (show At _ _ _ [(4, .pointer (some ⟨p13, 0, none⟩)), (5, vi nv24), (6, vu v106)] _ from ?_)
                  refine At.then ?_
                  refine WC.seq ?_
                  refine WC.region ?_
                  refine WL.y (Y.move rfl) rfl ?_
                  refine WL.y (Y.move rfl) rfl ?_
                  refine WL.y (Y.add_i rfl rfl) rfl ?_
                  refine WL.y (Y.build (vals := [(0, vu v106), (1, vi (w64 (nv24 + 1)))]) (cells := [vu v106, vi (w64 (nv24 + 1)), vi 0]) (Fits.evalp rfl) (by kernel_rfl)) rfl ?_
                  refine WL.store (v := .agg [vu v106, vi (w64 (nv24 + 1)), vi 0].toArray) (cells' := [vu v106, vi (w64 (nv24 + 1)), vi 0]) ty55 rfl rfl hb12 rfl (Nat.le_of_ble_eq_true rfl) rfl rfl ?_
                  intro wd133 hst134 hb135
                  refine WL.nil ?_
                  refine At.then ?_
                  refine WC.ret ?_
                  obtain rfl := some1 h
                  have hs136 : Stp [11] (Lg.O0 A) w O14 wd133 := (Stp.trans (Stp.up hst16 rfl) (Stp.up hst134 rfl))
                  exact At.res (.inl rfl) rfl (.cell rfl (hb135.runAg 0 [vu v106, vi (w64 (nv24 + 1)), vi 0] ty55 rfl rfl rfl) .nil) ⟨rfl, (Stp.ext hs136 rfl rfl)⟩

theorem c_ref30_Decode {A : Nat → Prop} {a0 : List UInt8} {v0 : Value} {w : World} (hs0 : Sl Rep.b w A v0 a0) {r0 : ref30_Message} (h : ref30_Decode a0 = some r0) : Rets Try.prog 12 [v0] w (fun v w' => ∃ (u0_0 : Value), v = .agg (List.toArray [u0_0, vi r0.At, vi r0.E]) ∧ Ext w w' ∧ Sl rep_api_Fld w' (fun k => A k ∨ w.heap.size ≤ k) u0_0 r0.L) := by
  unfold ref30_Decode at h
  refine Rets.enter Try.func12 rfl rfl ?_
  have hf11 : Sl Rep.b w (imm (Lg.O0 A)) v0 a0 := (Sl.start hs0)
  refine (show WC _ _ _ _ [(0, v0)] _ from ?_)
  refine WC.seq ?_
  refine WC.region ?_
  refine WL.alloc (O := (Lg.O0 A)) 11 [.slice none 0 0, vi 0, vi 0] ty33 rfl rfl ?_
  intro p13 O14 wd15 hst16 hb12
  refine WL.nil ?_
  refine At.then ?_
  refine WC.seq ?_
  refine WC.region ?_
  refine WL.y (Y.assign rfl) rfl ?_
  refine WL.nil ?_
  refine At.then ?_
  refine WC.seq ?_
  refine WC.region ?_
  refine WL.y (Y.assign rfl) rfl ?_
  refine WL.nil ?_
  refine At.then ?_
  refine WC.seq ?_
  refine WC.block ?_
  obtain ⟨p30, h, hk32⟩ := flow1 h
  obtain ⟨k31, h⟩ := loop_some h
  refine WC.joinB 0 (σ := (List api_Fld × Own × Value)) (fun x w' => p30 = .go x.1 ∧ Stp [12, 13, 14, 16, 1002, 1004] O14 wd15 x.2.1 w' ∧ OwnSl 1008 rep_api_Fld 40 x.2.1 w' x.2.2 x.1) (fun x => [(2, .pointer (some ⟨p13, 0, none⟩)), (3, x.2.2)]) ?_ ?_
  · refine WC.loop (σ := (List api_Fld × Int × Own × Value)) (fun x k w' => loopN k (ref30_Decode_lp1 a0) (x.1, x.2.1) = some p30 ∧ Stp [12, 13, 14, 16, 1002, 1004] O14 wd15 x.2.2.1 w' ∧ OwnSl 1004 rep_api_Fld 40 x.2.2.1 w' x.2.2.2 x.1) (fun x => [(0, v0), (2, .pointer (some ⟨p13, 0, none⟩)), (3, x.2.2.2), (4, vi x.2.1)]) ([], 0, O14, .slice none 0 0) k31 (.cons rfl (.cons rfl (.cons rfl (.cons rfl .nil)))) ⟨h, (Stp.refl _ _ _), (OwnSl.nil 1004 rep_api_Fld 40)⟩ ?_
    rintro ⟨l17, at20, O21, v18⟩ k31 wd22 ⟨h, hst23, hf19⟩
    obtain ⟨j33, q34, rfl, h, hn35⟩ := rnd1 h
    unfold ref30_Decode_lp1 at h
    try dsimp only at h hst23 hf19
    refine (show WC _ _ _ _ [(0, v0), (2, .pointer (some ⟨p13, 0, none⟩)), (3, v18), (4, vi at20)] _ from ?_)
    refine WC.seq ?_
    refine WC.seq ?_
    refine WC.region ?_
    refine WL.y (Y.move rfl) rfl ?_
    refine WL.y (Y.move rfl) rfl ?_
    have hf36 := hf11.mono (imm_st hst16 rfl rfl)
    have hf37 := hf36.mono (imm_st hst23 rfl rfl)
    refine WL.y (Y.len ty25 rfl hf37) rfl ?_
    refine WL.y (Y.lss_i rfl rfl) rfl ?_
    refine WL.nil ?_
    refine At.then ?_
    rcases cnd h with ⟨hc38, h⟩ | ⟨hc38, h⟩
    · refine WC.condT' rfl hc38 ?_
      refine WC.skip ?_
      refine At.then ?_
      obtain ⟨p46, h, hk47⟩ := flow1 h
      refine WC.join (σ := (List api_Fld × Int × Own × Value)) (fun x w' => p46 = .go (x.1, x.2.1) ∧ Stp [12, 13, 14, 1004] O21 wd22 x.2.2.1 w' ∧ OwnSl 1002 rep_api_Fld 40 x.2.2.1 w' x.2.2.2 x.1) (fun x => [(0, v0), (2, .pointer (some ⟨p13, 0, none⟩)), (3, x.2.2.2), (4, vi x.2.1)]) ?_ ?_
      · refine WC.block ?_
        refine WC.seq ?_
        refine WC.region ?_
        refine WL.y (Y.move rfl) rfl ?_
        refine WL.y (Y.move rfl) rfl ?_
        obtain ⟨r48, hp49, h⟩ := bnd h
        refine WL.call (vals := [v0, vi at20]) kok25 rfl rfl (c_ref30_GetVar (A := fun _ => True) (Sl.all hf37) hp49) ?_
        rintro vr52 wd51 ⟨rfl, hm50⟩
        obtain ⟨O53, hold54, hnew55, hst56⟩ := adoptE O21 (fun k => 1) hm50
        refine WL.alloc (O := O53) 12 [vu 0, vi 0, vi 0] ty55 rfl rfl ?_
        intro p58 O59 wd60 hst61 hb57
        refine WL.store (v := .agg [vu r48.V, vi r48.N, vi r48.E].toArray) (cells' := [vu r48.V, vi r48.N, vi r48.E]) ty55 rfl rfl hb57 rfl (Nat.le_of_ble_eq_true rfl) rfl rfl ?_
        intro wd62 hst63 hb64
        refine WL.nil ?_
        refine At.then ?_
        refine WC.seq ?_
        refine WC.seq ?_
        refine WC.region ?_
        refine WL.y (Y.fieldAddr fo55_2 rfl) rfl ?_
        refine WL.y (Y.loadSc ty26 rfl rfl (hb64.cell 2 _ rfl)) rfl ?_
        refine WL.y (Y.neq_i rfl rfl) rfl ?_
        refine WL.nil ?_
        refine At.then ?_
        rcases cnd h with ⟨hc65, h⟩ | ⟨hc65, h⟩
        · refine WC.condT' rfl hc65 ?_
          refine WC.seq ?_
          refine WC.region ?_
          refine WL.y (Y.move rfl) rfl ?_
          refine WL.y (Y.fieldAddr fo55_2 rfl) rfl ?_
          refine WL.y (Y.loadSc ty26 rfl rfl (hb64.cell 2 _ rfl)) rfl ?_
          refine WL.y (Y.build (vals := [(1, vi at20), (2, vi r48.E)]) (cells := [.slice none 0 0, vi at20, vi r48.E]) (Fits.evalp rfl) (by kernel_rfl)) rfl ?_
          have hf66 := hb12.st hst23 rfl
          have hf67 := hf66.st hst56 rfl
          have hf68 := hf67.st hst61 rfl
          have hf69 := hf68.st hst63 rfl
          refine WL.store (v := .agg [.slice none 0 0, vi at20, vi r48.E].toArray) (cells' := [.slice none 0 0, vi at20, vi r48.E]) ty33 rfl rfl hf69 rfl (Nat.le_of_ble_eq_true rfl) rfl rfl ?_
          intro wd70 hst71 hb72
          refine WL.nil ?_
          refine At.then ?_
          refine WC.ret ?_
          refine At.thenR ?_
          refine At.inBlockR ?_
          have h := outs1 h hk47
          refine At.joinR ?_
          refine At.loopR ?_
          have h := outr1 h hn35 hk32
          refine At.joinBR ?_
          refine At.inBlockR ?_
          refine At.thenR ?_
          obtain rfl := some1 h
          have hs73 : Stp [11, 12, 13, 14, 16, 1002, 1004] (Lg.O0 A) w O59 wd70 := (Stp.trans (Stp.up hst16 rfl) (Stp.trans (Stp.up hst23 rfl) (Stp.trans (Stp.up hst56 rfl) (Stp.trans (Stp.up hst61 rfl) (Stp.trans (Stp.up hst63 rfl) (Stp.up hst71 rfl))))))
          exact At.res (.inl rfl) rfl (.cell rfl (hb72.runAg 0 [.slice none 0 0, vi at20, vi r48.E] ty33 rfl rfl rfl) .nil) ⟨.slice none 0 0, rfl, (Stp.ext hs73 rfl rfl), (Or.inl ⟨rfl, rfl⟩)⟩
        · refine WC.condF' rfl hc65 ?_
          refine WC.skip ?_
          refine At.then ?_
          refine WC.seq ?_
          refine WC.seq ?_
          refine WC.region ?_
          refine WL.y (Y.fieldAddr fo55_0 rfl) rfl ?_
          refine WL.y (Y.loadSc ty38 rfl rfl (hb64.cell 0 _ rfl)) rfl ?_
          refine WL.y (Y.rem_u (b := 8) (by decide) rfl rfl) rfl ?_
          refine WL.y (Y.gtr_u (b := 2) rfl rfl) rfl ?_
          refine WL.nil ?_
          refine At.then ?_
          rcases cnd h with ⟨hc74, h⟩ | ⟨hc74, h⟩
          · refine WC.condT' rfl hc74 ?_
            refine WC.seq ?_
            refine WC.region ?_
            refine WL.y (Y.move rfl) rfl ?_
            refine WL.y (Y.build (vals := [(1, vi at20), (2, vi 14)]) (cells := [.slice none 0 0, vi at20, vi 14]) (Fits.evalp rfl) (by kernel_rfl)) rfl ?_
            have hf75 := hb12.st hst23 rfl
            have hf76 := hf75.st hst56 rfl
            have hf77 := hf76.st hst61 rfl
            have hf78 := hf77.st hst63 rfl
            refine WL.store (v := .agg [.slice none 0 0, vi at20, vi 14].toArray) (cells' := [.slice none 0 0, vi at20, vi 14]) ty33 rfl rfl hf78 rfl (Nat.le_of_ble_eq_true rfl) rfl rfl ?_
            intro wd79 hst80 hb81
            refine WL.nil ?_
            refine At.then ?_
            refine WC.ret ?_
            refine At.thenR ?_
            refine At.inBlockR ?_
            have h := outs1 h hk47
            refine At.joinR ?_
            refine At.loopR ?_
            have h := outr1 h hn35 hk32
            refine At.joinBR ?_
            refine At.inBlockR ?_
            refine At.thenR ?_
            obtain rfl := some1 h
            have hs82 : Stp [11, 12, 13, 14, 16, 1002, 1004] (Lg.O0 A) w O59 wd79 := (Stp.trans (Stp.up hst16 rfl) (Stp.trans (Stp.up hst23 rfl) (Stp.trans (Stp.up hst56 rfl) (Stp.trans (Stp.up hst61 rfl) (Stp.trans (Stp.up hst63 rfl) (Stp.up hst80 rfl))))))
            exact At.res (.inl rfl) rfl (.cell rfl (hb81.runAg 0 [.slice none 0 0, vi at20, vi 14] ty33 rfl rfl rfl) .nil) ⟨.slice none 0 0, rfl, (Stp.ext hs82 rfl rfl), (Or.inl ⟨rfl, rfl⟩)⟩
          · refine WC.condF' rfl hc74 ?_
            refine WC.skip ?_
            refine At.then ?_
            refine WC.seq ?_
            refine WC.seq ?_
            refine WC.region ?_
            refine WL.y (Y.fieldAddr fo55_0 rfl) rfl ?_
            refine WL.y (Y.loadSc ty38 rfl rfl (hb64.cell 0 _ rfl)) rfl ?_
            refine WL.y (Y.quo_u (b := 8) (by decide) rfl rfl) rfl ?_
            refine WL.y (Y.lss_u (b := 1) rfl rfl) rfl ?_
            refine WL.y (Y.move rfl) rfl ?_
            refine WL.cut 5 (σ := Unit) (fun _ w' => wd62 = w') (fun _ => [(0, v0), (2, .pointer (some ⟨p13, 0, none⟩)), (3, v18), (4, vi at20), (5, .pointer (some ⟨p58, 0, none⟩)), (39, .bool ((decide ((r48.V / 8) < 1)) || (decide (536870911 < (r48.V / 8)))))]) ?_ ?_
            · refine WL.part 34 rfl (fun hE83 => ?_) (fun hE83 => ?_)
              · refine WL.gS rfl rfl rfl rfl ?_
                refine WL.gS rfl rfl rfl rfl ?_
                refine WL.gS rfl rfl rfl rfl ?_
                refine WL.gS rfl rfl rfl rfl ?_
                refine WL.y (Y.pick (b := true) rfl rfl) rfl ?_
                refine WL.ren (v' := .bool ((decide ((r48.V / 8) < 1)) || (decide (536870911 < (r48.V / 8))))) 39 rfl (congrArg Value.bool (orT hE83)) ?_
                exact WL.nil (At.join () rfl (.cons rfl (.cons rfl (.cons rfl (.cons rfl (.cons rfl (.cons rfl .nil)))))))
              · refine WL.ung rfl rfl ?_
                refine WL.y (Y.fieldAddr fo55_0 rfl) rfl ?_
                refine WL.ung rfl rfl ?_
                refine WL.y (Y.loadSc ty38 rfl rfl (hb64.cell 0 _ rfl)) rfl ?_
                refine WL.ung rfl rfl ?_
                refine WL.y (Y.quo_u (b := 8) (by decide) rfl rfl) rfl ?_
                refine WL.ung rfl rfl ?_
                refine WL.y (Y.gtr_u (b := 536870911) rfl rfl) rfl ?_
                refine WL.y (Y.pick (b := false) rfl rfl) rfl ?_
                refine WL.ren (v' := .bool ((decide ((r48.V / 8) < 1)) || (decide (536870911 < (r48.V / 8))))) 39 rfl (congrArg Value.bool (orF hE83)) ?_
                exact WL.nil (At.join () rfl (.cons rfl (.cons rfl (.cons rfl (.cons rfl (.cons rfl (.cons rfl .nil)))))))
            · rintro _ _ rfl
              refine (show WL _ _ _ _ _ [(0, v0), (2, .pointer (some ⟨p13, 0, none⟩)), (3, v18), (4, vi at20), (5, .pointer (some ⟨p58, 0, none⟩)), (39, .bool ((decide ((r48.V / 8) < 1)) || (decide (536870911 < (r48.V / 8)))))] _ from ?_)
              refine WL.nil ?_
              refine At.then ?_
              rcases cnd h with ⟨hc84, h⟩ | ⟨hc84, h⟩
              · refine WC.condT' rfl hc84 ?_
                refine WC.seq ?_
                refine WC.region ?_
                refine WL.y (Y.move rfl) rfl ?_
                refine WL.y (Y.build (vals := [(1, vi at20), (2, vi 1)]) (cells := [.slice none 0 0, vi at20, vi 1]) (Fits.evalp rfl) (by kernel_rfl)) rfl ?_
                have hf85 := hb12.st hst23 rfl
                have hf86 := hf85.st hst56 rfl
                have hf87 := hf86.st hst61 rfl
                have hf88 := hf87.st hst63 rfl
                refine WL.store (v := .agg [.slice none 0 0, vi at20, vi 1].toArray) (cells' := [.slice none 0 0, vi at20, vi 1]) ty33 rfl rfl hf88 rfl (Nat.le_of_ble_eq_true rfl) rfl rfl ?_
                intro wd89 hst90 hb91
                refine WL.nil ?_
                refine At.then ?_
                refine WC.ret ?_
                refine At.thenR ?_
                refine At.inBlockR ?_
                have h := outs1 h hk47
                refine At.joinR ?_
                refine At.loopR ?_
                have h := outr1 h hn35 hk32
                refine At.joinBR ?_
                refine At.inBlockR ?_
                refine At.thenR ?_
                obtain rfl := some1 h
                have hs92 : Stp [11, 12, 13, 14, 16, 1002, 1004] (Lg.O0 A) w O59 wd89 := (Stp.trans (Stp.up hst16 rfl) (Stp.trans (Stp.up hst23 rfl) (Stp.trans (Stp.up hst56 rfl) (Stp.trans (Stp.up hst61 rfl) (Stp.trans (Stp.up hst63 rfl) (Stp.up hst90 rfl))))))
                exact At.res (.inl rfl) rfl (.cell rfl (hb91.runAg 0 [.slice none 0 0, vi at20, vi 1] ty33 rfl rfl rfl) .nil) ⟨.slice none 0 0, rfl, (Stp.ext hs92 rfl rfl), (Or.inl ⟨rfl, rfl⟩)⟩
              · refine WC.condF' rfl hc84 ?_
                refine WC.skip ?_
                refine At.then ?_
                refine WC.seq ?_
                refine WC.region ?_
                refine WL.y (Y.fieldAddr fo55_0 rfl) rfl ?_
                refine WL.y (Y.loadSc ty38 rfl rfl (hb64.cell 0 _ rfl)) rfl ?_
                refine WL.y (Y.quo_u (b := 8) (by decide) rfl rfl) rfl ?_
                refine WL.y (Y.conv_ui ty38.u ty3.u rfl) rfl ?_
                refine WL.y (Y.fieldAddr fo55_0 rfl) rfl ?_
                refine WL.y (Y.loadSc ty38 rfl rfl (hb64.cell 0 _ rfl)) rfl ?_
                refine WL.y (Y.rem_u (b := 8) (by decide) rfl rfl) rfl ?_
                refine WL.y (Y.conv_ui ty38.u ty3.u rfl) rfl ?_
                refine WL.y (Y.build (vals := [(0, vi (w64 ((r48.V / 8).toNat : Int))), (1, vi (w64 ((r48.V % 8).toNat : Int)))]) (cells := [vi (w64 ((r48.V / 8).toNat : Int)), vi (w64 ((r48.V % 8).toNat : Int)), vu 0, .slice none 0 0]) (Fits.evalp rfl) (by kernel_rfl)) rfl ?_
                refine WL.alloc (O := O59) 13 [vi 0, vi 0, vu 0, .slice none 0 0] ty40 rfl rfl ?_
                intro p94 O95 wd96 hst97 hb93
                refine WL.store (v := .agg [vi (w64 ((r48.V / 8).toNat : Int)), vi (w64 ((r48.V % 8).toNat : Int)), vu 0, .slice none 0 0].toArray) (cells' := [vi (w64 ((r48.V / 8).toNat : Int)), vi (w64 ((r48.V % 8).toNat : Int)), vu 0, .slice none 0 0]) ty40 rfl rfl hb93 rfl (Nat.le_of_ble_eq_true rfl) rfl rfl ?_
                intro wd98 hst99 hb100
                refine WL.nil ?_
                refine At.then ?_
                refine WC.seq ?_
                refine WC.region ?_
                refine WL.y (Y.move rfl) rfl ?_
                refine WL.y (Y.fieldAddr fo55_1 rfl) rfl ?_
                have hf101 := hb64.st hst97 rfl
                have hf102 := hf101.st hst99 rfl
                refine WL.y (Y.loadSc ty3 rfl rfl (hf102.cell 1 _ rfl)) rfl ?_
                refine WL.y (Y.add_i rfl rfl) rfl ?_
                obtain ⟨k103, hk103, h⟩ := lt1 h
                refine WL.yE (Y.assign rfl) (congrArg vi hk103.symm) rfl ?_
                refine WL.nil ?_
                refine At.then ?_
                refine WC.seq ?_
                obtain ⟨p113, h, hk114⟩ := flow1 h
                refine WC.join (σ := (UInt64 × List UInt8 × Int × Own × Value)) (fun x w' => p113 = .go (x.1, x.2.1, x.2.2.1) ∧ Stp [13, 14] O95 wd98 x.2.2.2.1 w' ∧ Sl Rep.b w' (imm x.2.2.2.1) x.2.2.2.2 x.2.1 ∧ Blk 13 x.2.2.2.1 w' p94 40 [vi (w64 ((r48.V / 8).toNat : Int)), vi (w64 ((r48.V % 8).toNat : Int)), vu x.1, x.2.2.2.2]) (fun x => [(0, v0), (2, .pointer (some ⟨p13, 0, none⟩)), (3, v18), (6, .pointer (some ⟨p94, 0, none⟩)), (7, vi x.2.2.1)]) ?_ ?_
                · refine WC.seq ?_
                  refine WC.region ?_
                  refine WL.y (Y.fieldAddr fo40_1 rfl) rfl ?_
                  refine WL.y (Y.loadSc ty3 rfl rfl (hb100.cell 1 _ rfl)) rfl ?_
                  refine WL.y (Y.eql_i rfl rfl) rfl ?_
                  refine WL.nil ?_
                  refine At.then ?_
                  rcases cnd h with ⟨hc115, h⟩ | ⟨hc115, h⟩
                  · refine WC.condT' rfl hc115 ?_
                    refine WC.seq ?_
                    refine WC.seq ?_
                    refine WC.region ?_
                    refine WL.y (Y.move rfl) rfl ?_
                    have hf116 := hf37.mono (imm_st hst56 rfl rfl)
                    have hf117 := hf116.mono (imm_st hst61 rfl rfl)
                    have hf118 := hf117.mono (imm_st hst63 rfl rfl)
                    have hf119 := hf118.mono (imm_st hst97 rfl rfl)
                    have hf120 := hf119.mono (imm_st hst99 rfl rfl)
                    refine WL.y (Y.len ty25 rfl hf120) rfl ?_
                    refine WL.y (Y.move rfl) rfl ?_
                    refine WL.y (Y.sub_i rfl rfl) rfl ?_
                    refine WL.y (Y.lss_i rfl rfl) rfl ?_
                    refine WL.nil ?_
                    refine At.then ?_
                    rcases cnd h with ⟨hc121, h⟩ | ⟨hc121, h⟩
                    · refine WC.condT' rfl hc121 ?_
                      refine WC.seq ?_
                      refine WC.region ?_
                      refine WL.y (Y.move rfl) rfl ?_
                      refine WL.y (Y.build (vals := [(1, vi at20), (2, vi 2)]) (cells := [.slice none 0 0, vi at20, vi 2]) (Fits.evalp rfl) (by kernel_rfl)) rfl ?_
                      have hf122 := hb12.st hst23 rfl
                      have hf123 := hf122.st hst56 rfl
                      have hf124 := hf123.st hst61 rfl
                      have hf125 := hf124.st hst63 rfl
                      have hf126 := hf125.st hst97 rfl
                      have hf127 := hf126.st hst99 rfl
                      refine WL.store (v := .agg [.slice none 0 0, vi at20, vi 2].toArray) (cells' := [.slice none 0 0, vi at20, vi 2]) ty33 rfl rfl hf127 rfl (Nat.le_of_ble_eq_true rfl) rfl rfl ?_
                      intro wd128 hst129 hb130
                      refine WL.nil ?_
                      refine At.then ?_
                      refine WC.ret ?_
                      refine At.thenR ?_
                      have h := outs1 h hk114
                      refine At.joinR ?_
                      refine At.thenR ?_
                      refine At.inBlockR ?_
                      have h := outs1 h hk47
                      refine At.joinR ?_
                      refine At.loopR ?_
                      have h := outr1 h hn35 hk32
                      refine At.joinBR ?_
                      refine At.inBlockR ?_
                      refine At.thenR ?_
                      obtain rfl := some1 h
                      have hs131 : Stp [11, 12, 13, 14, 16, 1002, 1004] (Lg.O0 A) w O95 wd128 := (Stp.trans (Stp.up hst16 rfl) (Stp.trans (Stp.up hst23 rfl) (Stp.trans (Stp.up hst56 rfl) (Stp.trans (Stp.up hst61 rfl) (Stp.trans (Stp.up hst63 rfl) (Stp.trans (Stp.up hst97 rfl) (Stp.trans (Stp.up hst99 rfl) (Stp.up hst129 rfl))))))))
                      exact At.res (.inl rfl) rfl (.cell rfl (hb130.runAg 0 [.slice none 0 0, vi at20, vi 2] ty33 rfl rfl rfl) .nil) ⟨.slice none 0 0, rfl, (Stp.ext hs131 rfl rfl), (Or.inl ⟨rfl, rfl⟩)⟩
                    · refine WC.condF' rfl hc121 ?_
                      refine WC.skip ?_
                      refine At.then ?_
                      refine WC.seq ?_
                      refine WC.seq ?_
                      refine WC.region ?_
                      refine WL.y (Y.assign rfl) rfl ?_
                      refine WL.nil ?_
                      refine At.then ?_
                      obtain ⟨p137, h, hk138⟩ := bnd h
                      refine WC.join (σ := (UInt64 × Own)) (fun x w' => x.1 = p137 ∧ Stp [13] O95 wd98 x.2 w' ∧ Blk 13 x.2 w' p94 40 [vi (w64 ((r48.V / 8).toNat : Int)), vi (w64 ((r48.V % 8).toNat : Int)), vu x.1, .slice none 0 0]) (fun x => [(0, v0), (2, .pointer (some ⟨p13, 0, none⟩)), (3, v18), (6, .pointer (some ⟨p94, 0, none⟩)), (7, vi k103)]) ?_ ?_
                      · refine WC.block ?_
                        obtain ⟨p150, h, hk152⟩ := flow1 h
                        obtain ⟨k151, h⟩ := loop_some h
                        refine WC.joinB 2 (σ := (UInt64 × Own)) (fun x w' => p150 = .go x.1 ∧ Stp [13] O95 wd98 x.2 w' ∧ Blk 13 x.2 w' p94 40 [vi (w64 ((r48.V / 8).toNat : Int)), vi (w64 ((r48.V % 8).toNat : Int)), vu x.1, .slice none 0 0]) (fun x => [(0, v0), (2, .pointer (some ⟨p13, 0, none⟩)), (3, v18), (6, .pointer (some ⟨p94, 0, none⟩)), (7, vi k103)]) ?_ ?_
                        · refine WC.loop (σ := (UInt64 × Int × Own)) (fun x k w' => loopN k (ref30_Decode_lp2 a0 k103) (x.1, x.2.1) = some p150 ∧ Stp [13] O95 wd98 x.2.2 w' ∧ Blk 13 x.2.2 w' p94 40 [vi (w64 ((r48.V / 8).toNat : Int)), vi (w64 ((r48.V % 8).toNat : Int)), vu x.1, .slice none 0 0]) (fun x => [(0, v0), (2, .pointer (some ⟨p13, 0, none⟩)), (3, v18), (6, .pointer (some ⟨p94, 0, none⟩)), (7, vi k103), (8, vi x.2.1)]) (0, 7, O95) k151 (.cons rfl (.cons rfl (.cons rfl (.cons rfl (.cons rfl (.cons rfl .nil)))))) ⟨h, (Stp.refl _ _ _), hb100⟩ ?_
                          rintro ⟨c140, i141, O142⟩ k151 wd143 ⟨h, hst144, hb139⟩
                          obtain ⟨j153, q154, rfl, h, hn155⟩ := rnd1 h
                          unfold ref30_Decode_lp2 at h
                          try dsimp only at h hst144 hb139
                          refine (show WC _ _ _ _ [(0, v0), (2, .pointer (some ⟨p13, 0, none⟩)), (3, v18), (6, .pointer (some ⟨p94, 0, none⟩)), (7, vi k103), (8, vi i141)] _ from ?_)
                          refine WC.seq ?_
                          refine WC.seq ?_
                          refine WC.region ?_
                          refine WL.y (Y.move rfl) rfl ?_
                          refine WL.y (Y.geq_i rfl rfl) rfl ?_
                          refine WL.nil ?_
                          refine At.then ?_
                          rcases cnd h with ⟨hc156, h⟩ | ⟨hc156, h⟩
                          · refine WC.condT' rfl hc156 ?_
                            refine WC.skip ?_
                            refine At.then ?_
                            refine WC.seq ?_
                            refine WC.block ?_
                            refine WC.draw 12 O142 fmix (by kernel_rfl) ?_
                            intro wd157 hst158
                            refine WS.y (Y.fieldAddr fo40_2 rfl) rfl ?_
                            have hf159 := hb139.st hst158 rfl
                            refine WS.y (Y.loadSc ty38 rfl rfl (hf159.cell 2 _ rfl)) rfl ?_
                            refine WS.y (Y.mul_u (a := 256) rfl rfl) rfl ?_
                            refine WS.y (Y.move rfl) rfl ?_
                            refine WS.y (Y.move rfl) rfl ?_
                            refine WS.y (Y.move rfl) rfl ?_
                            refine WS.y (Y.add_i rfl rfl) rfl ?_
                            obtain ⟨e160, he160, h⟩ := bnd h
                            have hf169 := hf120.mono (imm_st hst144 rfl rfl)
                            have hf170 := hf169.mono (imm_st hst158 rfl rfl)
                            obtain ⟨b161, off171, cap168, cs167, hv162, hi163, hl164, hc165, hok166, hA172⟩ := Sl.at2 hf170 he160
                            obtain rfl := hok166
                            replace hc165 : CellsAt _ _ _ [vb e160] := hc165
                            have hca173 := CAt.imm hc165 hA172
                            refine WS.y (Y.indexAddr ty25 ty5 rfl hv162 rfl hi163 hl164) rfl ?_
                            refine WS.y (Y.loadSc ty5 rfl rfl hca173.at_) rfl ?_
                            refine WS.y (Y.conv_bu ty5.u ty38.u rfl) rfl ?_
                            refine WS.y (Y.add_u rfl rfl) rfl ?_
                            refine WS.y (Y.fieldAddr fo40_2 rfl) rfl ?_
                            refine WS.tail ?_
                            obtain ⟨t174, ht174, h⟩ := lt1 h
                            refine WL.ren 79 rfl (congrArg vu ht174.symm) ?_
                            refine WL.store (v := vu t174) (cells' := [vi (w64 ((r48.V / 8).toNat : Int)), vi (w64 ((r48.V % 8).toNat : Int)), vu t174, .slice none 0 0]) ty38 rfl rfl hf159 rfl (Nat.le_of_ble_eq_true rfl) rfl rfl ?_
                            intro wd175 hst176 hb177
                            refine WL.nil ?_
                            refine At.inBlock ?_
                            refine At.then ?_
                            refine WC.region ?_
                            refine WL.y (Y.move rfl) rfl ?_
                            refine WL.y (Y.sub_i rfl rfl) rfl ?_
                            obtain ⟨i178, hi178, h⟩ := lt1 h
                            refine WL.yE (Y.assign rfl) (congrArg vi hi178.symm) rfl ?_
                            refine WL.nil ?_
                            exact At.round (t174, i178, O142) j153 (Nat.lt_succ_self _) ⟨next1 h hn155, (Stp.trans (Stp.up hst144 rfl) (Stp.trans (Stp.up hst158 rfl) (Stp.up hst176 rfl))), hb177⟩ (.cons rfl (.cons rfl (.cons rfl (.cons rfl (.cons rfl (.cons rfl .nil))))))
                          · refine WC.condF' rfl hc156 ?_
                            refine WC.exit ?_
                            refine At.thenX ?_
                            refine At.loopX ?_
                            exact At.hitB (σ := (UInt64 × Own)) (c140, O142) ⟨brk1 h hn155, (Stp.up hst144 rfl), hb139⟩ (.cons rfl (.cons rfl (.cons rfl (.cons rfl (.cons rfl .nil)))))
                        · rintro ⟨c146, O147⟩ wd148 ⟨rfl, hst149, hb145⟩
                          replace h := flowK_go hk152
                          try dsimp only at h hst149 hb145
                          refine (show At _ _ _ [(0, v0), (2, .pointer (some ⟨p13, 0, none⟩)), (3, v18), (6, .pointer (some ⟨p94, 0, none⟩)), (7, vi k103)] _ from ?_)
                          refine At.inBlockHit ?_
                          exact At.join (σ := (UInt64 × Own)) (c146, O147) ⟨some1 h, (Stp.up hst149 rfl), hb145⟩ (.cons rfl (.cons rfl (.cons rfl (.cons rfl (.cons rfl .nil)))))
                      · rintro ⟨c133, O134⟩ wd135 ⟨rfl, hst136, hb132⟩
                        replace h := hk138
                        try dsimp only at h hst136 hb132
                        refine (show At _ _ _ [(0, v0), (2, .pointer (some ⟨p13, 0, none⟩)), (3, v18), (6, .pointer (some ⟨p94, 0, none⟩)), (7, vi k103)] _ from ?_)
                        refine At.then ?_
                        refine WC.region ?_
                        refine WL.y (Y.move rfl) rfl ?_
                        refine WL.y (Y.add_i rfl rfl) rfl ?_
                        obtain ⟨k179, hk179, h⟩ := lt1 h
                        refine WL.yE (Y.assign rfl) (congrArg vi hk179.symm) rfl ?_
                        refine WL.nil ?_
                        exact At.join (σ := (UInt64 × List UInt8 × Int × Own × Value)) (c133, [], k179, O134, .slice none 0 0) ⟨go2 h, (Stp.up hst136 rfl), (Or.inl ⟨rfl, rfl⟩), hb132⟩ (.cons rfl (.cons rfl (.cons rfl (.cons rfl (.cons rfl .nil)))))
                  · refine WC.condF' rfl hc115 ?_
                    refine WC.seq ?_
                    refine WC.region ?_
                    refine WL.y (Y.move rfl) rfl ?_
                    refine WL.y (Y.move rfl) rfl ?_
                    have hf180 := hf37.mono (imm_st hst56 rfl rfl)
                    have hf181 := hf180.mono (imm_st hst61 rfl rfl)
                    have hf182 := hf181.mono (imm_st hst63 rfl rfl)
                    have hf183 := hf182.mono (imm_st hst97 rfl rfl)
                    have hf184 := hf183.mono (imm_st hst99 rfl rfl)
                    obtain ⟨r185, hp186, h⟩ := bnd h
                    refine WL.call (vals := [v0, vi k103]) kok25 rfl rfl (c_ref30_GetVar (A := fun _ => True) (Sl.all hf184) hp186) ?_
                    rintro vr189 wd188 ⟨rfl, hm187⟩
                    obtain ⟨O190, hold191, hnew192, hst193⟩ := adoptE O95 (fun k => 1) hm187
                    refine WL.alloc (O := O190) 14 [vu 0, vi 0, vi 0] ty55 rfl rfl ?_
                    intro p195 O196 wd197 hst198 hb194
                    refine WL.store (v := .agg [vu r185.V, vi r185.N, vi r185.E].toArray) (cells' := [vu r185.V, vi r185.N, vi r185.E]) ty55 rfl rfl hb194 rfl (Nat.le_of_ble_eq_true rfl) rfl rfl ?_
                    intro wd199 hst200 hb201
                    refine WL.nil ?_
                    refine At.then ?_
                    refine WC.seq ?_
                    refine WC.seq ?_
                    refine WC.region ?_
                    refine WL.y (Y.fieldAddr fo55_2 rfl) rfl ?_
                    refine WL.y (Y.loadSc ty26 rfl rfl (hb201.cell 2 _ rfl)) rfl ?_
                    refine WL.y (Y.neq_i rfl rfl) rfl ?_
                    refine WL.nil ?_
                    refine At.then ?_
                    rcases cnd h with ⟨hc202, h⟩ | ⟨hc202, h⟩
                    · refine WC.condT' rfl hc202 ?_
                      refine WC.seq ?_
                      refine WC.region ?_
                      refine WL.y (Y.move rfl) rfl ?_
                      refine WL.y (Y.fieldAddr fo55_2 rfl) rfl ?_
                      refine WL.y (Y.loadSc ty26 rfl rfl (hb201.cell 2 _ rfl)) rfl ?_
                      refine WL.y (Y.build (vals := [(1, vi at20), (2, vi r185.E)]) (cells := [.slice none 0 0, vi at20, vi r185.E]) (Fits.evalp rfl) (by kernel_rfl)) rfl ?_
                      have hf203 := hb12.st hst23 rfl
                      have hf204 := hf203.st hst56 rfl
                      have hf205 := hf204.st hst61 rfl
                      have hf206 := hf205.st hst63 rfl
                      have hf207 := hf206.st hst97 rfl
                      have hf208 := hf207.st hst99 rfl
                      have hf209 := hf208.st hst193 rfl
                      have hf210 := hf209.st hst198 rfl
                      have hf211 := hf210.st hst200 rfl
                      refine WL.store (v := .agg [.slice none 0 0, vi at20, vi r185.E].toArray) (cells' := [.slice none 0 0, vi at20, vi r185.E]) ty33 rfl rfl hf211 rfl (Nat.le_of_ble_eq_true rfl) rfl rfl ?_
                      intro wd212 hst213 hb214
                      refine WL.nil ?_
                      refine At.then ?_
                      refine WC.ret ?_
                      refine At.thenR ?_
                      have h := outs1 h hk114
                      refine At.joinR ?_
                      refine At.thenR ?_
                      refine At.inBlockR ?_
                      have h := outs1 h hk47
                      refine At.joinR ?_
                      refine At.loopR ?_
                      have h := outr1 h hn35 hk32
                      refine At.joinBR ?_
                      refine At.inBlockR ?_
                      refine At.thenR ?_
                      obtain rfl := some1 h
                      have hs215 : Stp [11, 12, 13, 14, 16, 1002, 1004] (Lg.O0 A) w O196 wd212 := (Stp.trans (Stp.up hst16 rfl) (Stp.trans (Stp.up hst23 rfl) (Stp.trans (Stp.up hst56 rfl) (Stp.trans (Stp.up hst61 rfl) (Stp.trans (Stp.up hst63 rfl) (Stp.trans (Stp.up hst97 rfl) (Stp.trans (Stp.up hst99 rfl) (Stp.trans (Stp.up hst193 rfl) (Stp.trans (Stp.up hst198 rfl) (Stp.trans (Stp.up hst200 rfl) (Stp.up hst213 rfl)))))))))))
                      exact At.res (.inl rfl) rfl (.cell rfl (hb214.runAg 0 [.slice none 0 0, vi at20, vi r185.E] ty33 rfl rfl rfl) .nil) ⟨.slice none 0 0, rfl, (Stp.ext hs215 rfl rfl), (Or.inl ⟨rfl, rfl⟩)⟩
                    · refine WC.condF' rfl hc202 ?_
                      refine WC.skip ?_
                      refine At.then ?_
                      refine WC.seq ?_
                      refine WC.region ?_
                      refine WL.y (Y.move rfl) rfl ?_
                      refine WL.y (Y.fieldAddr fo55_1 rfl) rfl ?_
                      refine WL.y (Y.loadSc ty3 rfl rfl (hb201.cell 1 _ rfl)) rfl ?_
                      refine WL.y (Y.add_i rfl rfl) rfl ?_
                      obtain ⟨k216, hk216, h⟩ := lt1 h
                      refine WL.yE (Y.assign rfl) (congrArg vi hk216.symm) rfl ?_
                      refine WL.nil ?_
                      refine At.then ?_
                      refine WC.seq ?_
                      refine WC.region ?_
                      refine WL.y (Y.fieldAddr fo40_1 rfl) rfl ?_
                      have hf217 := hb100.st hst193 rfl
                      have hf218 := hf217.st hst198 rfl
                      have hf219 := hf218.st hst200 rfl
                      refine WL.y (Y.loadSc ty3 rfl rfl (hf219.cell 1 _ rfl)) rfl ?_
                      refine WL.y (Y.eql_i rfl rfl) rfl ?_
                      refine WL.nil ?_
                      refine At.then ?_
                      rcases cnd h with ⟨hc220, h⟩ | ⟨hc220, h⟩
                      · refine WC.condT' rfl hc220 ?_
                        refine WC.region ?_
                        refine WL.y (Y.fieldAddr fo55_0 rfl) rfl ?_
                        refine WL.y (Y.loadSc ty38 rfl rfl (hb201.cell 0 _ rfl)) rfl ?_
                        refine WL.y (Y.fieldAddr fo40_2 rfl) rfl ?_
                        refine WL.store (v := vu r185.V) (cells' := [vi (w64 ((r48.V / 8).toNat : Int)), vi (w64 ((r48.V % 8).toNat : Int)), vu r185.V, .slice none 0 0]) ty38 rfl rfl hf219 rfl (Nat.le_of_ble_eq_true rfl) rfl rfl ?_
                        intro wd221 hst222 hb223
                        refine WL.nil ?_
                        exact At.join (σ := (UInt64 × List UInt8 × Int × Own × Value)) (r185.V, [], k216, O196, .slice none 0 0) ⟨go2 h, (Stp.trans (Stp.up hst193 rfl) (Stp.trans (Stp.up hst198 rfl) (Stp.trans (Stp.up hst200 rfl) (Stp.up hst222 rfl)))), (Or.inl ⟨rfl, rfl⟩), hb223⟩ (.cons rfl (.cons rfl (.cons rfl (.cons rfl (.cons rfl .nil)))))
                      · refine WC.condF' rfl hc220 ?_
                        refine WC.seq ?_
                        refine WC.seq ?_
                        refine WC.region ?_
                        refine WL.y (Y.fieldAddr fo55_0 rfl) rfl ?_
                        refine WL.y (Y.loadSc ty38 rfl rfl (hb201.cell 0 _ rfl)) rfl ?_
                        refine WL.y (Y.move rfl) rfl ?_
                        have hf224 := hf184.mono (imm_st hst193 rfl rfl)
                        have hf225 := hf224.mono (imm_st hst198 rfl rfl)
                        have hf226 := hf225.mono (imm_st hst200 rfl rfl)
                        refine WL.y (Y.len ty25 rfl hf226) rfl ?_
                        refine WL.y (Y.move rfl) rfl ?_
                        refine WL.y (Y.sub_i rfl rfl) rfl ?_
                        refine WL.y (Y.conv_iu ty3.u ty38.u rfl) rfl ?_
                        refine WL.y (Y.gtr_u rfl rfl) rfl ?_
                        refine WL.nil ?_
                        refine At.then ?_
                        rcases cnd h with ⟨hc227, h⟩ | ⟨hc227, h⟩
                        · refine WC.condT' rfl hc227 ?_
                          refine WC.seq ?_
                          refine WC.region ?_
                          refine WL.y (Y.move rfl) rfl ?_
                          refine WL.y (Y.build (vals := [(1, vi at20), (2, vi 2)]) (cells := [.slice none 0 0, vi at20, vi 2]) (Fits.evalp rfl) (by kernel_rfl)) rfl ?_
                          have hf228 := hb12.st hst23 rfl
                          have hf229 := hf228.st hst56 rfl
                          have hf230 := hf229.st hst61 rfl
                          have hf231 := hf230.st hst63 rfl
                          have hf232 := hf231.st hst97 rfl
                          have hf233 := hf232.st hst99 rfl
                          have hf234 := hf233.st hst193 rfl
                          have hf235 := hf234.st hst198 rfl
                          have hf236 := hf235.st hst200 rfl
                          refine WL.store (v := .agg [.slice none 0 0, vi at20, vi 2].toArray) (cells' := [.slice none 0 0, vi at20, vi 2]) ty33 rfl rfl hf236 rfl (Nat.le_of_ble_eq_true rfl) rfl rfl ?_
                          intro wd237 hst238 hb239
                          refine WL.nil ?_
                          refine At.then ?_
                          refine WC.ret ?_
                          refine At.thenR ?_
                          have h := outs1 h hk114
                          refine At.joinR ?_
                          refine At.thenR ?_
                          refine At.inBlockR ?_
                          have h := outs1 h hk47
                          refine At.joinR ?_
                          refine At.loopR ?_
                          have h := outr1 h hn35 hk32
                          refine At.joinBR ?_
                          refine At.inBlockR ?_
                          refine At.thenR ?_
                          obtain rfl := some1 h
                          have hs240 : Stp [11, 12, 13, 14, 16, 1002, 1004] (Lg.O0 A) w O196 wd237 := (Stp.trans (Stp.up hst16 rfl) (Stp.trans (Stp.up hst23 rfl) (Stp.trans (Stp.up hst56 rfl) (Stp.trans (Stp.up hst61 rfl) (Stp.trans (Stp.up hst63 rfl) (Stp.trans (Stp.up hst97 rfl) (Stp.trans (Stp.up hst99 rfl) (Stp.trans (Stp.up hst193 rfl) (Stp.trans (Stp.up hst198 rfl) (Stp.trans (Stp.up hst200 rfl) (Stp.up hst238 rfl)))))))))))
                          exact At.res (.inl rfl) rfl (.cell rfl (hb239.runAg 0 [.slice none 0 0, vi at20, vi 2] ty33 rfl rfl rfl) .nil) ⟨.slice none 0 0, rfl, (Stp.ext hs240 rfl rfl), (Or.inl ⟨rfl, rfl⟩)⟩
                        · refine WC.condF' rfl hc227 ?_
                          refine WC.skip ?_
                          refine At.then ?_
                          refine WC.seq ?_
                          refine WC.region ?_
                          refine WL.y (Y.move rfl) rfl ?_
                          refine WL.y (Y.move rfl) rfl ?_
                          refine WL.y (Y.move rfl) rfl ?_
                          refine WL.y (Y.fieldAddr fo55_0 rfl) rfl ?_
                          refine WL.y (Y.loadSc ty38 rfl rfl (hb201.cell 0 _ rfl)) rfl ?_
                          refine WL.y (Y.conv_ui ty38.u ty3.u rfl) rfl ?_
                          refine WL.y (Y.add_i rfl rfl) rfl ?_
                          obtain ⟨t241, ht241, h⟩ := bnd h
                          obtain ⟨v242, hY244, hf243⟩ := Sl.slice (ρ := [(113, v0), (114, vi k216), (119, vi (w64 (k216 + (w64 (r185.V.toNat : Int)))))]) (x := (.tmp 113)) (lo := (some (.tmp 114))) (hi := (some (.tmp 119))) ty25 ty5 rfl rfl rfl hf226 ht241
                          refine WL.y (Y.sub (.cons rfl (.cons rfl (.cons rfl .nil))) (hY244 _ _)) rfl ?_
                          refine WL.y (Y.fieldAddr fo40_3 rfl) rfl ?_
                          have hh248 := h
                          obtain ⟨p245, m246, c247, rfl⟩ := hf243.shape
                          have h := hh248
                          refine WL.store (v := (.slice p245 m246 c247)) (cells' := [vi (w64 ((r48.V / 8).toNat : Int)), vi (w64 ((r48.V % 8).toNat : Int)), vu 0, (.slice p245 m246 c247)]) ty25 rfl rfl hf219 rfl (Nat.le_of_ble_eq_true rfl) rfl rfl ?_
                          intro wd249 hst250 hb251
                          refine WL.nil ?_
                          refine At.then ?_
                          refine WC.region ?_
                          refine WL.y (Y.move rfl) rfl ?_
                          refine WL.y (Y.fieldAddr fo55_0 rfl) rfl ?_
                          have hf252 := hb201.st hst250 rfl
                          refine WL.y (Y.loadSc ty38 rfl rfl (hf252.cell 0 _ rfl)) rfl ?_
                          refine WL.y (Y.conv_ui ty38.u ty3.u rfl) rfl ?_
                          refine WL.y (Y.add_i rfl rfl) rfl ?_
                          obtain ⟨k253, hk253, h⟩ := lt1 h
                          refine WL.yE (Y.assign rfl) (congrArg vi hk253.symm) rfl ?_
                          refine WL.nil ?_
                          have hf254 := hf243.mono (imm_st hst250 rfl rfl)
                          exact At.join (σ := (UInt64 × List UInt8 × Int × Own × Value)) (0, t241, k253, O196, (.slice p245 m246 c247)) ⟨go2 h, (Stp.trans (Stp.up hst193 rfl) (Stp.trans (Stp.up hst198 rfl) (Stp.trans (Stp.up hst200 rfl) (Stp.up hst250 rfl)))), hf254, hb251⟩ (.cons rfl (.cons rfl (.cons rfl (.cons rfl (.cons rfl .nil)))))
                · rintro ⟨c105, c106, k109, O110, v107⟩ wd111 ⟨rfl, hst112, hf108, hb104⟩
                  replace h := flowK_go hk114
                  try dsimp only at h hst112 hf108 hb104
                  refine (show At _ _ _ [(0, v0), (2, .pointer (some ⟨p13, 0, none⟩)), (3, v18), (6, .pointer (some ⟨p94, 0, none⟩)), (7, vi k109)] _ from ?_)
                  refine At.then ?_
                  refine WC.seq ?_
                  refine WC.region ?_
                  refine WL.y (Y.move rfl) rfl ?_
                  refine WL.y (Y.loadAg ty40 rfl rfl (hb104.cells 0 [vi (w64 ((r48.V / 8).toNat : Int)), vi (w64 ((r48.V % 8).toNat : Int)), vu c105, v107] rfl) rfl) rfl ?_
                  have hh258 := h
                  obtain ⟨p255, m256, c257, rfl⟩ := hf108.shape
                  have h := hh258
                  refine WL.buildSlice (O := O110) (R := rep_api_Fld) (vals := [(0, .agg [vi (w64 ((r48.V / 8).toNat : Int)), vi (w64 ((r48.V % 8).toNat : Int)), vu c105, (.slice p255 m256 c257)].toArray)]) 15 [vi (w64 ((r48.V / 8).toNat : Int)), vi (w64 ((r48.V % 8).toNat : Int)), vu c105, (.slice p255 m256 c257)] (xs := [(api_Fld.mk (w64 ((r48.V / 8).toNat : Int)) (w64 ((r48.V % 8).toNat : Int)) c105 c106)]) (by decide) ty22 ty40 (by decide) (by decide) (Fits.evalp rfl) (by kernel_rfl) rfl ⟨[vi (w64 ((r48.V / 8).toNat : Int)), vi (w64 ((r48.V % 8).toNat : Int)), vu c105, (.slice p255 m256 c257)], [], rfl, ⟨[vi (w64 ((r48.V / 8).toNat : Int))], [vi (w64 ((r48.V % 8).toNat : Int)), vu c105, (.slice p255 m256 c257)], rfl, rfl, ⟨[vi (w64 ((r48.V % 8).toNat : Int))], [vu c105, (.slice p255 m256 c257)], rfl, rfl, ⟨[vu c105], [(.slice p255 m256 c257)], rfl, rfl, ⟨_, rfl, hf108⟩⟩⟩⟩, rfl⟩ rfl ?_
                  intro v259 O261 wd262 hst263 ho260
                  obtain ⟨xs264, hxs264, h⟩ := bnd h
                  have hf265 := hf19.st hst56 rfl rfl rfl
                  have hf266 := hf265.st hst61 rfl rfl rfl
                  have hf267 := hf266.st hst63 rfl rfl rfl
                  have hf268 := hf267.st hst97 rfl rfl rfl
                  have hf269 := hf268.st hst99 rfl rfl rfl
                  have hf270 := hf269.st hst112 rfl rfl rfl
                  have hf271 := hf270.st hst263 rfl rfl rfl
                  refine WL.append (by decide) ty22 ty40 rfl (by decide) rfl rfl hf271 ho260.src hxs264 rfl ?_
                  intro v275 O272 wd273 hst274 ho276
                  refine WL.y (Y.assign rfl) rfl ?_
                  refine WL.nil ?_
                  refine At.then ?_
                  refine WC.region ?_
                  refine WL.y (Y.move rfl) rfl ?_
                  refine WL.y (Y.assign rfl) rfl ?_
                  refine WL.nil ?_
                  refine At.inBlock ?_
                  obtain ⟨O277, hst278, ho279⟩ := OwnSl.rlb 1002 rfl ho276
                  exact At.join (σ := (List api_Fld × Int × Own × Value)) (xs264, k109, O277, v275) ⟨go2 h, (Stp.trans (Stp.up hst56 rfl) (Stp.trans (Stp.up hst61 rfl) (Stp.trans (Stp.up hst63 rfl) (Stp.trans (Stp.up hst97 rfl) (Stp.trans (Stp.up hst99 rfl) (Stp.trans (Stp.up hst112 rfl) (Stp.trans (Stp.up hst263 rfl) (Stp.trans (Stp.up hst274 rfl) (Stp.up hst278 rfl))))))))), ho279⟩ (.cons rfl (.cons rfl (.cons rfl (.cons rfl .nil))))
      · rintro ⟨l39, at42, O43, v40⟩ wd44 ⟨rfl, hst45, hf41⟩
        replace h := flowK_go hk47
        try dsimp only at h hst45 hf41
        refine (show At _ _ _ [(0, v0), (2, .pointer (some ⟨p13, 0, none⟩)), (3, v40), (4, vi at42)] _ from ?_)
        obtain ⟨O280, hst281, ho282⟩ := OwnSl.rlb 1004 rfl hf41
        exact At.round (l39, at42, O280, v40) j33 (Nat.lt_succ_self _) ⟨next1 h hn35, (Stp.trans (Stp.up hst23 rfl) (Stp.trans (Stp.up hst45 rfl) (Stp.up hst281 rfl))), ho282⟩ (.cons rfl (.cons rfl (.cons rfl (.cons rfl .nil))))
    · refine WC.condF' rfl hc38 ?_
      refine WC.exit ?_
      refine At.thenX ?_
      refine At.loopX ?_
      obtain ⟨O283, hst284, ho285⟩ := OwnSl.rlb 1008 rfl hf19
      exact At.hitB (σ := (List api_Fld × Own × Value)) (l17, O283, v18) ⟨brk1 h hn35, (Stp.trans (Stp.up hst23 rfl) (Stp.up hst284 rfl)), ho285⟩ (.cons rfl (.cons rfl .nil))
  · rintro ⟨l24, O27, v25⟩ wd28 ⟨rfl, hst29, hf26⟩
    replace h := flowK_go hk32
    try dsimp only at h hst29 hf26
    refine (show At _ _ _ [(2, .pointer (some ⟨p13, 0, none⟩)), (3, v25)] _ from ?_)
    refine At.inBlockHit ?_
    refine At.then ?_
    refine WC.seq ?_
    refine WC.region ?_
    refine WL.y (Y.move rfl) rfl ?_
    have hh289 := h
    obtain ⟨p286, m287, c288, rfl⟩ := hf26.shape
    have h := hh289
    refine WL.y (Y.build (vals := [(0, (.slice p286 m287 c288))]) (cells := [(.slice p286 m287 c288), vi 0, vi 0]) (Fits.evalp rfl) (by kernel_rfl)) rfl ?_
    have hf290 := hb12.st hst29 rfl
    refine WL.store (v := .agg [(.slice p286 m287 c288), vi 0, vi 0].toArray) (cells' := [(.slice p286 m287 c288), vi 0, vi 0]) ty33 rfl rfl hf290 rfl (Nat.le_of_ble_eq_true rfl) rfl rfl ?_
    intro wd291 hst292 hb293
    refine WL.nil ?_
    refine At.then ?_
    refine WC.ret ?_
    obtain rfl := some1 h
    have hf294 := hf26.st hst292 rfl rfl rfl
    obtain ⟨O295, hst296, hf297⟩ := OwnSl.give rfl hf294
    have hs298 : Stp [11, 12, 13, 14, 16, 1002, 1004, 1008] (Lg.O0 A) w O295 wd291 := (Stp.trans (Stp.up hst16 rfl) (Stp.trans (Stp.up hst29 rfl) (Stp.trans (Stp.up hst292 rfl) (Stp.up hst296 rfl))))
    have hf299 := hb293.st hst296 rfl
    exact At.res (.inl rfl) rfl (.cell rfl (hf299.runAg 0 [(.slice p286 m287 c288), vi 0, vi 0] ty33 rfl rfl rfl) .nil) ⟨(.slice p286 m287 c288), rfl, (Stp.ext hs298 rfl rfl), (Sl.outI hf297 hs298 low0 O0_A)⟩

theorem c_law30_WireReads {A : Nat → Prop} {a0 : List UInt8} {v0 : Value} {w : World} (hs0 : Sl Rep.b w A v0 a0) {r0 : Bool} (h : law30_WireReads a0 = some r0) : Rets Try.prog 4 [v0] w (fun v w' => v = .bool r0 ∧ Ext w w') := by
  unfold law30_WireReads at h
  refine Rets.enter Try.func4 rfl rfl ?_
  have hf11 : Sl Rep.b w (imm (Lg.O0 A)) v0 a0 := (Sl.start hs0)
  refine (show WC _ _ _ _ [(0, v0)] _ from ?_)
  refine WC.seq ?_
  refine WC.region ?_
  refine WL.y (Y.assign rfl) rfl ?_
  refine WL.nil ?_
  refine At.then ?_
  refine WC.seq ?_
  refine WC.seq ?_
  refine WC.region ?_
  obtain ⟨r12, hp13, h⟩ := bnd h
  refine WL.call (vals := []) kok6 rfl rfl (c_law30_awake hp13) ?_
  rintro vr16 wd15 ⟨rfl, hm14⟩
  obtain ⟨O17, hold18, hnew19, hst20⟩ := adoptE (Lg.O0 A) (fun k => 1) hm14
  refine WL.y (Y.not rfl) rfl ?_
  refine WL.nil ?_
  refine At.then ?_
  rcases cnd h with ⟨hc21, h⟩ | ⟨hc21, h⟩
  · refine WC.condT' rfl hc21 ?_
    refine WC.seq ?_
    refine WC.region ?_
    refine WL.y (Y.assign rfl) rfl ?_
    refine WL.nil ?_
    refine At.then ?_
    refine WC.ret ?_
    refine At.thenR ?_
    obtain rfl := some1 h
    have hs22 : Stp [] (Lg.O0 A) w O17 wd15 := (Stp.up hst20 rfl)
    exact At.res (.inl rfl) rfl (.tmp rfl .nil) ⟨rfl, (Stp.ext hs22 rfl rfl)⟩
  · refine WC.condF' rfl hc21 ?_
    refine WC.skip ?_
    refine At.then ?_
    refine WC.seq ?_
    refine WC.seq ?_
    refine WC.region ?_
    refine WL.y (Y.move rfl) rfl ?_
    have hf23 := hf11.mono (imm_st hst20 rfl rfl)
    refine WL.y (Y.len ty25 rfl hf23) rfl ?_
    refine WL.y (Y.gtr_i rfl rfl) rfl ?_
    refine WL.nil ?_
    refine At.then ?_
    rcases cnd h with ⟨hc24, h⟩ | ⟨hc24, h⟩
    · refine WC.condT' rfl hc24 ?_
      refine WC.seq ?_
      refine WC.region ?_
      refine WL.y (Y.assign rfl) rfl ?_
      refine WL.nil ?_
      refine At.then ?_
      refine WC.ret ?_
      refine At.thenR ?_
      obtain rfl := some1 h
      have hs25 : Stp [] (Lg.O0 A) w O17 wd15 := (Stp.up hst20 rfl)
      exact At.res (.inl rfl) rfl (.tmp rfl .nil) ⟨rfl, (Stp.ext hs25 rfl rfl)⟩
    · refine WC.condF' rfl hc24 ?_
      refine WC.skip ?_
      refine At.then ?_
      refine WC.seq ?_
      refine WC.region ?_
      refine WL.y (Y.move rfl) rfl ?_
      obtain ⟨⟨r26, r27, r28⟩, hp29, h⟩ := bnd h
      refine WL.call (vals := [v0]) kok10 rfl rfl (c_wire_Decode (A := imm O17) hf23 hp29) ?_
      rintro vr34 wd33 ⟨u30, rfl, hm32, f31⟩
      obtain ⟨O35, hold36, hnew37, hst38⟩ := adoptE O17 (fun k => 1) hm32
      have hf39 : Sl rep_api_Fld wd33 (imm O35) u30 r26 := Sl.adoptI (O := O17) f31 (fun _ hk => hk) (fun _ _ => Nat.le_refl _) hold36 hnew37
      refine WL.y (Y.move rfl) rfl ?_
      refine WL.y (Y.extract rfl rfl) rfl ?_
      refine WL.y (Y.extract rfl rfl) rfl ?_
      refine WL.y (Y.extract rfl rfl) rfl ?_
      refine WL.y (Y.assign rfl) rfl ?_
      refine WL.y (Y.assign rfl) rfl ?_
      refine WL.y (Y.assign rfl) rfl ?_
      refine WL.nil ?_
      refine At.then ?_
      refine WC.seq ?_
      refine WC.region ?_
      refine WL.y (Y.move rfl) rfl ?_
      have hf40 := hf23.mono (imm_st hst38 rfl rfl)
      obtain ⟨r41, hp42, h⟩ := bnd h
      refine WL.call (vals := [v0]) kok12 rfl rfl (c_ref30_Decode (A := imm O35) hf40 hp42) ?_
      rintro vr47 wd46 ⟨u43, rfl, hm45, f44⟩
      obtain ⟨O48, hold49, hnew50, hst51⟩ := adoptE O35 (fun k => 1) hm45
      have hf52 : Sl rep_api_Fld wd46 (imm O48) u43 r41.L := Sl.adoptI (O := O35) f44 (fun _ hk => hk) (fun _ _ => Nat.le_refl _) hold49 hnew50
      refine WL.alloc (O := O48) 11 [.slice none 0 0, vi 0, vi 0] ty33 rfl rfl ?_
      intro p54 O55 wd56 hst57 hb53
      have hf58 := hf52.mono (imm_st hst57 rfl rfl)
      have hh62 := h
      obtain ⟨p59, m60, c61, rfl⟩ := hf58.shape
      have h := hh62
      refine WL.store (v := .agg [(.slice p59 m60 c61), vi r41.At, vi r41.E].toArray) (cells' := [(.slice p59 m60 c61), vi r41.At, vi r41.E]) ty33 rfl rfl hb53 rfl (Nat.le_of_ble_eq_true rfl) rfl rfl ?_
      intro wd63 hst64 hb65
      refine WL.nil ?_
      refine At.then ?_
      refine WC.seq ?_
      refine WC.seq ?_
      refine WC.region ?_
      refine WL.y (Y.move rfl) rfl ?_
      refine WL.y (Y.fieldAddr fo33_0 rfl) rfl ?_
      refine WL.y (Y.loadSc ty22 rfl rfl (hb65.cell 0 _ rfl)) rfl ?_
      have hf66 := hf39.mono (imm_st hst51 rfl rfl)
      have hf67 := hf66.mono (imm_st hst57 rfl rfl)
      have hf68 := hf67.mono (imm_st hst64 rfl rfl)
      have hf69 := hf58.mono (imm_st hst64 rfl rfl)
      obtain ⟨r70, hp71, h⟩ := bnd h
      refine WL.call (vals := [u30, (.slice p59 m60 c61)]) kok11 rfl rfl (c_ref30_Same (A := fun _ => True) (Sl.all hf68) (Sl.all hf69) hp71) ?_
      rintro vr74 wd73 ⟨rfl, hm72⟩
      obtain ⟨O75, hold76, hnew77, hst78⟩ := adoptE O55 (fun k => 1) hm72
      refine WL.y (Y.not rfl) rfl ?_
      refine WL.y (Y.move rfl) rfl ?_
      refine WL.cut 5 (σ := Unit) (fun _ w' => wd73 = w') (fun _ => [(0, v0), (3, u30), (5, vi r28), (6, .pointer (some ⟨p54, 0, none⟩)), (32, .bool ((!r70) || (!decide (r27 = r41.At))))]) ?_ ?_
      · refine WL.part 27 rfl (fun hE79 => ?_) (fun hE79 => ?_)
        · refine WL.gS rfl rfl rfl rfl ?_
          refine WL.gS rfl rfl rfl rfl ?_
          refine WL.gS rfl rfl rfl rfl ?_
          refine WL.gS rfl rfl rfl rfl ?_
          refine WL.y (Y.pick (b := true) rfl rfl) rfl ?_
          refine WL.ren (v' := .bool ((!r70) || (!decide (r27 = r41.At)))) 32 rfl (congrArg Value.bool (orT hE79)) ?_
          exact WL.nil (At.join () rfl (.cons rfl (.cons rfl (.cons rfl (.cons rfl (.cons rfl .nil))))))
        · refine WL.ung rfl rfl ?_
          refine WL.y (Y.move rfl) rfl ?_
          refine WL.ung rfl rfl ?_
          refine WL.y (Y.fieldAddr fo33_1 rfl) rfl ?_
          refine WL.ung rfl rfl ?_
          have hf80 := hb65.st hst78 rfl
          refine WL.y (Y.loadSc ty3 rfl rfl (hf80.cell 1 _ rfl)) rfl ?_
          refine WL.ung rfl rfl ?_
          refine WL.y (Y.neq_i rfl rfl) rfl ?_
          refine WL.y (Y.pick (b := false) rfl rfl) rfl ?_
          refine WL.ren (v' := .bool ((!r70) || (!decide (r27 = r41.At)))) 32 rfl (congrArg Value.bool (orF hE79)) ?_
          exact WL.nil (At.join () rfl (.cons rfl (.cons rfl (.cons rfl (.cons rfl (.cons rfl .nil))))))
      · rintro _ _ rfl
        refine (show WL _ _ _ _ _ [(0, v0), (3, u30), (5, vi r28), (6, .pointer (some ⟨p54, 0, none⟩)), (32, .bool ((!r70) || (!decide (r27 = r41.At))))] _ from ?_)
        refine WL.y (Y.move rfl) rfl ?_
        refine WL.cut 5 (σ := Unit) (fun _ w' => wd73 = w') (fun _ => [(0, v0), (3, u30), (5, vi r28), (38, .bool (((!r70) || (!decide (r27 = r41.At))) || (!decide (r28 = r41.E))))]) ?_ ?_
        · refine WL.part 33 rfl (fun hE81 => ?_) (fun hE81 => ?_)
          · refine WL.gS rfl rfl rfl rfl ?_
            refine WL.gS rfl rfl rfl rfl ?_
            refine WL.gS rfl rfl rfl rfl ?_
            refine WL.gS rfl rfl rfl rfl ?_
            refine WL.y (Y.pick (b := true) rfl rfl) rfl ?_
            refine WL.ren (v' := .bool (((!r70) || (!decide (r27 = r41.At))) || (!decide (r28 = r41.E)))) 38 rfl (congrArg Value.bool (orT hE81)) ?_
            exact WL.nil (At.join () rfl (.cons rfl (.cons rfl (.cons rfl (.cons rfl .nil)))))
          · refine WL.ung rfl rfl ?_
            refine WL.y (Y.move rfl) rfl ?_
            refine WL.ung rfl rfl ?_
            refine WL.y (Y.fieldAddr fo33_2 rfl) rfl ?_
            refine WL.ung rfl rfl ?_
            have hf82 := hb65.st hst78 rfl
            refine WL.y (Y.loadSc ty26 rfl rfl (hf82.cell 2 _ rfl)) rfl ?_
            refine WL.ung rfl rfl ?_
            refine WL.y (Y.neq_i rfl rfl) rfl ?_
            refine WL.y (Y.pick (b := false) rfl rfl) rfl ?_
            refine WL.ren (v' := .bool (((!r70) || (!decide (r27 = r41.At))) || (!decide (r28 = r41.E)))) 38 rfl (congrArg Value.bool (orF hE81)) ?_
            exact WL.nil (At.join () rfl (.cons rfl (.cons rfl (.cons rfl (.cons rfl .nil)))))
        · rintro _ _ rfl
          refine (show WL _ _ _ _ _ [(0, v0), (3, u30), (5, vi r28), (38, .bool (((!r70) || (!decide (r27 = r41.At))) || (!decide (r28 = r41.E))))] _ from ?_)
          refine WL.nil ?_
          refine At.then ?_
          rcases cnd h with ⟨hc83, h⟩ | ⟨hc83, h⟩
          · refine WC.condT' rfl hc83 ?_
            refine WC.seq ?_
            refine WC.region ?_
            refine WL.y (Y.assign rfl) rfl ?_
            refine WL.nil ?_
            refine At.then ?_
            refine WC.ret ?_
            refine At.thenR ?_
            obtain rfl := some1 h
            have hs84 : Stp [11] (Lg.O0 A) w O75 wd73 := (Stp.trans (Stp.up hst20 rfl) (Stp.trans (Stp.up hst38 rfl) (Stp.trans (Stp.up hst51 rfl) (Stp.trans (Stp.up hst57 rfl) (Stp.trans (Stp.up hst64 rfl) (Stp.up hst78 rfl))))))
            exact At.res (.inl rfl) rfl (.tmp rfl .nil) ⟨rfl, (Stp.ext hs84 rfl rfl)⟩
          · refine WC.condF' rfl hc83 ?_
            refine WC.skip ?_
            refine At.then ?_
            refine WC.seq ?_
            refine WC.seq ?_
            refine WC.region ?_
            refine WL.y (Y.move rfl) rfl ?_
            refine WL.y (Y.neq_i rfl rfl) rfl ?_
            refine WL.nil ?_
            refine At.then ?_
            rcases cnd h with ⟨hc85, h⟩ | ⟨hc85, h⟩
            · refine WC.condT' rfl hc85 ?_
              refine WC.seq ?_
              refine WC.region ?_
              refine WL.y (Y.assign rfl) rfl ?_
              refine WL.nil ?_
              refine At.then ?_
              refine WC.ret ?_
              refine At.thenR ?_
              obtain rfl := some1 h
              have hs86 : Stp [11] (Lg.O0 A) w O75 wd73 := (Stp.trans (Stp.up hst20 rfl) (Stp.trans (Stp.up hst38 rfl) (Stp.trans (Stp.up hst51 rfl) (Stp.trans (Stp.up hst57 rfl) (Stp.trans (Stp.up hst64 rfl) (Stp.up hst78 rfl))))))
              exact At.res (.inl rfl) rfl (.tmp rfl .nil) ⟨rfl, (Stp.ext hs86 rfl rfl)⟩
            · refine WC.condF' rfl hc85 ?_
              refine WC.skip ?_
              refine At.then ?_
              refine WC.seq ?_
              refine WC.region ?_
              refine WL.y (Y.move rfl) rfl ?_
              have hf87 := hf68.mono (imm_st hst78 rfl rfl)
              obtain ⟨⟨r88, r89⟩, hp90, h⟩ := bnd h
              refine WL.call (vals := [u30]) kok8 rfl rfl (c_wire_Encode (A := fun _ => True) (Sl.all hf87) hp90) ?_
              rintro vr95 wd94 ⟨u91, rfl, hm93, f92⟩
              obtain ⟨O96, hold97, hnew98, hst99⟩ := adoptE O75 (fun k => if Value.ownBlock u91 = some k then 12 else 1) hm93
              have hf100 : OwnSl 12 Rep.b 5 O96 wd94 u91 r88 := RowF.adopt 12 Flat.b f92 hnew98 (fun k hk => if_pos hk)
              refine WL.y (Y.move rfl) rfl ?_
              refine WL.y (Y.extract rfl rfl) rfl ?_
              refine WL.y (Y.extract rfl rfl) rfl ?_
              refine WL.y (Y.assign rfl) rfl ?_
              refine WL.y (Y.assign rfl) rfl ?_
              refine WL.nil ?_
              refine At.then ?_
              refine WC.seq ?_
              refine WC.region ?_
              refine WL.y (Y.move rfl) rfl ?_
              refine WL.y (Y.b2s ty25 ty5 ty9 rfl hf100.src.sl) rfl ?_
              refine WL.y (Y.move rfl) rfl ?_
              have hf101 := hf40.mono (imm_st hst51 rfl rfl)
              have hf102 := hf101.mono (imm_st hst57 rfl rfl)
              have hf103 := hf102.mono (imm_st hst64 rfl rfl)
              have hf104 := hf103.mono (imm_st hst78 rfl rfl)
              have hf105 := hf104.mono (imm_st hst99 rfl rfl)
              refine WL.y (Y.b2s ty25 ty5 ty9 rfl hf105) rfl ?_
              refine WL.y (Y.eql_s rfl rfl) rfl ?_
              refine WL.y (Y.move rfl) rfl ?_
              refine WL.cut 3 (σ := Unit) (fun _ w' => wd94 = w') (fun _ => [(54, .bool ((decide (r88 = a0)) && (decide (r89 = 0))))]) ?_ ?_
              · refine WL.part 51 rfl (fun hE106 => ?_) (fun hE106 => ?_)
                · refine WL.ung rfl rfl ?_
                  refine WL.y (Y.move rfl) rfl ?_
                  refine WL.ung rfl rfl ?_
                  refine WL.y (Y.eql_i rfl rfl) rfl ?_
                  refine WL.y (Y.pick (b := true) rfl rfl) rfl ?_
                  refine WL.ren (v' := .bool ((decide (r88 = a0)) && (decide (r89 = 0)))) 54 rfl (congrArg Value.bool (andT hE106)) ?_
                  exact WL.nil (At.join () rfl (.cons rfl .nil))
                · refine WL.gS rfl rfl rfl rfl ?_
                  refine WL.gS rfl rfl rfl rfl ?_
                  refine WL.y (Y.pick (b := false) rfl rfl) rfl ?_
                  refine WL.ren (v' := .bool ((decide (r88 = a0)) && (decide (r89 = 0)))) 54 rfl (congrArg Value.bool (andF hE106)) ?_
                  exact WL.nil (At.join () rfl (.cons rfl .nil))
              · rintro _ _ rfl
                refine (show WL _ _ _ _ _ [(54, .bool ((decide (r88 = a0)) && (decide (r89 = 0))))] _ from ?_)
                obtain ⟨t107, ht107, h⟩ := lt1 h
                refine WL.yE (Y.assign rfl) (congrArg Value.bool ht107.symm) rfl ?_
                refine WL.nil ?_
                refine At.then ?_
                refine WC.ret ?_
                obtain rfl := some1 h
                have hs108 : Stp [11] (Lg.O0 A) w O96 wd94 := (Stp.trans (Stp.up hst20 rfl) (Stp.trans (Stp.up hst38 rfl) (Stp.trans (Stp.up hst51 rfl) (Stp.trans (Stp.up hst57 rfl) (Stp.trans (Stp.up hst64 rfl) (Stp.trans (Stp.up hst78 rfl) (Stp.up hst99 rfl)))))))
                exact At.res (.inl rfl) rfl (.tmp rfl .nil) ⟨rfl, (Stp.ext hs108 rfl rfl)⟩

end Go.Lg
