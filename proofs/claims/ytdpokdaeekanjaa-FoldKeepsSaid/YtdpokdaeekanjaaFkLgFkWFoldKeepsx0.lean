/- The walks of FoldKeeps and of what it calls, printed by gen.py. -/
import Derived.Test.YtdpokdaeekanjaaFkLgPart1
import Derived.Test.YtdpokdaeekanjaaProg
set_option linter.unusedVariables false
namespace Go.Lg
open Go Go.Proofs
set_option maxRecDepth 100000
set_option maxHeartbeats 4000000
theorem fmix : Try.prog.follows .mixedOrders = true := by kernel_rfl
theorem ty3 : TyOk Try.prog 3 (.int .i64) 1 8 (.int .i64 0) := tyOk Try.underlying3 (by kernel_rfl)
theorem ty22 : TyOk Try.prog 22 (.int .u64) 1 8 (.int .u64 0) := tyOk Try.underlying22 (by kernel_rfl)
theorem ty23 : TyOk Try.prog 23 (.slice 22) 1 24 (.slice none 0 0) := tyOk Try.underlying23 (by kernel_rfl)
theorem ty25 : TyOk Try.prog 25 (.struct #[(Field.mk "Offset" 3 0 false "" "" 0), (Field.mk "Counts" 23 1 false "" "" 8)]) 2 32 (.agg #[(.int .i64 0), (.slice none 0 0)]) := tyOk Try.underlying25 (by kernel_rfl)
theorem ty27 : TyOk Try.prog 27 (.struct #[(Field.mk "Scale" 3 0 false "" "" 0), (Field.mk "Zero" 22 1 false "" "" 8), (Field.mk "Pos" 25 2 false "" "" 16), (Field.mk "Neg" 25 4 false "" "" 48)]) 6 80 (.agg #[(.int .i64 0), (.int .u64 0), (.int .i64 0), (.slice none 0 0), (.int .i64 0), (.slice none 0 0)]) := tyOk Try.underlying27 (by kernel_rfl)
theorem ty45 : TyOk Try.prog 45 (.slice 27) 1 24 (.slice none 0 0) := tyOk Try.underlying45 (by kernel_rfl)
theorem ty75 : TyOk Try.prog 75 (.array 2 25) 4 64 (.agg #[(.int .i64 0), (.slice none 0 0), (.int .i64 0), (.slice none 0 0)]) := tyOk Try.underlying75 (by kernel_rfl)
theorem ty82 : TyOk Try.prog 82 (.int .u64) 1 8 (.int .u64 0) := tyOk Try.underlying82 (by kernel_rfl)
theorem ty97 : TyOk Try.prog 97 (.array 2 27) 12 160 (.agg #[(.int .i64 0), (.int .u64 0), (.int .i64 0), (.slice none 0 0), (.int .i64 0), (.slice none 0 0), (.int .i64 0), (.int .u64 0), (.int .i64 0), (.slice none 0 0), (.int .i64 0), (.slice none 0 0)]) := tyOk Try.underlying97 (by kernel_rfl)
theorem ty98 : TyOk Try.prog 98 (.pointer 25) 1 8 (.pointer none) := tyOk Try.underlying98 (by kernel_rfl)
theorem ty99 : TyOk Try.prog 99 (.struct #[(Field.mk "to" 98 0 false "" "limnograph/fold" 0), (Field.mk "a" 25 1 false "" "limnograph/fold" 8), (Field.mk "b" 25 3 false "" "limnograph/fold" 40)]) 5 72 (.agg #[(.pointer none), (.int .i64 0), (.slice none 0 0), (.int .i64 0), (.slice none 0 0)]) := tyOk Try.underlying99 (by kernel_rfl)
theorem ty100 : TyOk Try.prog 100 (.slice 99) 1 24 (.slice none 0 0) := tyOk Try.underlying100 (by kernel_rfl)
theorem fo25_0 : FieldOk Try.prog 25 0 0 := fieldOk Try.underlying25 rfl rfl (by kernel_rfl)
theorem fo25_1 : FieldOk Try.prog 25 1 1 := fieldOk Try.underlying25 rfl rfl (by kernel_rfl)
theorem fo27_0 : FieldOk Try.prog 27 0 0 := fieldOk Try.underlying27 rfl rfl (by kernel_rfl)
theorem fo27_1 : FieldOk Try.prog 27 1 1 := fieldOk Try.underlying27 rfl rfl (by kernel_rfl)
theorem fo27_2 : FieldOk Try.prog 27 2 2 := fieldOk Try.underlying27 rfl rfl (by kernel_rfl)
theorem fo27_3 : FieldOk Try.prog 27 3 4 := fieldOk Try.underlying27 rfl rfl (by kernel_rfl)
theorem fo99_0 : FieldOk Try.prog 99 0 0 := fieldOk Try.underlying99 rfl rfl (by kernel_rfl)
theorem fo99_1 : FieldOk Try.prog 99 1 1 := fieldOk Try.underlying99 rfl rfl (by kernel_rfl)
theorem fo99_2 : FieldOk Try.prog 99 2 3 := fieldOk Try.underlying99 rfl rfl (by kernel_rfl)
theorem x64_58 : X64 Try.prog 58 := x64 Try.func58 (by kernel_rfl) rfl (by kernel_rfl) (by kernel_rfl)
theorem kok16 : CallOk Try.prog 16 := callOk Try.func16 (by kernel_rfl) rfl
theorem kok17 : CallOk Try.prog 17 := callOk Try.func17 (by kernel_rfl) rfl
theorem kok19 : CallOk Try.prog 19 := callOk Try.func19 (by kernel_rfl) rfl
theorem kok21 : CallOk Try.prog 21 := callOk Try.func21 (by kernel_rfl) rfl
theorem kok22 : CallOk Try.prog 22 := callOk Try.func22 (by kernel_rfl) rfl
theorem kok23 : CallOk Try.prog 23 := callOk Try.func23 (by kernel_rfl) rfl
theorem kok27 : CallOk Try.prog 27 := callOk Try.func27 (by kernel_rfl) rfl
theorem kok28 : CallOk Try.prog 28 := callOk Try.func28 (by kernel_rfl) rfl
theorem kok37 : CallOk Try.prog 37 := callOk Try.func37 (by kernel_rfl) rfl
theorem kok38 : CallOk Try.prog 38 := callOk Try.func38 (by kernel_rfl) rfl
theorem kok40 : CallOk Try.prog 40 := callOk Try.func40 (by kernel_rfl) rfl
theorem kok42 : CallOk Try.prog 42 := callOk Try.func42 (by kernel_rfl) rfl
theorem kok44 : CallOk Try.prog 44 := callOk Try.func44 (by kernel_rfl) rfl
theorem kok45 : CallOk Try.prog 45 := callOk Try.func45 (by kernel_rfl) rfl
theorem kok46 : CallOk Try.prog 46 := callOk Try.func46 (by kernel_rfl) rfl
theorem kok57 : CallOk Try.prog 57 := callOk Try.func57 (by kernel_rfl) rfl
theorem kok60 : CallOk Try.prog 60 := callOk Try.func60 (by kernel_rfl) rfl
theorem kok62 : CallOk Try.prog 62 := callOk Try.func62 (by kernel_rfl) rfl
theorem kok64 : CallOk Try.prog 64 := callOk Try.func64 (by kernel_rfl) rfl
theorem kok65 : CallOk Try.prog 65 := callOk Try.func65 (by kernel_rfl) rfl
theorem kok71 : CallOk Try.prog 71 := callOk Try.func71 (by kernel_rfl) rfl
theorem kok73 : CallOk Try.prog 73 := callOk Try.func73 (by kernel_rfl) rfl
theorem kok98 : CallOk Try.prog 98 := callOk Try.func98 (by kernel_rfl) rfl
theorem c_ref08_Light {A : Nat → Prop} {v0_3 : Value} {v0_5 : Value} {a0 : api_Hist} {w : World} (hs0_3 : Sl Rep.u w A v0_3 a0.Pos.Counts) (hs0_5 : Sl Rep.u w A v0_5 a0.Neg.Counts) {r0 : Bool} (h : ref08_Light a0 = some r0) : Rets Try.prog 16 [Value.agg (List.toArray [vi a0.Scale, vu a0.Zero, vi a0.Pos.Offset, v0_3, vi a0.Neg.Offset, v0_5])] w (fun v w' => v = Value.bool r0 ∧ Ext w w') := by
 unfold ref08_Light at h
 refine Rets.enter Try.func16 rfl rfl ?_
 have hf11 : Sl Rep.u w (imm (Lg.O0 A)) v0_3 a0.Pos.Counts := (Sl.start hs0_3)
 have hf12 : Sl Rep.u w (imm (Lg.O0 A)) v0_5 a0.Neg.Counts := (Sl.start hs0_5)
 refine (show WC _ _ _ _ [(0, Value.agg (List.toArray [vi a0.Scale, vu a0.Zero, vi a0.Pos.Offset, v0_3, vi a0.Neg.Offset, v0_5]))] _ from ?_)
 refine WC.seq ?_
 refine WC.region ?_
 have hh16 := h
 obtain ⟨p13, m14, c15, rfl⟩ := hf11.shape
 have h := hh16
 have hh20 := h
 obtain ⟨p17, m18, c19, rfl⟩ := hf12.shape
 have h := hh20
 refine WL.box (O := (Lg.O0 A)) 11 [vi a0.Scale, vu a0.Zero, vi a0.Pos.Offset, (Value.slice p13 m14 c15), vi a0.Neg.Offset, (Value.slice p17 m18 c19)] rfl rfl rfl ?_
 intro p22 O23 wd24 hst25 hb21
 refine WL.y (Y.assign rfl) rfl ?_
 refine WL.nil ?_
 refine At.then ?_
 refine WC.seq ?_
 refine WC.region ?_
 refine WL.y (Y.fieldAddr fo27_2 rfl) rfl ?_
 refine WL.y (Y.fieldAddr fo25_1 rfl) rfl ?_
 refine WL.y (Y.loadSc ty23 rfl rfl (hb21.cell 3 _ rfl)) rfl ?_
 have hf26 := hf11.mono (imm_st hst25 rfl rfl)
 refine WL.y (Y.len ty23 rfl hf26) rfl ?_
 refine WL.y (Y.leq_i rfl rfl) rfl ?_
 refine WL.y (Y.move rfl) rfl ?_
 refine WL.cut 6 (σ := Unit) (fun _ w' => wd24 = w') (fun _ => [(14, Value.bool ((decide ((a0.Pos.Counts.length : Int) ≤ 300)) && (decide ((a0.Neg.Counts.length : Int) ≤ 300))))]) ?_ ?_
 ·refine WL.part 8 rfl (fun hE27 => ?_) (fun hE27 => ?_)
  ·refine WL.ung rfl rfl ?_
   refine WL.y (Y.fieldAddr fo27_3 rfl) rfl ?_
   refine WL.ung rfl rfl ?_
   refine WL.y (Y.fieldAddr fo25_1 rfl) rfl ?_
   refine WL.ung rfl rfl ?_
   refine WL.y (Y.loadSc ty23 rfl rfl (hb21.cell 5 _ rfl)) rfl ?_
   refine WL.ung rfl rfl ?_
   have hf28 := hf12.mono (imm_st hst25 rfl rfl)
   refine WL.y (Y.len ty23 rfl hf28) rfl ?_
   refine WL.ung rfl rfl ?_
   refine WL.y (Y.leq_i rfl rfl) rfl ?_
   refine WL.y (Y.pick (b := true) rfl rfl) rfl ?_
   refine WL.ren (v' := Value.bool ((decide ((a0.Pos.Counts.length : Int) ≤ 300)) && (decide ((a0.Neg.Counts.length : Int) ≤ 300)))) 14 rfl (congrArg Value.bool (andT hE27)) ?_
   exact WL.nil (At.join () rfl (.cons rfl .nil))
  ·refine WL.gS rfl rfl rfl rfl ?_
   refine WL.gS rfl rfl rfl rfl ?_
   refine WL.gS rfl rfl rfl rfl ?_
   refine WL.gS rfl rfl rfl rfl ?_
   refine WL.gS rfl rfl rfl rfl ?_
   refine WL.y (Y.pick (b := false) rfl rfl) rfl ?_
   refine WL.ren (v' := Value.bool ((decide ((a0.Pos.Counts.length : Int) ≤ 300)) && (decide ((a0.Neg.Counts.length : Int) ≤ 300)))) 14 rfl (congrArg Value.bool (andF hE27)) ?_
   exact WL.nil (At.join () rfl (.cons rfl .nil))
 ·rintro _ _ rfl
  refine (show WL _ _ _ _ _ [(14, Value.bool ((decide ((a0.Pos.Counts.length : Int) ≤ 300)) && (decide ((a0.Neg.Counts.length : Int) ≤ 300))))] _ from ?_)
  obtain ⟨t29, ht29, h⟩ := lt1 h
  refine WL.yE (Y.assign rfl) (congrArg Value.bool ht29.symm) rfl ?_
  refine WL.nil ?_
  refine At.then ?_
  refine WC.ret ?_
  obtain rfl := some1 h
  have hs30 : Stp [] (Lg.O0 A) w O23 wd24 := (Stp.up hst25 rfl)
  exact At.res (.inl rfl) rfl (.tmp rfl .nil) ⟨rfl, (Stp.ext hs30 rfl rfl)⟩
theorem c_ref08_SameSide {A : Nat → Prop} {v0_1 : Value} {a0 : api_Side} {v1_1 : Value} {a1 : api_Side} {w : World} (hs0_1 : Sl Rep.u w A v0_1 a0.Counts) (hs1_1 : Sl Rep.u w A v1_1 a1.Counts) {r0 : Bool} (h : ref08_SameSide a0 a1 = some r0) : Rets Try.prog 27 [Value.agg (List.toArray [vi a0.Offset, v0_1]), Value.agg (List.toArray [vi a1.Offset, v1_1])] w (fun v w' => v = Value.bool r0 ∧ Ext w w') := by
 unfold ref08_SameSide at h
 refine Rets.enter Try.func27 rfl rfl ?_
 have hf11 : Sl Rep.u w (imm (Lg.O0 A)) v0_1 a0.Counts := (Sl.start hs0_1)
 have hf12 : Sl Rep.u w (imm (Lg.O0 A)) v1_1 a1.Counts := (Sl.start hs1_1)
 refine (show WC _ _ _ _ [(0, Value.agg (List.toArray [vi a0.Offset, v0_1])), (1, Value.agg (List.toArray [vi a1.Offset, v1_1]))] _ from ?_)
 refine WC.seq ?_
 refine WC.region ?_
 have hh16 := h
 obtain ⟨p13, m14, c15, rfl⟩ := hf11.shape
 have h := hh16
 refine WL.box (O := (Lg.O0 A)) 11 [vi a0.Offset, (Value.slice p13 m14 c15)] rfl rfl rfl ?_
 intro p18 O19 wd20 hst21 hb17
 have hf22 := hf12.mono (imm_st hst21 rfl rfl)
 have hh26 := h
 obtain ⟨p23, m24, c25, rfl⟩ := hf22.shape
 have h := hh26
 refine WL.box (O := O19) 12 [vi a1.Offset, (Value.slice p23 m24 c25)] rfl rfl rfl ?_
 intro p28 O29 wd30 hst31 hb27
 refine WL.y (Y.assign rfl) rfl ?_
 refine WL.nil ?_
 refine At.then ?_
 refine WC.seq ?_
 refine WC.seq ?_
 refine WC.region ?_
 refine WL.y (Y.fieldAddr fo25_0 rfl) rfl ?_
 have hf32 := hb17.st hst31 rfl
 refine WL.y (Y.loadSc ty3 rfl rfl (hf32.cell 0 _ rfl)) rfl ?_
 refine WL.y (Y.fieldAddr fo25_0 rfl) rfl ?_
 refine WL.y (Y.loadSc ty3 rfl rfl (hb27.cell 0 _ rfl)) rfl ?_
 refine WL.y (Y.neq_i rfl rfl) rfl ?_
 refine WL.y (Y.move rfl) rfl ?_
 refine WL.cut 8 (σ := Unit) (fun _ w' => wd30 = w') (fun _ => [(2, Value.pointer (some ⟨p18, 0, none⟩)), (3, Value.pointer (some ⟨p28, 0, none⟩)), (19, Value.bool ((!decide (a0.Offset = a1.Offset)) || (!decide ((a0.Counts.length : Int) = (a1.Counts.length : Int)))))]) ?_ ?_
 ·refine WL.part 11 rfl (fun hE33 => ?_) (fun hE33 => ?_)
  ·refine WL.gS rfl rfl rfl rfl ?_
   refine WL.gS rfl rfl rfl rfl ?_
   refine WL.gS rfl rfl rfl rfl ?_
   refine WL.gS rfl rfl rfl rfl ?_
   refine WL.gS rfl rfl rfl rfl ?_
   refine WL.gS rfl rfl rfl rfl ?_
   refine WL.gS rfl rfl rfl rfl ?_
   refine WL.y (Y.pick (b := true) rfl rfl) rfl ?_
   refine WL.ren (v' := Value.bool ((!decide (a0.Offset = a1.Offset)) || (!decide ((a0.Counts.length : Int) = (a1.Counts.length : Int))))) 19 rfl (congrArg Value.bool (orT hE33)) ?_
   exact WL.nil (At.join () rfl (.cons rfl (.cons rfl (.cons rfl .nil))))
  ·refine WL.ung rfl rfl ?_
   refine WL.y (Y.fieldAddr fo25_1 rfl) rfl ?_
   refine WL.ung rfl rfl ?_
   refine WL.y (Y.loadSc ty23 rfl rfl (hf32.cell 1 _ rfl)) rfl ?_
   refine WL.ung rfl rfl ?_
   have hf34 := hf11.mono (imm_st hst21 rfl rfl)
   have hf35 := hf34.mono (imm_st hst31 rfl rfl)
   refine WL.y (Y.len ty23 rfl hf35) rfl ?_
   refine WL.ung rfl rfl ?_
   refine WL.y (Y.fieldAddr fo25_1 rfl) rfl ?_
   refine WL.ung rfl rfl ?_
   refine WL.y (Y.loadSc ty23 rfl rfl (hb27.cell 1 _ rfl)) rfl ?_
   refine WL.ung rfl rfl ?_
   have hf36 := hf22.mono (imm_st hst31 rfl rfl)
   refine WL.y (Y.len ty23 rfl hf36) rfl ?_
   refine WL.ung rfl rfl ?_
   refine WL.y (Y.neq_i rfl rfl) rfl ?_
   refine WL.y (Y.pick (b := false) rfl rfl) rfl ?_
   refine WL.ren (v' := Value.bool ((!decide (a0.Offset = a1.Offset)) || (!decide ((a0.Counts.length : Int) = (a1.Counts.length : Int))))) 19 rfl (congrArg Value.bool (orF hE33)) ?_
   exact WL.nil (At.join () rfl (.cons rfl (.cons rfl (.cons rfl .nil))))
 ·rintro _ _ rfl
  refine (show WL _ _ _ _ _ [(2, Value.pointer (some ⟨p18, 0, none⟩)), (3, Value.pointer (some ⟨p28, 0, none⟩)), (19, Value.bool ((!decide (a0.Offset = a1.Offset)) || (!decide ((a0.Counts.length : Int) = (a1.Counts.length : Int)))))] _ from ?_)
  refine WL.nil ?_
  refine At.then ?_
  rcases cnd h with ⟨hc37, h⟩ | ⟨hc37, h⟩
  ·refine WC.condT' rfl hc37 ?_
   refine WC.seq ?_
   refine WC.region ?_
   refine WL.y (Y.assign rfl) rfl ?_
   refine WL.nil ?_
   refine At.then ?_
   refine WC.ret ?_
   refine At.thenR ?_
   obtain rfl := some1 h
   have hs38 : Stp [] (Lg.O0 A) w O29 wd30 := (Stp.trans (Stp.up hst21 rfl) (Stp.up hst31 rfl))
   exact At.res (.inl rfl) rfl (.tmp rfl .nil) ⟨rfl, (Stp.ext hs38 rfl rfl)⟩
  ·refine WC.condF' rfl hc37 ?_
   refine WC.skip ?_
   refine At.then ?_
   refine WC.seq ?_
   refine WC.seq ?_
   refine WC.region ?_
   refine WL.y (Y.assign rfl) rfl ?_
   refine WL.nil ?_
   refine At.then ?_
   refine WC.block ?_
   obtain ⟨p46, h, hk48⟩ := flow1 h
   obtain ⟨k47, h⟩ := loop_some h
   refine WC.joinB 0 (σ := Own) (fun x w' => p46 = .go () ∧ Stp [] O29 wd30 x w') (fun x => []) ?_ ?_
   ·refine WC.loop (σ := (Int × Own)) (fun x k w' => loopN k (ref08_SameSide_lp1 a0 a1) x.1 = some p46 ∧ Stp [] O29 wd30 x.2 w') (fun x => [(2, Value.pointer (some ⟨p18, 0, none⟩)), (3, Value.pointer (some ⟨p28, 0, none⟩)), (5, vi x.1)]) (0, O29) k47 (.cons rfl (.cons rfl (.cons rfl .nil))) ⟨h, (Stp.refl _ _ _)⟩ ?_
    rintro ⟨i39, O40⟩ k47 wd41 ⟨h, hst42⟩
    obtain ⟨j49, q50, rfl, h, hn51⟩ := rnd1 h
    unfold ref08_SameSide_lp1 at h
    try dsimp only at h hst42
    refine (show WC _ _ _ _ [(2, Value.pointer (some ⟨p18, 0, none⟩)), (3, Value.pointer (some ⟨p28, 0, none⟩)), (5, vi i39)] _ from ?_)
    refine WC.seq ?_
    refine WC.seq ?_
    refine WC.region ?_
    refine WL.y (Y.move rfl) rfl ?_
    refine WL.y (Y.fieldAddr fo25_1 rfl) rfl ?_
    have hf52 := hf32.st hst42 rfl
    refine WL.y (Y.loadSc ty23 rfl rfl (hf52.cell 1 _ rfl)) rfl ?_
    have hf53 := hf11.mono (imm_st hst21 rfl rfl)
    have hf54 := hf53.mono (imm_st hst31 rfl rfl)
    have hf55 := hf54.mono (imm_st hst42 rfl rfl)
    refine WL.y (Y.len ty23 rfl hf55) rfl ?_
    refine WL.y (Y.lss_i rfl rfl) rfl ?_
    refine WL.nil ?_
    refine At.then ?_
    rcases cnd h with ⟨hc56, h⟩ | ⟨hc56, h⟩
    ·refine WC.condT' rfl hc56 ?_
     refine WC.skip ?_
     refine At.then ?_
     refine WC.seq ?_
     refine WC.block ?_
     refine WC.seq ?_
     refine WC.draw 10 O40 fmix (by kernel_rfl) ?_
     intro wd57 hst58
     refine WS.y (Y.fieldAddr fo25_1 rfl) rfl ?_
     have hf59 := hf52.st hst58 rfl
     refine WS.y (Y.loadSc ty23 rfl rfl (hf59.cell 1 _ rfl)) rfl ?_
     refine WS.y (Y.move rfl) rfl ?_
     obtain ⟨e60, he60, h⟩ := bnd h
     have hf69 := hf55.mono (imm_st hst58 rfl rfl)
     obtain ⟨b61, off70, cap68, cs67, hv62, hi63, hl64, hc65, hok66, hA71⟩ := Sl.at2 hf69 he60
     obtain rfl := hok66
     replace hc65 : CellsAt _ _ _ [vu e60] := hc65
     have hca72 := CAt.imm hc65 hA71
     refine WS.y (Y.indexAddr ty23 ty22 rfl hv62 rfl hi63 hl64) rfl ?_
     refine WS.y (Y.loadSc ty22 rfl rfl hca72.at_) rfl ?_
     refine WS.y (Y.fieldAddr fo25_1 rfl) rfl ?_
     have hf73 := hb27.st hst42 rfl
     have hf74 := hf73.st hst58 rfl
     refine WS.y (Y.loadSc ty23 rfl rfl (hf74.cell 1 _ rfl)) rfl ?_
     refine WS.y (Y.move rfl) rfl ?_
     obtain ⟨e75, he75, h⟩ := bnd h
     have hf84 := hf22.mono (imm_st hst31 rfl rfl)
     have hf85 := hf84.mono (imm_st hst42 rfl rfl)
     have hf86 := hf85.mono (imm_st hst58 rfl rfl)
     obtain ⟨b76, off87, cap83, cs82, hv77, hi78, hl79, hc80, hok81, hA88⟩ := Sl.at2 hf86 he75
     obtain rfl := hok81
     replace hc80 : CellsAt _ _ _ [vu e75] := hc80
     have hca89 := CAt.imm hc80 hA88
     refine WS.y (Y.indexAddr ty23 ty22 rfl hv77 rfl hi78 hl79) rfl ?_
     refine WS.y (Y.loadSc ty22 rfl rfl hca89.at_) rfl ?_
     refine WS.tail ?_
     refine WL.y (Y.neq_u rfl rfl) rfl ?_
     refine WL.nil ?_
     refine At.then ?_
     rcases cnd h with ⟨hc90, h⟩ | ⟨hc90, h⟩
     ·refine WC.condT' rfl hc90 ?_
      refine WC.seq ?_
      refine WC.region ?_
      refine WL.y (Y.assign rfl) rfl ?_
      refine WL.nil ?_
      refine At.then ?_
      refine WC.ret ?_
      refine At.inBlockR ?_
      refine At.thenR ?_
      refine At.loopR ?_
      have h := outr1 h hn51 hk48
      refine At.joinBR ?_
      refine At.inBlockR ?_
      refine At.thenR ?_
      obtain rfl := some1 h
      have hs91 : Stp [] (Lg.O0 A) w O40 wd57 := (Stp.trans (Stp.up hst21 rfl) (Stp.trans (Stp.up hst31 rfl) (Stp.trans (Stp.up hst42 rfl) (Stp.up hst58 rfl))))
      exact At.res (.inl rfl) rfl (.tmp rfl .nil) ⟨rfl, (Stp.ext hs91 rfl rfl)⟩
     ·refine WC.condF' rfl hc90 ?_
      refine WC.skip ?_
      refine At.inBlock ?_
      refine At.then ?_
      refine WC.region ?_
      refine WL.y (Y.move rfl) rfl ?_
      refine WL.y (Y.add_i rfl rfl) rfl ?_
      obtain ⟨i92, hi92, h⟩ := lt1 h
      refine WL.yE (Y.assign rfl) (congrArg vi hi92.symm) rfl ?_
      refine WL.nil ?_
      exact At.round (i92, O40) j49 (Nat.lt_succ_self _) ⟨next1 h hn51, (Stp.trans (Stp.up hst42 rfl) (Stp.up hst58 rfl))⟩ (.cons rfl (.cons rfl (.cons rfl .nil)))
    ·refine WC.condF' rfl hc56 ?_
     refine WC.exit ?_
     refine At.thenX ?_
     refine At.loopX ?_
     exact At.hitB (σ := Own) O40 ⟨brk1 h hn51, (Stp.up hst42 rfl)⟩ .nil
   ·rintro O43 wd44 ⟨rfl, hst45⟩
    replace h := flowK_go hk48
    refine (show At _ _ _ [] _ from ?_)
    refine At.inBlockHit ?_
    refine At.then ?_
    refine WC.seq ?_
    refine WC.region ?_
    refine WL.y (Y.assign rfl) rfl ?_
    refine WL.nil ?_
    refine At.then ?_
    refine WC.ret ?_
    obtain rfl := some1 h
    have hs93 : Stp [] (Lg.O0 A) w O43 wd44 := (Stp.trans (Stp.up hst21 rfl) (Stp.trans (Stp.up hst31 rfl) (Stp.up hst45 rfl)))
    exact At.res (.inl rfl) rfl (.tmp rfl .nil) ⟨rfl, (Stp.ext hs93 rfl rfl)⟩
theorem c_ref08_Same {A : Nat → Prop} {v0_3 : Value} {v0_5 : Value} {a0 : api_Hist} {v1_3 : Value} {v1_5 : Value} {a1 : api_Hist} {w : World} (hs0_3 : Sl Rep.u w A v0_3 a0.Pos.Counts) (hs0_5 : Sl Rep.u w A v0_5 a0.Neg.Counts) (hs1_3 : Sl Rep.u w A v1_3 a1.Pos.Counts) (hs1_5 : Sl Rep.u w A v1_5 a1.Neg.Counts) {r0 : Bool} (h : ref08_Same a0 a1 = some r0) : Rets Try.prog 22 [Value.agg (List.toArray [vi a0.Scale, vu a0.Zero, vi a0.Pos.Offset, v0_3, vi a0.Neg.Offset, v0_5]), Value.agg (List.toArray [vi a1.Scale, vu a1.Zero, vi a1.Pos.Offset, v1_3, vi a1.Neg.Offset, v1_5])] w (fun v w' => v = Value.bool r0 ∧ Ext w w') := by
 unfold ref08_Same at h
 refine Rets.enter Try.func22 rfl rfl ?_
 have hf11 : Sl Rep.u w (imm (Lg.O0 A)) v0_3 a0.Pos.Counts := (Sl.start hs0_3)
 have hf12 : Sl Rep.u w (imm (Lg.O0 A)) v0_5 a0.Neg.Counts := (Sl.start hs0_5)
 have hf13 : Sl Rep.u w (imm (Lg.O0 A)) v1_3 a1.Pos.Counts := (Sl.start hs1_3)
 have hf14 : Sl Rep.u w (imm (Lg.O0 A)) v1_5 a1.Neg.Counts := (Sl.start hs1_5)
 refine (show WC _ _ _ _ [(0, Value.agg (List.toArray [vi a0.Scale, vu a0.Zero, vi a0.Pos.Offset, v0_3, vi a0.Neg.Offset, v0_5])), (1, Value.agg (List.toArray [vi a1.Scale, vu a1.Zero, vi a1.Pos.Offset, v1_3, vi a1.Neg.Offset, v1_5]))] _ from ?_)
 refine WC.seq ?_
 refine WC.region ?_
 have hh18 := h
 obtain ⟨p15, m16, c17, rfl⟩ := hf11.shape
 have h := hh18
 have hh22 := h
 obtain ⟨p19, m20, c21, rfl⟩ := hf12.shape
 have h := hh22
 refine WL.box (O := (Lg.O0 A)) 11 [vi a0.Scale, vu a0.Zero, vi a0.Pos.Offset, (Value.slice p15 m16 c17), vi a0.Neg.Offset, (Value.slice p19 m20 c21)] rfl rfl rfl ?_
 intro p24 O25 wd26 hst27 hb23
 have hf28 := hf13.mono (imm_st hst27 rfl rfl)
 have hh32 := h
 obtain ⟨p29, m30, c31, rfl⟩ := hf28.shape
 have h := hh32
 have hf33 := hf14.mono (imm_st hst27 rfl rfl)
 have hh37 := h
 obtain ⟨p34, m35, c36, rfl⟩ := hf33.shape
 have h := hh37
 refine WL.box (O := O25) 12 [vi a1.Scale, vu a1.Zero, vi a1.Pos.Offset, (Value.slice p29 m30 c31), vi a1.Neg.Offset, (Value.slice p34 m35 c36)] rfl rfl rfl ?_
 intro p39 O40 wd41 hst42 hb38
 refine WL.y (Y.assign rfl) rfl ?_
 refine WL.nil ?_
 refine At.then ?_
 refine WC.seq ?_
 refine WC.region ?_
 refine WL.y (Y.fieldAddr fo27_0 rfl) rfl ?_
 have hf43 := hb23.st hst42 rfl
 refine WL.y (Y.loadSc ty3 rfl rfl (hf43.cell 0 _ rfl)) rfl ?_
 refine WL.y (Y.fieldAddr fo27_0 rfl) rfl ?_
 refine WL.y (Y.loadSc ty3 rfl rfl (hb38.cell 0 _ rfl)) rfl ?_
 refine WL.y (Y.eql_i rfl rfl) rfl ?_
 refine WL.y (Y.move rfl) rfl ?_
 refine WL.cut 6 (σ := Unit) (fun _ w' => wd41 = w') (fun _ => [(2, Value.pointer (some ⟨p24, 0, none⟩)), (3, Value.pointer (some ⟨p39, 0, none⟩)), (16, Value.bool ((decide (a0.Scale = a1.Scale)) && (decide (a0.Zero = a1.Zero))))]) ?_ ?_
 ·refine WL.part 10 rfl (fun hE44 => ?_) (fun hE44 => ?_)
  ·refine WL.ung rfl rfl ?_
   refine WL.y (Y.fieldAddr fo27_1 rfl) rfl ?_
   refine WL.ung rfl rfl ?_
   refine WL.y (Y.loadSc ty22 rfl rfl (hf43.cell 1 _ rfl)) rfl ?_
   refine WL.ung rfl rfl ?_
   refine WL.y (Y.fieldAddr fo27_1 rfl) rfl ?_
   refine WL.ung rfl rfl ?_
   refine WL.y (Y.loadSc ty22 rfl rfl (hb38.cell 1 _ rfl)) rfl ?_
   refine WL.ung rfl rfl ?_
   refine WL.y (Y.eql_u rfl rfl) rfl ?_
   refine WL.y (Y.pick (b := true) rfl rfl) rfl ?_
   refine WL.ren (v' := Value.bool ((decide (a0.Scale = a1.Scale)) && (decide (a0.Zero = a1.Zero)))) 16 rfl (congrArg Value.bool (andT hE44)) ?_
   exact WL.nil (At.join () rfl (.cons rfl (.cons rfl (.cons rfl .nil))))
  ·refine WL.gS rfl rfl rfl rfl ?_
   refine WL.gS rfl rfl rfl rfl ?_
   refine WL.gS rfl rfl rfl rfl ?_
   refine WL.gS rfl rfl rfl rfl ?_
   refine WL.gS rfl rfl rfl rfl ?_
   refine WL.y (Y.pick (b := false) rfl rfl) rfl ?_
   refine WL.ren (v' := Value.bool ((decide (a0.Scale = a1.Scale)) && (decide (a0.Zero = a1.Zero)))) 16 rfl (congrArg Value.bool (andF hE44)) ?_
   exact WL.nil (At.join () rfl (.cons rfl (.cons rfl (.cons rfl .nil))))
 ·rintro _ _ rfl
  refine (show WL _ _ _ _ _ [(2, Value.pointer (some ⟨p24, 0, none⟩)), (3, Value.pointer (some ⟨p39, 0, none⟩)), (16, Value.bool ((decide (a0.Scale = a1.Scale)) && (decide (a0.Zero = a1.Zero))))] _ from ?_)
  refine WL.y (Y.move rfl) rfl ?_
  obtain ⟨p49, h, hk50⟩ := bnd h
  refine WL.cut 6 (σ := (Bool × Own)) (fun x w' => x.1 = p49 ∧ Stp [] O40 wd41 x.2 w') (fun x => [(2, Value.pointer (some ⟨p24, 0, none⟩)), (3, Value.pointer (some ⟨p39, 0, none⟩)), (23, Value.bool x.1)]) ?_ ?_
  ·rcases cnd h with ⟨hE51, h⟩ | ⟨hE51, h⟩
   ·refine WL.ren 17 rfl (congrArg Value.bool hE51) ?_
    refine WL.ung rfl rfl ?_
    refine WL.y (Y.fieldAddr fo27_2 rfl) rfl ?_
    refine WL.ung rfl rfl ?_
    refine WL.y (Y.loadAg ty25 rfl rfl (hf43.cells 2 [vi a0.Pos.Offset, (Value.slice p15 m16 c17)] rfl) rfl) rfl ?_
    refine WL.ung rfl rfl ?_
    refine WL.y (Y.fieldAddr fo27_2 rfl) rfl ?_
    refine WL.ung rfl rfl ?_
    refine WL.y (Y.loadAg ty25 rfl rfl (hb38.cells 2 [vi a1.Pos.Offset, (Value.slice p29 m30 c31)] rfl) rfl) rfl ?_
    refine WL.ung rfl rfl ?_
    have hf52 := hf11.mono (imm_st hst27 rfl rfl)
    have hf53 := hf52.mono (imm_st hst42 rfl rfl)
    have hf54 := hf28.mono (imm_st hst42 rfl rfl)
    obtain ⟨r55, hp56, h⟩ := bnd h
    refine WL.call (vals := [Value.agg (List.toArray [vi a0.Pos.Offset, (Value.slice p15 m16 c17)]), Value.agg (List.toArray [vi a1.Pos.Offset, (Value.slice p29 m30 c31)])]) kok27 rfl rfl (c_ref08_SameSide (A := fun _ => True) (a0 := a0.Pos) (a1 := a1.Pos) (Sl.all hf53) (Sl.all hf54) hp56) ?_
    rintro vr59 wd58 ⟨rfl, hm57⟩
    obtain ⟨O60, hold61, hnew62, hst63⟩ := adoptE O40 (fun k => 1) hm57
    refine WL.y (Y.pick (b := true) rfl rfl) rfl ?_
    exact WL.nil (At.join (σ := (Bool × Own)) (r55, O60) ⟨some1 h, (Stp.up hst63 rfl)⟩ (.cons rfl (.cons rfl (.cons rfl .nil))))
   ·refine WL.ren 17 rfl (congrArg Value.bool hE51) ?_
    refine WL.gS rfl rfl rfl rfl ?_
    refine WL.gS rfl rfl rfl rfl ?_
    refine WL.gS rfl rfl rfl rfl ?_
    refine WL.gS rfl rfl rfl rfl ?_
    refine WL.gS rfl rfl rfl rfl ?_
    refine WL.y (Y.pick (b := false) rfl rfl) rfl ?_
    exact WL.nil (At.join (σ := (Bool × Own)) (false, O40) ⟨some1 h, (Stp.refl _ _ _)⟩ (.cons rfl (.cons rfl (.cons rfl .nil))))
  ·rintro ⟨x45, O46⟩ wd47 ⟨rfl, hst48⟩
   replace h := hk50
   try dsimp only at h hst48
   refine (show WL _ _ _ _ _ [(2, Value.pointer (some ⟨p24, 0, none⟩)), (3, Value.pointer (some ⟨p39, 0, none⟩)), (23, Value.bool x45)] _ from ?_)
   refine WL.y (Y.move rfl) rfl ?_
   obtain ⟨p68, h, hk69⟩ := bnd h
   refine WL.cut 6 (σ := (Bool × Own)) (fun x w' => x.1 = p68 ∧ Stp [] O46 wd47 x.2 w') (fun x => [(30, Value.bool x.1)]) ?_ ?_
   ·rcases cnd h with ⟨hE70, h⟩ | ⟨hE70, h⟩
    ·refine WL.ren 24 rfl (congrArg Value.bool hE70) ?_
     refine WL.ung rfl rfl ?_
     refine WL.y (Y.fieldAddr fo27_3 rfl) rfl ?_
     refine WL.ung rfl rfl ?_
     have hf71 := hf43.st hst48 rfl
     refine WL.y (Y.loadAg ty25 rfl rfl (hf71.cells 4 [vi a0.Neg.Offset, (Value.slice p19 m20 c21)] rfl) rfl) rfl ?_
     refine WL.ung rfl rfl ?_
     refine WL.y (Y.fieldAddr fo27_3 rfl) rfl ?_
     refine WL.ung rfl rfl ?_
     have hf72 := hb38.st hst48 rfl
     refine WL.y (Y.loadAg ty25 rfl rfl (hf72.cells 4 [vi a1.Neg.Offset, (Value.slice p34 m35 c36)] rfl) rfl) rfl ?_
     refine WL.ung rfl rfl ?_
     have hf73 := hf12.mono (imm_st hst27 rfl rfl)
     have hf74 := hf73.mono (imm_st hst42 rfl rfl)
     have hf75 := hf74.mono (imm_st hst48 rfl rfl)
     have hf76 := hf33.mono (imm_st hst42 rfl rfl)
     have hf77 := hf76.mono (imm_st hst48 rfl rfl)
     obtain ⟨r78, hp79, h⟩ := bnd h
     refine WL.call (vals := [Value.agg (List.toArray [vi a0.Neg.Offset, (Value.slice p19 m20 c21)]), Value.agg (List.toArray [vi a1.Neg.Offset, (Value.slice p34 m35 c36)])]) kok27 rfl rfl (c_ref08_SameSide (A := fun _ => True) (a0 := a0.Neg) (a1 := a1.Neg) (Sl.all hf75) (Sl.all hf77) hp79) ?_
     rintro vr82 wd81 ⟨rfl, hm80⟩
     obtain ⟨O83, hold84, hnew85, hst86⟩ := adoptE O46 (fun k => 1) hm80
     refine WL.y (Y.pick (b := true) rfl rfl) rfl ?_
     exact WL.nil (At.join (σ := (Bool × Own)) (r78, O83) ⟨some1 h, (Stp.up hst86 rfl)⟩ (.cons rfl .nil))
    ·refine WL.ren 24 rfl (congrArg Value.bool hE70) ?_
     refine WL.gS rfl rfl rfl rfl ?_
     refine WL.gS rfl rfl rfl rfl ?_
     refine WL.gS rfl rfl rfl rfl ?_
     refine WL.gS rfl rfl rfl rfl ?_
     refine WL.gS rfl rfl rfl rfl ?_
     refine WL.y (Y.pick (b := false) rfl rfl) rfl ?_
     exact WL.nil (At.join (σ := (Bool × Own)) (false, O46) ⟨some1 h, (Stp.refl _ _ _)⟩ (.cons rfl .nil))
   ·rintro ⟨x64, O65⟩ wd66 ⟨rfl, hst67⟩
    replace h := hk69
    try dsimp only at h hst67
    refine (show WL _ _ _ _ _ [(30, Value.bool x64)] _ from ?_)
    refine WL.y (Y.assign rfl) rfl ?_
    refine WL.nil ?_
    refine At.then ?_
    refine WC.ret ?_
    obtain rfl := some1 h
    have hs87 : Stp [] (Lg.O0 A) w O65 wd66 := (Stp.trans (Stp.up hst27 rfl) (Stp.trans (Stp.up hst42 rfl) (Stp.trans (Stp.up hst48 rfl) (Stp.up hst67 rfl))))
    exact At.res (.inl rfl) rfl (.tmp rfl .nil) ⟨rfl, (Stp.ext hs87 rfl rfl)⟩
theorem c_hist_At {A : Nat → Prop} {v0_1 : Value} {a0 : api_Side} {a1 : Int} {w : World} (hs0_1 : Sl Rep.u w A v0_1 a0.Counts) {r0 : UInt64} (h : hist_At a0 a1 = some r0) : Rets Try.prog 23 [Value.agg (List.toArray [vi a0.Offset, v0_1]), vi a1] w (fun v w' => v = vu r0 ∧ Ext w w') := by
 unfold hist_At at h
 refine Rets.enter Try.func23 rfl rfl ?_
 have hf11 : Sl Rep.u w (imm (Lg.O0 A)) v0_1 a0.Counts := (Sl.start hs0_1)
 refine (show WC _ _ _ _ [(0, Value.agg (List.toArray [vi a0.Offset, v0_1])), (1, vi a1)] _ from ?_)
 refine WC.seq ?_
 refine WC.region ?_
 have hh15 := h
 obtain ⟨p12, m13, c14, rfl⟩ := hf11.shape
 have h := hh15
 refine WL.box (O := (Lg.O0 A)) 11 [vi a0.Offset, (Value.slice p12 m13 c14)] rfl rfl rfl ?_
 intro p17 O18 wd19 hst20 hb16
 refine WL.y (Y.assign (v := vu 0) rfl) rfl ?_
 refine WL.nil ?_
 refine At.then ?_
 refine WC.seq ?_
 refine WC.seq ?_
 refine WC.region ?_
 refine WL.y (Y.move rfl) rfl ?_
 refine WL.y (Y.fieldAddr fo25_0 rfl) rfl ?_
 refine WL.y (Y.loadSc ty3 rfl rfl (hb16.cell 0 _ rfl)) rfl ?_
 refine WL.y (Y.lss_i rfl rfl) rfl ?_
 refine WL.y (Y.move rfl) rfl ?_
 refine WL.cut 12 (σ := Unit) (fun _ w' => wd19 = w') (fun _ => [(1, vi a1), (2, Value.pointer (some ⟨p17, 0, none⟩)), (21, Value.bool ((decide (a1 < a0.Offset)) || (decide (toU64 (a0.Counts.length : Int) ≤ ((toU64 a1) - (toU64 a0.Offset))))))]) ?_ ?_
 ·refine WL.part 9 rfl (fun hE21 => ?_) (fun hE21 => ?_)
  ·refine WL.gS rfl rfl rfl rfl ?_
   refine WL.gS rfl rfl rfl rfl ?_
   refine WL.gS rfl rfl rfl rfl ?_
   refine WL.gS rfl rfl rfl rfl ?_
   refine WL.gS rfl rfl rfl rfl ?_
   refine WL.gS rfl rfl rfl rfl ?_
   refine WL.gS rfl rfl rfl rfl ?_
   refine WL.gS rfl rfl rfl rfl ?_
   refine WL.gS rfl rfl rfl rfl ?_
   refine WL.gS rfl rfl rfl rfl ?_
   refine WL.gS rfl rfl rfl rfl ?_
   refine WL.y (Y.pick (b := true) rfl rfl) rfl ?_
   refine WL.ren (v' := Value.bool ((decide (a1 < a0.Offset)) || (decide (toU64 (a0.Counts.length : Int) ≤ ((toU64 a1) - (toU64 a0.Offset)))))) 21 rfl (congrArg Value.bool (orT hE21)) ?_
   exact WL.nil (At.join () rfl (.cons rfl (.cons rfl (.cons rfl .nil))))
  ·refine WL.ung rfl rfl ?_
   refine WL.y (Y.move rfl) rfl ?_
   refine WL.ung rfl rfl ?_
   refine WL.y (Y.conv_iu ty3.u ty22.u rfl) rfl ?_
   refine WL.ung rfl rfl ?_
   refine WL.y (Y.fieldAddr fo25_0 rfl) rfl ?_
   refine WL.ung rfl rfl ?_
   refine WL.y (Y.loadSc ty3 rfl rfl (hb16.cell 0 _ rfl)) rfl ?_
   refine WL.ung rfl rfl ?_
   refine WL.y (Y.conv_iu ty3.u ty22.u rfl) rfl ?_
   refine WL.ung rfl rfl ?_
   refine WL.y (Y.sub_u rfl rfl) rfl ?_
   refine WL.ung rfl rfl ?_
   refine WL.y (Y.fieldAddr fo25_1 rfl) rfl ?_
   refine WL.ung rfl rfl ?_
   refine WL.y (Y.loadSc ty23 rfl rfl (hb16.cell 1 _ rfl)) rfl ?_
   refine WL.ung rfl rfl ?_
   have hf22 := hf11.mono (imm_st hst20 rfl rfl)
   refine WL.y (Y.len ty23 rfl hf22) rfl ?_
   refine WL.ung rfl rfl ?_
   refine WL.y (Y.conv_iu ty3.u ty22.u rfl) rfl ?_
   refine WL.ung rfl rfl ?_
   refine WL.y (Y.geq_u rfl rfl) rfl ?_
   refine WL.y (Y.pick (b := false) rfl rfl) rfl ?_
   refine WL.ren (v' := Value.bool ((decide (a1 < a0.Offset)) || (decide (toU64 (a0.Counts.length : Int) ≤ ((toU64 a1) - (toU64 a0.Offset)))))) 21 rfl (congrArg Value.bool (orF hE21)) ?_
   exact WL.nil (At.join () rfl (.cons rfl (.cons rfl (.cons rfl .nil))))
 ·rintro _ _ rfl
  refine (show WL _ _ _ _ _ [(1, vi a1), (2, Value.pointer (some ⟨p17, 0, none⟩)), (21, Value.bool ((decide (a1 < a0.Offset)) || (decide (toU64 (a0.Counts.length : Int) ≤ ((toU64 a1) - (toU64 a0.Offset))))))] _ from ?_)
  refine WL.nil ?_
  refine At.then ?_
  rcases cnd h with ⟨hc23, h⟩ | ⟨hc23, h⟩
  ·refine WC.condT' rfl hc23 ?_
   refine WC.seq ?_
   refine WC.region ?_
   refine WL.y (Y.assign (v := vu 0) rfl) rfl ?_
   refine WL.nil ?_
   refine At.then ?_
   refine WC.ret ?_
   refine At.thenR ?_
   obtain rfl := some1 h
   have hs24 : Stp [] (Lg.O0 A) w O18 wd19 := (Stp.up hst20 rfl)
   exact At.res (.inl rfl) rfl (.tmp rfl .nil) ⟨rfl, (Stp.ext hs24 rfl rfl)⟩
  ·refine WC.condF' rfl hc23 ?_
   refine WC.skip ?_
   refine At.then ?_
   refine WC.seq ?_
   refine WC.region ?_
   refine WL.y (Y.fieldAddr fo25_1 rfl) rfl ?_
   refine WL.y (Y.loadSc ty23 rfl rfl (hb16.cell 1 _ rfl)) rfl ?_
   refine WL.y (Y.move rfl) rfl ?_
   refine WL.y (Y.fieldAddr fo25_0 rfl) rfl ?_
   refine WL.y (Y.loadSc ty3 rfl rfl (hb16.cell 0 _ rfl)) rfl ?_
   refine WL.y (Y.sub_i rfl rfl) rfl ?_
   obtain ⟨e25, he25, h⟩ := bnd h
   have hf34 := hf11.mono (imm_st hst20 rfl rfl)
   obtain ⟨b26, off35, cap33, cs32, hv27, hi28, hl29, hc30, hok31, hA36⟩ := Sl.at2 hf34 he25
   obtain rfl := hok31
   replace hc30 : CellsAt _ _ _ [vu e25] := hc30
   have hca37 := CAt.imm hc30 hA36
   refine WL.y (Y.indexAddr ty23 ty22 rfl hv27 rfl hi28 hl29) rfl ?_
   refine WL.y (Y.loadSc ty22 rfl rfl hca37.at_) rfl ?_
   refine WL.y (Y.assign rfl) rfl ?_
   refine WL.nil ?_
   refine At.then ?_
   refine WC.ret ?_
   obtain rfl := some1 h
   have hs38 : Stp [] (Lg.O0 A) w O18 wd19 := (Stp.up hst20 rfl)
   exact At.res (.inl rfl) rfl (.tmp rfl .nil) ⟨rfl, (Stp.ext hs38 rfl rfl)⟩
theorem c_hist_sides {A : Nat → Prop} {v0_3 : Value} {v0_5 : Value} {a0 : api_Hist} {w : World} (hs0_3 : Sl Rep.u w A v0_3 a0.Pos.Counts) (hs0_5 : Sl Rep.u w A v0_5 a0.Neg.Counts) {r0 : List api_Side} (h : hist_sides a0 = some r0) : Rets Try.prog 57 [Value.agg (List.toArray [vi a0.Scale, vu a0.Zero, vi a0.Pos.Offset, v0_3, vi a0.Neg.Offset, v0_5])] w (fun v w' => ∃ (cs0 : List Value), v = Value.agg (List.toArray cs0) ∧ Ext w w' ∧ Rows' rep_api_Side w' (fun k => A k ∨ w.heap.size ≤ k) cs0 r0 ∧ r0.length = 2) := by
 unfold hist_sides at h
 refine Rets.enter Try.func57 rfl rfl ?_
 have hf11 : Sl Rep.u w (imm (Lg.O0 A)) v0_3 a0.Pos.Counts := (Sl.start hs0_3)
 have hf12 : Sl Rep.u w (imm (Lg.O0 A)) v0_5 a0.Neg.Counts := (Sl.start hs0_5)
 refine (show WC _ _ _ _ [(0, Value.agg (List.toArray [vi a0.Scale, vu a0.Zero, vi a0.Pos.Offset, v0_3, vi a0.Neg.Offset, v0_5]))] _ from ?_)
 refine WC.seq ?_
 refine WC.region ?_
 have hh16 := h
 obtain ⟨p13, m14, c15, rfl⟩ := hf11.shape
 have h := hh16
 have hh20 := h
 obtain ⟨p17, m18, c19, rfl⟩ := hf12.shape
 have h := hh20
 refine WL.box (O := (Lg.O0 A)) 11 [vi a0.Scale, vu a0.Zero, vi a0.Pos.Offset, (Value.slice p13 m14 c15), vi a0.Neg.Offset, (Value.slice p17 m18 c19)] rfl rfl rfl ?_
 intro p22 O23 wd24 hst25 hb21
 refine WL.alloc (O := O23) 12 [vi 0, Value.slice none 0 0, vi 0, Value.slice none 0 0] ty75 rfl rfl ?_
 intro p27 O28 wd29 hst30 hb26
 refine WL.nil ?_
 refine At.then ?_
 refine WC.seq ?_
 refine WC.region ?_
 refine WL.y (Y.fieldAddr fo27_2 rfl) rfl ?_
 have hf31 := hb21.st hst30 rfl
 refine WL.y (Y.loadAg ty25 rfl rfl (hf31.cells 2 [vi a0.Pos.Offset, (Value.slice p13 m14 c15)] rfl) rfl) rfl ?_
 refine WL.y (Y.fieldAddr fo27_3 rfl) rfl ?_
 refine WL.y (Y.loadAg ty25 rfl rfl (hf31.cells 4 [vi a0.Neg.Offset, (Value.slice p17 m18 c19)] rfl) rfl) rfl ?_
 refine WL.y (Y.build (vals := [(0, Value.agg (List.toArray [vi a0.Pos.Offset, (Value.slice p13 m14 c15)])), (1, Value.agg (List.toArray [vi a0.Neg.Offset, (Value.slice p17 m18 c19)]))]) (cells := [vi a0.Pos.Offset, (Value.slice p13 m14 c15), vi a0.Neg.Offset, (Value.slice p17 m18 c19)]) (Fits.evalp rfl) (by kernel_rfl)) rfl ?_
 refine WL.store (v := Value.agg (List.toArray [vi a0.Pos.Offset, (Value.slice p13 m14 c15), vi a0.Neg.Offset, (Value.slice p17 m18 c19)])) (cells' := [vi a0.Pos.Offset, (Value.slice p13 m14 c15), vi a0.Neg.Offset, (Value.slice p17 m18 c19)]) ty75 rfl rfl hb26 rfl (Nat.le_of_ble_eq_true rfl) rfl rfl ?_
 intro wd32 hst33 hb34
 refine WL.nil ?_
 refine At.then ?_
 refine WC.ret ?_
 obtain rfl := some1 h
 have hs35 : Stp [12] (Lg.O0 A) w O28 wd32 := (Stp.trans (Stp.up hst25 rfl) (Stp.trans (Stp.up hst30 rfl) (Stp.up hst33 rfl)))
 have hf36 := hf11.mono (imm_st hst25 rfl rfl)
 have hf37 := hf36.mono (imm_st hst30 rfl rfl)
 have hf38 := hf37.mono (imm_st hst33 rfl rfl)
 have hf39 := hf12.mono (imm_st hst25 rfl rfl)
 have hf40 := hf39.mono (imm_st hst30 rfl rfl)
 have hf41 := hf40.mono (imm_st hst33 rfl rfl)
 exact At.res (.inl rfl) rfl (.cell rfl (hb34.runAg 0 [vi a0.Pos.Offset, (Value.slice p13 m14 c15), vi a0.Neg.Offset, (Value.slice p17 m18 c19)] ty75 rfl rfl rfl) .nil) ⟨[vi a0.Pos.Offset, (Value.slice p13 m14 c15), vi a0.Neg.Offset, (Value.slice p17 m18 c19)], rfl, (Stp.ext hs35 rfl rfl), (Rows'.outI (O' := O28) (R := rep_api_Side) ⟨[vi a0.Pos.Offset, (Value.slice p13 m14 c15)], [vi a0.Neg.Offset, (Value.slice p17 m18 c19)], rfl, ⟨[vi a0.Pos.Offset], [(Value.slice p13 m14 c15)], rfl, rfl, ⟨_, rfl, hf38⟩⟩, ⟨[vi a0.Neg.Offset, (Value.slice p17 m18 c19)], [], rfl, ⟨[vi a0.Neg.Offset], [(Value.slice p17 m18 c19)], rfl, rfl, ⟨_, rfl, hf41⟩⟩, rfl⟩⟩ hs35 low0 O0_A), rfl⟩
theorem c_hist_Total {A : Nat → Prop} {v0_3 : Value} {v0_5 : Value} {a0 : api_Hist} {w : World} (hs0_3 : Sl Rep.u w A v0_3 a0.Pos.Counts) (hs0_5 : Sl Rep.u w A v0_5 a0.Neg.Counts) {r0 : UInt64} {r1 : Bool} (h : hist_Total a0 = some (r0, r1)) : Rets Try.prog 17 [Value.agg (List.toArray [vi a0.Scale, vu a0.Zero, vi a0.Pos.Offset, v0_3, vi a0.Neg.Offset, v0_5])] w (fun v w' => v = Value.tuple (List.toArray [vu r0, Value.bool r1]) ∧ Ext w w') := by
 unfold hist_Total at h
 refine Rets.enter Try.func17 rfl rfl ?_
 have hf11 : Sl Rep.u w (imm (Lg.O0 A)) v0_3 a0.Pos.Counts := (Sl.start hs0_3)
 have hf12 : Sl Rep.u w (imm (Lg.O0 A)) v0_5 a0.Neg.Counts := (Sl.start hs0_5)
 refine (show WC _ _ _ _ [(0, Value.agg (List.toArray [vi a0.Scale, vu a0.Zero, vi a0.Pos.Offset, v0_3, vi a0.Neg.Offset, v0_5]))] _ from ?_)
 refine WC.seq ?_
 refine WC.region ?_
 have hh16 := h
 obtain ⟨p13, m14, c15, rfl⟩ := hf11.shape
 have h := hh16
 have hh20 := h
 obtain ⟨p17, m18, c19, rfl⟩ := hf12.shape
 have h := hh20
 refine WL.box (O := (Lg.O0 A)) 11 [vi a0.Scale, vu a0.Zero, vi a0.Pos.Offset, (Value.slice p13 m14 c15), vi a0.Neg.Offset, (Value.slice p17 m18 c19)] rfl rfl rfl ?_
 intro p22 O23 wd24 hst25 hb21
 refine WL.y (Y.assign (v := vu 0) rfl) rfl ?_
 refine WL.y (Y.assign rfl) rfl ?_
 refine WL.nil ?_
 refine At.then ?_
 refine WC.seq ?_
 refine WC.region ?_
 refine WL.y (Y.fieldAddr fo27_1 rfl) rfl ?_
 refine WL.y (Y.loadSc ty22 rfl rfl (hb21.cell 1 _ rfl)) rfl ?_
 refine WL.y (Y.assign rfl) rfl ?_
 refine WL.y (Y.assign (v := vu 0) rfl) rfl ?_
 refine WL.nil ?_
 refine At.then ?_
 refine WC.seq ?_
 refine WC.seq ?_
 refine WC.region ?_
 refine WL.y (Y.loadAg ty27 rfl rfl (hb21.cells 0 [vi a0.Scale, vu a0.Zero, vi a0.Pos.Offset, (Value.slice p13 m14 c15), vi a0.Neg.Offset, (Value.slice p17 m18 c19)] rfl) rfl) rfl ?_
 have hf26 := hf11.mono (imm_st hst25 rfl rfl)
 have hf27 := hf12.mono (imm_st hst25 rfl rfl)
 obtain ⟨r28, hp29, h⟩ := bnd h
 refine WL.call (vals := [Value.agg (List.toArray [vi a0.Scale, vu a0.Zero, vi a0.Pos.Offset, (Value.slice p13 m14 c15), vi a0.Neg.Offset, (Value.slice p17 m18 c19)])]) kok57 rfl rfl (c_hist_sides (A := imm O23) (a0 := a0) hf26 hf27 hp29) ?_
 rintro vr35 wd34 ⟨cs30, rfl, hm33, f31, f32⟩
 obtain ⟨O36, hold37, hnew38, hst39⟩ := adoptE O23 (fun k => 1) hm33
 have hf40 := Rows'.adoptI (O := O23) f31 (fun _ hk => hk) (fun _ _ => Nat.le_refl _) hold37 hnew38
 refine WL.y (Y.move rfl) rfl ?_
 refine WL.nil ?_
 refine At.then ?_
 obtain ⟨p46, h, hk47⟩ := bnd h
 refine WC.join (σ := (UInt64 × UInt64 × Own)) (fun x w' => (x.1, x.2.1) = p46 ∧ Stp [12] O36 wd34 x.2.2 w') (fun x => [(4, vu x.1), (5, vu x.2.1)]) ?_ ?_
 ·refine WC.block ?_
  obtain ⟨p59, h, hk61⟩ := flow1 h
  obtain ⟨k60, h⟩ := loop_some h
  refine WC.joinB 0 (σ := (UInt64 × UInt64 × Own)) (fun x w' => p59 = .go (x.1, x.2.1) ∧ Stp [12] O36 wd34 x.2.2 w') (fun x => [(4, vu x.1), (5, vu x.2.1)]) ?_ ?_
  ·refine WC.loop (σ := (UInt64 × UInt64 × Int × Own)) (fun x k w' => loopN k (hist_Total_lp1 r28) (x.1, x.2.1, x.2.2.1) = some p59 ∧ Stp [12] O36 wd34 x.2.2.2 w') (fun x => [(4, vu x.1), (5, vu x.2.1), (14, Value.agg (List.toArray cs30)), (15, vi x.2.2.1)]) (a0.Zero, 0, 0, O36) k60 (.cons rfl (.cons rfl (.cons rfl (.cons rfl .nil)))) ⟨h, (Stp.refl _ _ _)⟩ ?_
   rintro ⟨sum48, over49, x50, O51⟩ k60 wd52 ⟨h, hst53⟩
   obtain ⟨j62, q63, rfl, h, hn64⟩ := rnd1 h
   unfold hist_Total_lp1 at h
   try dsimp only at h hst53
   refine (show WC _ _ _ _ [(4, vu sum48), (5, vu over49), (14, Value.agg (List.toArray cs30)), (15, vi x50)] _ from ?_)
   refine WC.seq ?_
   refine WC.region ?_
   refine WL.y (Y.lss_i rfl rfl) rfl ?_
   refine WL.nil ?_
   refine At.then ?_
   refine WC.seq ?_
   rcases cnd h with ⟨hc65, h⟩ | ⟨hc65, h⟩
   ·refine WC.condT' rfl hc65 ?_
    refine WC.skip ?_
    refine At.then ?_
    refine WC.seq ?_
    refine WC.block ?_
    refine WC.seq ?_
    refine WC.region ?_
    have hf66 := Rows'.mono (imm_st hst53 rfl rfl) hf40
    obtain ⟨e67, he67, h⟩ := bnd h
    obtain ⟨cs68, hcs69, hok70⟩ := arrAt (R := rep_api_Side) (w := wd52) (A := imm O51) (cells := cs30) hf66 he67
    obtain ⟨_, _, rfl, rfl, ⟨v71, rfl, hf72⟩⟩ := hok70
    replace hcs69 : _ = [vi e67.Offset, v71] := hcs69
    refine WL.y (Y.indexArrAg ty75 ty25 rfl rfl hcs69 he67 f32) rfl ?_
    refine WL.alloc (O := O51) 12 [vi 0, Value.slice none 0 0] ty25 rfl rfl ?_
    intro p74 O75 wd76 hst77 hb73
    have hf78 := hf72.mono (imm_st hst77 rfl rfl)
    have hh82 := h
    obtain ⟨p79, m80, c81, rfl⟩ := hf78.shape
    have h := hh82
    refine WL.store (v := Value.agg (List.toArray [vi e67.Offset, (Value.slice p79 m80 c81)])) (cells' := [vi e67.Offset, (Value.slice p79 m80 c81)]) ty25 rfl rfl hb73 rfl (Nat.le_of_ble_eq_true rfl) rfl rfl ?_
    intro wd83 hst84 hb85
    refine WL.nil ?_
    refine At.then ?_
    refine WC.seq ?_
    refine WC.region ?_
    refine WL.y (Y.fieldAddr fo25_1 rfl) rfl ?_
    refine WL.y (Y.loadSc ty23 rfl rfl (hb85.cell 1 _ rfl)) rfl ?_
    have hf86 := hf78.mono (imm_st hst84 rfl rfl)
    refine WL.y (Y.len ty23 rfl hf86) rfl ?_
    refine WL.y (Y.move rfl) rfl ?_
    refine WL.nil ?_
    refine At.then ?_
    obtain ⟨p89, h, hk90⟩ := bnd h
    refine WC.join (σ := (UInt64 × UInt64)) (fun x w' => (x.1, x.2) = p89 ∧ wd83 = w') (fun x => [(4, vu x.1), (5, vu x.2), (14, Value.agg (List.toArray cs30)), (15, vi x50)]) ?_ ?_
    ·refine WC.block ?_
     obtain ⟨p96, h, hk98⟩ := flow1 h
     obtain ⟨k97, h⟩ := loop_some h
     refine WC.joinB 2 (σ := (UInt64 × UInt64)) (fun x w' => p96 = .go (x.1, x.2) ∧ wd83 = w') (fun x => [(4, vu x.1), (5, vu x.2), (14, Value.agg (List.toArray cs30)), (15, vi x50)]) ?_ ?_
     ·refine WC.loop (σ := (UInt64 × UInt64 × Int)) (fun x k w' => loopN k (hist_Total_lp2 e67) (x.1, x.2.1, x.2.2) = some p96 ∧ wd83 = w') (fun x => [(4, vu x.1), (5, vu x.2.1), (14, Value.agg (List.toArray cs30)), (15, vi x50), (19, (Value.slice p79 m80 c81)), (20, vi (e67.Counts.length : Int)), (21, vi x.2.2)]) (sum48, over49, 0) k97 (.cons rfl (.cons rfl (.cons rfl (.cons rfl (.cons rfl (.cons rfl (.cons rfl .nil))))))) ⟨h, rfl⟩ ?_
      rintro ⟨sum91, over92, x93⟩ k97 _ ⟨h, rfl⟩
      obtain ⟨j99, q100, rfl, h, hn101⟩ := rnd1 h
      unfold hist_Total_lp2 at h
      try dsimp only at h
      refine (show WC _ _ _ _ [(4, vu sum91), (5, vu over92), (14, Value.agg (List.toArray cs30)), (15, vi x50), (19, (Value.slice p79 m80 c81)), (20, vi (e67.Counts.length : Int)), (21, vi x93)] _ from ?_)
      refine WC.seq ?_
      refine WC.region ?_
      refine WL.y (Y.lss_i rfl rfl) rfl ?_
      refine WL.nil ?_
      refine At.then ?_
      refine WC.seq ?_
      rcases cnd h with ⟨hc102, h⟩ | ⟨hc102, h⟩
      ·refine WC.condT' rfl hc102 ?_
       refine WC.skip ?_
       refine At.then ?_
       refine WC.seq ?_
       refine WC.block ?_
       refine WC.seq ?_
       refine WC.region ?_
       obtain ⟨e103, he103, h⟩ := bnd h
       obtain ⟨b104, off112, cap111, cs110, hv105, hi106, hl107, hc108, hok109, hA113⟩ := Sl.at2 hf86 he103
       obtain rfl := hok109
       replace hc108 : CellsAt _ _ _ [vu e103] := hc108
       have hca114 := CAt.imm hc108 hA113
       refine WL.y (Y.indexAddr ty23 ty22 rfl hv105 rfl hi106 hl107) rfl ?_
       refine WL.y (Y.loadSc ty22 rfl rfl hca114.at_) rfl ?_
       refine WL.y (Y.assign rfl) rfl ?_
       refine WL.nil ?_
       refine At.then ?_
       refine WC.seq ?_
       refine WC.region ?_
       refine WL.y (Y.assign (v := vu 0) rfl) rfl ?_
       refine WL.nil ?_
       refine At.then ?_
       refine WC.seq ?_
       refine WC.region ?_
       refine WL.y (Y.move rfl) rfl ?_
       refine WL.y (Y.move rfl) rfl ?_
       refine WL.y (Y.add64 (c := 0) x64_58 (by decide) rfl rfl rfl) rfl ?_
       refine WL.y (Y.move rfl) rfl ?_
       refine WL.y (Y.extract rfl rfl) rfl ?_
       refine WL.y (Y.extract rfl rfl) rfl ?_
       obtain ⟨sum115, hsum115, h⟩ := lt1 h
       refine WL.yE (Y.assign rfl) (congrArg vu hsum115.symm) rfl ?_
       obtain ⟨carry116, hcarry116, h⟩ := lt1 h
       refine WL.yE (Y.assign rfl) (congrArg vu hcarry116.symm) rfl ?_
       refine WL.nil ?_
       refine At.then ?_
       refine WC.region ?_
       refine WL.y (Y.move rfl) rfl ?_
       refine WL.y (Y.move rfl) rfl ?_
       refine WL.y (Y.or_u rfl rfl) rfl ?_
       obtain ⟨over117, hover117, h⟩ := lt1 h
       refine WL.yE (Y.assign rfl) (congrArg vu hover117.symm) rfl ?_
       refine WL.nil ?_
       refine At.inBlock ?_
       refine At.then ?_
       refine WC.region ?_
       refine WL.y (Y.add_i rfl rfl) rfl ?_
       refine WL.y (Y.move rfl) rfl ?_
       refine WL.nil ?_
       exact At.round (sum115, over117, w64 (x93 + 1)) j99 (Nat.lt_succ_self _) ⟨next1 h hn101, rfl⟩ (.cons rfl (.cons rfl (.cons rfl (.cons rfl (.cons rfl (.cons rfl (.cons rfl .nil)))))))
      ·refine WC.condF' rfl hc102 ?_
       refine WC.exit ?_
       refine At.thenX ?_
       refine At.loopX ?_
       exact At.hitB (σ := (UInt64 × UInt64)) (sum91, over92) ⟨brk1 h hn101, rfl⟩ (.cons rfl (.cons rfl (.cons rfl (.cons rfl .nil))))
     ·rintro ⟨sum94, over95⟩ _ ⟨rfl, rfl⟩
      replace h := flowK_go hk98
      try dsimp only at h
      refine (show At _ _ _ [(4, vu sum94), (5, vu over95), (14, Value.agg (List.toArray cs30)), (15, vi x50)] _ from ?_)
      refine At.inBlockHit ?_
      exact At.join (σ := (UInt64 × UInt64)) (sum94, over95) ⟨some1 h, rfl⟩ (.cons rfl (.cons rfl (.cons rfl (.cons rfl .nil))))
    ·rintro ⟨sum87, over88⟩ _ ⟨rfl, rfl⟩
     replace h := hk90
     try dsimp only at h
     refine (show At _ _ _ [(4, vu sum87), (5, vu over88), (14, Value.agg (List.toArray cs30)), (15, vi x50)] _ from ?_)
     refine At.inBlock ?_
     refine At.then ?_
     refine WC.region ?_
     refine WL.y (Y.add_i rfl rfl) rfl ?_
     refine WL.y (Y.move rfl) rfl ?_
     refine WL.nil ?_
     exact At.round (sum87, over88, w64 (x50 + 1), O75) j62 (Nat.lt_succ_self _) ⟨next1 h hn64, (Stp.trans (Stp.up hst53 rfl) (Stp.trans (Stp.up hst77 rfl) (Stp.up hst84 rfl)))⟩ (.cons rfl (.cons rfl (.cons rfl (.cons rfl .nil))))
   ·refine WC.condF' rfl hc65 ?_
    refine WC.exit ?_
    refine At.thenX ?_
    refine At.loopX ?_
    exact At.hitB (σ := (UInt64 × UInt64 × Own)) (sum48, over49, O51) ⟨brk1 h hn64, (Stp.up hst53 rfl)⟩ (.cons rfl (.cons rfl .nil))
  ·rintro ⟨sum54, over55, O56⟩ wd57 ⟨rfl, hst58⟩
   replace h := flowK_go hk61
   try dsimp only at h hst58
   refine (show At _ _ _ [(4, vu sum54), (5, vu over55)] _ from ?_)
   refine At.inBlockHit ?_
   exact At.join (σ := (UInt64 × UInt64 × Own)) (sum54, over55, O56) ⟨some1 h, (Stp.up hst58 rfl)⟩ (.cons rfl (.cons rfl .nil))
 ·rintro ⟨sum41, over42, O43⟩ wd44 ⟨rfl, hst45⟩
  replace h := hk47
  try dsimp only at h hst45
  refine (show At _ _ _ [(4, vu sum41), (5, vu over42)] _ from ?_)
  refine At.then ?_
  refine WC.seq ?_
  refine WC.seq ?_
  refine WC.region ?_
  refine WL.y (Y.move rfl) rfl ?_
  refine WL.y (Y.neq_u (b := 0) rfl rfl) rfl ?_
  refine WL.nil ?_
  refine At.then ?_
  rcases cnd h with ⟨hc118, h⟩ | ⟨hc118, h⟩
  ·refine WC.condT' rfl hc118 ?_
   refine WC.seq ?_
   refine WC.region ?_
   refine WL.y (Y.assign (v := vu 0) rfl) rfl ?_
   refine WL.y (Y.assign rfl) rfl ?_
   refine WL.nil ?_
   refine At.then ?_
   refine WC.ret ?_
   refine At.thenR ?_
   obtain ⟨rfl, rfl⟩ := tup2 h
   have hs119 : Stp [12] (Lg.O0 A) w O43 wd44 := (Stp.trans (Stp.up hst25 rfl) (Stp.trans (Stp.up hst39 rfl) (Stp.up hst45 rfl)))
   exact At.res (.inl rfl) rfl (.tmp rfl (.tmp rfl .nil)) ⟨rfl, (Stp.ext hs119 rfl rfl)⟩
  ·refine WC.condF' rfl hc118 ?_
   refine WC.skip ?_
   refine At.then ?_
   refine WC.seq ?_
   refine WC.region ?_
   refine WL.y (Y.move rfl) rfl ?_
   refine WL.y (Y.assign rfl) rfl ?_
   refine WL.y (Y.assign rfl) rfl ?_
   refine WL.nil ?_
   refine At.then ?_
   refine WC.ret ?_
   obtain ⟨rfl, rfl⟩ := tup2 h
   have hs120 : Stp [12] (Lg.O0 A) w O43 wd44 := (Stp.trans (Stp.up hst25 rfl) (Stp.trans (Stp.up hst39 rfl) (Stp.up hst45 rfl)))
   exact At.res (.inl rfl) rfl (.tmp rfl (.tmp rfl .nil)) ⟨rfl, (Stp.ext hs120 rfl rfl)⟩
theorem c_hist_check {A : Nat → Prop} {v0_1 : Value} {a0 : api_Side} {w : World} (hs0_1 : Sl Rep.u w A v0_1 a0.Counts) {r0 : Int} (h : hist_check a0 = some r0) : Rets Try.prog 60 [Value.agg (List.toArray [vi a0.Offset, v0_1])] w (fun v w' => v = vi r0 ∧ Ext w w') := by
 unfold hist_check at h
 refine Rets.enter Try.func60 rfl rfl ?_
 have hf11 : Sl Rep.u w (imm (Lg.O0 A)) v0_1 a0.Counts := (Sl.start hs0_1)
 refine (show WC _ _ _ _ [(0, Value.agg (List.toArray [vi a0.Offset, v0_1]))] _ from ?_)
 refine WC.seq ?_
 refine WC.region ?_
 have hh15 := h
 obtain ⟨p12, m13, c14, rfl⟩ := hf11.shape
 have h := hh15
 refine WL.box (O := (Lg.O0 A)) 11 [vi a0.Offset, (Value.slice p12 m13 c14)] rfl rfl rfl ?_
 intro p17 O18 wd19 hst20 hb16
 refine WL.y (Y.assign rfl) rfl ?_
 refine WL.nil ?_
 refine At.then ?_
 refine WC.seq ?_
 refine WC.region ?_
 refine WL.y (Y.fieldAddr fo25_1 rfl) rfl ?_
 refine WL.y (Y.loadSc ty23 rfl rfl (hb16.cell 1 _ rfl)) rfl ?_
 have hf21 := hf11.mono (imm_st hst20 rfl rfl)
 refine WL.y (Y.len ty23 rfl hf21) rfl ?_
 obtain ⟨nv22, hnv22, h⟩ := lt1 h
 refine WL.yE (Y.assign rfl) (congrArg vi hnv22.symm) rfl ?_
 refine WL.nil ?_
 refine At.then ?_
 refine WC.seq ?_
 refine WC.block ?_
 refine WC.seq ?_
 refine WC.region ?_
 refine WL.y (Y.move rfl) rfl ?_
 refine WL.y (Y.gtr_i rfl rfl) rfl ?_
 obtain ⟨t23, ht23, h⟩ := lt1 h
 refine WL.yE (Y.assign rfl) (congrArg Value.bool ht23.symm) rfl ?_
 refine WL.nil ?_
 refine At.then ?_
 rcases cnd h with ⟨hc24, h⟩ | ⟨hc24, h⟩
 ·refine WC.condT' rfl hc24 ?_
  refine WC.seq ?_
  refine WC.region ?_
  refine WL.y (Y.assign rfl) rfl ?_
  refine WL.nil ?_
  refine At.then ?_
  refine WC.ret ?_
  refine At.inBlockR ?_
  refine At.thenR ?_
  obtain rfl := some1 h
  have hs25 : Stp [] (Lg.O0 A) w O18 wd19 := (Stp.up hst20 rfl)
  exact At.res (.inl rfl) rfl (.tmp rfl .nil) ⟨rfl, (Stp.ext hs25 rfl rfl)⟩
 ·refine WC.condF' rfl hc24 ?_
  refine WC.seq ?_
  refine WC.region ?_
  refine WL.y (Y.move rfl) rfl ?_
  refine WL.y (Y.eql_i rfl rfl) rfl ?_
  refine WL.y (Y.move rfl) rfl ?_
  refine WL.cut 4 (σ := Unit) (fun _ w' => wd19 = w') (fun _ => [(1, Value.pointer (some ⟨p17, 0, none⟩)), (3, vi nv22), (17, Value.bool ((decide (nv22 = 0)) && (!decide (a0.Offset = 0))))]) ?_ ?_
  ·refine WL.part 13 rfl (fun hE26 => ?_) (fun hE26 => ?_)
   ·refine WL.ung rfl rfl ?_
    refine WL.y (Y.fieldAddr fo25_0 rfl) rfl ?_
    refine WL.ung rfl rfl ?_
    refine WL.y (Y.loadSc ty3 rfl rfl (hb16.cell 0 _ rfl)) rfl ?_
    refine WL.ung rfl rfl ?_
    refine WL.y (Y.neq_i rfl rfl) rfl ?_
    refine WL.y (Y.pick (b := true) rfl rfl) rfl ?_
    refine WL.ren (v' := Value.bool ((decide (nv22 = 0)) && (!decide (a0.Offset = 0)))) 17 rfl (congrArg Value.bool (andT hE26)) ?_
    exact WL.nil (At.join () rfl (.cons rfl (.cons rfl (.cons rfl .nil))))
   ·refine WL.gS rfl rfl rfl rfl ?_
    refine WL.gS rfl rfl rfl rfl ?_
    refine WL.gS rfl rfl rfl rfl ?_
    refine WL.y (Y.pick (b := false) rfl rfl) rfl ?_
    refine WL.ren (v' := Value.bool ((decide (nv22 = 0)) && (!decide (a0.Offset = 0)))) 17 rfl (congrArg Value.bool (andF hE26)) ?_
    exact WL.nil (At.join () rfl (.cons rfl (.cons rfl (.cons rfl .nil))))
  ·rintro _ _ rfl
   refine (show WL _ _ _ _ _ [(1, Value.pointer (some ⟨p17, 0, none⟩)), (3, vi nv22), (17, Value.bool ((decide (nv22 = 0)) && (!decide (a0.Offset = 0))))] _ from ?_)
   obtain ⟨t27, ht27, h⟩ := lt1 h
   refine WL.yE (Y.assign rfl) (congrArg Value.bool ht27.symm) rfl ?_
   refine WL.nil ?_
   refine At.then ?_
   rcases cnd h with ⟨hc28, h⟩ | ⟨hc28, h⟩
   ·refine WC.condT' rfl hc28 ?_
    refine WC.seq ?_
    refine WC.region ?_
    refine WL.y (Y.assign rfl) rfl ?_
    refine WL.nil ?_
    refine At.then ?_
    refine WC.ret ?_
    refine At.inBlockR ?_
    refine At.thenR ?_
    obtain rfl := some1 h
    have hs29 : Stp [] (Lg.O0 A) w O18 wd19 := (Stp.up hst20 rfl)
    exact At.res (.inl rfl) rfl (.tmp rfl .nil) ⟨rfl, (Stp.ext hs29 rfl rfl)⟩
   ·refine WC.condF' rfl hc28 ?_
    refine WC.seq ?_
    refine WC.region ?_
    refine WL.y (Y.move rfl) rfl ?_
    refine WL.y (Y.eql_i rfl rfl) rfl ?_
    obtain ⟨t30, ht30, h⟩ := lt1 h
    refine WL.yE (Y.assign rfl) (congrArg Value.bool ht30.symm) rfl ?_
    refine WL.nil ?_
    refine At.then ?_
    rcases cnd h with ⟨hc31, h⟩ | ⟨hc31, h⟩
    ·refine WC.condT' rfl hc31 ?_
     refine WC.seq ?_
     refine WC.region ?_
     refine WL.y (Y.assign rfl) rfl ?_
     refine WL.nil ?_
     refine At.then ?_
     refine WC.ret ?_
     refine At.inBlockR ?_
     refine At.thenR ?_
     obtain rfl := some1 h
     have hs32 : Stp [] (Lg.O0 A) w O18 wd19 := (Stp.up hst20 rfl)
     exact At.res (.inl rfl) rfl (.tmp rfl .nil) ⟨rfl, (Stp.ext hs32 rfl rfl)⟩
    ·refine WC.condF' rfl hc31 ?_
     refine WC.seq ?_
     refine WC.region ?_
     refine WL.y (Y.fieldAddr fo25_1 rfl) rfl ?_
     refine WL.y (Y.loadSc ty23 rfl rfl (hb16.cell 1 _ rfl)) rfl ?_
     obtain ⟨e33, he33, h⟩ := bnd h
     obtain ⟨b34, off42, cap41, cs40, hv35, hi36, hl37, hc38, hok39, hA43⟩ := Sl.at2 hf21 he33
     obtain rfl := hok39
     replace hc38 : CellsAt _ _ _ [vu e33] := hc38
     have hca44 := CAt.imm hc38 hA43
     refine WL.y (Y.indexAddr ty23 ty22 rfl hv35 rfl hi36 hl37) rfl ?_
     refine WL.y (Y.loadSc ty22 rfl rfl hca44.at_) rfl ?_
     refine WL.y (Y.eql_u (b := 0) rfl rfl) rfl ?_
     refine WL.y (Y.move rfl) rfl ?_
     obtain ⟨p46, h, hk47⟩ := bnd h
     refine WL.cut 8 (σ := Bool) (fun x w' => x = p46 ∧ wd19 = w') (fun x => [(1, Value.pointer (some ⟨p17, 0, none⟩)), (3, vi nv22), (35, Value.bool x)]) ?_ ?_
     ·rcases cnd h with ⟨hE48, h⟩ | ⟨hE48, h⟩
      ·refine WL.ren 27 rfl (congrArg Value.bool hE48) ?_
       refine WL.gS rfl rfl rfl rfl ?_
       refine WL.gS rfl rfl rfl rfl ?_
       refine WL.gS rfl rfl rfl rfl ?_
       refine WL.gS rfl rfl rfl rfl ?_
       refine WL.gS rfl rfl rfl rfl ?_
       refine WL.gS rfl rfl rfl rfl ?_
       refine WL.gS rfl rfl rfl rfl ?_
       refine WL.y (Y.pick (b := true) rfl rfl) rfl ?_
       exact WL.nil (At.join (σ := Bool) true ⟨some1 h, rfl⟩ (.cons rfl (.cons rfl (.cons rfl .nil))))
      ·refine WL.ren 27 rfl (congrArg Value.bool hE48) ?_
       refine WL.ung rfl rfl ?_
       refine WL.y (Y.fieldAddr fo25_1 rfl) rfl ?_
       refine WL.ung rfl rfl ?_
       refine WL.y (Y.loadSc ty23 rfl rfl (hb16.cell 1 _ rfl)) rfl ?_
       refine WL.ung rfl rfl ?_
       refine WL.y (Y.move rfl) rfl ?_
       refine WL.ung rfl rfl ?_
       refine WL.y (Y.sub_i rfl rfl) rfl ?_
       refine WL.ung rfl rfl ?_
       obtain ⟨e49, he49, h⟩ := bnd h
       obtain ⟨b50, off58, cap57, cs56, hv51, hi52, hl53, hc54, hok55, hA59⟩ := Sl.at2 hf21 he49
       obtain rfl := hok55
       replace hc54 : CellsAt _ _ _ [vu e49] := hc54
       have hca60 := CAt.imm hc54 hA59
       refine WL.y (Y.indexAddr ty23 ty22 rfl hv51 rfl hi52 hl53) rfl ?_
       refine WL.ung rfl rfl ?_
       refine WL.y (Y.loadSc ty22 rfl rfl hca60.at_) rfl ?_
       refine WL.ung rfl rfl ?_
       refine WL.y (Y.eql_u (b := 0) rfl rfl) rfl ?_
       refine WL.y (Y.pick (b := false) rfl rfl) rfl ?_
       exact WL.nil (At.join (σ := Bool) (decide (e49 = 0)) ⟨some1 h, rfl⟩ (.cons rfl (.cons rfl (.cons rfl .nil))))
     ·rintro x45 _ ⟨rfl, rfl⟩
      replace h := hk47
      try dsimp only at h
      refine (show WL _ _ _ _ _ [(1, Value.pointer (some ⟨p17, 0, none⟩)), (3, vi nv22), (35, Value.bool x45)] _ from ?_)
      refine WL.y (Y.assign rfl) rfl ?_
      refine WL.nil ?_
      refine At.then ?_
      rcases cnd h with ⟨hc61, h⟩ | ⟨hc61, h⟩
      ·refine WC.condT' rfl hc61 ?_
       refine WC.seq ?_
       refine WC.region ?_
       refine WL.y (Y.assign rfl) rfl ?_
       refine WL.nil ?_
       refine At.then ?_
       refine WC.ret ?_
       refine At.inBlockR ?_
       refine At.thenR ?_
       obtain rfl := some1 h
       have hs62 : Stp [] (Lg.O0 A) w O18 wd19 := (Stp.up hst20 rfl)
       exact At.res (.inl rfl) rfl (.tmp rfl .nil) ⟨rfl, (Stp.ext hs62 rfl rfl)⟩
      ·refine WC.condF' rfl hc61 ?_
       refine WC.seq ?_
       refine WC.region ?_
       refine WL.y (Y.fieldAddr fo25_0 rfl) rfl ?_
       refine WL.y (Y.loadSc ty3 rfl rfl (hb16.cell 0 _ rfl)) rfl ?_
       refine WL.y (Y.lss_i rfl rfl) rfl ?_
       refine WL.y (Y.move rfl) rfl ?_
       refine WL.cut 7 (σ := Unit) (fun _ w' => wd19 = w') (fun _ => [(47, Value.bool ((decide (a0.Offset < (-1073741824))) || (decide (w64 (1073741824 - (w64 (nv22 - 1))) < a0.Offset))))]) ?_ ?_
       ·refine WL.part 40 rfl (fun hE63 => ?_) (fun hE63 => ?_)
        ·refine WL.gS rfl rfl rfl rfl ?_
         refine WL.gS rfl rfl rfl rfl ?_
         refine WL.gS rfl rfl rfl rfl ?_
         refine WL.gS rfl rfl rfl rfl ?_
         refine WL.gS rfl rfl rfl rfl ?_
         refine WL.gS rfl rfl rfl rfl ?_
         refine WL.y (Y.pick (b := true) rfl rfl) rfl ?_
         refine WL.ren (v' := Value.bool ((decide (a0.Offset < (-1073741824))) || (decide (w64 (1073741824 - (w64 (nv22 - 1))) < a0.Offset)))) 47 rfl (congrArg Value.bool (orT hE63)) ?_
         exact WL.nil (At.join () rfl (.cons rfl .nil))
        ·refine WL.ung rfl rfl ?_
         refine WL.y (Y.fieldAddr fo25_0 rfl) rfl ?_
         refine WL.ung rfl rfl ?_
         refine WL.y (Y.loadSc ty3 rfl rfl (hb16.cell 0 _ rfl)) rfl ?_
         refine WL.ung rfl rfl ?_
         refine WL.y (Y.move rfl) rfl ?_
         refine WL.ung rfl rfl ?_
         refine WL.y (Y.sub_i rfl rfl) rfl ?_
         refine WL.ung rfl rfl ?_
         refine WL.y (Y.sub_i rfl rfl) rfl ?_
         refine WL.ung rfl rfl ?_
         refine WL.y (Y.gtr_i rfl rfl) rfl ?_
         refine WL.y (Y.pick (b := false) rfl rfl) rfl ?_
         refine WL.ren (v' := Value.bool ((decide (a0.Offset < (-1073741824))) || (decide (w64 (1073741824 - (w64 (nv22 - 1))) < a0.Offset)))) 47 rfl (congrArg Value.bool (orF hE63)) ?_
         exact WL.nil (At.join () rfl (.cons rfl .nil))
       ·rintro _ _ rfl
        refine (show WL _ _ _ _ _ [(47, Value.bool ((decide (a0.Offset < (-1073741824))) || (decide (w64 (1073741824 - (w64 (nv22 - 1))) < a0.Offset))))] _ from ?_)
        obtain ⟨t64, ht64, h⟩ := lt1 h
        refine WL.yE (Y.assign rfl) (congrArg Value.bool ht64.symm) rfl ?_
        refine WL.nil ?_
        refine At.then ?_
        rcases cnd h with ⟨hc65, h⟩ | ⟨hc65, h⟩
        ·refine WC.condT' rfl hc65 ?_
         refine WC.seq ?_
         refine WC.region ?_
         refine WL.y (Y.assign rfl) rfl ?_
         refine WL.nil ?_
         refine At.then ?_
         refine WC.ret ?_
         refine At.inBlockR ?_
         refine At.thenR ?_
         obtain rfl := some1 h
         have hs66 : Stp [] (Lg.O0 A) w O18 wd19 := (Stp.up hst20 rfl)
         exact At.res (.inl rfl) rfl (.tmp rfl .nil) ⟨rfl, (Stp.ext hs66 rfl rfl)⟩
        ·refine WC.condF' rfl hc65 ?_
         refine WC.skip ?_
         refine At.inBlock ?_
         refine At.then ?_
         refine WC.seq ?_
         refine WC.region ?_
         refine WL.y (Y.assign rfl) rfl ?_
         refine WL.nil ?_
         refine At.then ?_
         refine WC.ret ?_
         obtain rfl := some1 h
         have hs67 : Stp [] (Lg.O0 A) w O18 wd19 := (Stp.up hst20 rfl)
         exact At.res (.inl rfl) rfl (.tmp rfl .nil) ⟨rfl, (Stp.ext hs67 rfl rfl)⟩
theorem c_hist_Check {A : Nat → Prop} {v0_3 : Value} {v0_5 : Value} {a0 : api_Hist} {w : World} (hs0_3 : Sl Rep.u w A v0_3 a0.Pos.Counts) (hs0_5 : Sl Rep.u w A v0_5 a0.Neg.Counts) {r0 : Int} (h : hist_Check a0 = some r0) : Rets Try.prog 19 [Value.agg (List.toArray [vi a0.Scale, vu a0.Zero, vi a0.Pos.Offset, v0_3, vi a0.Neg.Offset, v0_5])] w (fun v w' => v = vi r0 ∧ Ext w w') := by
 unfold hist_Check at h
 refine Rets.enter Try.func19 rfl rfl ?_
 have hf11 : Sl Rep.u w (imm (Lg.O0 A)) v0_3 a0.Pos.Counts := (Sl.start hs0_3)
 have hf12 : Sl Rep.u w (imm (Lg.O0 A)) v0_5 a0.Neg.Counts := (Sl.start hs0_5)
 refine (show WC _ _ _ _ [(0, Value.agg (List.toArray [vi a0.Scale, vu a0.Zero, vi a0.Pos.Offset, v0_3, vi a0.Neg.Offset, v0_5]))] _ from ?_)
 refine WC.seq ?_
 refine WC.region ?_
 have hh16 := h
 obtain ⟨p13, m14, c15, rfl⟩ := hf11.shape
 have h := hh16
 have hh20 := h
 obtain ⟨p17, m18, c19, rfl⟩ := hf12.shape
 have h := hh20
 refine WL.box (O := (Lg.O0 A)) 11 [vi a0.Scale, vu a0.Zero, vi a0.Pos.Offset, (Value.slice p13 m14 c15), vi a0.Neg.Offset, (Value.slice p17 m18 c19)] rfl rfl rfl ?_
 intro p22 O23 wd24 hst25 hb21
 refine WL.y (Y.assign rfl) rfl ?_
 refine WL.nil ?_
 refine At.then ?_
 refine WC.seq ?_
 refine WC.seq ?_
 refine WC.region ?_
 refine WL.y (Y.fieldAddr fo27_0 rfl) rfl ?_
 refine WL.y (Y.loadSc ty3 rfl rfl (hb21.cell 0 _ rfl)) rfl ?_
 refine WL.y (Y.lss_i rfl rfl) rfl ?_
 refine WL.y (Y.move rfl) rfl ?_
 refine WL.cut 4 (σ := Unit) (fun _ w' => wd24 = w') (fun _ => [(1, Value.pointer (some ⟨p22, 0, none⟩)), (15, Value.bool ((decide (a0.Scale < (-10))) || (decide (20 < a0.Scale))))]) ?_ ?_
 ·refine WL.part 11 rfl (fun hE26 => ?_) (fun hE26 => ?_)
  ·refine WL.gS rfl rfl rfl rfl ?_
   refine WL.gS rfl rfl rfl rfl ?_
   refine WL.gS rfl rfl rfl rfl ?_
   refine WL.y (Y.pick (b := true) rfl rfl) rfl ?_
   refine WL.ren (v' := Value.bool ((decide (a0.Scale < (-10))) || (decide (20 < a0.Scale)))) 15 rfl (congrArg Value.bool (orT hE26)) ?_
   exact WL.nil (At.join () rfl (.cons rfl (.cons rfl .nil)))
  ·refine WL.ung rfl rfl ?_
   refine WL.y (Y.fieldAddr fo27_0 rfl) rfl ?_
   refine WL.ung rfl rfl ?_
   refine WL.y (Y.loadSc ty3 rfl rfl (hb21.cell 0 _ rfl)) rfl ?_
   refine WL.ung rfl rfl ?_
   refine WL.y (Y.gtr_i rfl rfl) rfl ?_
   refine WL.y (Y.pick (b := false) rfl rfl) rfl ?_
   refine WL.ren (v' := Value.bool ((decide (a0.Scale < (-10))) || (decide (20 < a0.Scale)))) 15 rfl (congrArg Value.bool (orF hE26)) ?_
   exact WL.nil (At.join () rfl (.cons rfl (.cons rfl .nil)))
 ·rintro _ _ rfl
  refine (show WL _ _ _ _ _ [(1, Value.pointer (some ⟨p22, 0, none⟩)), (15, Value.bool ((decide (a0.Scale < (-10))) || (decide (20 < a0.Scale))))] _ from ?_)
  refine WL.nil ?_
  refine At.then ?_
  rcases cnd h with ⟨hc27, h⟩ | ⟨hc27, h⟩
  ·refine WC.condT' rfl hc27 ?_
   refine WC.seq ?_
   refine WC.region ?_
   refine WL.y (Y.assign rfl) rfl ?_
   refine WL.nil ?_
   refine At.then ?_
   refine WC.ret ?_
   refine At.thenR ?_
   obtain rfl := some1 h
   have hs28 : Stp [] (Lg.O0 A) w O23 wd24 := (Stp.up hst25 rfl)
   exact At.res (.inl rfl) rfl (.tmp rfl .nil) ⟨rfl, (Stp.ext hs28 rfl rfl)⟩
  ·refine WC.condF' rfl hc27 ?_
   refine WC.skip ?_
   refine At.then ?_
   refine WC.seq ?_
   refine WC.seq ?_
   refine WC.region ?_
   refine WL.y (Y.loadAg ty27 rfl rfl (hb21.cells 0 [vi a0.Scale, vu a0.Zero, vi a0.Pos.Offset, (Value.slice p13 m14 c15), vi a0.Neg.Offset, (Value.slice p17 m18 c19)] rfl) rfl) rfl ?_
   have hf29 := hf11.mono (imm_st hst25 rfl rfl)
   have hf30 := hf12.mono (imm_st hst25 rfl rfl)
   obtain ⟨r31, hp32, h⟩ := bnd h
   refine WL.call (vals := [Value.agg (List.toArray [vi a0.Scale, vu a0.Zero, vi a0.Pos.Offset, (Value.slice p13 m14 c15), vi a0.Neg.Offset, (Value.slice p17 m18 c19)])]) kok57 rfl rfl (c_hist_sides (A := imm O23) (a0 := a0) hf29 hf30 hp32) ?_
   rintro vr38 wd37 ⟨cs33, rfl, hm36, f34, f35⟩
   obtain ⟨O39, hold40, hnew41, hst42⟩ := adoptE O23 (fun k => 1) hm36
   have hf43 := Rows'.adoptI (O := O23) f34 (fun _ hk => hk) (fun _ _ => Nat.le_refl _) hold40 hnew41
   refine WL.y (Y.move rfl) rfl ?_
   refine WL.nil ?_
   refine At.then ?_
   obtain ⟨p47, h, hk48⟩ := flow1 h
   refine WC.join (σ := Own) (fun x w' => p47 = .go () ∧ Stp [12] O39 wd37 x w') (fun x => [(1, Value.pointer (some ⟨p22, 0, none⟩))]) ?_ ?_
   ·refine WC.block ?_
    obtain ⟨p56, h, hk58⟩ := flow1 h
    obtain ⟨k57, h⟩ := loop_some h
    refine WC.joinB 0 (σ := Own) (fun x w' => p56 = .go () ∧ Stp [12] O39 wd37 x w') (fun x => [(1, Value.pointer (some ⟨p22, 0, none⟩))]) ?_ ?_
    ·refine WC.loop (σ := (Int × Own)) (fun x k w' => loopN k (hist_Check_lp1 r31) x.1 = some p56 ∧ Stp [12] O39 wd37 x.2 w') (fun x => [(1, Value.pointer (some ⟨p22, 0, none⟩)), (17, Value.agg (List.toArray cs33)), (18, vi x.1)]) (0, O39) k57 (.cons rfl (.cons rfl (.cons rfl .nil))) ⟨h, (Stp.refl _ _ _)⟩ ?_
     rintro ⟨x49, O50⟩ k57 wd51 ⟨h, hst52⟩
     obtain ⟨j59, q60, rfl, h, hn61⟩ := rnd1 h
     unfold hist_Check_lp1 at h
     try dsimp only at h hst52
     refine (show WC _ _ _ _ [(1, Value.pointer (some ⟨p22, 0, none⟩)), (17, Value.agg (List.toArray cs33)), (18, vi x49)] _ from ?_)
     refine WC.seq ?_
     refine WC.region ?_
     refine WL.y (Y.lss_i rfl rfl) rfl ?_
     refine WL.nil ?_
     refine At.then ?_
     refine WC.seq ?_
     rcases cnd h with ⟨hc62, h⟩ | ⟨hc62, h⟩
     ·refine WC.condT' rfl hc62 ?_
      refine WC.skip ?_
      refine At.then ?_
      refine WC.seq ?_
      refine WC.block ?_
      refine WC.seq ?_
      refine WC.region ?_
      have hf63 := Rows'.mono (imm_st hst52 rfl rfl) hf43
      obtain ⟨e64, he64, h⟩ := bnd h
      obtain ⟨cs65, hcs66, hok67⟩ := arrAt (R := rep_api_Side) (w := wd51) (A := imm O50) (cells := cs33) hf63 he64
      obtain ⟨_, _, rfl, rfl, ⟨v68, rfl, hf69⟩⟩ := hok67
      replace hcs66 : _ = [vi e64.Offset, v68] := hcs66
      refine WL.y (Y.indexArrAg ty75 ty25 rfl rfl hcs66 he64 f35) rfl ?_
      refine WL.alloc (O := O50) 12 [vi 0, Value.slice none 0 0] ty25 rfl rfl ?_
      intro p71 O72 wd73 hst74 hb70
      have hf75 := hf69.mono (imm_st hst74 rfl rfl)
      have hh79 := h
      obtain ⟨p76, m77, c78, rfl⟩ := hf75.shape
      have h := hh79
      refine WL.store (v := Value.agg (List.toArray [vi e64.Offset, (Value.slice p76 m77 c78)])) (cells' := [vi e64.Offset, (Value.slice p76 m77 c78)]) ty25 rfl rfl hb70 rfl (Nat.le_of_ble_eq_true rfl) rfl rfl ?_
      intro wd80 hst81 hb82
      refine WL.nil ?_
      refine At.then ?_
      refine WC.seq ?_
      refine WC.region ?_
      refine WL.y (Y.loadAg ty25 rfl rfl (hb82.cells 0 [vi e64.Offset, (Value.slice p76 m77 c78)] rfl) rfl) rfl ?_
      have hf83 := hf75.mono (imm_st hst81 rfl rfl)
      obtain ⟨r84, hp85, h⟩ := bnd h
      refine WL.call (vals := [Value.agg (List.toArray [vi e64.Offset, (Value.slice p76 m77 c78)])]) kok60 rfl rfl (c_hist_check (A := fun _ => True) (a0 := e64) (Sl.all hf83) hp85) ?_
      rintro vr88 wd87 ⟨rfl, hm86⟩
      obtain ⟨O89, hold90, hnew91, hst92⟩ := adoptE O72 (fun k => 1) hm86
      refine WL.y (Y.assign rfl) rfl ?_
      refine WL.nil ?_
      refine At.then ?_
      refine WC.seq ?_
      refine WC.region ?_
      refine WL.y (Y.move rfl) rfl ?_
      refine WL.y (Y.neq_i rfl rfl) rfl ?_
      refine WL.nil ?_
      refine At.then ?_
      rcases cnd h with ⟨hc93, h⟩ | ⟨hc93, h⟩
      ·refine WC.condT' rfl hc93 ?_
       refine WC.seq ?_
       refine WC.region ?_
       refine WL.y (Y.move rfl) rfl ?_
       refine WL.y (Y.assign rfl) rfl ?_
       refine WL.nil ?_
       refine At.then ?_
       refine WC.ret ?_
       refine At.inBlockR ?_
       refine At.thenR ?_
       refine At.loopR ?_
       have h := outr1 h hn61 hk58
       refine At.joinBR ?_
       refine At.inBlockR ?_
       have h := outs1 h hk48
       refine At.joinR ?_
       refine At.thenR ?_
       obtain rfl := some1 h
       have hs94 : Stp [12] (Lg.O0 A) w O89 wd87 := (Stp.trans (Stp.up hst25 rfl) (Stp.trans (Stp.up hst42 rfl) (Stp.trans (Stp.up hst52 rfl) (Stp.trans (Stp.up hst74 rfl) (Stp.trans (Stp.up hst81 rfl) (Stp.up hst92 rfl))))))
       exact At.res (.inl rfl) rfl (.tmp rfl .nil) ⟨rfl, (Stp.ext hs94 rfl rfl)⟩
      ·refine WC.condF' rfl hc93 ?_
       refine WC.skip ?_
       refine At.inBlock ?_
       refine At.then ?_
       refine WC.region ?_
       refine WL.y (Y.add_i rfl rfl) rfl ?_
       refine WL.y (Y.move rfl) rfl ?_
       refine WL.nil ?_
       exact At.round (w64 (x49 + 1), O89) j59 (Nat.lt_succ_self _) ⟨next1 h hn61, (Stp.trans (Stp.up hst52 rfl) (Stp.trans (Stp.up hst74 rfl) (Stp.trans (Stp.up hst81 rfl) (Stp.up hst92 rfl))))⟩ (.cons rfl (.cons rfl (.cons rfl .nil)))
     ·refine WC.condF' rfl hc62 ?_
      refine WC.exit ?_
      refine At.thenX ?_
      refine At.loopX ?_
      exact At.hitB (σ := Own) O50 ⟨brk1 h hn61, (Stp.up hst52 rfl)⟩ (.cons rfl .nil)
    ·rintro O53 wd54 ⟨rfl, hst55⟩
     replace h := flowK_go hk58
     refine (show At _ _ _ [(1, Value.pointer (some ⟨p22, 0, none⟩))] _ from ?_)
     refine At.inBlockHit ?_
     exact At.join (σ := Own) O53 ⟨go2 h, (Stp.up hst55 rfl)⟩ (.cons rfl .nil)
   ·rintro O44 wd45 ⟨rfl, hst46⟩
    replace h := flowK_go hk48
    refine (show At _ _ _ [(1, Value.pointer (some ⟨p22, 0, none⟩))] _ from ?_)
    refine At.then ?_
    refine WC.seq ?_
    refine WC.seq ?_
    refine WC.region ?_
    have hf95 := hb21.st hst42 rfl
    have hf96 := hf95.st hst46 rfl
    refine WL.y (Y.loadAg ty27 rfl rfl (hf96.cells 0 [vi a0.Scale, vu a0.Zero, vi a0.Pos.Offset, (Value.slice p13 m14 c15), vi a0.Neg.Offset, (Value.slice p17 m18 c19)] rfl) rfl) rfl ?_
    have hf97 := hf29.mono (imm_st hst42 rfl rfl)
    have hf98 := hf97.mono (imm_st hst46 rfl rfl)
    have hf99 := hf30.mono (imm_st hst42 rfl rfl)
    have hf100 := hf99.mono (imm_st hst46 rfl rfl)
    obtain ⟨⟨r101, r102⟩, hp103, h⟩ := bnd h
    refine WL.call (vals := [Value.agg (List.toArray [vi a0.Scale, vu a0.Zero, vi a0.Pos.Offset, (Value.slice p13 m14 c15), vi a0.Neg.Offset, (Value.slice p17 m18 c19)])]) kok17 rfl rfl (c_hist_Total (A := fun _ => True) (a0 := a0) (Sl.all hf98) (Sl.all hf100) hp103) ?_
    rintro vr106 wd105 ⟨rfl, hm104⟩
    obtain ⟨O107, hold108, hnew109, hst110⟩ := adoptE O44 (fun k => 1) hm104
    refine WL.y (Y.move rfl) rfl ?_
    refine WL.y (Y.extract rfl rfl) rfl ?_
    refine WL.y (Y.extract rfl rfl) rfl ?_
    refine WL.y (Y.assign rfl) rfl ?_
    refine WL.y (Y.assign rfl) rfl ?_
    refine WL.nil ?_
    refine At.then ?_
    refine WC.seq ?_
    refine WC.region ?_
    refine WL.y (Y.move rfl) rfl ?_
    refine WL.y (Y.not rfl) rfl ?_
    refine WL.nil ?_
    refine At.then ?_
    rcases cnd h with ⟨hc111, h⟩ | ⟨hc111, h⟩
    ·refine WC.condT' rfl hc111 ?_
     refine WC.seq ?_
     refine WC.region ?_
     refine WL.y (Y.assign rfl) rfl ?_
     refine WL.nil ?_
     refine At.then ?_
     refine WC.ret ?_
     refine At.thenR ?_
     obtain rfl := some1 h
     have hs112 : Stp [12] (Lg.O0 A) w O107 wd105 := (Stp.trans (Stp.up hst25 rfl) (Stp.trans (Stp.up hst42 rfl) (Stp.trans (Stp.up hst46 rfl) (Stp.up hst110 rfl))))
     exact At.res (.inl rfl) rfl (.tmp rfl .nil) ⟨rfl, (Stp.ext hs112 rfl rfl)⟩
    ·refine WC.condF' rfl hc111 ?_
     refine WC.skip ?_
     refine At.then ?_
     refine WC.seq ?_
     refine WC.region ?_
     refine WL.y (Y.assign rfl) rfl ?_
     refine WL.nil ?_
     refine At.then ?_
     refine WC.ret ?_
     obtain rfl := some1 h
     have hs113 : Stp [12] (Lg.O0 A) w O107 wd105 := (Stp.trans (Stp.up hst25 rfl) (Stp.trans (Stp.up hst42 rfl) (Stp.trans (Stp.up hst46 rfl) (Stp.up hst110 rfl))))
     exact At.res (.inl rfl) rfl (.tmp rfl .nil) ⟨rfl, (Stp.ext hs113 rfl rfl)⟩
theorem c_hist_span {A : Nat → Prop} {v0_1 : Value} {a0 : api_Side} {a1 : UInt64} {w : World} (hs0_1 : Sl Rep.u w A v0_1 a0.Counts) {r0 : Int} (h : hist_span a0 a1 = some r0) : Rets Try.prog 64 [Value.agg (List.toArray [vi a0.Offset, v0_1]), vu a1] w (fun v w' => v = vi r0 ∧ Ext w w') := by
 unfold hist_span at h
 refine Rets.enter Try.func64 rfl rfl ?_
 have hf11 : Sl Rep.u w (imm (Lg.O0 A)) v0_1 a0.Counts := (Sl.start hs0_1)
 refine (show WC _ _ _ _ [(0, Value.agg (List.toArray [vi a0.Offset, v0_1])), (1, vu a1)] _ from ?_)
 refine WC.seq ?_
 refine WC.region ?_
 have hh15 := h
 obtain ⟨p12, m13, c14, rfl⟩ := hf11.shape
 have h := hh15
 refine WL.box (O := (Lg.O0 A)) 11 [vi a0.Offset, (Value.slice p12 m13 c14)] rfl rfl rfl ?_
 intro p17 O18 wd19 hst20 hb16
 refine WL.y (Y.assign rfl) rfl ?_
 refine WL.nil ?_
 refine At.then ?_
 refine WC.seq ?_
 refine WC.region ?_
 refine WL.y (Y.fieldAddr fo25_1 rfl) rfl ?_
 refine WL.y (Y.loadSc ty23 rfl rfl (hb16.cell 1 _ rfl)) rfl ?_
 have hf21 := hf11.mono (imm_st hst20 rfl rfl)
 refine WL.y (Y.len ty23 rfl hf21) rfl ?_
 obtain ⟨nv22, hnv22, h⟩ := lt1 h
 refine WL.yE (Y.assign rfl) (congrArg vi hnv22.symm) rfl ?_
 refine WL.nil ?_
 refine At.then ?_
 refine WC.seq ?_
 refine WC.seq ?_
 refine WC.region ?_
 refine WL.y (Y.move rfl) rfl ?_
 refine WL.y (Y.eql_i rfl rfl) rfl ?_
 refine WL.nil ?_
 refine At.then ?_
 rcases cnd h with ⟨hc23, h⟩ | ⟨hc23, h⟩
 ·refine WC.condT' rfl hc23 ?_
  refine WC.seq ?_
  refine WC.region ?_
  refine WL.y (Y.assign rfl) rfl ?_
  refine WL.nil ?_
  refine At.then ?_
  refine WC.ret ?_
  refine At.thenR ?_
  obtain rfl := some1 h
  have hs24 : Stp [] (Lg.O0 A) w O18 wd19 := (Stp.up hst20 rfl)
  exact At.res (.inl rfl) rfl (.tmp rfl .nil) ⟨rfl, (Stp.ext hs24 rfl rfl)⟩
 ·refine WC.condF' rfl hc23 ?_
  refine WC.skip ?_
  refine At.then ?_
  refine WC.seq ?_
  refine WC.region ?_
  refine WL.y (Y.fieldAddr fo25_0 rfl) rfl ?_
  refine WL.y (Y.loadSc ty3 rfl rfl (hb16.cell 0 _ rfl)) rfl ?_
  refine WL.y (Y.move rfl) rfl ?_
  refine WL.y (Y.add_i rfl rfl) rfl ?_
  refine WL.y (Y.sub_i rfl rfl) rfl ?_
  refine WL.y (Y.move rfl) rfl ?_
  refine WL.y (Y.shr_iu rfl rfl) rfl ?_
  refine WL.y (Y.fieldAddr fo25_0 rfl) rfl ?_
  refine WL.y (Y.loadSc ty3 rfl rfl (hb16.cell 0 _ rfl)) rfl ?_
  refine WL.y (Y.move rfl) rfl ?_
  refine WL.y (Y.shr_iu rfl rfl) rfl ?_
  refine WL.y (Y.sub_i rfl rfl) rfl ?_
  refine WL.y (Y.add_i rfl rfl) rfl ?_
  obtain ⟨t25, ht25, h⟩ := lt1 h
  refine WL.yE (Y.assign rfl) (congrArg vi ht25.symm) rfl ?_
  refine WL.nil ?_
  refine At.then ?_
  refine WC.ret ?_
  obtain rfl := some1 h
  have hs26 : Stp [] (Lg.O0 A) w O18 wd19 := (Stp.up hst20 rfl)
  exact At.res (.inl rfl) rfl (.tmp rfl .nil) ⟨rfl, (Stp.ext hs26 rfl rfl)⟩
theorem c_hist_down {A : Nat → Prop} {v0_1 : Value} {a0 : api_Side} {a1 : UInt64} {w : World} (hs0_1 : Sl Rep.u w A v0_1 a0.Counts) {r0 : api_Side} (h : hist_down a0 a1 = some r0) : Rets Try.prog 62 [Value.agg (List.toArray [vi a0.Offset, v0_1]), vu a1] w (fun v w' => ∃ (u0_1 : Value), v = Value.agg (List.toArray [vi r0.Offset, u0_1]) ∧ Ext w w' ∧ RowF Rep.u 22 w w' u0_1 r0.Counts) := by
 unfold hist_down at h
 refine Rets.enter Try.func62 rfl rfl ?_
 have hf11 : Sl Rep.u w (imm (Lg.O0 A)) v0_1 a0.Counts := (Sl.start hs0_1)
 refine (show WC _ _ _ _ [(0, Value.agg (List.toArray [vi a0.Offset, v0_1])), (1, vu a1)] _ from ?_)
 refine WC.seq ?_
 refine WC.region ?_
 have hh15 := h
 obtain ⟨p12, m13, c14, rfl⟩ := hf11.shape
 have h := hh15
 refine WL.box (O := (Lg.O0 A)) 11 [vi a0.Offset, (Value.slice p12 m13 c14)] rfl rfl rfl ?_
 intro p17 O18 wd19 hst20 hb16
 refine WL.alloc (O := O18) 12 [vi 0, Value.slice none 0 0] ty25 rfl rfl ?_
 intro p22 O23 wd24 hst25 hb21
 refine WL.nil ?_
 refine At.then ?_
 refine WC.seq ?_
 refine WC.seq ?_
 refine WC.region ?_
 refine WL.y (Y.fieldAddr fo25_1 rfl) rfl ?_
 have hf26 := hb16.st hst25 rfl
 refine WL.y (Y.loadSc ty23 rfl rfl (hf26.cell 1 _ rfl)) rfl ?_
 have hf27 := hf11.mono (imm_st hst20 rfl rfl)
 have hf28 := hf27.mono (imm_st hst25 rfl rfl)
 refine WL.y (Y.len ty23 rfl hf28) rfl ?_
 refine WL.y (Y.eql_i rfl rfl) rfl ?_
 refine WL.nil ?_
 refine At.then ?_
 rcases cnd h with ⟨hc29, h⟩ | ⟨hc29, h⟩
 ·refine WC.condT' rfl hc29 ?_
  refine WC.seq ?_
  refine WC.region ?_
  refine WL.y (Y.build (vals := []) (cells := [vi 0, Value.slice none 0 0]) (Fits.evalp rfl) (by kernel_rfl)) rfl ?_
  refine WL.store (v := Value.agg (List.toArray [vi 0, Value.slice none 0 0])) (cells' := [vi 0, Value.slice none 0 0]) ty25 rfl rfl hb21 rfl (Nat.le_of_ble_eq_true rfl) rfl rfl ?_
  intro wd30 hst31 hb32
  refine WL.nil ?_
  refine At.then ?_
  refine WC.ret ?_
  refine At.thenR ?_
  obtain rfl := some1 h
  have hs33 : Stp [12] (Lg.O0 A) w O23 wd30 := (Stp.trans (Stp.up hst20 rfl) (Stp.trans (Stp.up hst25 rfl) (Stp.up hst31 rfl)))
  exact At.res (.inl rfl) rfl (.cell rfl (hb32.runAg 0 [vi 0, Value.slice none 0 0] ty25 rfl rfl rfl) .nil) ⟨Value.slice none 0 0, rfl, (Stp.ext hs33 rfl rfl), RowF.nil⟩
 ·refine WC.condF' rfl hc29 ?_
  refine WC.skip ?_
  refine At.then ?_
  refine WC.seq ?_
  refine WC.drawH [13, 14, 15, 16, 17, 18, 1001, 1002] [0, 1, 2, 3, 4, 5, 6, 7, 8, 9] O23 11 fmix rfl (by kernel_rfl) ?_
  intro wd34 hst35
  refine WD.y 0 rfl (by kernel_rfl) (fun _ _ _ => Y.fieldAddr fo25_0 rfl) rfl ?_
  refine WD.y 1 rfl (by kernel_rfl) (fun wd40 O39 hst41 => have hf42 := hf26.st hst35 rfl; have hf43 := hf42.st hst41 rfl; Y.loadSc ty3 rfl rfl (hf43.cell 0 _ rfl)) rfl ?_
  refine WD.y 2 rfl (by kernel_rfl) (fun _ _ _ => Y.move rfl) rfl ?_
  refine WD.y 3 rfl (by kernel_rfl) (fun _ _ _ => Y.shr_iu rfl rfl) rfl ?_
  refine WD.y 4 rfl (by kernel_rfl) (fun wd51 O50 hst52 => have hf53 := hf26.st hst35 rfl; have hf54 := hf53.st hst52 rfl; Y.loadAg ty25 rfl rfl (hf54.cells 0 [vi a0.Offset, (Value.slice p12 m13 c14)] rfl) rfl) rfl ?_
  refine WD.y 5 rfl (by kernel_rfl) (fun _ _ _ => Y.move rfl) rfl ?_
  obtain ⟨p66, h, hk67⟩ := bnd h
  refine WD.join (σ := (List UInt64 × Own × Nat × Value)) (f' := 1) [9, 8, 7, 6, 5, 4, 3, 2, 1, 0] (fun x O' w' => x.1 = p66 ∧ Stp [13, 14, 15, 16, 17, 18, 1001, 1002] O23 wd34 x.2.1 w' ∧ Blk 1003 x.2.1 w' x.2.2.1 25 [vi 0, Value.slice none 0 0] ∧ OwnSl 1004 Rep.u 22 x.2.1 w' x.2.2.2 x.1 ∧ x.2.1 = O') (fun x => [(1, vu a1), (2, Value.pointer (some ⟨p17, 0, none⟩)), (4, Value.pointer (some ⟨p22, 0, none⟩)), (5, Value.pointer (some ⟨x.2.2.1, 0, none⟩)), (21, Value.agg (List.toArray [vi (shrI a0.Offset a1.toNat), x.2.2.2]))]) (fun hJ68 => ?_) ?_
  ·refine WD.heavy2 6 9 rfl rfl (by kernel_rfl) ?_ ?_
   ·have hf69 := hf28.mono (imm_st hst35 rfl rfl)
    obtain ⟨r70, hp71, h⟩ := bnd h
    refine WL.call (vals := [Value.agg (List.toArray [vi a0.Offset, (Value.slice p12 m13 c14)]), vu a1]) kok64 rfl rfl (c_hist_span (A := fun _ => True) (a0 := a0) (Sl.all hf69) hp71) ?_
    rintro vr74 wd73 ⟨rfl, hm72⟩
    obtain ⟨O75, hold76, hnew77, hst78⟩ := adoptE O23 (fun k => 1) hm72
    refine WL.nil ?_
    refine At.dq (Stp.up hst78 rfl) ?_
    obtain ⟨p87, h, hk88⟩ := bnd h
    refine WD.join (σ := (List UInt64 × Own × Nat × Value)) (f' := 1) [9, 8, 7, 6, 5, 4, 3, 2, 1, 0] (fun x O' w' => x.1 = p87 ∧ Stp [13, 14, 15, 16] O75 wd73 x.2.1 w' ∧ Blk 1001 x.2.1 w' x.2.2.1 25 [vi 0, Value.slice none 0 0] ∧ OwnSl 1002 Rep.u 22 x.2.1 w' x.2.2.2 x.1 ∧ x.2.1 = O') (fun x => [(1, vu a1), (2, Value.pointer (some ⟨p17, 0, none⟩)), (4, Value.pointer (some ⟨p22, 0, none⟩)), (5, Value.pointer (some ⟨x.2.2.1, 0, none⟩)), (21, Value.agg (List.toArray [vi (shrI a0.Offset a1.toNat), x.2.2.2]))]) (fun hJ89 => ?_) ?_
    ·refine WD.heavy2 7 9 rfl rfl (by kernel_rfl) ?_ ?_
     ·obtain ⟨t90, ht90, h⟩ := bnd h
      refine WL.make (O := O75) (R := Rep.u) (zx := (0 : UInt64)) 13 (by decide) ty23 ty22 rfl (by decide) (by decide) rfl rfl (fun _ _ => rfl) ht90 rfl ?_
      intro v91 O93 wd94 hst95 ho92
      refine WL.nil ?_
      refine At.dq (Stp.up hst95 rfl) ?_
      have hh99 := h
      obtain ⟨p96, m97, c98, rfl⟩ := ho92.shape
      have h := hh99
      refine WD.y 8 rfl (by kernel_rfl) (fun _ _ _ => Y.build (vals := [(0, vi (shrI a0.Offset a1.toNat)), (1, (Value.slice p96 m97 c98))]) (cells := [vi (shrI a0.Offset a1.toNat), (Value.slice p96 m97 c98)]) (Fits.evalp rfl) (by kernel_rfl)) rfl ?_
      refine WD.heavy 9 rfl (by kernel_rfl) ?_
      refine WL.alloc (O := O93) 14 [vi 0, Value.slice none 0 0] ty25 rfl rfl ?_
      intro p104 O105 wd106 hst107 hb103
      refine WL.nil ?_
      refine At.dq (Stp.up hst107 rfl) ?_
      obtain ⟨O108, hst109, hb110⟩ := Blk.rlb 1001 rfl hb103
      have hf111 := ho92.st hst107 rfl rfl rfl
      have hf112 := hf111.st hst109 rfl rfl rfl
      obtain ⟨O113, hst114, ho115⟩ := OwnSl.rlb 1002 rfl hf112
      have hf116 := hb110.st hst114 rfl
      refine WD.own (Stp.trans (Stp.up hst109 rfl) (Stp.up hst114 rfl)) ?_
      refine WD.perm _ [9, 8, 7, 6, 5, 4, 3, 2, 1, 0] (by kernel_rfl) ?_
      exact hJ89 (t90, O113, p104, (Value.slice p96 m97 c98)) _ _ _ ⟨some1 h, (Stp.trans (Stp.up hst95 rfl) (Stp.trans (Stp.up hst107 rfl) (Stp.trans (Stp.up hst109 rfl) (Stp.up hst114 rfl)))), hf116, ho115, rfl⟩ (.cons rfl (.cons rfl (.cons rfl (.cons rfl (.cons rfl .nil)))))
     ·try simp only [Option.bind_assoc] at h
      try simp only [Option.bind_some] at h
      refine WL.alloc (O := O75) 15 [vi 0, Value.slice none 0 0] ty25 rfl rfl ?_
      intro p118 O119 wd120 hst121 hb117
      refine WL.nil ?_
      refine At.dq (Stp.up hst121 rfl) ?_
      refine WD.heavy 7 rfl (by kernel_rfl) ?_
      obtain ⟨t122, ht122, h⟩ := bnd h
      refine WL.make (O := O119) (R := Rep.u) (zx := (0 : UInt64)) 16 (by decide) ty23 ty22 rfl (by decide) (by decide) rfl rfl (fun _ _ => rfl) ht122 rfl ?_
      intro v123 O125 wd126 hst127 ho124
      refine WL.nil ?_
      refine At.dq (Stp.up hst127 rfl) ?_
      have hh131 := h
      obtain ⟨p128, m129, c130, rfl⟩ := ho124.shape
      have h := hh131
      refine WD.y 8 rfl (by kernel_rfl) (fun _ _ _ => Y.build (vals := [(0, vi (shrI a0.Offset a1.toNat)), (1, (Value.slice p128 m129 c130))]) (cells := [vi (shrI a0.Offset a1.toNat), (Value.slice p128 m129 c130)]) (Fits.evalp rfl) (by kernel_rfl)) rfl ?_
      have hf135 := hb117.st hst127 rfl
      obtain ⟨O136, hst137, hb138⟩ := Blk.rlb 1001 rfl hf135
      have hf139 := ho124.st hst137 rfl rfl rfl
      obtain ⟨O140, hst141, ho142⟩ := OwnSl.rlb 1002 rfl hf139
      have hf143 := hb138.st hst141 rfl
      refine WD.own (Stp.trans (Stp.up hst137 rfl) (Stp.up hst141 rfl)) ?_
      refine WD.perm _ [9, 8, 7, 6, 5, 4, 3, 2, 1, 0] (by kernel_rfl) ?_
      exact hJ89 (t122, O140, p118, (Value.slice p128 m129 c130)) _ _ _ ⟨some1 h, (Stp.trans (Stp.up hst121 rfl) (Stp.trans (Stp.up hst127 rfl) (Stp.trans (Stp.up hst137 rfl) (Stp.up hst141 rfl)))), hf143, ho142, rfl⟩ (.cons rfl (.cons rfl (.cons rfl (.cons rfl (.cons rfl .nil)))))
    ·rintro ⟨x81, O84, b79, v82⟩ _ wd85 ⟨rfl, hst86, hb80, hf83, rfl⟩
     replace h := hk88
     try dsimp only at h hst86 hb80 hf83
     refine (show WD _ _ _ _ _ _ _ _ [(1, vu a1), (2, Value.pointer (some ⟨p17, 0, none⟩)), (4, Value.pointer (some ⟨p22, 0, none⟩)), (5, Value.pointer (some ⟨b79, 0, none⟩)), (21, Value.agg (List.toArray [vi (shrI a0.Offset a1.toNat), v82]))] _ _ from ?_)
     obtain ⟨O144, hst145, hb146⟩ := Blk.rlb 1003 rfl hb80
     have hf147 := hf83.st hst145 rfl rfl rfl
     obtain ⟨O148, hst149, ho150⟩ := OwnSl.rlb 1004 rfl hf147
     have hf151 := hb146.st hst149 rfl
     refine WD.own (Stp.trans (Stp.up hst145 rfl) (Stp.up hst149 rfl)) ?_
     refine WD.perm _ [9, 8, 7, 6, 5, 4, 3, 2, 1, 0] (by kernel_rfl) ?_
     exact hJ68 (x81, O148, b79, v82) _ _ _ ⟨some1 h, (Stp.trans (Stp.up hst78 rfl) (Stp.trans (Stp.up hst86 rfl) (Stp.trans (Stp.up hst145 rfl) (Stp.up hst149 rfl)))), hf151, ho150, rfl⟩ (.cons rfl (.cons rfl (.cons rfl (.cons rfl (.cons rfl .nil)))))
   ·try simp only [Option.bind_assoc] at h
    try simp only [Option.bind_some] at h
    refine WL.alloc (O := O23) 17 [vi 0, Value.slice none 0 0] ty25 rfl rfl ?_
    intro p153 O154 wd155 hst156 hb152
    refine WL.nil ?_
    refine At.dq (Stp.up hst156 rfl) ?_
    refine WD.heavy 6 rfl (by kernel_rfl) ?_
    have hf157 := hf28.mono (imm_st hst35 rfl rfl)
    have hf158 := hf157.mono (imm_st hst156 rfl rfl)
    obtain ⟨r159, hp160, h⟩ := bnd h
    refine WL.call (vals := [Value.agg (List.toArray [vi a0.Offset, (Value.slice p12 m13 c14)]), vu a1]) kok64 rfl rfl (c_hist_span (A := fun _ => True) (a0 := a0) (Sl.all hf158) hp160) ?_
    rintro vr163 wd162 ⟨rfl, hm161⟩
    obtain ⟨O164, hold165, hnew166, hst167⟩ := adoptE O154 (fun k => 1) hm161
    refine WL.nil ?_
    refine At.dq (Stp.up hst167 rfl) ?_
    refine WD.heavy 7 rfl (by kernel_rfl) ?_
    obtain ⟨t168, ht168, h⟩ := bnd h
    refine WL.make (O := O164) (R := Rep.u) (zx := (0 : UInt64)) 18 (by decide) ty23 ty22 rfl (by decide) (by decide) rfl rfl (fun _ _ => rfl) ht168 rfl ?_
    intro v169 O171 wd172 hst173 ho170
    refine WL.nil ?_
    refine At.dq (Stp.up hst173 rfl) ?_
    have hh177 := h
    obtain ⟨p174, m175, c176, rfl⟩ := ho170.shape
    have h := hh177
    refine WD.y 8 rfl (by kernel_rfl) (fun _ _ _ => Y.build (vals := [(0, vi (shrI a0.Offset a1.toNat)), (1, (Value.slice p174 m175 c176))]) (cells := [vi (shrI a0.Offset a1.toNat), (Value.slice p174 m175 c176)]) (Fits.evalp rfl) (by kernel_rfl)) rfl ?_
    have hf181 := hb152.st hst167 rfl
    have hf182 := hf181.st hst173 rfl
    obtain ⟨O183, hst184, hb185⟩ := Blk.rlb 1003 rfl hf182
    have hf186 := ho170.st hst184 rfl rfl rfl
    obtain ⟨O187, hst188, ho189⟩ := OwnSl.rlb 1004 rfl hf186
    have hf190 := hb185.st hst188 rfl
    refine WD.own (Stp.trans (Stp.up hst184 rfl) (Stp.up hst188 rfl)) ?_
    refine WD.perm _ [9, 8, 7, 6, 5, 4, 3, 2, 1, 0] (by kernel_rfl) ?_
    exact hJ68 (t168, O187, p153, (Value.slice p174 m175 c176)) _ _ _ ⟨some1 h, (Stp.trans (Stp.up hst156 rfl) (Stp.trans (Stp.up hst167 rfl) (Stp.trans (Stp.up hst173 rfl) (Stp.trans (Stp.up hst184 rfl) (Stp.up hst188 rfl))))), hf190, ho189, rfl⟩ (.cons rfl (.cons rfl (.cons rfl (.cons rfl (.cons rfl .nil)))))
  ·rintro ⟨x60, O63, b58, v61⟩ _ wd64 ⟨rfl, hst65, hb59, hf62, rfl⟩
   replace h := hk67
   try dsimp only at h hst65 hb59 hf62
   refine (show WD _ _ _ _ _ _ _ _ [(1, vu a1), (2, Value.pointer (some ⟨p17, 0, none⟩)), (4, Value.pointer (some ⟨p22, 0, none⟩)), (5, Value.pointer (some ⟨b58, 0, none⟩)), (21, Value.agg (List.toArray [vi (shrI a0.Offset a1.toNat), v61]))] _ _ from ?_)
   refine WD.phase [1003] [0, 1, 2, 3, 4, 5, 6, 7, 8, 9, 10] (by kernel_rfl) (by kernel_rfl) ?_
   refine WD.heavy 10 rfl (by kernel_rfl) ?_
   have hh194 := h
   obtain ⟨p191, m192, c193, rfl⟩ := hf62.shape
   have h := hh194
   refine WL.store (v := Value.agg (List.toArray [vi (shrI a0.Offset a1.toNat), (Value.slice p191 m192 c193)])) (cells' := [vi (shrI a0.Offset a1.toNat), (Value.slice p191 m192 c193)]) ty25 rfl rfl hb59 rfl (Nat.le_of_ble_eq_true rfl) rfl rfl ?_
   intro wd195 hst196 hb197
   refine WL.nil ?_
   refine At.dq (Stp.up hst196 rfl) ?_
   refine WD.done_ (by kernel_rfl) ?_
   refine At.then ?_
   refine WC.seq ?_
   refine WC.seq ?_
   refine WC.region ?_
   refine WL.y (Y.fieldAddr fo25_1 rfl) rfl ?_
   have hf198 := hf26.st hst35 rfl
   have hf199 := hf198.st hst65 rfl
   have hf200 := hf199.st hst196 rfl
   refine WL.y (Y.loadSc ty23 rfl rfl (hf200.cell 1 _ rfl)) rfl ?_
   have hf201 := hf28.mono (imm_st hst35 rfl rfl)
   have hf202 := hf201.mono (imm_st hst65 rfl rfl)
   have hf203 := hf202.mono (imm_st hst196 rfl rfl)
   refine WL.y (Y.len ty23 rfl hf203) rfl ?_
   refine WL.y (Y.move rfl) rfl ?_
   refine WL.nil ?_
   refine At.then ?_
   refine WC.block ?_
   obtain ⟨p217, h, hk219⟩ := flow1 h
   obtain ⟨k218, h⟩ := loop_some h
   refine WC.joinB 0 (σ := (List UInt64 × Own)) (fun x w' => p217 = .go x.1 ∧ Stp [1004, 1005] O63 wd195 x.2 w' ∧ OwnSl 1006 Rep.u 22 x.2 w' (Value.slice p191 m192 c193) x.1) (fun x => [(4, Value.pointer (some ⟨p22, 0, none⟩)), (5, Value.pointer (some ⟨b58, 0, none⟩))]) ?_ ?_
   ·have hf220 := hf62.st hst196 rfl rfl rfl
    obtain ⟨O221, hst222, ho223⟩ := OwnSl.rlb 1005 rfl hf220
    refine WC.loop (σ := (List UInt64 × Int × Own)) (fun x k w' => loopN k (hist_down_lp1 a0 a1) (x.1, x.2.1) = some p217 ∧ Stp [1004, 1005] O63 wd195 x.2.2 w' ∧ OwnSl 1005 Rep.u 22 x.2.2 w' (Value.slice p191 m192 c193) x.1) (fun x => [(1, vu a1), (2, Value.pointer (some ⟨p17, 0, none⟩)), (4, Value.pointer (some ⟨p22, 0, none⟩)), (5, Value.pointer (some ⟨b58, 0, none⟩)), (23, (Value.slice p12 m13 c14)), (24, vi (a0.Counts.length : Int)), (25, vi x.2.1)]) (x60, 0, O221) k218 (.cons rfl (.cons rfl (.cons rfl (.cons rfl (.cons rfl (.cons rfl (.cons rfl .nil))))))) ⟨h, (Stp.up hst222 rfl), ho223⟩ ?_
    rintro ⟨c204, x207, O208⟩ k218 wd209 ⟨h, hst210, hf206⟩
    obtain ⟨j224, q225, rfl, h, hn226⟩ := rnd1 h
    unfold hist_down_lp1 at h
    try dsimp only at h hst210 hf206
    refine (show WC _ _ _ _ [(1, vu a1), (2, Value.pointer (some ⟨p17, 0, none⟩)), (4, Value.pointer (some ⟨p22, 0, none⟩)), (5, Value.pointer (some ⟨b58, 0, none⟩)), (23, (Value.slice p12 m13 c14)), (24, vi (a0.Counts.length : Int)), (25, vi x207)] _ from ?_)
    refine WC.seq ?_
    refine WC.region ?_
    refine WL.y (Y.lss_i rfl rfl) rfl ?_
    refine WL.nil ?_
    refine At.then ?_
    refine WC.seq ?_
    rcases cnd h with ⟨hc227, h⟩ | ⟨hc227, h⟩
    ·refine WC.condT' rfl hc227 ?_
     refine WC.skip ?_
     refine At.then ?_
     refine WC.seq ?_
     refine WC.block ?_
     refine WC.seq ?_
     refine WC.region ?_
     refine WL.y (Y.move rfl) rfl ?_
     obtain ⟨e228, he228, h⟩ := bnd h
     have hf237 := hf203.mono (imm_st hst210 rfl rfl)
     obtain ⟨b229, off238, cap236, cs235, hv230, hi231, hl232, hc233, hok234, hA239⟩ := Sl.at2 hf237 he228
     obtain rfl := hok234
     replace hc233 : CellsAt _ _ _ [vu e228] := hc233
     have hca240 := CAt.imm hc233 hA239
     refine WL.y (Y.indexAddr ty23 ty22 rfl hv230 rfl hi231 hl232) rfl ?_
     refine WL.y (Y.loadSc ty22 rfl rfl hca240.at_) rfl ?_
     refine WL.y (Y.assign rfl) rfl ?_
     refine WL.y (Y.assign rfl) rfl ?_
     refine WL.nil ?_
     refine At.then ?_
     refine WC.region ?_
     refine WL.y (Y.fieldAddr fo25_1 rfl) rfl ?_
     have hf241 := hb197.st hst210 rfl
     refine WL.y (Y.loadSc ty23 rfl rfl (hf241.cell 1 _ rfl)) rfl ?_
     refine WL.y (Y.fieldAddr fo25_0 rfl) rfl ?_
     have hf242 := hf200.st hst210 rfl
     refine WL.y (Y.loadSc ty3 rfl rfl (hf242.cell 0 _ rfl)) rfl ?_
     refine WL.y (Y.move rfl) rfl ?_
     refine WL.y (Y.add_i rfl rfl) rfl ?_
     refine WL.y (Y.move rfl) rfl ?_
     refine WL.y (Y.shr_iu rfl rfl) rfl ?_
     refine WL.y (Y.fieldAddr fo25_0 rfl) rfl ?_
     refine WL.y (Y.loadSc ty3 rfl rfl (hf241.cell 0 _ rfl)) rfl ?_
     refine WL.y (Y.sub_i rfl rfl) rfl ?_
     obtain ⟨e243, he243, h⟩ := bnd h
     obtain ⟨b244, cap251, cs250, hv245, hi246, hl247, hc248, hok249⟩ := OwnSl.at hf206 he243
     obtain rfl := hok249
     replace hc248 : CellsAt _ _ _ [vu e243] := hc248
     have hca252 := CAt.own hf206 hv245 hc248
     refine WL.y (Y.indexAddr ty23 ty22 rfl hv245 rfl hi246 hl247) rfl ?_
     refine WL.y (Y.loadSc ty22 rfl rfl hca252.at_) rfl ?_
     refine WL.y (Y.move rfl) rfl ?_
     refine WL.y (Y.add_u rfl rfl) rfl ?_
     obtain ⟨e253, he253, h⟩ := bnd h
     obtain ⟨b254, cap261, cs260, hv255, hi256, hl257, hc258, hok259⟩ := OwnSl.at hf206 he253
     obtain rfl := hok259
     replace hc258 : CellsAt _ _ _ [vu e253] := hc258
     have hca262 := CAt.own hf206 hv255 hc258
     refine WL.y (Y.indexAddr ty23 ty22 rfl hv255 rfl hi256 hl257) rfl ?_
     obtain ⟨t263, ht263, h⟩ := lt1 h
     refine WL.ren 44 rfl (congrArg vu ht263.symm) ?_
     obtain ⟨xs264, hxs264, h⟩ := bnd h
     refine WL.storeOwn (by decide) ty22 rfl rfl rfl hf206 hv255 hxs264 ?_
     intro wd265 hst266 ho267
     refine WL.nil ?_
     refine At.inBlock ?_
     refine At.then ?_
     refine WC.region ?_
     refine WL.y (Y.add_i rfl rfl) rfl ?_
     refine WL.y (Y.move rfl) rfl ?_
     refine WL.nil ?_
     exact At.round (xs264, w64 (x207 + 1), O208) j224 (Nat.lt_succ_self _) ⟨next1 h hn226, (Stp.trans (Stp.up hst210 rfl) (Stp.up hst266 rfl)), ho267⟩ (.cons rfl (.cons rfl (.cons rfl (.cons rfl (.cons rfl (.cons rfl (.cons rfl .nil)))))))
    ·refine WC.condF' rfl hc227 ?_
     refine WC.exit ?_
     refine At.thenX ?_
     refine At.loopX ?_
     obtain ⟨O268, hst269, ho270⟩ := OwnSl.rlb 1006 rfl hf206
     exact At.hitB (σ := (List UInt64 × Own)) (c204, O268) ⟨brk1 h hn226, (Stp.trans (Stp.up hst210 rfl) (Stp.up hst269 rfl)), ho270⟩ (.cons rfl (.cons rfl .nil))
   ·rintro ⟨c211, O214⟩ wd215 ⟨rfl, hst216, hf213⟩
    replace h := flowK_go hk219
    try dsimp only at h hst216 hf213
    refine (show At _ _ _ [(4, Value.pointer (some ⟨p22, 0, none⟩)), (5, Value.pointer (some ⟨b58, 0, none⟩))] _ from ?_)
    refine At.inBlockHit ?_
    refine At.then ?_
    refine WC.seq ?_
    refine WC.region ?_
    have hf271 := hb197.st hst216 rfl
    refine WL.y (Y.loadAg ty25 rfl rfl (hf271.cells 0 [vi (shrI a0.Offset a1.toNat), (Value.slice p191 m192 c193)] rfl) rfl) rfl ?_
    have hf272 := hb21.st hst35 rfl
    have hf273 := hf272.st hst65 rfl
    have hf274 := hf273.st hst196 rfl
    have hf275 := hf274.st hst216 rfl
    refine WL.store (v := Value.agg (List.toArray [vi (shrI a0.Offset a1.toNat), (Value.slice p191 m192 c193)])) (cells' := [vi (shrI a0.Offset a1.toNat), (Value.slice p191 m192 c193)]) ty25 rfl rfl hf275 rfl (Nat.le_of_ble_eq_true rfl) rfl rfl ?_
    intro wd276 hst277 hb278
    refine WL.nil ?_
    refine At.then ?_
    refine WC.ret ?_
    obtain rfl := some1 h
    have hs279 : Stp [12, 13, 14, 15, 16, 17, 18, 1001, 1002, 1003, 1004, 1005] (Lg.O0 A) w O214 wd276 := (Stp.trans (Stp.up hst20 rfl) (Stp.trans (Stp.up hst25 rfl) (Stp.trans (Stp.up hst35 rfl) (Stp.trans (Stp.up hst65 rfl) (Stp.trans (Stp.up hst196 rfl) (Stp.trans (Stp.up hst216 rfl) (Stp.up hst277 rfl)))))))
    have hf280 := hf213.st hst277 rfl rfl rfl
    exact At.res (.inl rfl) rfl (.cell rfl (hb278.runAg 0 [vi (shrI a0.Offset a1.toNat), (Value.slice p191 m192 c193)] ty25 rfl rfl rfl) .nil) ⟨(Value.slice p191 m192 c193), rfl, (Stp.ext hs279 rfl rfl), (OwnSl.outF hf280 hs279 low0 rfl)⟩
theorem c_hist_Down {A : Nat → Prop} {v0_3 : Value} {v0_5 : Value} {a0 : api_Hist} {a1 : Int} {w : World} (hs0_3 : Sl Rep.u w A v0_3 a0.Pos.Counts) (hs0_5 : Sl Rep.u w A v0_5 a0.Neg.Counts) {r0 : api_Hist} {r1 : Int} (h : hist_Down a0 a1 = some (r0, r1)) : Rets Try.prog 21 [Value.agg (List.toArray [vi a0.Scale, vu a0.Zero, vi a0.Pos.Offset, v0_3, vi a0.Neg.Offset, v0_5]), vi a1] w (fun v w' => ∃ (u0_3 : Value) (u0_5 : Value), v = Value.tuple (List.toArray [Value.agg (List.toArray [vi r0.Scale, vu r0.Zero, vi r0.Pos.Offset, u0_3, vi r0.Neg.Offset, u0_5]), vi r1]) ∧ Ext w w' ∧ RowF Rep.u 22 w w' u0_3 r0.Pos.Counts ∧ RowF Rep.u 22 w w' u0_5 r0.Neg.Counts ∧ (∀ k, Value.ownBlock u0_3 = some k → Value.ownBlock u0_5 ≠ some k)) := by
 unfold hist_Down at h
 refine Rets.enter Try.func21 rfl rfl ?_
 have hf11 : Sl Rep.u w (imm (Lg.O0 A)) v0_3 a0.Pos.Counts := (Sl.start hs0_3)
 have hf12 : Sl Rep.u w (imm (Lg.O0 A)) v0_5 a0.Neg.Counts := (Sl.start hs0_5)
 refine (show WC _ _ _ _ [(0, Value.agg (List.toArray [vi a0.Scale, vu a0.Zero, vi a0.Pos.Offset, v0_3, vi a0.Neg.Offset, v0_5])), (1, vi a1)] _ from ?_)
 refine WC.seq ?_
 refine WC.region ?_
 have hh16 := h
 obtain ⟨p13, m14, c15, rfl⟩ := hf11.shape
 have h := hh16
 have hh20 := h
 obtain ⟨p17, m18, c19, rfl⟩ := hf12.shape
 have h := hh20
 refine WL.box (O := (Lg.O0 A)) 11 [vi a0.Scale, vu a0.Zero, vi a0.Pos.Offset, (Value.slice p13 m14 c15), vi a0.Neg.Offset, (Value.slice p17 m18 c19)] rfl rfl rfl ?_
 intro p22 O23 wd24 hst25 hb21
 refine WL.alloc (O := O23) 12 [vi 0, vu 0, vi 0, Value.slice none 0 0, vi 0, Value.slice none 0 0] ty27 rfl rfl ?_
 intro p27 O28 wd29 hst30 hb26
 refine WL.y (Y.assign rfl) rfl ?_
 refine WL.nil ?_
 refine At.then ?_
 refine WC.seq ?_
 refine WC.seq ?_
 refine WC.region ?_
 have hf31 := hb21.st hst30 rfl
 refine WL.y (Y.loadAg ty27 rfl rfl (hf31.cells 0 [vi a0.Scale, vu a0.Zero, vi a0.Pos.Offset, (Value.slice p13 m14 c15), vi a0.Neg.Offset, (Value.slice p17 m18 c19)] rfl) rfl) rfl ?_
 have hf32 := hf11.mono (imm_st hst25 rfl rfl)
 have hf33 := hf32.mono (imm_st hst30 rfl rfl)
 have hf34 := hf12.mono (imm_st hst25 rfl rfl)
 have hf35 := hf34.mono (imm_st hst30 rfl rfl)
 obtain ⟨r36, hp37, h⟩ := bnd h
 refine WL.call (vals := [Value.agg (List.toArray [vi a0.Scale, vu a0.Zero, vi a0.Pos.Offset, (Value.slice p13 m14 c15), vi a0.Neg.Offset, (Value.slice p17 m18 c19)])]) kok19 rfl rfl (c_hist_Check (A := fun _ => True) (a0 := a0) (Sl.all hf33) (Sl.all hf35) hp37) ?_
 rintro vr40 wd39 ⟨rfl, hm38⟩
 obtain ⟨O41, hold42, hnew43, hst44⟩ := adoptE O28 (fun k => 1) hm38
 refine WL.y (Y.assign rfl) rfl ?_
 refine WL.nil ?_
 refine At.then ?_
 refine WC.seq ?_
 refine WC.region ?_
 refine WL.y (Y.move rfl) rfl ?_
 refine WL.y (Y.neq_i rfl rfl) rfl ?_
 refine WL.nil ?_
 refine At.then ?_
 rcases cnd h with ⟨hc45, h⟩ | ⟨hc45, h⟩
 ·refine WC.condT' rfl hc45 ?_
  refine WC.seq ?_
  refine WC.region ?_
  refine WL.y (Y.build (vals := []) (cells := [vi 0, vu 0, vi 0, Value.slice none 0 0, vi 0, Value.slice none 0 0]) (Fits.evalp rfl) (by kernel_rfl)) rfl ?_
  refine WL.y (Y.move rfl) rfl ?_
  have hf46 := hb26.st hst44 rfl
  refine WL.store (v := Value.agg (List.toArray [vi 0, vu 0, vi 0, Value.slice none 0 0, vi 0, Value.slice none 0 0])) (cells' := [vi 0, vu 0, vi 0, Value.slice none 0 0, vi 0, Value.slice none 0 0]) ty27 rfl rfl hf46 rfl (Nat.le_of_ble_eq_true rfl) rfl rfl ?_
  intro wd47 hst48 hb49
  refine WL.y (Y.assign rfl) rfl ?_
  refine WL.nil ?_
  refine At.then ?_
  refine WC.ret ?_
  refine At.thenR ?_
  obtain ⟨rfl, rfl⟩ := tup2 h
  have hs50 : Stp [12] (Lg.O0 A) w O41 wd47 := (Stp.trans (Stp.up hst25 rfl) (Stp.trans (Stp.up hst30 rfl) (Stp.trans (Stp.up hst44 rfl) (Stp.up hst48 rfl))))
  exact At.res (.inl rfl) rfl (.cell rfl (hb49.runAg 0 [vi 0, vu 0, vi 0, Value.slice none 0 0, vi 0, Value.slice none 0 0] ty27 rfl rfl rfl) (.tmp rfl .nil)) ⟨Value.slice none 0 0, Value.slice none 0 0, rfl, (Stp.ext hs50 rfl rfl), RowF.nil, RowF.nil, (fun _ e => absurd e not_nil)⟩
 ·refine WC.condF' rfl hc45 ?_
  refine WC.skip ?_
  refine At.then ?_
  refine WC.seq ?_
  refine WC.seq ?_
  refine WC.region ?_
  refine WL.y (Y.move rfl) rfl ?_
  refine WL.y (Y.lss_i rfl rfl) rfl ?_
  refine WL.y (Y.move rfl) rfl ?_
  refine WL.cut 6 (σ := Unit) (fun _ w' => wd39 = w') (fun _ => [(1, vi a1), (2, Value.pointer (some ⟨p22, 0, none⟩)), (4, Value.pointer (some ⟨p27, 0, none⟩)), (21, Value.bool ((decide (a1 < 0)) || (decide (w64 (a0.Scale - (-10)) < a1))))]) ?_ ?_
  ·refine WL.part 15 rfl (fun hE51 => ?_) (fun hE51 => ?_)
   ·refine WL.gS rfl rfl rfl rfl ?_
    refine WL.gS rfl rfl rfl rfl ?_
    refine WL.gS rfl rfl rfl rfl ?_
    refine WL.gS rfl rfl rfl rfl ?_
    refine WL.gS rfl rfl rfl rfl ?_
    refine WL.y (Y.pick (b := true) rfl rfl) rfl ?_
    refine WL.ren (v' := Value.bool ((decide (a1 < 0)) || (decide (w64 (a0.Scale - (-10)) < a1)))) 21 rfl (congrArg Value.bool (orT hE51)) ?_
    exact WL.nil (At.join () rfl (.cons rfl (.cons rfl (.cons rfl (.cons rfl .nil)))))
   ·refine WL.ung rfl rfl ?_
    refine WL.y (Y.move rfl) rfl ?_
    refine WL.ung rfl rfl ?_
    refine WL.y (Y.fieldAddr fo27_0 rfl) rfl ?_
    refine WL.ung rfl rfl ?_
    have hf52 := hf31.st hst44 rfl
    refine WL.y (Y.loadSc ty3 rfl rfl (hf52.cell 0 _ rfl)) rfl ?_
    refine WL.ung rfl rfl ?_
    refine WL.y (Y.sub_i rfl rfl) rfl ?_
    refine WL.ung rfl rfl ?_
    refine WL.y (Y.gtr_i rfl rfl) rfl ?_
    refine WL.y (Y.pick (b := false) rfl rfl) rfl ?_
    refine WL.ren (v' := Value.bool ((decide (a1 < 0)) || (decide (w64 (a0.Scale - (-10)) < a1)))) 21 rfl (congrArg Value.bool (orF hE51)) ?_
    exact WL.nil (At.join () rfl (.cons rfl (.cons rfl (.cons rfl (.cons rfl .nil)))))
  ·rintro _ _ rfl
   refine (show WL _ _ _ _ _ [(1, vi a1), (2, Value.pointer (some ⟨p22, 0, none⟩)), (4, Value.pointer (some ⟨p27, 0, none⟩)), (21, Value.bool ((decide (a1 < 0)) || (decide (w64 (a0.Scale - (-10)) < a1))))] _ from ?_)
   refine WL.nil ?_
   refine At.then ?_
   rcases cnd h with ⟨hc53, h⟩ | ⟨hc53, h⟩
   ·refine WC.condT' rfl hc53 ?_
    refine WC.seq ?_
    refine WC.region ?_
    refine WL.y (Y.build (vals := []) (cells := [vi 0, vu 0, vi 0, Value.slice none 0 0, vi 0, Value.slice none 0 0]) (Fits.evalp rfl) (by kernel_rfl)) rfl ?_
    have hf54 := hb26.st hst44 rfl
    refine WL.store (v := Value.agg (List.toArray [vi 0, vu 0, vi 0, Value.slice none 0 0, vi 0, Value.slice none 0 0])) (cells' := [vi 0, vu 0, vi 0, Value.slice none 0 0, vi 0, Value.slice none 0 0]) ty27 rfl rfl hf54 rfl (Nat.le_of_ble_eq_true rfl) rfl rfl ?_
    intro wd55 hst56 hb57
    refine WL.y (Y.assign rfl) rfl ?_
    refine WL.nil ?_
    refine At.then ?_
    refine WC.ret ?_
    refine At.thenR ?_
    obtain ⟨rfl, rfl⟩ := tup2 h
    have hs58 : Stp [12] (Lg.O0 A) w O41 wd55 := (Stp.trans (Stp.up hst25 rfl) (Stp.trans (Stp.up hst30 rfl) (Stp.trans (Stp.up hst44 rfl) (Stp.up hst56 rfl))))
    exact At.res (.inl rfl) rfl (.cell rfl (hb57.runAg 0 [vi 0, vu 0, vi 0, Value.slice none 0 0, vi 0, Value.slice none 0 0] ty27 rfl rfl rfl) (.tmp rfl .nil)) ⟨Value.slice none 0 0, Value.slice none 0 0, rfl, (Stp.ext hs58 rfl rfl), RowF.nil, RowF.nil, (fun _ e => absurd e not_nil)⟩
   ·refine WC.condF' rfl hc53 ?_
    refine WC.skip ?_
    refine At.then ?_
    refine WC.seq ?_
    refine WC.drawH [] [0, 1, 2, 3, 4, 5, 6, 7, 8, 9, 10, 11, 12, 13, 14, 15, 16] O41 19 fmix rfl (by kernel_rfl) ?_
    intro wd59 hst60
    refine WD.y 0 rfl (by kernel_rfl) (fun _ _ _ => Y.fieldAddr fo27_0 rfl) rfl ?_
    refine WD.y 1 rfl (by kernel_rfl) (fun wd65 O64 hst66 => have hf67 := hf31.st hst44 rfl; have hf68 := hf67.st hst60 rfl; have hf69 := hf68.st hst66 rfl; Y.loadSc ty3 rfl rfl (hf69.cell 0 _ rfl)) rfl ?_
    refine WD.y 2 rfl (by kernel_rfl) (fun _ _ _ => Y.move rfl) rfl ?_
    refine WD.y 3 rfl (by kernel_rfl) (fun _ _ _ => Y.sub_i rfl rfl) rfl ?_
    refine WD.y 4 rfl (by kernel_rfl) (fun _ _ _ => Y.fieldAddr fo27_1 rfl) rfl ?_
    refine WD.y 5 rfl (by kernel_rfl) (fun wd80 O79 hst81 => have hf82 := hf31.st hst44 rfl; have hf83 := hf82.st hst60 rfl; have hf84 := hf83.st hst81 rfl; Y.loadSc ty22 rfl rfl (hf84.cell 1 _ rfl)) rfl ?_
    refine WD.y 6 rfl (by kernel_rfl) (fun _ _ _ => Y.fieldAddr fo27_2 rfl) rfl ?_
    refine WD.y 7 rfl (by kernel_rfl) (fun wd89 O88 hst90 => have hf91 := hf31.st hst44 rfl; have hf92 := hf91.st hst60 rfl; have hf93 := hf92.st hst90 rfl; Y.loadAg ty25 rfl rfl (hf93.cells 2 [vi a0.Pos.Offset, (Value.slice p13 m14 c15)] rfl) rfl) rfl ?_
    refine WD.y 8 rfl (by kernel_rfl) (fun _ _ _ => Y.move rfl) rfl ?_
    refine WD.y 9 rfl (by kernel_rfl) (fun _ _ _ => Y.conv_iu ty3.u ty82.u rfl) rfl ?_
    refine WD.y 11 rfl (by kernel_rfl) (fun _ _ _ => Y.fieldAddr fo27_3 rfl) rfl ?_
    refine WD.y 12 rfl (by kernel_rfl) (fun wd104 O103 hst105 => have hf106 := hf31.st hst44 rfl; have hf107 := hf106.st hst60 rfl; have hf108 := hf107.st hst105 rfl; Y.loadAg ty25 rfl rfl (hf108.cells 4 [vi a0.Neg.Offset, (Value.slice p17 m18 c19)] rfl) rfl) rfl ?_
    refine WD.y 13 rfl (by kernel_rfl) (fun _ _ _ => Y.move rfl) rfl ?_
    refine WD.y 14 rfl (by kernel_rfl) (fun _ _ _ => Y.conv_iu ty3.u ty82.u rfl) rfl ?_
    refine WD.heavy 10 rfl (by kernel_rfl) ?_
    have hf115 := hf33.mono (imm_st hst44 rfl rfl)
    have hf116 := hf115.mono (imm_st hst60 rfl rfl)
    obtain ⟨r117, hp118, h⟩ := bnd h
    refine WL.call (vals := [Value.agg (List.toArray [vi a0.Pos.Offset, (Value.slice p13 m14 c15)]), vu (toU64 a1)]) kok62 rfl rfl (c_hist_down (A := fun _ => True) (a0 := a0.Pos) (Sl.all hf116) hp118) ?_
    rintro vr123 wd122 ⟨u119, rfl, hm121, f120⟩
    obtain ⟨O124, hold125, hnew126, hst127⟩ := adoptE O41 (fun k => if Value.ownBlock u119 = some k then 13 else 1) hm121
    have hf128 : OwnSl 13 Rep.u 22 O124 wd122 u119 r117.Counts := RowF.adopt 13 Flat.u f120 hnew126 (fun k hk => if_pos hk)
    refine WL.nil ?_
    refine At.dq (Stp.up hst127 rfl) ?_
    refine WD.heavy 15 rfl (by kernel_rfl) ?_
    have hf129 := hf35.mono (imm_st hst44 rfl rfl)
    have hf130 := hf129.mono (imm_st hst60 rfl rfl)
    have hf131 := hf130.mono (imm_st hst127 rfl rfl)
    obtain ⟨r132, hp133, h⟩ := bnd h
    refine WL.call (vals := [Value.agg (List.toArray [vi a0.Neg.Offset, (Value.slice p17 m18 c19)]), vu (toU64 a1)]) kok62 rfl rfl (c_hist_down (A := fun _ => True) (a0 := a0.Neg) (Sl.all hf131) hp133) ?_
    rintro vr138 wd137 ⟨u134, rfl, hm136, f135⟩
    obtain ⟨O139, hold140, hnew141, hst142⟩ := adoptE O124 (fun k => if Value.ownBlock u134 = some k then 14 else 1) hm136
    have hf143 : OwnSl 14 Rep.u 22 O139 wd137 u134 r132.Counts := RowF.adopt 14 Flat.u f135 hnew141 (fun k hk => if_pos hk)
    refine WL.nil ?_
    refine At.dq (Stp.up hst142 rfl) ?_
    have hf144 := hf128.st hst142 rfl rfl rfl
    have hh148 := h
    obtain ⟨p145, m146, c147, rfl⟩ := hf144.shape
    have h := hh148
    have hh152 := h
    obtain ⟨p149, m150, c151, rfl⟩ := hf143.shape
    have h := hh152
    refine WD.y 16 rfl (by kernel_rfl) (fun _ _ _ => Y.build (vals := [(0, vi (w64 (a0.Scale - a1))), (1, vu a0.Zero), (2, Value.agg (List.toArray [vi r117.Offset, (Value.slice p145 m146 c147)])), (3, Value.agg (List.toArray [vi r132.Offset, (Value.slice p149 m150 c151)]))]) (cells := [vi (w64 (a0.Scale - a1)), vu a0.Zero, vi r117.Offset, (Value.slice p145 m146 c147), vi r132.Offset, (Value.slice p149 m150 c151)]) (Fits.evalp rfl) (by kernel_rfl)) rfl ?_
    refine WD.phase [12] [0, 1, 2, 3, 4, 5, 6, 7, 8, 9, 10, 11, 12, 13, 14, 15, 16, 17, 18] (by kernel_rfl) (by kernel_rfl) ?_
    refine WD.heavy 17 rfl (by kernel_rfl) ?_
    have hf156 := hb26.st hst44 rfl
    have hf157 := hf156.st hst60 rfl
    have hf158 := hf157.st hst127 rfl
    have hf159 := hf158.st hst142 rfl
    refine WL.store (v := Value.agg (List.toArray [vi (w64 (a0.Scale - a1)), vu a0.Zero, vi r117.Offset, (Value.slice p145 m146 c147), vi r132.Offset, (Value.slice p149 m150 c151)])) (cells' := [vi (w64 (a0.Scale - a1)), vu a0.Zero, vi r117.Offset, (Value.slice p145 m146 c147), vi r132.Offset, (Value.slice p149 m150 c151)]) ty27 rfl rfl hf159 rfl (Nat.le_of_ble_eq_true rfl) rfl rfl ?_
    intro wd160 hst161 hb162
    refine WL.nil ?_
    refine At.dq (Stp.up hst161 rfl) ?_
    refine WD.y 18 rfl (by kernel_rfl) (fun _ _ _ => Y.assign rfl) rfl ?_
    refine WD.done_ (by kernel_rfl) ?_
    refine At.then ?_
    refine WC.ret ?_
    obtain ⟨rfl, rfl⟩ := tup2 h
    have hs166 : Stp [12] (Lg.O0 A) w O139 wd160 := (Stp.trans (Stp.up hst25 rfl) (Stp.trans (Stp.up hst30 rfl) (Stp.trans (Stp.up hst44 rfl) (Stp.trans (Stp.up hst60 rfl) (Stp.trans (Stp.up hst127 rfl) (Stp.trans (Stp.up hst142 rfl) (Stp.up hst161 rfl)))))))
    have hf167 := hf144.st hst161 rfl rfl rfl
    have hf168 := hf143.st hst161 rfl rfl rfl
    exact At.res (.inl rfl) rfl (.cell rfl (hb162.runAg 0 [vi (w64 (a0.Scale - a1)), vu a0.Zero, vi r117.Offset, (Value.slice p145 m146 c147), vi r132.Offset, (Value.slice p149 m150 c151)] ty27 rfl rfl rfl) (.tmp rfl .nil)) ⟨(Value.slice p145 m146 c147), (Value.slice p149 m150 c151), rfl, (Stp.ext hs166 rfl rfl), (OwnSl.outF hf167 hs166 low0 rfl), (OwnSl.outF hf168 hs166 low0 rfl), (ne_own hf167 hf168 rfl)⟩
theorem c_fold_Level {A : Nat → Prop} {v0_3 : Value} {v0_5 : Value} {a0 : api_Hist} {v1_3 : Value} {v1_5 : Value} {a1 : api_Hist} {w : World} (hs0_3 : Sl Rep.u w A v0_3 a0.Pos.Counts) (hs0_5 : Sl Rep.u w A v0_5 a0.Neg.Counts) (hs1_3 : Sl Rep.u w A v1_3 a1.Pos.Counts) (hs1_5 : Sl Rep.u w A v1_5 a1.Neg.Counts) {r0 : api_Hist} {r1 : api_Hist} {r2 : Int} (h : fold_Level a0 a1 = some (r0, r1, r2)) : Rets Try.prog 38 [Value.agg (List.toArray [vi a0.Scale, vu a0.Zero, vi a0.Pos.Offset, v0_3, vi a0.Neg.Offset, v0_5]), Value.agg (List.toArray [vi a1.Scale, vu a1.Zero, vi a1.Pos.Offset, v1_3, vi a1.Neg.Offset, v1_5])] w (fun v w' => ∃ (u0_3 : Value) (u0_5 : Value) (u1_3 : Value) (u1_5 : Value), v = Value.tuple (List.toArray [Value.agg (List.toArray [vi r0.Scale, vu r0.Zero, vi r0.Pos.Offset, u0_3, vi r0.Neg.Offset, u0_5]), Value.agg (List.toArray [vi r1.Scale, vu r1.Zero, vi r1.Pos.Offset, u1_3, vi r1.Neg.Offset, u1_5]), vi r2]) ∧ Ext w w' ∧ RowF Rep.u 22 w w' u0_3 r0.Pos.Counts ∧ RowF Rep.u 22 w w' u0_5 r0.Neg.Counts ∧ RowF Rep.u 22 w w' u1_3 r1.Pos.Counts ∧ RowF Rep.u 22 w w' u1_5 r1.Neg.Counts ∧ (∀ k, Value.ownBlock u0_3 = some k → Value.ownBlock u0_5 ≠ some k) ∧ (∀ k, Value.ownBlock u0_3 = some k → Value.ownBlock u1_3 ≠ some k) ∧ (∀ k, Value.ownBlock u0_5 = some k → Value.ownBlock u1_3 ≠ some k) ∧ (∀ k, Value.ownBlock u0_3 = some k → Value.ownBlock u1_5 ≠ some k) ∧ (∀ k, Value.ownBlock u0_5 = some k → Value.ownBlock u1_5 ≠ some k) ∧ (∀ k, Value.ownBlock u1_3 = some k → Value.ownBlock u1_5 ≠ some k)) := by
 unfold fold_Level at h
 refine Rets.enter Try.func38 rfl rfl ?_
 have hf11 : Sl Rep.u w (imm (Lg.O0 A)) v0_3 a0.Pos.Counts := (Sl.start hs0_3)
 have hf12 : Sl Rep.u w (imm (Lg.O0 A)) v0_5 a0.Neg.Counts := (Sl.start hs0_5)
 have hf13 : Sl Rep.u w (imm (Lg.O0 A)) v1_3 a1.Pos.Counts := (Sl.start hs1_3)
 have hf14 : Sl Rep.u w (imm (Lg.O0 A)) v1_5 a1.Neg.Counts := (Sl.start hs1_5)
 refine (show WC _ _ _ _ [(0, Value.agg (List.toArray [vi a0.Scale, vu a0.Zero, vi a0.Pos.Offset, v0_3, vi a0.Neg.Offset, v0_5])), (1, Value.agg (List.toArray [vi a1.Scale, vu a1.Zero, vi a1.Pos.Offset, v1_3, vi a1.Neg.Offset, v1_5]))] _ from ?_)
 refine WC.seq ?_
 refine WC.region ?_
 have hh18 := h
 obtain ⟨p15, m16, c17, rfl⟩ := hf11.shape
 have h := hh18
 have hh22 := h
 obtain ⟨p19, m20, c21, rfl⟩ := hf12.shape
 have h := hh22
 refine WL.box (O := (Lg.O0 A)) 11 [vi a0.Scale, vu a0.Zero, vi a0.Pos.Offset, (Value.slice p15 m16 c17), vi a0.Neg.Offset, (Value.slice p19 m20 c21)] rfl rfl rfl ?_
 intro p24 O25 wd26 hst27 hb23
 have hf28 := hf13.mono (imm_st hst27 rfl rfl)
 have hh32 := h
 obtain ⟨p29, m30, c31, rfl⟩ := hf28.shape
 have h := hh32
 have hf33 := hf14.mono (imm_st hst27 rfl rfl)
 have hh37 := h
 obtain ⟨p34, m35, c36, rfl⟩ := hf33.shape
 have h := hh37
 refine WL.box (O := O25) 12 [vi a1.Scale, vu a1.Zero, vi a1.Pos.Offset, (Value.slice p29 m30 c31), vi a1.Neg.Offset, (Value.slice p34 m35 c36)] rfl rfl rfl ?_
 intro p39 O40 wd41 hst42 hb38
 refine WL.alloc (O := O40) 13 [vi 0, vu 0, vi 0, Value.slice none 0 0, vi 0, Value.slice none 0 0] ty27 rfl rfl ?_
 intro p44 O45 wd46 hst47 hb43
 refine WL.alloc (O := O45) 14 [vi 0, vu 0, vi 0, Value.slice none 0 0, vi 0, Value.slice none 0 0] ty27 rfl rfl ?_
 intro p49 O50 wd51 hst52 hb48
 refine WL.y (Y.assign rfl) rfl ?_
 refine WL.nil ?_
 refine At.then ?_
 refine WC.seq ?_
 refine WC.seq ?_
 refine WC.region ?_
 have hf53 := hb23.st hst42 rfl
 have hf54 := hf53.st hst47 rfl
 have hf55 := hf54.st hst52 rfl
 refine WL.y (Y.loadAg ty27 rfl rfl (hf55.cells 0 [vi a0.Scale, vu a0.Zero, vi a0.Pos.Offset, (Value.slice p15 m16 c17), vi a0.Neg.Offset, (Value.slice p19 m20 c21)] rfl) rfl) rfl ?_
 have hf56 := hb38.st hst47 rfl
 have hf57 := hf56.st hst52 rfl
 refine WL.y (Y.loadAg ty27 rfl rfl (hf57.cells 0 [vi a1.Scale, vu a1.Zero, vi a1.Pos.Offset, (Value.slice p29 m30 c31), vi a1.Neg.Offset, (Value.slice p34 m35 c36)] rfl) rfl) rfl ?_
 refine WL.y (Y.build (vals := [(0, Value.agg (List.toArray [vi a0.Scale, vu a0.Zero, vi a0.Pos.Offset, (Value.slice p15 m16 c17), vi a0.Neg.Offset, (Value.slice p19 m20 c21)])), (1, Value.agg (List.toArray [vi a1.Scale, vu a1.Zero, vi a1.Pos.Offset, (Value.slice p29 m30 c31), vi a1.Neg.Offset, (Value.slice p34 m35 c36)]))]) (cells := [vi a0.Scale, vu a0.Zero, vi a0.Pos.Offset, (Value.slice p15 m16 c17), vi a0.Neg.Offset, (Value.slice p19 m20 c21), vi a1.Scale, vu a1.Zero, vi a1.Pos.Offset, (Value.slice p29 m30 c31), vi a1.Neg.Offset, (Value.slice p34 m35 c36)]) (Fits.evalp rfl) (by kernel_rfl)) rfl ?_
 refine WL.y (Y.move rfl) rfl ?_
 refine WL.nil ?_
 refine At.then ?_
 obtain ⟨p61, h, hk62⟩ := flow1 h
 refine WC.join (σ := Own) (fun x w' => p61 = .go () ∧ Stp [15] O50 wd51 x w') (fun x => [(2, Value.pointer (some ⟨p24, 0, none⟩)), (3, Value.pointer (some ⟨p39, 0, none⟩)), (4, Value.pointer (some ⟨p44, 0, none⟩)), (5, Value.pointer (some ⟨p49, 0, none⟩))]) ?_ ?_
 ·refine WC.block ?_
  obtain ⟨p70, h, hk72⟩ := flow1 h
  obtain ⟨k71, h⟩ := loop_some h
  refine WC.joinB 0 (σ := Own) (fun x w' => p70 = .go () ∧ Stp [15] O50 wd51 x w') (fun x => [(2, Value.pointer (some ⟨p24, 0, none⟩)), (3, Value.pointer (some ⟨p39, 0, none⟩)), (4, Value.pointer (some ⟨p44, 0, none⟩)), (5, Value.pointer (some ⟨p49, 0, none⟩))]) ?_ ?_
  ·refine WC.loop (σ := (Int × Own)) (fun x k w' => loopN k (fold_Level_lp1 a0 a1) x.1 = some p70 ∧ Stp [15] O50 wd51 x.2 w') (fun x => [(2, Value.pointer (some ⟨p24, 0, none⟩)), (3, Value.pointer (some ⟨p39, 0, none⟩)), (4, Value.pointer (some ⟨p44, 0, none⟩)), (5, Value.pointer (some ⟨p49, 0, none⟩)), (13, Value.agg (List.toArray [vi a0.Scale, vu a0.Zero, vi a0.Pos.Offset, (Value.slice p15 m16 c17), vi a0.Neg.Offset, (Value.slice p19 m20 c21), vi a1.Scale, vu a1.Zero, vi a1.Pos.Offset, (Value.slice p29 m30 c31), vi a1.Neg.Offset, (Value.slice p34 m35 c36)])), (14, vi x.1)]) (0, O50) k71 (.cons rfl (.cons rfl (.cons rfl (.cons rfl (.cons rfl (.cons rfl .nil)))))) ⟨h, (Stp.refl _ _ _)⟩ ?_
   rintro ⟨x63, O64⟩ k71 wd65 ⟨h, hst66⟩
   obtain ⟨j73, q74, rfl, h, hn75⟩ := rnd1 h
   unfold fold_Level_lp1 at h
   try dsimp only at h hst66
   refine (show WC _ _ _ _ [(2, Value.pointer (some ⟨p24, 0, none⟩)), (3, Value.pointer (some ⟨p39, 0, none⟩)), (4, Value.pointer (some ⟨p44, 0, none⟩)), (5, Value.pointer (some ⟨p49, 0, none⟩)), (13, Value.agg (List.toArray [vi a0.Scale, vu a0.Zero, vi a0.Pos.Offset, (Value.slice p15 m16 c17), vi a0.Neg.Offset, (Value.slice p19 m20 c21), vi a1.Scale, vu a1.Zero, vi a1.Pos.Offset, (Value.slice p29 m30 c31), vi a1.Neg.Offset, (Value.slice p34 m35 c36)])), (14, vi x63)] _ from ?_)
   refine WC.seq ?_
   refine WC.region ?_
   refine WL.y (Y.lss_i rfl rfl) rfl ?_
   refine WL.nil ?_
   refine At.then ?_
   refine WC.seq ?_
   rcases cnd h with ⟨hc76, h⟩ | ⟨hc76, h⟩
   ·refine WC.condT' rfl hc76 ?_
    refine WC.skip ?_
    refine At.then ?_
    refine WC.seq ?_
    refine WC.block ?_
    refine WC.seq ?_
    refine WC.region ?_
    have hf77 := hf11.mono (imm_st hst27 rfl rfl)
    have hf78 := hf77.mono (imm_st hst42 rfl rfl)
    have hf79 := hf78.mono (imm_st hst47 rfl rfl)
    have hf80 := hf79.mono (imm_st hst52 rfl rfl)
    have hf81 := hf80.mono (imm_st hst66 rfl rfl)
    have hf82 := hf12.mono (imm_st hst27 rfl rfl)
    have hf83 := hf82.mono (imm_st hst42 rfl rfl)
    have hf84 := hf83.mono (imm_st hst47 rfl rfl)
    have hf85 := hf84.mono (imm_st hst52 rfl rfl)
    have hf86 := hf85.mono (imm_st hst66 rfl rfl)
    have hf87 := hf28.mono (imm_st hst42 rfl rfl)
    have hf88 := hf87.mono (imm_st hst47 rfl rfl)
    have hf89 := hf88.mono (imm_st hst52 rfl rfl)
    have hf90 := hf89.mono (imm_st hst66 rfl rfl)
    have hf91 := hf33.mono (imm_st hst42 rfl rfl)
    have hf92 := hf91.mono (imm_st hst47 rfl rfl)
    have hf93 := hf92.mono (imm_st hst52 rfl rfl)
    have hf94 := hf93.mono (imm_st hst66 rfl rfl)
    obtain ⟨e95, he95, h⟩ := bnd h
    obtain ⟨cs96, hcs97, hok98⟩ := arrAt (R := rep_api_Hist) (w := wd65) (A := imm O64) (cells := [vi a0.Scale, vu a0.Zero, vi a0.Pos.Offset, (Value.slice p15 m16 c17), vi a0.Neg.Offset, (Value.slice p19 m20 c21), vi a1.Scale, vu a1.Zero, vi a1.Pos.Offset, (Value.slice p29 m30 c31), vi a1.Neg.Offset, (Value.slice p34 m35 c36)]) (xs := [a0, a1]) ⟨[vi a0.Scale, vu a0.Zero, vi a0.Pos.Offset, (Value.slice p15 m16 c17), vi a0.Neg.Offset, (Value.slice p19 m20 c21)], [vi a1.Scale, vu a1.Zero, vi a1.Pos.Offset, (Value.slice p29 m30 c31), vi a1.Neg.Offset, (Value.slice p34 m35 c36)], rfl, ⟨[vi a0.Scale], [vu a0.Zero, vi a0.Pos.Offset, (Value.slice p15 m16 c17), vi a0.Neg.Offset, (Value.slice p19 m20 c21)], rfl, rfl, ⟨[vu a0.Zero], [vi a0.Pos.Offset, (Value.slice p15 m16 c17), vi a0.Neg.Offset, (Value.slice p19 m20 c21)], rfl, rfl, ⟨[vi a0.Pos.Offset, (Value.slice p15 m16 c17)], [vi a0.Neg.Offset, (Value.slice p19 m20 c21)], rfl, ⟨[vi a0.Pos.Offset], [(Value.slice p15 m16 c17)], rfl, rfl, ⟨_, rfl, hf81⟩⟩, ⟨[vi a0.Neg.Offset], [(Value.slice p19 m20 c21)], rfl, rfl, ⟨_, rfl, hf86⟩⟩⟩⟩⟩, ⟨[vi a1.Scale, vu a1.Zero, vi a1.Pos.Offset, (Value.slice p29 m30 c31), vi a1.Neg.Offset, (Value.slice p34 m35 c36)], [], rfl, ⟨[vi a1.Scale], [vu a1.Zero, vi a1.Pos.Offset, (Value.slice p29 m30 c31), vi a1.Neg.Offset, (Value.slice p34 m35 c36)], rfl, rfl, ⟨[vu a1.Zero], [vi a1.Pos.Offset, (Value.slice p29 m30 c31), vi a1.Neg.Offset, (Value.slice p34 m35 c36)], rfl, rfl, ⟨[vi a1.Pos.Offset, (Value.slice p29 m30 c31)], [vi a1.Neg.Offset, (Value.slice p34 m35 c36)], rfl, ⟨[vi a1.Pos.Offset], [(Value.slice p29 m30 c31)], rfl, rfl, ⟨_, rfl, hf90⟩⟩, ⟨[vi a1.Neg.Offset], [(Value.slice p34 m35 c36)], rfl, rfl, ⟨_, rfl, hf94⟩⟩⟩⟩⟩, rfl⟩⟩ he95
    obtain ⟨_, _, rfl, rfl, ⟨_, _, rfl, rfl, ⟨_, _, rfl, ⟨_, _, rfl, rfl, ⟨v99, rfl, hf100⟩⟩, ⟨_, _, rfl, rfl, ⟨v101, rfl, hf102⟩⟩⟩⟩⟩ := hok98
    replace hcs97 : _ = [vi e95.Scale, vu e95.Zero, vi e95.Pos.Offset, v99, vi e95.Neg.Offset, v101] := hcs97
    refine WL.y (Y.indexArrAg ty97 ty27 rfl rfl hcs97 he95) rfl ?_
    refine WL.alloc (O := O64) 15 [vi 0, vu 0, vi 0, Value.slice none 0 0, vi 0, Value.slice none 0 0] ty27 rfl rfl ?_
    intro p104 O105 wd106 hst107 hb103
    have hf108 := hf100.mono (imm_st hst107 rfl rfl)
    have hh112 := h
    obtain ⟨p109, m110, c111, rfl⟩ := hf108.shape
    have h := hh112
    have hf113 := hf102.mono (imm_st hst107 rfl rfl)
    have hh117 := h
    obtain ⟨p114, m115, c116, rfl⟩ := hf113.shape
    have h := hh117
    refine WL.store (v := Value.agg (List.toArray [vi e95.Scale, vu e95.Zero, vi e95.Pos.Offset, (Value.slice p109 m110 c111), vi e95.Neg.Offset, (Value.slice p114 m115 c116)])) (cells' := [vi e95.Scale, vu e95.Zero, vi e95.Pos.Offset, (Value.slice p109 m110 c111), vi e95.Neg.Offset, (Value.slice p114 m115 c116)]) ty27 rfl rfl hb103 rfl (Nat.le_of_ble_eq_true rfl) rfl rfl ?_
    intro wd118 hst119 hb120
    refine WL.nil ?_
    refine At.then ?_
    refine WC.seq ?_
    refine WC.region ?_
    refine WL.y (Y.loadAg ty27 rfl rfl (hb120.cells 0 [vi e95.Scale, vu e95.Zero, vi e95.Pos.Offset, (Value.slice p109 m110 c111), vi e95.Neg.Offset, (Value.slice p114 m115 c116)] rfl) rfl) rfl ?_
    have hf121 := hf108.mono (imm_st hst119 rfl rfl)
    have hf122 := hf113.mono (imm_st hst119 rfl rfl)
    obtain ⟨r123, hp124, h⟩ := bnd h
    refine WL.call (vals := [Value.agg (List.toArray [vi e95.Scale, vu e95.Zero, vi e95.Pos.Offset, (Value.slice p109 m110 c111), vi e95.Neg.Offset, (Value.slice p114 m115 c116)])]) kok19 rfl rfl (c_hist_Check (A := fun _ => True) (a0 := e95) (Sl.all hf121) (Sl.all hf122) hp124) ?_
    rintro vr127 wd126 ⟨rfl, hm125⟩
    obtain ⟨O128, hold129, hnew130, hst131⟩ := adoptE O105 (fun k => 1) hm125
    refine WL.y (Y.assign rfl) rfl ?_
    refine WL.nil ?_
    refine At.then ?_
    refine WC.seq ?_
    refine WC.region ?_
    refine WL.y (Y.move rfl) rfl ?_
    refine WL.y (Y.neq_i rfl rfl) rfl ?_
    refine WL.nil ?_
    refine At.then ?_
    rcases cnd h with ⟨hc132, h⟩ | ⟨hc132, h⟩
    ·refine WC.condT' rfl hc132 ?_
     refine WC.seq ?_
     refine WC.region ?_
     refine WL.y (Y.build (vals := []) (cells := [vi 0, vu 0, vi 0, Value.slice none 0 0, vi 0, Value.slice none 0 0]) (Fits.evalp rfl) (by kernel_rfl)) rfl ?_
     refine WL.y (Y.build (vals := []) (cells := [vi 0, vu 0, vi 0, Value.slice none 0 0, vi 0, Value.slice none 0 0]) (Fits.evalp rfl) (by kernel_rfl)) rfl ?_
     refine WL.y (Y.move rfl) rfl ?_
     have hf133 := hb43.st hst52 rfl
     have hf134 := hf133.st hst66 rfl
     have hf135 := hf134.st hst107 rfl
     have hf136 := hf135.st hst119 rfl
     have hf137 := hf136.st hst131 rfl
     refine WL.store (v := Value.agg (List.toArray [vi 0, vu 0, vi 0, Value.slice none 0 0, vi 0, Value.slice none 0 0])) (cells' := [vi 0, vu 0, vi 0, Value.slice none 0 0, vi 0, Value.slice none 0 0]) ty27 rfl rfl hf137 rfl (Nat.le_of_ble_eq_true rfl) rfl rfl ?_
     intro wd138 hst139 hb140
     have hf141 := hb48.st hst66 rfl
     have hf142 := hf141.st hst107 rfl
     have hf143 := hf142.st hst119 rfl
     have hf144 := hf143.st hst131 rfl
     have hf145 := hf144.st hst139 rfl
     refine WL.store (v := Value.agg (List.toArray [vi 0, vu 0, vi 0, Value.slice none 0 0, vi 0, Value.slice none 0 0])) (cells' := [vi 0, vu 0, vi 0, Value.slice none 0 0, vi 0, Value.slice none 0 0]) ty27 rfl rfl hf145 rfl (Nat.le_of_ble_eq_true rfl) rfl rfl ?_
     intro wd146 hst147 hb148
     refine WL.y (Y.assign rfl) rfl ?_
     refine WL.nil ?_
     refine At.then ?_
     refine WC.ret ?_
     refine At.inBlockR ?_
     refine At.thenR ?_
     refine At.loopR ?_
     have h := outr1 h hn75 hk72
     refine At.joinBR ?_
     refine At.inBlockR ?_
     have h := outs1 h hk62
     refine At.joinR ?_
     refine At.thenR ?_
     obtain ⟨rfl, rfl, rfl⟩ := tup3 h
     have hs149 : Stp [13, 14, 15] (Lg.O0 A) w O128 wd146 := (Stp.trans (Stp.up hst27 rfl) (Stp.trans (Stp.up hst42 rfl) (Stp.trans (Stp.up hst47 rfl) (Stp.trans (Stp.up hst52 rfl) (Stp.trans (Stp.up hst66 rfl) (Stp.trans (Stp.up hst107 rfl) (Stp.trans (Stp.up hst119 rfl) (Stp.trans (Stp.up hst131 rfl) (Stp.trans (Stp.up hst139 rfl) (Stp.up hst147 rfl))))))))))
     have hf150 := hb140.st hst147 rfl
     exact At.res (.inl rfl) rfl (.cell rfl (hf150.runAg 0 [vi 0, vu 0, vi 0, Value.slice none 0 0, vi 0, Value.slice none 0 0] ty27 rfl rfl rfl) (.cell rfl (hb148.runAg 0 [vi 0, vu 0, vi 0, Value.slice none 0 0, vi 0, Value.slice none 0 0] ty27 rfl rfl rfl) (.tmp rfl .nil))) ⟨Value.slice none 0 0, Value.slice none 0 0, Value.slice none 0 0, Value.slice none 0 0, rfl, (Stp.ext hs149 rfl rfl), RowF.nil, RowF.nil, RowF.nil, RowF.nil, (fun _ e => absurd e not_nil), (fun _ e => absurd e not_nil), (fun _ e => absurd e not_nil), (fun _ e => absurd e not_nil), (fun _ e => absurd e not_nil), (fun _ e => absurd e not_nil)⟩
    ·refine WC.condF' rfl hc132 ?_
     refine WC.skip ?_
     refine At.inBlock ?_
     refine At.then ?_
     refine WC.region ?_
     refine WL.y (Y.add_i rfl rfl) rfl ?_
     refine WL.y (Y.move rfl) rfl ?_
     refine WL.nil ?_
     exact At.round (w64 (x63 + 1), O128) j73 (Nat.lt_succ_self _) ⟨next1 h hn75, (Stp.trans (Stp.up hst66 rfl) (Stp.trans (Stp.up hst107 rfl) (Stp.trans (Stp.up hst119 rfl) (Stp.up hst131 rfl))))⟩ (.cons rfl (.cons rfl (.cons rfl (.cons rfl (.cons rfl (.cons rfl .nil))))))
   ·refine WC.condF' rfl hc76 ?_
    refine WC.exit ?_
    refine At.thenX ?_
    refine At.loopX ?_
    exact At.hitB (σ := Own) O64 ⟨brk1 h hn75, (Stp.up hst66 rfl)⟩ (.cons rfl (.cons rfl (.cons rfl (.cons rfl .nil))))
  ·rintro O67 wd68 ⟨rfl, hst69⟩
   replace h := flowK_go hk72
   refine (show At _ _ _ [(2, Value.pointer (some ⟨p24, 0, none⟩)), (3, Value.pointer (some ⟨p39, 0, none⟩)), (4, Value.pointer (some ⟨p44, 0, none⟩)), (5, Value.pointer (some ⟨p49, 0, none⟩))] _ from ?_)
   refine At.inBlockHit ?_
   exact At.join (σ := Own) O67 ⟨go2 h, (Stp.up hst69 rfl)⟩ (.cons rfl (.cons rfl (.cons rfl (.cons rfl .nil))))
 ·rintro O58 wd59 ⟨rfl, hst60⟩
  replace h := flowK_go hk62
  refine (show At _ _ _ [(2, Value.pointer (some ⟨p24, 0, none⟩)), (3, Value.pointer (some ⟨p39, 0, none⟩)), (4, Value.pointer (some ⟨p44, 0, none⟩)), (5, Value.pointer (some ⟨p49, 0, none⟩))] _ from ?_)
  refine At.then ?_
  refine WC.seq ?_
  refine WC.region ?_
  refine WL.y (Y.fieldAddr fo27_0 rfl) rfl ?_
  have hf151 := hf55.st hst60 rfl
  refine WL.y (Y.loadSc ty3 rfl rfl (hf151.cell 0 _ rfl)) rfl ?_
  refine WL.y (Y.fieldAddr fo27_0 rfl) rfl ?_
  have hf152 := hf57.st hst60 rfl
  refine WL.y (Y.loadSc ty3 rfl rfl (hf152.cell 0 _ rfl)) rfl ?_
  refine WL.y (Y.min_i rfl rfl) rfl ?_
  obtain ⟨scale153, hscale153, h⟩ := lt1 h
  refine WL.yE (Y.assign rfl) (congrArg vi hscale153.symm) rfl ?_
  refine WL.nil ?_
  refine At.then ?_
  refine WC.seq ?_
  refine WC.region ?_
  refine WL.y (Y.loadAg ty27 rfl rfl (hf151.cells 0 [vi a0.Scale, vu a0.Zero, vi a0.Pos.Offset, (Value.slice p15 m16 c17), vi a0.Neg.Offset, (Value.slice p19 m20 c21)] rfl) rfl) rfl ?_
  refine WL.y (Y.fieldAddr fo27_0 rfl) rfl ?_
  refine WL.y (Y.loadSc ty3 rfl rfl (hf151.cell 0 _ rfl)) rfl ?_
  refine WL.y (Y.move rfl) rfl ?_
  refine WL.y (Y.sub_i rfl rfl) rfl ?_
  have hf154 := hf11.mono (imm_st hst27 rfl rfl)
  have hf155 := hf154.mono (imm_st hst42 rfl rfl)
  have hf156 := hf155.mono (imm_st hst47 rfl rfl)
  have hf157 := hf156.mono (imm_st hst52 rfl rfl)
  have hf158 := hf157.mono (imm_st hst60 rfl rfl)
  have hf159 := hf12.mono (imm_st hst27 rfl rfl)
  have hf160 := hf159.mono (imm_st hst42 rfl rfl)
  have hf161 := hf160.mono (imm_st hst47 rfl rfl)
  have hf162 := hf161.mono (imm_st hst52 rfl rfl)
  have hf163 := hf162.mono (imm_st hst60 rfl rfl)
  obtain ⟨⟨r164, r165⟩, hp166, h⟩ := bnd h
  refine WL.call (vals := [Value.agg (List.toArray [vi a0.Scale, vu a0.Zero, vi a0.Pos.Offset, (Value.slice p15 m16 c17), vi a0.Neg.Offset, (Value.slice p19 m20 c21)]), vi (w64 (a0.Scale - scale153))]) kok21 rfl rfl (c_hist_Down (A := fun _ => True) (a0 := a0) (Sl.all hf158) (Sl.all hf163) hp166) ?_
  rintro vr174 wd173 ⟨u167, u168, rfl, hm172, f169, f170, f171⟩
  obtain ⟨O175, hold176, hnew177, hst178⟩ := adoptE O58 (fun k => if Value.ownBlock u167 = some k then 16 else if Value.ownBlock u168 = some k then 17 else 1) hm172
  have hf179 : OwnSl 16 Rep.u 22 O175 wd173 u167 r164.Pos.Counts := RowF.adopt 16 Flat.u f169 hnew177 (fun k hk => if_pos hk)
  have hf180 : OwnSl 17 Rep.u 22 O175 wd173 u168 r164.Neg.Counts := RowF.adopt 17 Flat.u f170 hnew177 (fun k hk => (if_neg (fun (e : Value.ownBlock u167 = some k) => f171 k e hk)).trans (if_pos hk))
  refine WL.y (Y.move rfl) rfl ?_
  refine WL.y (Y.extract rfl rfl) rfl ?_
  refine WL.y (Y.extract rfl rfl) rfl ?_
  have hh184 := h
  obtain ⟨p181, m182, c183, rfl⟩ := hf179.shape
  have h := hh184
  have hh188 := h
  obtain ⟨p185, m186, c187, rfl⟩ := hf180.shape
  have h := hh188
  have hf189 := hb43.st hst52 rfl
  have hf190 := hf189.st hst60 rfl
  have hf191 := hf190.st hst178 rfl
  refine WL.store (v := Value.agg (List.toArray [vi r164.Scale, vu r164.Zero, vi r164.Pos.Offset, (Value.slice p181 m182 c183), vi r164.Neg.Offset, (Value.slice p185 m186 c187)])) (cells' := [vi r164.Scale, vu r164.Zero, vi r164.Pos.Offset, (Value.slice p181 m182 c183), vi r164.Neg.Offset, (Value.slice p185 m186 c187)]) ty27 rfl rfl hf191 rfl (Nat.le_of_ble_eq_true rfl) rfl rfl ?_
  intro wd192 hst193 hb194
  refine WL.nil ?_
  refine At.then ?_
  refine WC.seq ?_
  refine WC.region ?_
  have hf195 := hf152.st hst178 rfl
  have hf196 := hf195.st hst193 rfl
  refine WL.y (Y.loadAg ty27 rfl rfl (hf196.cells 0 [vi a1.Scale, vu a1.Zero, vi a1.Pos.Offset, (Value.slice p29 m30 c31), vi a1.Neg.Offset, (Value.slice p34 m35 c36)] rfl) rfl) rfl ?_
  refine WL.y (Y.fieldAddr fo27_0 rfl) rfl ?_
  refine WL.y (Y.loadSc ty3 rfl rfl (hf196.cell 0 _ rfl)) rfl ?_
  refine WL.y (Y.move rfl) rfl ?_
  refine WL.y (Y.sub_i rfl rfl) rfl ?_
  have hf197 := hf28.mono (imm_st hst42 rfl rfl)
  have hf198 := hf197.mono (imm_st hst47 rfl rfl)
  have hf199 := hf198.mono (imm_st hst52 rfl rfl)
  have hf200 := hf199.mono (imm_st hst60 rfl rfl)
  have hf201 := hf200.mono (imm_st hst178 rfl rfl)
  have hf202 := hf201.mono (imm_st hst193 rfl rfl)
  have hf203 := hf33.mono (imm_st hst42 rfl rfl)
  have hf204 := hf203.mono (imm_st hst47 rfl rfl)
  have hf205 := hf204.mono (imm_st hst52 rfl rfl)
  have hf206 := hf205.mono (imm_st hst60 rfl rfl)
  have hf207 := hf206.mono (imm_st hst178 rfl rfl)
  have hf208 := hf207.mono (imm_st hst193 rfl rfl)
  obtain ⟨⟨r209, r210⟩, hp211, h⟩ := bnd h
  refine WL.call (vals := [Value.agg (List.toArray [vi a1.Scale, vu a1.Zero, vi a1.Pos.Offset, (Value.slice p29 m30 c31), vi a1.Neg.Offset, (Value.slice p34 m35 c36)]), vi (w64 (a1.Scale - scale153))]) kok21 rfl rfl (c_hist_Down (A := fun _ => True) (a0 := a1) (Sl.all hf202) (Sl.all hf208) hp211) ?_
  rintro vr219 wd218 ⟨u212, u213, rfl, hm217, f214, f215, f216⟩
  obtain ⟨O220, hold221, hnew222, hst223⟩ := adoptE O175 (fun k => if Value.ownBlock u212 = some k then 18 else if Value.ownBlock u213 = some k then 19 else 1) hm217
  have hf224 : OwnSl 18 Rep.u 22 O220 wd218 u212 r209.Pos.Counts := RowF.adopt 18 Flat.u f214 hnew222 (fun k hk => if_pos hk)
  have hf225 : OwnSl 19 Rep.u 22 O220 wd218 u213 r209.Neg.Counts := RowF.adopt 19 Flat.u f215 hnew222 (fun k hk => (if_neg (fun (e : Value.ownBlock u212 = some k) => f216 k e hk)).trans (if_pos hk))
  refine WL.y (Y.move rfl) rfl ?_
  refine WL.y (Y.extract rfl rfl) rfl ?_
  refine WL.y (Y.extract rfl rfl) rfl ?_
  have hh229 := h
  obtain ⟨p226, m227, c228, rfl⟩ := hf224.shape
  have h := hh229
  have hh233 := h
  obtain ⟨p230, m231, c232, rfl⟩ := hf225.shape
  have h := hh233
  have hf234 := hb48.st hst60 rfl
  have hf235 := hf234.st hst178 rfl
  have hf236 := hf235.st hst193 rfl
  have hf237 := hf236.st hst223 rfl
  refine WL.store (v := Value.agg (List.toArray [vi r209.Scale, vu r209.Zero, vi r209.Pos.Offset, (Value.slice p226 m227 c228), vi r209.Neg.Offset, (Value.slice p230 m231 c232)])) (cells' := [vi r209.Scale, vu r209.Zero, vi r209.Pos.Offset, (Value.slice p226 m227 c228), vi r209.Neg.Offset, (Value.slice p230 m231 c232)]) ty27 rfl rfl hf237 rfl (Nat.le_of_ble_eq_true rfl) rfl rfl ?_
  intro wd238 hst239 hb240
  refine WL.nil ?_
  refine At.then ?_
  refine WC.seq ?_
  refine WC.drawH [13] [0, 1, 2] O220 5 fmix rfl (by kernel_rfl) ?_
  intro wd241 hst242
  refine WD.y 1 rfl (by kernel_rfl) (fun wd244 O243 hst245 => have hf246 := hb240.st hst242 rfl; have hf247 := hf246.st hst245 rfl; Y.loadAg ty27 rfl rfl (hf247.cells 0 [vi r209.Scale, vu r209.Zero, vi r209.Pos.Offset, (Value.slice p226 m227 c228), vi r209.Neg.Offset, (Value.slice p230 m231 c232)] rfl) rfl) rfl ?_
  refine WD.heavy 0 rfl (by kernel_rfl) ?_
  have hf248 := hb194.st hst223 rfl
  have hf249 := hf248.st hst239 rfl
  have hf250 := hf249.st hst242 rfl
  refine WL.y (Y.loadAg ty27 rfl rfl (hf250.cells 0 [vi r164.Scale, vu r164.Zero, vi r164.Pos.Offset, (Value.slice p181 m182 c183), vi r164.Neg.Offset, (Value.slice p185 m186 c187)] rfl) rfl) rfl ?_
  refine WL.nil ?_
  refine At.dq (Stp.refl _ _ _) ?_
  refine WD.heavy 2 rfl (by kernel_rfl) ?_
  refine WL.store (v := Value.agg (List.toArray [vi r164.Scale, vu r164.Zero, vi r164.Pos.Offset, (Value.slice p181 m182 c183), vi r164.Neg.Offset, (Value.slice p185 m186 c187)])) (cells' := [vi r164.Scale, vu r164.Zero, vi r164.Pos.Offset, (Value.slice p181 m182 c183), vi r164.Neg.Offset, (Value.slice p185 m186 c187)]) ty27 rfl rfl hf250 rfl (Nat.le_of_ble_eq_true rfl) rfl rfl ?_
  intro wd251 hst252 hb253
  refine WL.nil ?_
  refine At.dq (Stp.up hst252 rfl) ?_
  refine WD.phase [14] [0, 1, 2, 3, 4] (by kernel_rfl) (by kernel_rfl) ?_
  refine WD.heavy 3 rfl (by kernel_rfl) ?_
  have hf254 := hb240.st hst242 rfl
  have hf255 := hf254.st hst252 rfl
  refine WL.store (v := Value.agg (List.toArray [vi r209.Scale, vu r209.Zero, vi r209.Pos.Offset, (Value.slice p226 m227 c228), vi r209.Neg.Offset, (Value.slice p230 m231 c232)])) (cells' := [vi r209.Scale, vu r209.Zero, vi r209.Pos.Offset, (Value.slice p226 m227 c228), vi r209.Neg.Offset, (Value.slice p230 m231 c232)]) ty27 rfl rfl hf255 rfl (Nat.le_of_ble_eq_true rfl) rfl rfl ?_
  intro wd256 hst257 hb258
  refine WL.nil ?_
  refine At.dq (Stp.up hst257 rfl) ?_
  refine WD.y 4 rfl (by kernel_rfl) (fun _ _ _ => Y.assign rfl) rfl ?_
  refine WD.done_ (by kernel_rfl) ?_
  refine At.then ?_
  refine WC.ret ?_
  obtain ⟨rfl, rfl, rfl⟩ := tup3 h
  have hs262 : Stp [13, 14, 15] (Lg.O0 A) w O220 wd256 := (Stp.trans (Stp.up hst27 rfl) (Stp.trans (Stp.up hst42 rfl) (Stp.trans (Stp.up hst47 rfl) (Stp.trans (Stp.up hst52 rfl) (Stp.trans (Stp.up hst60 rfl) (Stp.trans (Stp.up hst178 rfl) (Stp.trans (Stp.up hst193 rfl) (Stp.trans (Stp.up hst223 rfl) (Stp.trans (Stp.up hst239 rfl) (Stp.trans (Stp.up hst242 rfl) (Stp.trans (Stp.up hst252 rfl) (Stp.up hst257 rfl))))))))))))
  have hf263 := hf179.st hst193 rfl rfl rfl
  have hf264 := hf263.st hst223 rfl rfl rfl
  have hf265 := hf264.st hst239 rfl rfl rfl
  have hf266 := hf265.st hst242 rfl rfl rfl
  have hf267 := hf266.st hst252 rfl rfl rfl
  have hf268 := hf267.st hst257 rfl rfl rfl
  have hf269 := hf180.st hst193 rfl rfl rfl
  have hf270 := hf269.st hst223 rfl rfl rfl
  have hf271 := hf270.st hst239 rfl rfl rfl
  have hf272 := hf271.st hst242 rfl rfl rfl
  have hf273 := hf272.st hst252 rfl rfl rfl
  have hf274 := hf273.st hst257 rfl rfl rfl
  have hf275 := hf224.st hst239 rfl rfl rfl
  have hf276 := hf275.st hst242 rfl rfl rfl
  have hf277 := hf276.st hst252 rfl rfl rfl
  have hf278 := hf277.st hst257 rfl rfl rfl
  have hf279 := hf225.st hst239 rfl rfl rfl
  have hf280 := hf279.st hst242 rfl rfl rfl
  have hf281 := hf280.st hst252 rfl rfl rfl
  have hf282 := hf281.st hst257 rfl rfl rfl
  have hf283 := hb253.st hst257 rfl
  exact At.res (.inl rfl) rfl (.cell rfl (hf283.runAg 0 [vi r164.Scale, vu r164.Zero, vi r164.Pos.Offset, (Value.slice p181 m182 c183), vi r164.Neg.Offset, (Value.slice p185 m186 c187)] ty27 rfl rfl rfl) (.cell rfl (hb258.runAg 0 [vi r209.Scale, vu r209.Zero, vi r209.Pos.Offset, (Value.slice p226 m227 c228), vi r209.Neg.Offset, (Value.slice p230 m231 c232)] ty27 rfl rfl rfl) (.tmp rfl .nil))) ⟨(Value.slice p181 m182 c183), (Value.slice p185 m186 c187), (Value.slice p226 m227 c228), (Value.slice p230 m231 c232), rfl, (Stp.ext hs262 rfl rfl), (OwnSl.outF hf268 hs262 low0 rfl), (OwnSl.outF hf274 hs262 low0 rfl), (OwnSl.outF hf278 hs262 low0 rfl), (OwnSl.outF hf282 hs262 low0 rfl), (ne_own hf268 hf274 rfl), (ne_own hf268 hf278 rfl), (ne_own hf274 hf278 rfl), (ne_own hf268 hf282 rfl), (ne_own hf274 hf282 rfl), (ne_own hf278 hf282 rfl)⟩
theorem c_fold_ends {A : Nat → Prop} {v0_1 : Value} {a0 : api_Side} {w : World} (hs0_1 : Sl Rep.u w A v0_1 a0.Counts) {r0 : Int} {r1 : Int} (h : fold_ends a0 = some (r0, r1)) : Rets Try.prog 98 [Value.agg (List.toArray [vi a0.Offset, v0_1])] w (fun v w' => v = Value.tuple (List.toArray [vi r0, vi r1]) ∧ Ext w w') := by
 unfold fold_ends at h
 refine Rets.enter Try.func98 rfl rfl ?_
 have hf11 : Sl Rep.u w (imm (Lg.O0 A)) v0_1 a0.Counts := (Sl.start hs0_1)
 refine (show WC _ _ _ _ [(0, Value.agg (List.toArray [vi a0.Offset, v0_1]))] _ from ?_)
 refine WC.seq ?_
 refine WC.region ?_
 have hh15 := h
 obtain ⟨p12, m13, c14, rfl⟩ := hf11.shape
 have h := hh15
 refine WL.box (O := (Lg.O0 A)) 11 [vi a0.Offset, (Value.slice p12 m13 c14)] rfl rfl rfl ?_
 intro p17 O18 wd19 hst20 hb16
 refine WL.y (Y.assign rfl) rfl ?_
 refine WL.y (Y.assign rfl) rfl ?_
 refine WL.nil ?_
 refine At.then ?_
 refine WC.seq ?_
 refine WC.draw 9 O18 fmix (by kernel_rfl) ?_
 intro wd21 hst22
 refine WS.y (Y.fieldAddr fo25_0 rfl) rfl ?_
 have hf23 := hb16.st hst22 rfl
 refine WS.y (Y.loadSc ty3 rfl rfl (hf23.cell 0 _ rfl)) rfl ?_
 refine WS.y (Y.fieldAddr fo25_0 rfl) rfl ?_
 refine WS.y (Y.loadSc ty3 rfl rfl (hf23.cell 0 _ rfl)) rfl ?_
 refine WS.y (Y.fieldAddr fo25_1 rfl) rfl ?_
 refine WS.y (Y.loadSc ty23 rfl rfl (hf23.cell 1 _ rfl)) rfl ?_
 have hf24 := hf11.mono (imm_st hst20 rfl rfl)
 have hf25 := hf24.mono (imm_st hst22 rfl rfl)
 refine WS.y (Y.len ty23 rfl hf25) rfl ?_
 refine WS.y (Y.add_i rfl rfl) rfl ?_
 refine WS.y (Y.assign rfl) rfl ?_
 refine WS.tail ?_
 obtain ⟨to26, hto26, h⟩ := lt1 h
 refine WL.yE (Y.assign rfl) (congrArg vi hto26.symm) rfl ?_
 refine WL.nil ?_
 refine At.then ?_
 refine WC.ret ?_
 obtain ⟨rfl, rfl⟩ := tup2 h
 have hs27 : Stp [] (Lg.O0 A) w O18 wd21 := (Stp.trans (Stp.up hst20 rfl) (Stp.up hst22 rfl))
 exact At.res (.inl rfl) rfl (.tmp rfl (.tmp rfl .nil)) ⟨rfl, (Stp.ext hs27 rfl rfl)⟩
theorem c_fold_cover {A : Nat → Prop} {v0_1 : Value} {a0 : api_Side} {v1_1 : Value} {a1 : api_Side} {w : World} (hs0_1 : Sl Rep.u w A v0_1 a0.Counts) (hs1_1 : Sl Rep.u w A v1_1 a1.Counts) {r0 : Int} {r1 : Int} (h : fold_cover a0 a1 = some (r0, r1)) : Rets Try.prog 71 [Value.agg (List.toArray [vi a0.Offset, v0_1]), Value.agg (List.toArray [vi a1.Offset, v1_1])] w (fun v w' => v = Value.tuple (List.toArray [vi r0, vi r1]) ∧ Ext w w') := by
 unfold fold_cover at h
 refine Rets.enter Try.func71 rfl rfl ?_
 have hf11 : Sl Rep.u w (imm (Lg.O0 A)) v0_1 a0.Counts := (Sl.start hs0_1)
 have hf12 : Sl Rep.u w (imm (Lg.O0 A)) v1_1 a1.Counts := (Sl.start hs1_1)
 refine (show WC _ _ _ _ [(0, Value.agg (List.toArray [vi a0.Offset, v0_1])), (1, Value.agg (List.toArray [vi a1.Offset, v1_1]))] _ from ?_)
 refine WC.seq ?_
 refine WC.region ?_
 have hh16 := h
 obtain ⟨p13, m14, c15, rfl⟩ := hf11.shape
 have h := hh16
 refine WL.box (O := (Lg.O0 A)) 11 [vi a0.Offset, (Value.slice p13 m14 c15)] rfl rfl rfl ?_
 intro p18 O19 wd20 hst21 hb17
 have hf22 := hf12.mono (imm_st hst21 rfl rfl)
 have hh26 := h
 obtain ⟨p23, m24, c25, rfl⟩ := hf22.shape
 have h := hh26
 refine WL.box (O := O19) 12 [vi a1.Offset, (Value.slice p23 m24 c25)] rfl rfl rfl ?_
 intro p28 O29 wd30 hst31 hb27
 refine WL.y (Y.assign rfl) rfl ?_
 refine WL.y (Y.assign rfl) rfl ?_
 refine WL.nil ?_
 refine At.then ?_
 refine WC.seq ?_
 refine WC.seq ?_
 refine WC.region ?_
 refine WL.y (Y.fieldAddr fo25_1 rfl) rfl ?_
 have hf32 := hb17.st hst31 rfl
 refine WL.y (Y.loadSc ty23 rfl rfl (hf32.cell 1 _ rfl)) rfl ?_
 have hf33 := hf11.mono (imm_st hst21 rfl rfl)
 have hf34 := hf33.mono (imm_st hst31 rfl rfl)
 refine WL.y (Y.len ty23 rfl hf34) rfl ?_
 refine WL.y (Y.eql_i rfl rfl) rfl ?_
 refine WL.nil ?_
 refine At.then ?_
 rcases cnd h with ⟨hc35, h⟩ | ⟨hc35, h⟩
 ·refine WC.condT' rfl hc35 ?_
  refine WC.seq ?_
  refine WC.draw 6 O29 fmix (by kernel_rfl) ?_
  intro wd36 hst37
  refine WS.y (Y.fieldAddr fo25_0 rfl) rfl ?_
  have hf38 := hb27.st hst37 rfl
  refine WS.y (Y.loadSc ty3 rfl rfl (hf38.cell 0 _ rfl)) rfl ?_
  refine WS.y (Y.fieldAddr fo25_1 rfl) rfl ?_
  refine WS.y (Y.loadSc ty23 rfl rfl (hf38.cell 1 _ rfl)) rfl ?_
  have hf39 := hf22.mono (imm_st hst31 rfl rfl)
  have hf40 := hf39.mono (imm_st hst37 rfl rfl)
  refine WS.y (Y.len ty23 rfl hf40) rfl ?_
  refine WS.y (Y.assign rfl) rfl ?_
  refine WS.tail ?_
  obtain ⟨nv41, hnv41, h⟩ := lt1 h
  refine WL.yE (Y.assign rfl) (congrArg vi hnv41.symm) rfl ?_
  refine WL.nil ?_
  refine At.then ?_
  refine WC.ret ?_
  refine At.thenR ?_
  obtain ⟨rfl, rfl⟩ := tup2 h
  have hs42 : Stp [] (Lg.O0 A) w O29 wd36 := (Stp.trans (Stp.up hst21 rfl) (Stp.trans (Stp.up hst31 rfl) (Stp.up hst37 rfl)))
  exact At.res (.inl rfl) rfl (.tmp rfl (.tmp rfl .nil)) ⟨rfl, (Stp.ext hs42 rfl rfl)⟩
 ·refine WC.condF' rfl hc35 ?_
  refine WC.skip ?_
  refine At.then ?_
  refine WC.seq ?_
  refine WC.seq ?_
  refine WC.region ?_
  refine WL.y (Y.fieldAddr fo25_1 rfl) rfl ?_
  refine WL.y (Y.loadSc ty23 rfl rfl (hb27.cell 1 _ rfl)) rfl ?_
  have hf43 := hf22.mono (imm_st hst31 rfl rfl)
  refine WL.y (Y.len ty23 rfl hf43) rfl ?_
  refine WL.y (Y.eql_i rfl rfl) rfl ?_
  refine WL.nil ?_
  refine At.then ?_
  rcases cnd h with ⟨hc44, h⟩ | ⟨hc44, h⟩
  ·refine WC.condT' rfl hc44 ?_
   refine WC.seq ?_
   refine WC.draw 6 O29 fmix (by kernel_rfl) ?_
   intro wd45 hst46
   refine WS.y (Y.fieldAddr fo25_0 rfl) rfl ?_
   have hf47 := hf32.st hst46 rfl
   refine WS.y (Y.loadSc ty3 rfl rfl (hf47.cell 0 _ rfl)) rfl ?_
   refine WS.y (Y.fieldAddr fo25_1 rfl) rfl ?_
   refine WS.y (Y.loadSc ty23 rfl rfl (hf47.cell 1 _ rfl)) rfl ?_
   have hf48 := hf34.mono (imm_st hst46 rfl rfl)
   refine WS.y (Y.len ty23 rfl hf48) rfl ?_
   refine WS.y (Y.assign rfl) rfl ?_
   refine WS.tail ?_
   obtain ⟨nv49, hnv49, h⟩ := lt1 h
   refine WL.yE (Y.assign rfl) (congrArg vi hnv49.symm) rfl ?_
   refine WL.nil ?_
   refine At.then ?_
   refine WC.ret ?_
   refine At.thenR ?_
   obtain ⟨rfl, rfl⟩ := tup2 h
   have hs50 : Stp [] (Lg.O0 A) w O29 wd45 := (Stp.trans (Stp.up hst21 rfl) (Stp.trans (Stp.up hst31 rfl) (Stp.up hst46 rfl)))
   exact At.res (.inl rfl) rfl (.tmp rfl (.tmp rfl .nil)) ⟨rfl, (Stp.ext hs50 rfl rfl)⟩
  ·refine WC.condF' rfl hc44 ?_
   refine WC.skip ?_
   refine At.then ?_
   refine WC.seq ?_
   refine WC.region ?_
   refine WL.y (Y.loadAg ty25 rfl rfl (hf32.cells 0 [vi a0.Offset, (Value.slice p13 m14 c15)] rfl) rfl) rfl ?_
   obtain ⟨⟨r51, r52⟩, hp53, h⟩ := bnd h
   refine WL.call (vals := [Value.agg (List.toArray [vi a0.Offset, (Value.slice p13 m14 c15)])]) kok98 rfl rfl (c_fold_ends (A := fun _ => True) (a0 := a0) (Sl.all hf34) hp53) ?_
   rintro vr56 wd55 ⟨rfl, hm54⟩
   obtain ⟨O57, hold58, hnew59, hst60⟩ := adoptE O29 (fun k => 1) hm54
   refine WL.y (Y.move rfl) rfl ?_
   refine WL.y (Y.extract rfl rfl) rfl ?_
   refine WL.y (Y.extract rfl rfl) rfl ?_
   refine WL.y (Y.assign rfl) rfl ?_
   refine WL.y (Y.assign rfl) rfl ?_
   refine WL.nil ?_
   refine At.then ?_
   refine WC.seq ?_
   refine WC.region ?_
   have hf61 := hb27.st hst60 rfl
   refine WL.y (Y.loadAg ty25 rfl rfl (hf61.cells 0 [vi a1.Offset, (Value.slice p23 m24 c25)] rfl) rfl) rfl ?_
   have hf62 := hf43.mono (imm_st hst60 rfl rfl)
   obtain ⟨⟨r63, r64⟩, hp65, h⟩ := bnd h
   refine WL.call (vals := [Value.agg (List.toArray [vi a1.Offset, (Value.slice p23 m24 c25)])]) kok98 rfl rfl (c_fold_ends (A := fun _ => True) (a0 := a1) (Sl.all hf62) hp65) ?_
   rintro vr68 wd67 ⟨rfl, hm66⟩
   obtain ⟨O69, hold70, hnew71, hst72⟩ := adoptE O57 (fun k => 1) hm66
   refine WL.y (Y.move rfl) rfl ?_
   refine WL.y (Y.extract rfl rfl) rfl ?_
   refine WL.y (Y.extract rfl rfl) rfl ?_
   refine WL.y (Y.assign rfl) rfl ?_
   refine WL.y (Y.assign rfl) rfl ?_
   refine WL.nil ?_
   refine At.then ?_
   refine WC.seq ?_
   refine WC.region ?_
   refine WL.y (Y.move rfl) rfl ?_
   refine WL.y (Y.move rfl) rfl ?_
   refine WL.y (Y.min_i rfl rfl) rfl ?_
   refine WL.y (Y.move rfl) rfl ?_
   refine WL.y (Y.move rfl) rfl ?_
   refine WL.y (Y.max_i rfl rfl) rfl ?_
   obtain ⟨from73, hfrom73, h⟩ := lt1 h
   refine WL.yE (Y.assign rfl) (congrArg vi hfrom73.symm) rfl ?_
   obtain ⟨end74, hend74, h⟩ := lt1 h
   refine WL.yE (Y.assign rfl) (congrArg vi hend74.symm) rfl ?_
   refine WL.nil ?_
   refine At.then ?_
   refine WC.seq ?_
   refine WC.region ?_
   refine WL.y (Y.move rfl) rfl ?_
   refine WL.y (Y.move rfl) rfl ?_
   refine WL.y (Y.move rfl) rfl ?_
   refine WL.y (Y.sub_i rfl rfl) rfl ?_
   refine WL.y (Y.assign rfl) rfl ?_
   obtain ⟨nv75, hnv75, h⟩ := lt1 h
   refine WL.yE (Y.assign rfl) (congrArg vi hnv75.symm) rfl ?_
   refine WL.nil ?_
   refine At.then ?_
   refine WC.ret ?_
   obtain ⟨rfl, rfl⟩ := tup2 h
   have hs76 : Stp [] (Lg.O0 A) w O69 wd67 := (Stp.trans (Stp.up hst21 rfl) (Stp.trans (Stp.up hst31 rfl) (Stp.trans (Stp.up hst60 rfl) (Stp.up hst72 rfl))))
   exact At.res (.inl rfl) rfl (.tmp rfl (.tmp rfl .nil)) ⟨rfl, (Stp.ext hs76 rfl rfl)⟩
theorem c_fold_Merge {A : Nat → Prop} {v0_3 : Value} {v0_5 : Value} {a0 : api_Hist} {v1_3 : Value} {v1_5 : Value} {a1 : api_Hist} {w : World} (hs0_3 : Sl Rep.u w A v0_3 a0.Pos.Counts) (hs0_5 : Sl Rep.u w A v0_5 a0.Neg.Counts) (hs1_3 : Sl Rep.u w A v1_3 a1.Pos.Counts) (hs1_5 : Sl Rep.u w A v1_5 a1.Neg.Counts) {r0 : api_Hist} {r1 : Int} (h : fold_Merge a0 a1 = some (r0, r1)) : Rets Try.prog 40 [Value.agg (List.toArray [vi a0.Scale, vu a0.Zero, vi a0.Pos.Offset, v0_3, vi a0.Neg.Offset, v0_5]), Value.agg (List.toArray [vi a1.Scale, vu a1.Zero, vi a1.Pos.Offset, v1_3, vi a1.Neg.Offset, v1_5])] w (fun v w' => ∃ (u0_3 : Value) (u0_5 : Value), v = Value.tuple (List.toArray [Value.agg (List.toArray [vi r0.Scale, vu r0.Zero, vi r0.Pos.Offset, u0_3, vi r0.Neg.Offset, u0_5]), vi r1]) ∧ Ext w w' ∧ RowF Rep.u 22 w w' u0_3 r0.Pos.Counts ∧ RowF Rep.u 22 w w' u0_5 r0.Neg.Counts ∧ (∀ k, Value.ownBlock u0_3 = some k → Value.ownBlock u0_5 ≠ some k)) := by
 unfold fold_Merge at h
 refine Rets.enter Try.func40 rfl rfl ?_
 have hf11 : Sl Rep.u w (imm (Lg.O0 A)) v0_3 a0.Pos.Counts := (Sl.start hs0_3)
 have hf12 : Sl Rep.u w (imm (Lg.O0 A)) v0_5 a0.Neg.Counts := (Sl.start hs0_5)
 have hf13 : Sl Rep.u w (imm (Lg.O0 A)) v1_3 a1.Pos.Counts := (Sl.start hs1_3)
 have hf14 : Sl Rep.u w (imm (Lg.O0 A)) v1_5 a1.Neg.Counts := (Sl.start hs1_5)
 refine (show WC _ _ _ _ [(0, Value.agg (List.toArray [vi a0.Scale, vu a0.Zero, vi a0.Pos.Offset, v0_3, vi a0.Neg.Offset, v0_5])), (1, Value.agg (List.toArray [vi a1.Scale, vu a1.Zero, vi a1.Pos.Offset, v1_3, vi a1.Neg.Offset, v1_5]))] _ from ?_)
 refine WC.seq ?_
 refine WC.region ?_
 have hh18 := h
 obtain ⟨p15, m16, c17, rfl⟩ := hf11.shape
 have h := hh18
 have hh22 := h
 obtain ⟨p19, m20, c21, rfl⟩ := hf12.shape
 have h := hh22
 refine WL.box (O := (Lg.O0 A)) 11 [vi a0.Scale, vu a0.Zero, vi a0.Pos.Offset, (Value.slice p15 m16 c17), vi a0.Neg.Offset, (Value.slice p19 m20 c21)] rfl rfl rfl ?_
 intro p24 O25 wd26 hst27 hb23
 have hf28 := hf13.mono (imm_st hst27 rfl rfl)
 have hh32 := h
 obtain ⟨p29, m30, c31, rfl⟩ := hf28.shape
 have h := hh32
 have hf33 := hf14.mono (imm_st hst27 rfl rfl)
 have hh37 := h
 obtain ⟨p34, m35, c36, rfl⟩ := hf33.shape
 have h := hh37
 refine WL.box (O := O25) 12 [vi a1.Scale, vu a1.Zero, vi a1.Pos.Offset, (Value.slice p29 m30 c31), vi a1.Neg.Offset, (Value.slice p34 m35 c36)] rfl rfl rfl ?_
 intro p39 O40 wd41 hst42 hb38
 refine WL.alloc (O := O40) 13 [vi 0, vu 0, vi 0, Value.slice none 0 0, vi 0, Value.slice none 0 0] ty27 rfl rfl ?_
 intro p44 O45 wd46 hst47 hb43
 refine WL.y (Y.assign rfl) rfl ?_
 refine WL.nil ?_
 refine At.then ?_
 refine WC.seq ?_
 refine WC.region ?_
 have hf48 := hb23.st hst42 rfl
 have hf49 := hf48.st hst47 rfl
 refine WL.y (Y.loadAg ty27 rfl rfl (hf49.cells 0 [vi a0.Scale, vu a0.Zero, vi a0.Pos.Offset, (Value.slice p15 m16 c17), vi a0.Neg.Offset, (Value.slice p19 m20 c21)] rfl) rfl) rfl ?_
 have hf50 := hb38.st hst47 rfl
 refine WL.y (Y.loadAg ty27 rfl rfl (hf50.cells 0 [vi a1.Scale, vu a1.Zero, vi a1.Pos.Offset, (Value.slice p29 m30 c31), vi a1.Neg.Offset, (Value.slice p34 m35 c36)] rfl) rfl) rfl ?_
 have hf51 := hf11.mono (imm_st hst27 rfl rfl)
 have hf52 := hf51.mono (imm_st hst42 rfl rfl)
 have hf53 := hf52.mono (imm_st hst47 rfl rfl)
 have hf54 := hf12.mono (imm_st hst27 rfl rfl)
 have hf55 := hf54.mono (imm_st hst42 rfl rfl)
 have hf56 := hf55.mono (imm_st hst47 rfl rfl)
 have hf57 := hf28.mono (imm_st hst42 rfl rfl)
 have hf58 := hf57.mono (imm_st hst47 rfl rfl)
 have hf59 := hf33.mono (imm_st hst42 rfl rfl)
 have hf60 := hf59.mono (imm_st hst47 rfl rfl)
 obtain ⟨⟨r61, r62, r63⟩, hp64, h⟩ := bnd h
 refine WL.call (vals := [Value.agg (List.toArray [vi a0.Scale, vu a0.Zero, vi a0.Pos.Offset, (Value.slice p15 m16 c17), vi a0.Neg.Offset, (Value.slice p19 m20 c21)]), Value.agg (List.toArray [vi a1.Scale, vu a1.Zero, vi a1.Pos.Offset, (Value.slice p29 m30 c31), vi a1.Neg.Offset, (Value.slice p34 m35 c36)])]) kok38 rfl rfl (c_fold_Level (A := fun _ => True) (a0 := a0) (a1 := a1) (Sl.all hf53) (Sl.all hf56) (Sl.all hf58) (Sl.all hf60) hp64) ?_
 rintro vr81 wd80 ⟨u65, u66, u67, u68, rfl, hm79, f69, f70, f71, f72, f73, f74, f75, f76, f77, f78⟩
 obtain ⟨O82, hold83, hnew84, hst85⟩ := adoptE O45 (fun k => if Value.ownBlock u65 = some k then 14 else if Value.ownBlock u66 = some k then 15 else if Value.ownBlock u67 = some k then 16 else if Value.ownBlock u68 = some k then 17 else 1) hm79
 have hf86 : OwnSl 14 Rep.u 22 O82 wd80 u65 r61.Pos.Counts := RowF.adopt 14 Flat.u f69 hnew84 (fun k hk => if_pos hk)
 have hf87 : OwnSl 15 Rep.u 22 O82 wd80 u66 r61.Neg.Counts := RowF.adopt 15 Flat.u f70 hnew84 (fun k hk => (if_neg (fun (e : Value.ownBlock u65 = some k) => f73 k e hk)).trans (if_pos hk))
 have hf88 : OwnSl 16 Rep.u 22 O82 wd80 u67 r62.Pos.Counts := RowF.adopt 16 Flat.u f71 hnew84 (fun k hk => (if_neg (fun (e : Value.ownBlock u65 = some k) => f74 k e hk)).trans ((if_neg (fun (e : Value.ownBlock u66 = some k) => f75 k e hk)).trans (if_pos hk)))
 have hf89 : OwnSl 17 Rep.u 22 O82 wd80 u68 r62.Neg.Counts := RowF.adopt 17 Flat.u f72 hnew84 (fun k hk => (if_neg (fun (e : Value.ownBlock u65 = some k) => f76 k e hk)).trans ((if_neg (fun (e : Value.ownBlock u66 = some k) => f77 k e hk)).trans ((if_neg (fun (e : Value.ownBlock u67 = some k) => f78 k e hk)).trans (if_pos hk))))
 refine WL.y (Y.move rfl) rfl ?_
 refine WL.y (Y.extract rfl rfl) rfl ?_
 refine WL.y (Y.extract rfl rfl) rfl ?_
 refine WL.y (Y.extract rfl rfl) rfl ?_
 refine WL.alloc (O := O82) 18 [vi 0, vu 0, vi 0, Value.slice none 0 0, vi 0, Value.slice none 0 0] ty27 rfl rfl ?_
 intro p91 O92 wd93 hst94 hb90
 refine WL.alloc (O := O92) 19 [vi 0, vu 0, vi 0, Value.slice none 0 0, vi 0, Value.slice none 0 0] ty27 rfl rfl ?_
 intro p96 O97 wd98 hst99 hb95
 have hf100 := hf86.st hst94 rfl rfl rfl
 have hf101 := hf100.st hst99 rfl rfl rfl
 have hh105 := h
 obtain ⟨p102, m103, c104, rfl⟩ := hf101.shape
 have h := hh105
 have hf106 := hf87.st hst94 rfl rfl rfl
 have hf107 := hf106.st hst99 rfl rfl rfl
 have hh111 := h
 obtain ⟨p108, m109, c110, rfl⟩ := hf107.shape
 have h := hh111
 have hf112 := hb90.st hst99 rfl
 refine WL.store (v := Value.agg (List.toArray [vi r61.Scale, vu r61.Zero, vi r61.Pos.Offset, (Value.slice p102 m103 c104), vi r61.Neg.Offset, (Value.slice p108 m109 c110)])) (cells' := [vi r61.Scale, vu r61.Zero, vi r61.Pos.Offset, (Value.slice p102 m103 c104), vi r61.Neg.Offset, (Value.slice p108 m109 c110)]) ty27 rfl rfl hf112 rfl (Nat.le_of_ble_eq_true rfl) rfl rfl ?_
 intro wd113 hst114 hb115
 have hf116 := hf88.st hst94 rfl rfl rfl
 have hf117 := hf116.st hst99 rfl rfl rfl
 have hf118 := hf117.st hst114 rfl rfl rfl
 have hh122 := h
 obtain ⟨p119, m120, c121, rfl⟩ := hf118.shape
 have h := hh122
 have hf123 := hf89.st hst94 rfl rfl rfl
 have hf124 := hf123.st hst99 rfl rfl rfl
 have hf125 := hf124.st hst114 rfl rfl rfl
 have hh129 := h
 obtain ⟨p126, m127, c128, rfl⟩ := hf125.shape
 have h := hh129
 have hf130 := hb95.st hst114 rfl
 refine WL.store (v := Value.agg (List.toArray [vi r62.Scale, vu r62.Zero, vi r62.Pos.Offset, (Value.slice p119 m120 c121), vi r62.Neg.Offset, (Value.slice p126 m127 c128)])) (cells' := [vi r62.Scale, vu r62.Zero, vi r62.Pos.Offset, (Value.slice p119 m120 c121), vi r62.Neg.Offset, (Value.slice p126 m127 c128)]) ty27 rfl rfl hf130 rfl (Nat.le_of_ble_eq_true rfl) rfl rfl ?_
 intro wd131 hst132 hb133
 refine WL.y (Y.assign rfl) rfl ?_
 refine WL.nil ?_
 refine At.then ?_
 refine WC.seq ?_
 refine WC.seq ?_
 refine WC.region ?_
 refine WL.y (Y.move rfl) rfl ?_
 refine WL.y (Y.neq_i rfl rfl) rfl ?_
 refine WL.nil ?_
 refine At.then ?_
 rcases cnd h with ⟨hc134, h⟩ | ⟨hc134, h⟩
 ·refine WC.condT' rfl hc134 ?_
  refine WC.seq ?_
  refine WC.region ?_
  refine WL.y (Y.build (vals := []) (cells := [vi 0, vu 0, vi 0, Value.slice none 0 0, vi 0, Value.slice none 0 0]) (Fits.evalp rfl) (by kernel_rfl)) rfl ?_
  refine WL.y (Y.move rfl) rfl ?_
  have hf135 := hb43.st hst85 rfl
  have hf136 := hf135.st hst94 rfl
  have hf137 := hf136.st hst99 rfl
  have hf138 := hf137.st hst114 rfl
  have hf139 := hf138.st hst132 rfl
  refine WL.store (v := Value.agg (List.toArray [vi 0, vu 0, vi 0, Value.slice none 0 0, vi 0, Value.slice none 0 0])) (cells' := [vi 0, vu 0, vi 0, Value.slice none 0 0, vi 0, Value.slice none 0 0]) ty27 rfl rfl hf139 rfl (Nat.le_of_ble_eq_true rfl) rfl rfl ?_
  intro wd140 hst141 hb142
  refine WL.y (Y.assign rfl) rfl ?_
  refine WL.nil ?_
  refine At.then ?_
  refine WC.ret ?_
  refine At.thenR ?_
  obtain ⟨rfl, rfl⟩ := tup2 h
  have hs143 : Stp [13, 18, 19] (Lg.O0 A) w O97 wd140 := (Stp.trans (Stp.up hst27 rfl) (Stp.trans (Stp.up hst42 rfl) (Stp.trans (Stp.up hst47 rfl) (Stp.trans (Stp.up hst85 rfl) (Stp.trans (Stp.up hst94 rfl) (Stp.trans (Stp.up hst99 rfl) (Stp.trans (Stp.up hst114 rfl) (Stp.trans (Stp.up hst132 rfl) (Stp.up hst141 rfl)))))))))
  exact At.res (.inl rfl) rfl (.cell rfl (hb142.runAg 0 [vi 0, vu 0, vi 0, Value.slice none 0 0, vi 0, Value.slice none 0 0] ty27 rfl rfl rfl) (.tmp rfl .nil)) ⟨Value.slice none 0 0, Value.slice none 0 0, rfl, (Stp.ext hs143 rfl rfl), RowF.nil, RowF.nil, (fun _ e => absurd e not_nil)⟩
 ·refine WC.condF' rfl hc134 ?_
  refine WC.skip ?_
  refine At.then ?_
  refine WC.seq ?_
  refine WC.region ?_
  have hf144 := hb115.st hst132 rfl
  refine WL.y (Y.loadAg ty27 rfl rfl (hf144.cells 0 [vi r61.Scale, vu r61.Zero, vi r61.Pos.Offset, (Value.slice p102 m103 c104), vi r61.Neg.Offset, (Value.slice p108 m109 c110)] rfl) rfl) rfl ?_
  have hf145 := hf101.st hst114 rfl rfl rfl
  have hf146 := hf145.st hst132 rfl rfl rfl
  have hf147 := hf107.st hst114 rfl rfl rfl
  have hf148 := hf147.st hst132 rfl rfl rfl
  obtain ⟨⟨r149, r150⟩, hp151, h⟩ := bnd h
  refine WL.call (vals := [Value.agg (List.toArray [vi r61.Scale, vu r61.Zero, vi r61.Pos.Offset, (Value.slice p102 m103 c104), vi r61.Neg.Offset, (Value.slice p108 m109 c110)])]) kok17 rfl rfl (c_hist_Total (A := fun _ => True) (a0 := r61) (hf146.src.sl) (hf148.src.sl) hp151) ?_
  rintro vr154 wd153 ⟨rfl, hm152⟩
  obtain ⟨O155, hold156, hnew157, hst158⟩ := adoptE O97 (fun k => 1) hm152
  refine WL.y (Y.move rfl) rfl ?_
  refine WL.y (Y.extract rfl rfl) rfl ?_
  refine WL.y (Y.extract rfl rfl) rfl ?_
  refine WL.y (Y.assign rfl) rfl ?_
  refine WL.y (Y.assign rfl) rfl ?_
  refine WL.nil ?_
  refine At.then ?_
  refine WC.seq ?_
  refine WC.region ?_
  have hf159 := hb133.st hst158 rfl
  refine WL.y (Y.loadAg ty27 rfl rfl (hf159.cells 0 [vi r62.Scale, vu r62.Zero, vi r62.Pos.Offset, (Value.slice p119 m120 c121), vi r62.Neg.Offset, (Value.slice p126 m127 c128)] rfl) rfl) rfl ?_
  have hf160 := hf118.st hst132 rfl rfl rfl
  have hf161 := hf160.st hst158 rfl rfl rfl
  have hf162 := hf125.st hst132 rfl rfl rfl
  have hf163 := hf162.st hst158 rfl rfl rfl
  obtain ⟨⟨r164, r165⟩, hp166, h⟩ := bnd h
  refine WL.call (vals := [Value.agg (List.toArray [vi r62.Scale, vu r62.Zero, vi r62.Pos.Offset, (Value.slice p119 m120 c121), vi r62.Neg.Offset, (Value.slice p126 m127 c128)])]) kok17 rfl rfl (c_hist_Total (A := fun _ => True) (a0 := r62) (hf161.src.sl) (hf163.src.sl) hp166) ?_
  rintro vr169 wd168 ⟨rfl, hm167⟩
  obtain ⟨O170, hold171, hnew172, hst173⟩ := adoptE O155 (fun k => 1) hm167
  refine WL.y (Y.move rfl) rfl ?_
  refine WL.y (Y.extract rfl rfl) rfl ?_
  refine WL.y (Y.extract rfl rfl) rfl ?_
  refine WL.y (Y.assign rfl) rfl ?_
  refine WL.y (Y.assign rfl) rfl ?_
  refine WL.nil ?_
  refine At.then ?_
  refine WC.seq ?_
  refine WC.seq ?_
  refine WC.region ?_
  refine WL.y (Y.move rfl) rfl ?_
  refine WL.y (Y.move rfl) rfl ?_
  refine WL.y (Y.add64 (c := 0) x64_58 (by decide) rfl rfl rfl) rfl ?_
  refine WL.y (Y.move rfl) rfl ?_
  refine WL.y (Y.extract rfl rfl) rfl ?_
  refine WL.y (Y.extract rfl rfl) rfl ?_
  obtain ⟨t174, ht174, h⟩ := lt1 h
  refine WL.yE (Y.assign rfl) (congrArg vu ht174.symm) rfl ?_
  obtain ⟨carry175, hcarry175, h⟩ := lt1 h
  refine WL.yE (Y.assign rfl) (congrArg vu hcarry175.symm) rfl ?_
  refine WL.nil ?_
  refine At.then ?_
  refine WC.seq ?_
  refine WC.region ?_
  refine WL.y (Y.move rfl) rfl ?_
  refine WL.y (Y.neq_u (b := 0) rfl rfl) rfl ?_
  refine WL.nil ?_
  refine At.then ?_
  rcases cnd h with ⟨hc176, h⟩ | ⟨hc176, h⟩
  ·refine WC.condT' rfl hc176 ?_
   refine WC.seq ?_
   refine WC.region ?_
   refine WL.y (Y.build (vals := []) (cells := [vi 0, vu 0, vi 0, Value.slice none 0 0, vi 0, Value.slice none 0 0]) (Fits.evalp rfl) (by kernel_rfl)) rfl ?_
   have hf177 := hb43.st hst85 rfl
   have hf178 := hf177.st hst94 rfl
   have hf179 := hf178.st hst99 rfl
   have hf180 := hf179.st hst114 rfl
   have hf181 := hf180.st hst132 rfl
   have hf182 := hf181.st hst158 rfl
   have hf183 := hf182.st hst173 rfl
   refine WL.store (v := Value.agg (List.toArray [vi 0, vu 0, vi 0, Value.slice none 0 0, vi 0, Value.slice none 0 0])) (cells' := [vi 0, vu 0, vi 0, Value.slice none 0 0, vi 0, Value.slice none 0 0]) ty27 rfl rfl hf183 rfl (Nat.le_of_ble_eq_true rfl) rfl rfl ?_
   intro wd184 hst185 hb186
   refine WL.y (Y.assign rfl) rfl ?_
   refine WL.nil ?_
   refine At.then ?_
   refine WC.ret ?_
   refine At.thenR ?_
   obtain ⟨rfl, rfl⟩ := tup2 h
   have hs187 : Stp [13, 18, 19] (Lg.O0 A) w O170 wd184 := (Stp.trans (Stp.up hst27 rfl) (Stp.trans (Stp.up hst42 rfl) (Stp.trans (Stp.up hst47 rfl) (Stp.trans (Stp.up hst85 rfl) (Stp.trans (Stp.up hst94 rfl) (Stp.trans (Stp.up hst99 rfl) (Stp.trans (Stp.up hst114 rfl) (Stp.trans (Stp.up hst132 rfl) (Stp.trans (Stp.up hst158 rfl) (Stp.trans (Stp.up hst173 rfl) (Stp.up hst185 rfl)))))))))))
   exact At.res (.inl rfl) rfl (.cell rfl (hb186.runAg 0 [vi 0, vu 0, vi 0, Value.slice none 0 0, vi 0, Value.slice none 0 0] ty27 rfl rfl rfl) (.tmp rfl .nil)) ⟨Value.slice none 0 0, Value.slice none 0 0, rfl, (Stp.ext hs187 rfl rfl), RowF.nil, RowF.nil, (fun _ e => absurd e not_nil)⟩
  ·refine WC.condF' rfl hc176 ?_
   refine WC.skip ?_
   refine At.then ?_
   refine WC.seq ?_
   refine WC.region ?_
   refine WL.y (Y.fieldAddr fo27_0 rfl) rfl ?_
   have hf188 := hf144.st hst158 rfl
   have hf189 := hf188.st hst173 rfl
   refine WL.y (Y.loadSc ty3 rfl rfl (hf189.cell 0 _ rfl)) rfl ?_
   refine WL.y (Y.fieldAddr fo27_1 rfl) rfl ?_
   refine WL.y (Y.loadSc ty22 rfl rfl (hf189.cell 1 _ rfl)) rfl ?_
   refine WL.y (Y.fieldAddr fo27_1 rfl) rfl ?_
   have hf190 := hf159.st hst173 rfl
   refine WL.y (Y.loadSc ty22 rfl rfl (hf190.cell 1 _ rfl)) rfl ?_
   refine WL.y (Y.add_u rfl rfl) rfl ?_
   refine WL.y (Y.build (vals := [(0, vi r61.Scale), (1, vu (r61.Zero + r62.Zero))]) (cells := [vi r61.Scale, vu (r61.Zero + r62.Zero), vi 0, Value.slice none 0 0, vi 0, Value.slice none 0 0]) (Fits.evalp rfl) (by kernel_rfl)) rfl ?_
   refine WL.alloc (O := O170) 20 [vi 0, vu 0, vi 0, Value.slice none 0 0, vi 0, Value.slice none 0 0] ty27 rfl rfl ?_
   intro p192 O193 wd194 hst195 hb191
   refine WL.store (v := Value.agg (List.toArray [vi r61.Scale, vu (r61.Zero + r62.Zero), vi 0, Value.slice none 0 0, vi 0, Value.slice none 0 0])) (cells' := [vi r61.Scale, vu (r61.Zero + r62.Zero), vi 0, Value.slice none 0 0, vi 0, Value.slice none 0 0]) ty27 rfl rfl hb191 rfl (Nat.le_of_ble_eq_true rfl) rfl rfl ?_
   intro wd196 hst197 hb198
   refine WL.nil ?_
   refine At.then ?_
   refine WC.seq ?_
   refine WC.seq ?_
   refine WC.region ?_
   refine WL.y (Y.fieldAddr fo27_2 rfl) rfl ?_
   refine WL.y (Y.fieldAddr fo27_2 rfl) rfl ?_
   have hf199 := hf189.st hst195 rfl
   have hf200 := hf199.st hst197 rfl
   refine WL.y (Y.loadAg ty25 rfl rfl (hf200.cells 2 [vi r61.Pos.Offset, (Value.slice p102 m103 c104)] rfl) rfl) rfl ?_
   refine WL.y (Y.fieldAddr fo27_2 rfl) rfl ?_
   have hf201 := hf190.st hst195 rfl
   have hf202 := hf201.st hst197 rfl
   refine WL.y (Y.loadAg ty25 rfl rfl (hf202.cells 2 [vi r62.Pos.Offset, (Value.slice p119 m120 c121)] rfl) rfl) rfl ?_
   refine WL.y (Y.build (vals := [(0, Value.pointer (some ⟨p192, 2, none⟩)), (1, Value.agg (List.toArray [vi r61.Pos.Offset, (Value.slice p102 m103 c104)])), (2, Value.agg (List.toArray [vi r62.Pos.Offset, (Value.slice p119 m120 c121)]))]) (cells := [Value.pointer (some ⟨p192, 2, none⟩), vi r61.Pos.Offset, (Value.slice p102 m103 c104), vi r62.Pos.Offset, (Value.slice p119 m120 c121)]) (Fits.evalp rfl) (by kernel_rfl)) rfl ?_
   refine WL.y (Y.fieldAddr fo27_3 rfl) rfl ?_
   refine WL.y (Y.fieldAddr fo27_3 rfl) rfl ?_
   refine WL.y (Y.loadAg ty25 rfl rfl (hf200.cells 4 [vi r61.Neg.Offset, (Value.slice p108 m109 c110)] rfl) rfl) rfl ?_
   refine WL.y (Y.fieldAddr fo27_3 rfl) rfl ?_
   refine WL.y (Y.loadAg ty25 rfl rfl (hf202.cells 4 [vi r62.Neg.Offset, (Value.slice p126 m127 c128)] rfl) rfl) rfl ?_
   refine WL.y (Y.build (vals := [(0, Value.pointer (some ⟨p192, 4, none⟩)), (1, Value.agg (List.toArray [vi r61.Neg.Offset, (Value.slice p108 m109 c110)])), (2, Value.agg (List.toArray [vi r62.Neg.Offset, (Value.slice p126 m127 c128)]))]) (cells := [Value.pointer (some ⟨p192, 4, none⟩), vi r61.Neg.Offset, (Value.slice p108 m109 c110), vi r62.Neg.Offset, (Value.slice p126 m127 c128)]) (Fits.evalp rfl) (by kernel_rfl)) rfl ?_
   refine WL.buildLit (O := O193) (vals := [(0, Value.agg (List.toArray [Value.pointer (some ⟨p192, 2, none⟩), vi r61.Pos.Offset, (Value.slice p102 m103 c104), vi r62.Pos.Offset, (Value.slice p119 m120 c121)])), (1, Value.agg (List.toArray [Value.pointer (some ⟨p192, 4, none⟩), vi r61.Neg.Offset, (Value.slice p108 m109 c110), vi r62.Neg.Offset, (Value.slice p126 m127 c128)]))]) 21 [Value.pointer (some ⟨p192, 2, none⟩), vi r61.Pos.Offset, (Value.slice p102 m103 c104), vi r62.Pos.Offset, (Value.slice p119 m120 c121), Value.pointer (some ⟨p192, 4, none⟩), vi r61.Neg.Offset, (Value.slice p108 m109 c110), vi r62.Neg.Offset, (Value.slice p126 m127 c128)] ty100 ty99 (by decide) (by decide) (Fits.evalp rfl) (by kernel_rfl) rfl ?_
   intro p204 O205 wd206 hst207 hb203
   refine WL.yE (Y.lenv ty100 rfl) (show vi ((2 : Nat) : Int) = vi 2 from rfl) rfl ?_
   refine WL.y (Y.move rfl) rfl ?_
   refine WL.nil ?_
   refine At.then ?_
   refine WC.block ?_
   refine WC.unroll 2 ?_
   refine WC.seq ?_
   refine WC.region ?_
   refine WL.yE (Y.lss_i rfl rfl) (congrArg Value.bool (by decide : decide ((0 : Int) < (2 : Int)) = true)) rfl ?_
   refine WL.nil ?_
   refine At.then ?_
   refine WC.seq ?_
   refine WC.condT rfl ?_
   refine WC.skip ?_
   refine At.then ?_
   refine WC.seq ?_
   obtain ⟨p216, h, hk217⟩ := flow1 h
   refine WC.join (σ := (Int × List UInt64 × Own × Value)) (fun x w' => p216 = .go (x.1, x.2.1) ∧ Stp [20, 22, 23, 24, 1001, 1002, 1003, 1005] O205 wd206 x.2.2.1 w' ∧ OwnSl 1008 Rep.u 22 x.2.2.1 w' x.2.2.2 x.2.1 ∧ Blk 20 x.2.2.1 w' p192 27 [vi r61.Scale, vu (r61.Zero + r62.Zero), vi x.1, x.2.2.2, vi 0, Value.slice none 0 0]) (fun x => [(4, Value.pointer (some ⟨p44, 0, none⟩)), (15, Value.pointer (some ⟨p192, 0, none⟩)), (71, Value.slice (some ⟨p204, 0, none⟩) 2 2), (72, vi 2), (73, vi 0)]) ?_ ?_
   ·refine WC.block ?_
    refine WC.seq ?_
    refine WC.region ?_
    refine WL.yE (Y.indexAddr ty100 ty99 rfl rfl rfl (by decide) (by decide)) (show (Value.pointer (some ⟨p204, 0 + (0 : Int).toNat * 5, none⟩)) = .pointer (some ⟨p204, 0, none⟩) from rfl) rfl ?_
    refine WL.y (Y.loadAg ty99 rfl rfl (hb203.cells 0 [Value.pointer (some ⟨p192, 2, none⟩), vi r61.Pos.Offset, (Value.slice p102 m103 c104), vi r62.Pos.Offset, (Value.slice p119 m120 c121)] rfl) rfl) rfl ?_
    refine WL.alloc (O := O205) 22 [Value.pointer none, vi 0, Value.slice none 0 0, vi 0, Value.slice none 0 0] ty99 rfl rfl ?_
    intro p219 O220 wd221 hst222 hb218
    refine WL.store (v := Value.agg (List.toArray [Value.pointer (some ⟨p192, 2, none⟩), vi r61.Pos.Offset, (Value.slice p102 m103 c104), vi r62.Pos.Offset, (Value.slice p119 m120 c121)])) (cells' := [Value.pointer (some ⟨p192, 2, none⟩), vi r61.Pos.Offset, (Value.slice p102 m103 c104), vi r62.Pos.Offset, (Value.slice p119 m120 c121)]) ty99 rfl rfl hb218 rfl (Nat.le_of_ble_eq_true rfl) rfl rfl ?_
    intro wd223 hst224 hb225
    refine WL.nil ?_
    refine At.then ?_
    refine WC.seq ?_
    refine WC.region ?_
    refine WL.y (Y.fieldAddr fo99_1 rfl) rfl ?_
    refine WL.y (Y.loadAg ty25 rfl rfl (hb225.cells 1 [vi r61.Pos.Offset, (Value.slice p102 m103 c104)] rfl) rfl) rfl ?_
    refine WL.y (Y.fieldAddr fo99_2 rfl) rfl ?_
    refine WL.y (Y.loadAg ty25 rfl rfl (hb225.cells 3 [vi r62.Pos.Offset, (Value.slice p119 m120 c121)] rfl) rfl) rfl ?_
    have hf226 := hf146.st hst158 rfl rfl rfl
    have hf227 := hf226.st hst173 rfl rfl rfl
    have hf228 := hf227.st hst195 rfl rfl rfl
    have hf229 := hf228.st hst197 rfl rfl rfl
    have hf230 := hf229.st hst207 rfl rfl rfl
    have hf231 := hf230.st hst222 rfl rfl rfl
    have hf232 := hf231.st hst224 rfl rfl rfl
    have hf233 := hf161.st hst173 rfl rfl rfl
    have hf234 := hf233.st hst195 rfl rfl rfl
    have hf235 := hf234.st hst197 rfl rfl rfl
    have hf236 := hf235.st hst207 rfl rfl rfl
    have hf237 := hf236.st hst222 rfl rfl rfl
    have hf238 := hf237.st hst224 rfl rfl rfl
    obtain ⟨⟨r239, r240⟩, hp241, h⟩ := bnd h
    refine WL.call (vals := [Value.agg (List.toArray [vi r61.Pos.Offset, (Value.slice p102 m103 c104)]), Value.agg (List.toArray [vi r62.Pos.Offset, (Value.slice p119 m120 c121)])]) kok71 rfl rfl (c_fold_cover (A := fun _ => True) (a0 := r61.Pos) (a1 := r62.Pos) (hf232.src.sl) (hf238.src.sl) hp241) ?_
    rintro vr244 wd243 ⟨rfl, hm242⟩
    obtain ⟨O245, hold246, hnew247, hst248⟩ := adoptE O220 (fun k => 1) hm242
    refine WL.y (Y.move rfl) rfl ?_
    refine WL.y (Y.extract rfl rfl) rfl ?_
    refine WL.y (Y.extract rfl rfl) rfl ?_
    refine WL.y (Y.assign rfl) rfl ?_
    refine WL.y (Y.assign rfl) rfl ?_
    refine WL.nil ?_
    refine At.then ?_
    refine WC.seq ?_
    refine WC.seq ?_
    refine WC.region ?_
    refine WL.y (Y.move rfl) rfl ?_
    refine WL.y (Y.gtr_i rfl rfl) rfl ?_
    refine WL.nil ?_
    refine At.then ?_
    rcases cnd h with ⟨hc249, h⟩ | ⟨hc249, h⟩
    ·refine WC.condT' rfl hc249 ?_
     refine WC.seq ?_
     refine WC.region ?_
     refine WL.y (Y.build (vals := []) (cells := [vi 0, vu 0, vi 0, Value.slice none 0 0, vi 0, Value.slice none 0 0]) (Fits.evalp rfl) (by kernel_rfl)) rfl ?_
     have hf250 := hb43.st hst85 rfl
     have hf251 := hf250.st hst94 rfl
     have hf252 := hf251.st hst99 rfl
     have hf253 := hf252.st hst114 rfl
     have hf254 := hf253.st hst132 rfl
     have hf255 := hf254.st hst158 rfl
     have hf256 := hf255.st hst173 rfl
     have hf257 := hf256.st hst195 rfl
     have hf258 := hf257.st hst197 rfl
     have hf259 := hf258.st hst207 rfl
     have hf260 := hf259.st hst222 rfl
     have hf261 := hf260.st hst224 rfl
     have hf262 := hf261.st hst248 rfl
     refine WL.store (v := Value.agg (List.toArray [vi 0, vu 0, vi 0, Value.slice none 0 0, vi 0, Value.slice none 0 0])) (cells' := [vi 0, vu 0, vi 0, Value.slice none 0 0, vi 0, Value.slice none 0 0]) ty27 rfl rfl hf262 rfl (Nat.le_of_ble_eq_true rfl) rfl rfl ?_
     intro wd263 hst264 hb265
     refine WL.y (Y.assign rfl) rfl ?_
     refine WL.nil ?_
     refine At.then ?_
     refine WC.ret ?_
     refine At.thenR ?_
     refine At.inBlockR ?_
     have h := outs1 h hk217
     refine At.joinR ?_
     refine At.thenR ?_
     refine At.thenR ?_
     refine At.inBlockR ?_
     refine At.thenR ?_
     obtain ⟨rfl, rfl⟩ := tup2 h
     have hs266 : Stp [13, 18, 19, 20, 22] (Lg.O0 A) w O245 wd263 := (Stp.trans (Stp.up hst27 rfl) (Stp.trans (Stp.up hst42 rfl) (Stp.trans (Stp.up hst47 rfl) (Stp.trans (Stp.up hst85 rfl) (Stp.trans (Stp.up hst94 rfl) (Stp.trans (Stp.up hst99 rfl) (Stp.trans (Stp.up hst114 rfl) (Stp.trans (Stp.up hst132 rfl) (Stp.trans (Stp.up hst158 rfl) (Stp.trans (Stp.up hst173 rfl) (Stp.trans (Stp.up hst195 rfl) (Stp.trans (Stp.up hst197 rfl) (Stp.trans (Stp.up hst207 rfl) (Stp.trans (Stp.up hst222 rfl) (Stp.trans (Stp.up hst224 rfl) (Stp.trans (Stp.up hst248 rfl) (Stp.up hst264 rfl)))))))))))))))))
     exact At.res (.inl rfl) rfl (.cell rfl (hb265.runAg 0 [vi 0, vu 0, vi 0, Value.slice none 0 0, vi 0, Value.slice none 0 0] ty27 rfl rfl rfl) (.tmp rfl .nil)) ⟨Value.slice none 0 0, Value.slice none 0 0, rfl, (Stp.ext hs266 rfl rfl), RowF.nil, RowF.nil, (fun _ e => absurd e not_nil)⟩
    ·refine WC.condF' rfl hc249 ?_
     refine WC.skip ?_
     refine At.then ?_
     refine WC.seq ?_
     refine WC.seq ?_
     refine WC.region ?_
     refine WL.y (Y.move rfl) rfl ?_
     refine WL.y (Y.eql_i rfl rfl) rfl ?_
     refine WL.nil ?_
     refine At.then ?_
     rcases cnd h with ⟨hc267, h⟩ | ⟨hc267, h⟩
     ·refine WC.condT' rfl hc267 ?_
      refine WC.exit ?_
      refine At.thenX ?_
      refine At.inBlockHit ?_
      have hf268 := hb198.st hst207 rfl
      have hf269 := hf268.st hst222 rfl
      have hf270 := hf269.st hst224 rfl
      have hf271 := hf270.st hst248 rfl
      exact At.join (σ := (Int × List UInt64 × Own × Value)) (0, [], O245, Value.slice none 0 0) ⟨go2 h, (Stp.trans (Stp.up hst222 rfl) (Stp.trans (Stp.up hst224 rfl) (Stp.up hst248 rfl))), (OwnSl.nil 1008 Rep.u 22), hf271⟩ (.cons rfl (.cons rfl (.cons rfl (.cons rfl (.cons rfl .nil)))))
     ·refine WC.condF' rfl hc267 ?_
      refine WC.skip ?_
      refine At.then ?_
      refine WC.seq ?_
      refine WC.drawH [20, 23, 24] [0, 1, 2, 3, 4, 5, 6, 7, 8, 9, 10, 11] O245 13 fmix rfl (by kernel_rfl) ?_
      intro wd272 hst273
      refine WD.y 0 rfl (by kernel_rfl) (fun _ _ _ => Y.fieldAddr fo99_0 rfl) rfl ?_
      refine WD.y 1 rfl (by kernel_rfl) (fun wd278 O277 hst279 => have hf280 := hb225.st hst248 rfl; have hf281 := hf280.st hst273 rfl; have hf282 := hf281.st hst279 rfl; Y.loadSc ty98 rfl rfl (hf282.cell 0 _ rfl)) rfl ?_
      refine WD.y 2 rfl (by kernel_rfl) (fun _ _ _ => Y.fieldAddr fo99_0 rfl) rfl ?_
      refine WD.y 3 rfl (by kernel_rfl) (fun wd287 O286 hst288 => have hf289 := hb225.st hst248 rfl; have hf290 := hf289.st hst273 rfl; have hf291 := hf290.st hst288 rfl; Y.loadSc ty98 rfl rfl (hf291.cell 0 _ rfl)) rfl ?_
      refine WD.y 4 rfl (by kernel_rfl) (fun _ _ _ => Y.move rfl) rfl ?_
      refine WD.y 5 rfl (by kernel_rfl) (fun _ _ _ => Y.move rfl) rfl ?_
      refine WD.y 7 rfl (by kernel_rfl) (fun _ _ _ => Y.nilCheck rfl) rfl ?_
      refine WD.y 8 rfl (by kernel_rfl) (fun _ _ _ => Y.fieldAddr fo25_0 rfl) rfl ?_
      obtain ⟨p311, h, hk312⟩ := bnd h
      refine WD.join (σ := (List UInt64 × Own × Value)) (f' := 1) [11, 10, 9, 8, 7, 6, 5, 4, 3, 2, 1, 0] (fun x O' w' => x.1 = p311 ∧ Stp [20, 23, 24] O245 wd272 x.2.1 w' ∧ Blk 20 x.2.1 w' p192 27 [vi r61.Scale, vu (r61.Zero + r62.Zero), vi r239, Value.slice none 0 0, vi 0, Value.slice none 0 0] ∧ OwnSl 1001 Rep.u 22 x.2.1 w' x.2.2 x.1 ∧ x.2.1 = O') (fun x => [(4, Value.pointer (some ⟨p44, 0, none⟩)), (15, Value.pointer (some ⟨p192, 0, none⟩)), (17, Value.pointer (some ⟨p219, 0, none⟩)), (18, vi r239), (71, Value.slice (some ⟨p204, 0, none⟩) 2 2), (72, vi 2), (73, vi 0), (96, x.2.2), (100, Value.pointer (some ⟨p192, 3, none⟩))]) (fun hJ313 => ?_) ?_
      ·refine WD.heavy2 6 9 rfl rfl (by kernel_rfl) ?_ ?_
       ·obtain ⟨t314, ht314, h⟩ := bnd h
        refine WL.make (O := O245) (R := Rep.u) (zx := (0 : UInt64)) 23 (by decide) ty23 ty22 rfl (by decide) (by decide) rfl rfl (fun _ _ => rfl) ht314 rfl ?_
        intro v315 O317 wd318 hst319 ho316
        refine WL.nil ?_
        refine At.dq (Stp.up hst319 rfl) ?_
        refine WD.heavy 9 rfl (by kernel_rfl) ?_
        have hf320 := hb198.st hst207 rfl
        have hf321 := hf320.st hst222 rfl
        have hf322 := hf321.st hst224 rfl
        have hf323 := hf322.st hst248 rfl
        have hf324 := hf323.st hst273 rfl
        have hf325 := hf324.st hst319 rfl
        refine WL.store (v := vi r239) (cells' := [vi r61.Scale, vu (r61.Zero + r62.Zero), vi r239, Value.slice none 0 0, vi 0, Value.slice none 0 0]) ty3 rfl rfl hf325 rfl (Nat.le_of_ble_eq_true rfl) rfl rfl ?_
        intro wd326 hst327 hb328
        refine WL.nil ?_
        refine At.dq (Stp.up hst327 rfl) ?_
        refine WD.y 10 rfl (by kernel_rfl) (fun _ _ _ => Y.nilCheck rfl) rfl ?_
        refine WD.y 11 rfl (by kernel_rfl) (fun _ _ _ => Y.fieldAddr fo25_1 rfl) rfl ?_
        have hf335 := ho316.st hst327 rfl rfl rfl
        obtain ⟨O336, hst337, ho338⟩ := OwnSl.rlb 1001 rfl hf335
        have hf339 := hb328.st hst337 rfl
        refine WD.own (Stp.up hst337 rfl) ?_
        refine WD.perm _ [11, 10, 9, 8, 7, 6, 5, 4, 3, 2, 1, 0] (by kernel_rfl) ?_
        exact hJ313 (t314, O336, v315) _ _ _ ⟨some1 h, (Stp.trans (Stp.up hst319 rfl) (Stp.trans (Stp.up hst327 rfl) (Stp.up hst337 rfl))), hf339, ho338, rfl⟩ (.cons rfl (.cons rfl (.cons rfl (.cons rfl (.cons rfl (.cons rfl (.cons rfl (.cons rfl (.cons rfl .nil)))))))))
       ·try simp only [Option.bind_assoc] at h
        try simp only [Option.bind_some] at h
        have hf340 := hb198.st hst207 rfl
        have hf341 := hf340.st hst222 rfl
        have hf342 := hf341.st hst224 rfl
        have hf343 := hf342.st hst248 rfl
        have hf344 := hf343.st hst273 rfl
        refine WL.store (v := vi r239) (cells' := [vi r61.Scale, vu (r61.Zero + r62.Zero), vi r239, Value.slice none 0 0, vi 0, Value.slice none 0 0]) ty3 rfl rfl hf344 rfl (Nat.le_of_ble_eq_true rfl) rfl rfl ?_
        intro wd345 hst346 hb347
        refine WL.nil ?_
        refine At.dq (Stp.up hst346 rfl) ?_
        refine WD.heavy 6 rfl (by kernel_rfl) ?_
        obtain ⟨t348, ht348, h⟩ := bnd h
        refine WL.make (O := O245) (R := Rep.u) (zx := (0 : UInt64)) 24 (by decide) ty23 ty22 rfl (by decide) (by decide) rfl rfl (fun _ _ => rfl) ht348 rfl ?_
        intro v349 O351 wd352 hst353 ho350
        refine WL.nil ?_
        refine At.dq (Stp.up hst353 rfl) ?_
        refine WD.y 10 rfl (by kernel_rfl) (fun _ _ _ => Y.nilCheck rfl) rfl ?_
        refine WD.y 11 rfl (by kernel_rfl) (fun _ _ _ => Y.fieldAddr fo25_1 rfl) rfl ?_
        obtain ⟨O360, hst361, ho362⟩ := OwnSl.rlb 1001 rfl ho350
        have hf363 := hb347.st hst353 rfl
        have hf364 := hf363.st hst361 rfl
        refine WD.own (Stp.up hst361 rfl) ?_
        refine WD.perm _ [11, 10, 9, 8, 7, 6, 5, 4, 3, 2, 1, 0] (by kernel_rfl) ?_
        exact hJ313 (t348, O360, v349) _ _ _ ⟨some1 h, (Stp.trans (Stp.up hst346 rfl) (Stp.trans (Stp.up hst353 rfl) (Stp.up hst361 rfl))), hf364, ho362, rfl⟩ (.cons rfl (.cons rfl (.cons rfl (.cons rfl (.cons rfl (.cons rfl (.cons rfl (.cons rfl (.cons rfl .nil)))))))))
      ·rintro ⟨x305, O308, v306⟩ _ wd309 ⟨rfl, hst310, hb304, hf307, rfl⟩
       replace h := hk312
       try dsimp only at h hst310 hb304 hf307
       refine (show WD _ _ _ _ _ _ _ _ [(4, Value.pointer (some ⟨p44, 0, none⟩)), (15, Value.pointer (some ⟨p192, 0, none⟩)), (17, Value.pointer (some ⟨p219, 0, none⟩)), (18, vi r239), (71, Value.slice (some ⟨p204, 0, none⟩) 2 2), (72, vi 2), (73, vi 0), (96, v306), (100, Value.pointer (some ⟨p192, 3, none⟩))] _ _ from ?_)
       refine WD.phase [20] [0, 1, 2, 3, 4, 5, 6, 7, 8, 9, 10, 11, 12] (by kernel_rfl) (by kernel_rfl) ?_
       refine WD.heavy 12 rfl (by kernel_rfl) ?_
       have hh368 := h
       obtain ⟨p365, m366, c367, rfl⟩ := hf307.shape
       have h := hh368
       refine WL.store (v := (Value.slice p365 m366 c367)) (cells' := [vi r61.Scale, vu (r61.Zero + r62.Zero), vi r239, (Value.slice p365 m366 c367), vi 0, Value.slice none 0 0]) ty23 rfl rfl hb304 rfl (Nat.le_of_ble_eq_true rfl) rfl rfl ?_
       intro wd369 hst370 hb371
       refine WL.nil ?_
       refine At.dq (Stp.up hst370 rfl) ?_
       refine WD.done_ (by kernel_rfl) ?_
       refine At.then ?_
       refine WC.seq ?_
       refine WC.region ?_
       refine WL.y (Y.fieldAddr fo99_0 rfl) rfl ?_
       have hf372 := hb225.st hst248 rfl
       have hf373 := hf372.st hst273 rfl
       have hf374 := hf373.st hst310 rfl
       have hf375 := hf374.st hst370 rfl
       refine WL.y (Y.loadSc ty98 rfl rfl (hf375.cell 0 _ rfl)) rfl ?_
       refine WL.y (Y.nilCheck rfl) rfl ?_
       refine WL.y (Y.fieldAddr fo25_1 rfl) rfl ?_
       refine WL.y (Y.loadSc ty23 rfl rfl (hb371.cell 3 _ rfl)) rfl ?_
       have hf376 := hf307.st hst370 rfl rfl rfl
       refine WL.y (Y.len ty23 rfl hf376.src.sl) rfl ?_
       refine WL.y (Y.move rfl) rfl ?_
       refine WL.nil ?_
       refine At.then ?_
       obtain ⟨p383, h, hk384⟩ := bnd h
       refine WC.join (σ := (List UInt64 × Own)) (fun x w' => x.1 = p383 ∧ Stp [1001, 1002, 1003] O308 wd369 x.2 w' ∧ OwnSl 1005 Rep.u 22 x.2 w' (Value.slice p365 m366 c367) x.1) (fun x => [(4, Value.pointer (some ⟨p44, 0, none⟩)), (15, Value.pointer (some ⟨p192, 0, none⟩)), (71, Value.slice (some ⟨p204, 0, none⟩) 2 2), (72, vi 2), (73, vi 0)]) ?_ ?_
       ·refine WC.block ?_
        obtain ⟨p398, h, hk400⟩ := flow1 h
        obtain ⟨k399, h⟩ := loop_some h
        refine WC.joinB 2 (σ := (List UInt64 × Own)) (fun x w' => p398 = .go x.1 ∧ Stp [1001, 1002] O308 wd369 x.2 w' ∧ OwnSl 1003 Rep.u 22 x.2 w' (Value.slice p365 m366 c367) x.1) (fun x => [(4, Value.pointer (some ⟨p44, 0, none⟩)), (15, Value.pointer (some ⟨p192, 0, none⟩)), (71, Value.slice (some ⟨p204, 0, none⟩) 2 2), (72, vi 2), (73, vi 0)]) ?_ ?_
        ·obtain ⟨O401, hst402, ho403⟩ := OwnSl.rlb 1002 rfl hf376
         refine WC.loop (σ := (List UInt64 × Int × Own)) (fun x k w' => loopN k (fold_Merge_lp1 r61 r62 r239 x305) (x.1, x.2.1) = some p398 ∧ Stp [1001, 1002] O308 wd369 x.2.2 w' ∧ OwnSl 1002 Rep.u 22 x.2.2 w' (Value.slice p365 m366 c367) x.1) (fun x => [(4, Value.pointer (some ⟨p44, 0, none⟩)), (15, Value.pointer (some ⟨p192, 0, none⟩)), (17, Value.pointer (some ⟨p219, 0, none⟩)), (18, vi r239), (71, Value.slice (some ⟨p204, 0, none⟩) 2 2), (72, vi 2), (73, vi 0), (106, vi (x305.length : Int)), (107, vi x.2.1)]) (x305, 0, O401) k399 (.cons rfl (.cons rfl (.cons rfl (.cons rfl (.cons rfl (.cons rfl (.cons rfl (.cons rfl (.cons rfl .nil))))))))) ⟨h, (Stp.up hst402 rfl), ho403⟩ ?_
         rintro ⟨c385, x388, O389⟩ k399 wd390 ⟨h, hst391, hf387⟩
         obtain ⟨j404, q405, rfl, h, hn406⟩ := rnd1 h
         unfold fold_Merge_lp1 at h
         try dsimp only at h hst391 hf387
         refine (show WC _ _ _ _ [(4, Value.pointer (some ⟨p44, 0, none⟩)), (15, Value.pointer (some ⟨p192, 0, none⟩)), (17, Value.pointer (some ⟨p219, 0, none⟩)), (18, vi r239), (71, Value.slice (some ⟨p204, 0, none⟩) 2 2), (72, vi 2), (73, vi 0), (106, vi (x305.length : Int)), (107, vi x388)] _ from ?_)
         refine WC.seq ?_
         refine WC.region ?_
         refine WL.y (Y.lss_i rfl rfl) rfl ?_
         refine WL.nil ?_
         refine At.then ?_
         refine WC.seq ?_
         rcases cnd h with ⟨hc407, h⟩ | ⟨hc407, h⟩
         ·refine WC.condT' rfl hc407 ?_
          refine WC.skip ?_
          refine At.then ?_
          refine WC.seq ?_
          refine WC.block ?_
          refine WC.seq ?_
          refine WC.region ?_
          refine WL.y (Y.move rfl) rfl ?_
          refine WL.y (Y.assign rfl) rfl ?_
          refine WL.nil ?_
          refine At.then ?_
          refine WC.drawH [] [0, 1, 2, 3, 4, 5, 6, 7, 8, 9, 10, 11, 12, 13, 14, 15, 16, 17, 18, 19] O389 21 fmix rfl (by kernel_rfl) ?_
          intro wd408 hst409
          refine WD.y 0 rfl (by kernel_rfl) (fun _ _ _ => Y.fieldAddr fo99_0 rfl) rfl ?_
          refine WD.y 1 rfl (by kernel_rfl) (fun wd414 O413 hst415 => have hf416 := hf375.st hst391 rfl; have hf417 := hf416.st hst409 rfl; have hf418 := hf417.st hst415 rfl; Y.loadSc ty98 rfl rfl (hf418.cell 0 _ rfl)) rfl ?_
          refine WD.y 2 rfl (by kernel_rfl) (fun _ _ _ => Y.nilCheck rfl) rfl ?_
          refine WD.y 3 rfl (by kernel_rfl) (fun _ _ _ => Y.fieldAddr fo25_1 rfl) rfl ?_
          refine WD.y 4 rfl (by kernel_rfl) (fun wd426 O425 hst427 => have hf428 := hb371.st hst391 rfl; have hf429 := hf428.st hst409 rfl; have hf430 := hf429.st hst427 rfl; Y.loadSc ty23 rfl rfl (hf430.cell 3 _ rfl)) rfl ?_
          refine WD.y 5 rfl (by kernel_rfl) (fun _ _ _ => Y.move rfl) rfl ?_
          refine WD.y 6 rfl (by kernel_rfl) (fun _ _ _ => Y.fieldAddr fo99_1 rfl) rfl ?_
          refine WD.y 7 rfl (by kernel_rfl) (fun wd438 O437 hst439 => have hf440 := hf375.st hst391 rfl; have hf441 := hf440.st hst409 rfl; have hf442 := hf441.st hst439 rfl; Y.loadAg ty25 rfl rfl (hf442.cells 1 [vi r61.Pos.Offset, (Value.slice p102 m103 c104)] rfl) rfl) rfl ?_
          refine WD.y 8 rfl (by kernel_rfl) (fun _ _ _ => Y.move rfl) rfl ?_
          refine WD.y 9 rfl (by kernel_rfl) (fun _ _ _ => Y.move rfl) rfl ?_
          refine WD.y 10 rfl (by kernel_rfl) (fun _ _ _ => Y.add_i rfl rfl) rfl ?_
          refine WD.y 12 rfl (by kernel_rfl) (fun _ _ _ => Y.fieldAddr fo99_2 rfl) rfl ?_
          refine WD.y 13 rfl (by kernel_rfl) (fun wd456 O455 hst457 => have hf458 := hf375.st hst391 rfl; have hf459 := hf458.st hst409 rfl; have hf460 := hf459.st hst457 rfl; Y.loadAg ty25 rfl rfl (hf460.cells 3 [vi r62.Pos.Offset, (Value.slice p119 m120 c121)] rfl) rfl) rfl ?_
          refine WD.y 14 rfl (by kernel_rfl) (fun _ _ _ => Y.move rfl) rfl ?_
          refine WD.y 15 rfl (by kernel_rfl) (fun _ _ _ => Y.move rfl) rfl ?_
          refine WD.y 16 rfl (by kernel_rfl) (fun _ _ _ => Y.add_i rfl rfl) rfl ?_
          refine WD.heavy 11 rfl (by kernel_rfl) ?_
          have hf470 := hf232.st hst248 rfl rfl rfl
          have hf471 := hf470.st hst273 rfl rfl rfl
          have hf472 := hf471.st hst310 rfl rfl rfl
          have hf473 := hf472.st hst370 rfl rfl rfl
          have hf474 := hf473.st hst391 rfl rfl rfl
          have hf475 := hf474.st hst409 rfl rfl rfl
          obtain ⟨r476, hp477, h⟩ := bnd h
          refine WL.call (vals := [Value.agg (List.toArray [vi r61.Pos.Offset, (Value.slice p102 m103 c104)]), vi (w64 (r239 + x388))]) kok23 rfl rfl (c_hist_At (A := fun _ => True) (a0 := r61.Pos) (hf475.src.sl) hp477) ?_
          rintro vr480 wd479 ⟨rfl, hm478⟩
          obtain ⟨O481, hold482, hnew483, hst484⟩ := adoptE O389 (fun k => 1) hm478
          refine WL.nil ?_
          refine At.dq (Stp.up hst484 rfl) ?_
          refine WD.heavy 17 rfl (by kernel_rfl) ?_
          have hf485 := hf238.st hst248 rfl rfl rfl
          have hf486 := hf485.st hst273 rfl rfl rfl
          have hf487 := hf486.st hst310 rfl rfl rfl
          have hf488 := hf487.st hst370 rfl rfl rfl
          have hf489 := hf488.st hst391 rfl rfl rfl
          have hf490 := hf489.st hst409 rfl rfl rfl
          have hf491 := hf490.st hst484 rfl rfl rfl
          obtain ⟨r492, hp493, h⟩ := bnd h
          refine WL.call (vals := [Value.agg (List.toArray [vi r62.Pos.Offset, (Value.slice p119 m120 c121)]), vi (w64 (r239 + x388))]) kok23 rfl rfl (c_hist_At (A := fun _ => True) (a0 := r62.Pos) (hf491.src.sl) hp493) ?_
          rintro vr496 wd495 ⟨rfl, hm494⟩
          obtain ⟨O497, hold498, hnew499, hst500⟩ := adoptE O481 (fun k => 1) hm494
          refine WL.nil ?_
          refine At.dq (Stp.up hst500 rfl) ?_
          refine WD.y 18 rfl (by kernel_rfl) (fun _ _ _ => Y.add_u rfl rfl) rfl ?_
          obtain ⟨e504, he504, h⟩ := bnd h
          have hf513 := hf387.st hst409 rfl rfl rfl
          have hf514 := hf513.st hst484 rfl rfl rfl
          have hf515 := hf514.st hst500 rfl rfl rfl
          obtain ⟨b505, cap512, cs511, hv506, hi507, hl508, hc509, hok510⟩ := OwnSl.at hf515 he504
          obtain rfl := hok510
          replace hc509 : CellsAt _ _ _ [vu e504] := hc509
          have hca516 := CAt.own hf515 hv506 hc509
          refine WD.y 19 rfl (by kernel_rfl) (fun _ _ _ => Y.indexAddr ty23 ty22 rfl hv506 rfl hi507 hl508) rfl ?_
          refine WD.phase [1002] [0, 1, 2, 3, 4, 5, 6, 7, 8, 9, 10, 11, 12, 13, 14, 15, 16, 17, 18, 19, 20] (by kernel_rfl) (by kernel_rfl) ?_
          refine WD.heavy 20 rfl (by kernel_rfl) ?_
          obtain ⟨t520, ht520, h⟩ := lt1 h
          refine WL.ren 128 rfl (congrArg vu ht520.symm) ?_
          obtain ⟨xs521, hxs521, h⟩ := bnd h
          refine WL.storeOwn (by decide) ty22 rfl rfl rfl hf515 hv506 hxs521 ?_
          intro wd522 hst523 ho524
          refine WL.nil ?_
          refine At.dq (Stp.up hst523 rfl) ?_
          refine WD.done_ (by kernel_rfl) ?_
          refine At.inBlock ?_
          refine At.then ?_
          refine WC.region ?_
          refine WL.y (Y.add_i rfl rfl) rfl ?_
          refine WL.y (Y.move rfl) rfl ?_
          refine WL.nil ?_
          exact At.round (xs521, w64 (x388 + 1), O497) j404 (Nat.lt_succ_self _) ⟨next1 h hn406, (Stp.trans (Stp.up hst391 rfl) (Stp.trans (Stp.up hst409 rfl) (Stp.trans (Stp.up hst484 rfl) (Stp.trans (Stp.up hst500 rfl) (Stp.up hst523 rfl))))), ho524⟩ (.cons rfl (.cons rfl (.cons rfl (.cons rfl (.cons rfl (.cons rfl (.cons rfl (.cons rfl (.cons rfl .nil)))))))))
         ·refine WC.condF' rfl hc407 ?_
          refine WC.exit ?_
          refine At.thenX ?_
          refine At.loopX ?_
          obtain ⟨O525, hst526, ho527⟩ := OwnSl.rlb 1003 rfl hf387
          exact At.hitB (σ := (List UInt64 × Own)) (c385, O525) ⟨brk1 h hn406, (Stp.trans (Stp.up hst391 rfl) (Stp.up hst526 rfl)), ho527⟩ (.cons rfl (.cons rfl (.cons rfl (.cons rfl (.cons rfl .nil)))))
        ·rintro ⟨c392, O395⟩ wd396 ⟨rfl, hst397, hf394⟩
         replace h := flowK_go hk400
         try dsimp only at h hst397 hf394
         refine (show At _ _ _ [(4, Value.pointer (some ⟨p44, 0, none⟩)), (15, Value.pointer (some ⟨p192, 0, none⟩)), (71, Value.slice (some ⟨p204, 0, none⟩) 2 2), (72, vi 2), (73, vi 0)] _ from ?_)
         refine At.inBlockHit ?_
         obtain ⟨O528, hst529, ho530⟩ := OwnSl.rlb 1005 rfl hf394
         exact At.join (σ := (List UInt64 × Own)) (c392, O528) ⟨some1 h, (Stp.trans (Stp.up hst397 rfl) (Stp.up hst529 rfl)), ho530⟩ (.cons rfl (.cons rfl (.cons rfl (.cons rfl (.cons rfl .nil)))))
       ·rintro ⟨c377, O380⟩ wd381 ⟨rfl, hst382, hf379⟩
        replace h := hk384
        try dsimp only at h hst382 hf379
        refine (show At _ _ _ [(4, Value.pointer (some ⟨p44, 0, none⟩)), (15, Value.pointer (some ⟨p192, 0, none⟩)), (71, Value.slice (some ⟨p204, 0, none⟩) 2 2), (72, vi 2), (73, vi 0)] _ from ?_)
        refine At.inBlock ?_
        obtain ⟨O531, hst532, ho533⟩ := OwnSl.rlb 1008 rfl hf379
        have hf534 := hb371.st hst382 rfl
        have hf535 := hf534.st hst532 rfl
        exact At.join (σ := (Int × List UInt64 × Own × Value)) (r239, c377, O531, (Value.slice p365 m366 c367)) ⟨go2 h, (Stp.trans (Stp.up hst222 rfl) (Stp.trans (Stp.up hst224 rfl) (Stp.trans (Stp.up hst248 rfl) (Stp.trans (Stp.up hst273 rfl) (Stp.trans (Stp.up hst310 rfl) (Stp.trans (Stp.up hst370 rfl) (Stp.trans (Stp.up hst382 rfl) (Stp.up hst532 rfl)))))))), ho533, hf535⟩ (.cons rfl (.cons rfl (.cons rfl (.cons rfl (.cons rfl .nil)))))
   ·rintro ⟨c209, c210, O213, v211⟩ wd214 ⟨rfl, hst215, hf212, hb208⟩
    replace h := flowK_go hk217
    try dsimp only at h hst215 hf212 hb208
    refine (show At _ _ _ [(4, Value.pointer (some ⟨p44, 0, none⟩)), (15, Value.pointer (some ⟨p192, 0, none⟩)), (71, Value.slice (some ⟨p204, 0, none⟩) 2 2), (72, vi 2), (73, vi 0)] _ from ?_)
    refine At.then ?_
    refine WC.region ?_
    refine WL.yE (Y.add_i rfl rfl) (congrArg vi (by decide : w64 (0 + 1) = 1)) rfl ?_
    refine WL.y (Y.move rfl) rfl ?_
    refine WL.nil ?_
    refine At.again ?_
    refine WC.seq ?_
    refine WC.region ?_
    refine WL.yE (Y.lss_i rfl rfl) (congrArg Value.bool (by decide : decide ((1 : Int) < (2 : Int)) = true)) rfl ?_
    refine WL.nil ?_
    refine At.then ?_
    refine WC.seq ?_
    refine WC.condT rfl ?_
    refine WC.skip ?_
    refine At.then ?_
    refine WC.seq ?_
    obtain ⟨p544, h, hk545⟩ := flow1 h
    refine WC.join (σ := (Int × List UInt64 × Own × Value)) (fun x w' => p544 = .go (x.1, x.2.1) ∧ Stp [20, 25, 26, 27, 1010, 1011, 1012, 1014] O213 wd214 x.2.2.1 w' ∧ OwnSl 1017 Rep.u 22 x.2.2.1 w' x.2.2.2 x.2.1 ∧ Blk 20 x.2.2.1 w' p192 27 [vi r61.Scale, vu (r61.Zero + r62.Zero), vi c209, v211, vi x.1, x.2.2.2]) (fun x => [(4, Value.pointer (some ⟨p44, 0, none⟩)), (15, Value.pointer (some ⟨p192, 0, none⟩)), (71, Value.slice (some ⟨p204, 0, none⟩) 2 2), (72, vi 2), (73, vi 1)]) ?_ ?_
    ·refine WC.block ?_
     refine WC.seq ?_
     refine WC.region ?_
     refine WL.yE (Y.indexAddr ty100 ty99 rfl rfl rfl (by decide) (by decide)) (show (Value.pointer (some ⟨p204, 0 + (1 : Int).toNat * 5, none⟩)) = .pointer (some ⟨p204, 5, none⟩) from rfl) rfl ?_
     have hf546 := hb203.st hst215 rfl
     refine WL.y (Y.loadAg ty99 rfl rfl (hf546.cells 5 [Value.pointer (some ⟨p192, 4, none⟩), vi r61.Neg.Offset, (Value.slice p108 m109 c110), vi r62.Neg.Offset, (Value.slice p126 m127 c128)] rfl) rfl) rfl ?_
     refine WL.alloc (O := O213) 25 [Value.pointer none, vi 0, Value.slice none 0 0, vi 0, Value.slice none 0 0] ty99 rfl rfl ?_
     intro p548 O549 wd550 hst551 hb547
     refine WL.store (v := Value.agg (List.toArray [Value.pointer (some ⟨p192, 4, none⟩), vi r61.Neg.Offset, (Value.slice p108 m109 c110), vi r62.Neg.Offset, (Value.slice p126 m127 c128)])) (cells' := [Value.pointer (some ⟨p192, 4, none⟩), vi r61.Neg.Offset, (Value.slice p108 m109 c110), vi r62.Neg.Offset, (Value.slice p126 m127 c128)]) ty99 rfl rfl hb547 rfl (Nat.le_of_ble_eq_true rfl) rfl rfl ?_
     intro wd552 hst553 hb554
     refine WL.nil ?_
     refine At.then ?_
     refine WC.seq ?_
     refine WC.region ?_
     refine WL.y (Y.fieldAddr fo99_1 rfl) rfl ?_
     refine WL.y (Y.loadAg ty25 rfl rfl (hb554.cells 1 [vi r61.Neg.Offset, (Value.slice p108 m109 c110)] rfl) rfl) rfl ?_
     refine WL.y (Y.fieldAddr fo99_2 rfl) rfl ?_
     refine WL.y (Y.loadAg ty25 rfl rfl (hb554.cells 3 [vi r62.Neg.Offset, (Value.slice p126 m127 c128)] rfl) rfl) rfl ?_
     have hf555 := hf148.st hst158 rfl rfl rfl
     have hf556 := hf555.st hst173 rfl rfl rfl
     have hf557 := hf556.st hst195 rfl rfl rfl
     have hf558 := hf557.st hst197 rfl rfl rfl
     have hf559 := hf558.st hst207 rfl rfl rfl
     have hf560 := hf559.st hst215 rfl rfl rfl
     have hf561 := hf560.st hst551 rfl rfl rfl
     have hf562 := hf561.st hst553 rfl rfl rfl
     have hf563 := hf163.st hst173 rfl rfl rfl
     have hf564 := hf563.st hst195 rfl rfl rfl
     have hf565 := hf564.st hst197 rfl rfl rfl
     have hf566 := hf565.st hst207 rfl rfl rfl
     have hf567 := hf566.st hst215 rfl rfl rfl
     have hf568 := hf567.st hst551 rfl rfl rfl
     have hf569 := hf568.st hst553 rfl rfl rfl
     obtain ⟨⟨r570, r571⟩, hp572, h⟩ := bnd h
     refine WL.call (vals := [Value.agg (List.toArray [vi r61.Neg.Offset, (Value.slice p108 m109 c110)]), Value.agg (List.toArray [vi r62.Neg.Offset, (Value.slice p126 m127 c128)])]) kok71 rfl rfl (c_fold_cover (A := fun _ => True) (a0 := r61.Neg) (a1 := r62.Neg) (hf562.src.sl) (hf569.src.sl) hp572) ?_
     rintro vr575 wd574 ⟨rfl, hm573⟩
     obtain ⟨O576, hold577, hnew578, hst579⟩ := adoptE O549 (fun k => 1) hm573
     refine WL.y (Y.move rfl) rfl ?_
     refine WL.y (Y.extract rfl rfl) rfl ?_
     refine WL.y (Y.extract rfl rfl) rfl ?_
     refine WL.y (Y.assign rfl) rfl ?_
     refine WL.y (Y.assign rfl) rfl ?_
     refine WL.nil ?_
     refine At.then ?_
     refine WC.seq ?_
     refine WC.seq ?_
     refine WC.region ?_
     refine WL.y (Y.move rfl) rfl ?_
     refine WL.y (Y.gtr_i rfl rfl) rfl ?_
     refine WL.nil ?_
     refine At.then ?_
     rcases cnd h with ⟨hc580, h⟩ | ⟨hc580, h⟩
     ·refine WC.condT' rfl hc580 ?_
      refine WC.seq ?_
      refine WC.region ?_
      refine WL.y (Y.build (vals := []) (cells := [vi 0, vu 0, vi 0, Value.slice none 0 0, vi 0, Value.slice none 0 0]) (Fits.evalp rfl) (by kernel_rfl)) rfl ?_
      have hf581 := hb43.st hst85 rfl
      have hf582 := hf581.st hst94 rfl
      have hf583 := hf582.st hst99 rfl
      have hf584 := hf583.st hst114 rfl
      have hf585 := hf584.st hst132 rfl
      have hf586 := hf585.st hst158 rfl
      have hf587 := hf586.st hst173 rfl
      have hf588 := hf587.st hst195 rfl
      have hf589 := hf588.st hst197 rfl
      have hf590 := hf589.st hst207 rfl
      have hf591 := hf590.st hst215 rfl
      have hf592 := hf591.st hst551 rfl
      have hf593 := hf592.st hst553 rfl
      have hf594 := hf593.st hst579 rfl
      refine WL.store (v := Value.agg (List.toArray [vi 0, vu 0, vi 0, Value.slice none 0 0, vi 0, Value.slice none 0 0])) (cells' := [vi 0, vu 0, vi 0, Value.slice none 0 0, vi 0, Value.slice none 0 0]) ty27 rfl rfl hf594 rfl (Nat.le_of_ble_eq_true rfl) rfl rfl ?_
      intro wd595 hst596 hb597
      refine WL.y (Y.assign rfl) rfl ?_
      refine WL.nil ?_
      refine At.then ?_
      refine WC.ret ?_
      refine At.thenR ?_
      refine At.inBlockR ?_
      have h := outs1 h hk545
      refine At.joinR ?_
      refine At.thenR ?_
      refine At.thenR ?_
      refine At.inBlockR ?_
      refine At.thenR ?_
      obtain ⟨rfl, rfl⟩ := tup2 h
      have hs598 : Stp [13, 18, 19, 20, 22, 23, 24, 25, 1001, 1002, 1003, 1005] (Lg.O0 A) w O576 wd595 := (Stp.trans (Stp.up hst27 rfl) (Stp.trans (Stp.up hst42 rfl) (Stp.trans (Stp.up hst47 rfl) (Stp.trans (Stp.up hst85 rfl) (Stp.trans (Stp.up hst94 rfl) (Stp.trans (Stp.up hst99 rfl) (Stp.trans (Stp.up hst114 rfl) (Stp.trans (Stp.up hst132 rfl) (Stp.trans (Stp.up hst158 rfl) (Stp.trans (Stp.up hst173 rfl) (Stp.trans (Stp.up hst195 rfl) (Stp.trans (Stp.up hst197 rfl) (Stp.trans (Stp.up hst207 rfl) (Stp.trans (Stp.up hst215 rfl) (Stp.trans (Stp.up hst551 rfl) (Stp.trans (Stp.up hst553 rfl) (Stp.trans (Stp.up hst579 rfl) (Stp.up hst596 rfl))))))))))))))))))
      exact At.res (.inl rfl) rfl (.cell rfl (hb597.runAg 0 [vi 0, vu 0, vi 0, Value.slice none 0 0, vi 0, Value.slice none 0 0] ty27 rfl rfl rfl) (.tmp rfl .nil)) ⟨Value.slice none 0 0, Value.slice none 0 0, rfl, (Stp.ext hs598 rfl rfl), RowF.nil, RowF.nil, (fun _ e => absurd e not_nil)⟩
     ·refine WC.condF' rfl hc580 ?_
      refine WC.skip ?_
      refine At.then ?_
      refine WC.seq ?_
      refine WC.seq ?_
      refine WC.region ?_
      refine WL.y (Y.move rfl) rfl ?_
      refine WL.y (Y.eql_i rfl rfl) rfl ?_
      refine WL.nil ?_
      refine At.then ?_
      rcases cnd h with ⟨hc599, h⟩ | ⟨hc599, h⟩
      ·refine WC.condT' rfl hc599 ?_
       refine WC.exit ?_
       refine At.thenX ?_
       refine At.inBlockHit ?_
       have hf600 := hb208.st hst551 rfl
       have hf601 := hf600.st hst553 rfl
       have hf602 := hf601.st hst579 rfl
       exact At.join (σ := (Int × List UInt64 × Own × Value)) (0, [], O576, Value.slice none 0 0) ⟨go2 h, (Stp.trans (Stp.up hst551 rfl) (Stp.trans (Stp.up hst553 rfl) (Stp.up hst579 rfl))), (OwnSl.nil 1017 Rep.u 22), hf602⟩ (.cons rfl (.cons rfl (.cons rfl (.cons rfl (.cons rfl .nil)))))
      ·refine WC.condF' rfl hc599 ?_
       refine WC.skip ?_
       refine At.then ?_
       refine WC.seq ?_
       refine WC.drawH [20, 26, 27] [0, 1, 2, 3, 4, 5, 6, 7, 8, 9, 10, 11] O576 13 fmix rfl (by kernel_rfl) ?_
       intro wd603 hst604
       refine WD.y 0 rfl (by kernel_rfl) (fun _ _ _ => Y.fieldAddr fo99_0 rfl) rfl ?_
       refine WD.y 1 rfl (by kernel_rfl) (fun wd609 O608 hst610 => have hf611 := hb554.st hst579 rfl; have hf612 := hf611.st hst604 rfl; have hf613 := hf612.st hst610 rfl; Y.loadSc ty98 rfl rfl (hf613.cell 0 _ rfl)) rfl ?_
       refine WD.y 2 rfl (by kernel_rfl) (fun _ _ _ => Y.fieldAddr fo99_0 rfl) rfl ?_
       refine WD.y 3 rfl (by kernel_rfl) (fun wd618 O617 hst619 => have hf620 := hb554.st hst579 rfl; have hf621 := hf620.st hst604 rfl; have hf622 := hf621.st hst619 rfl; Y.loadSc ty98 rfl rfl (hf622.cell 0 _ rfl)) rfl ?_
       refine WD.y 4 rfl (by kernel_rfl) (fun _ _ _ => Y.move rfl) rfl ?_
       refine WD.y 5 rfl (by kernel_rfl) (fun _ _ _ => Y.move rfl) rfl ?_
       refine WD.y 7 rfl (by kernel_rfl) (fun _ _ _ => Y.nilCheck rfl) rfl ?_
       refine WD.y 8 rfl (by kernel_rfl) (fun _ _ _ => Y.fieldAddr fo25_0 rfl) rfl ?_
       obtain ⟨p642, h, hk643⟩ := bnd h
       refine WD.join (σ := (List UInt64 × Own × Value)) (f' := 1) [11, 10, 9, 8, 7, 6, 5, 4, 3, 2, 1, 0] (fun x O' w' => x.1 = p642 ∧ Stp [20, 26, 27] O576 wd603 x.2.1 w' ∧ Blk 20 x.2.1 w' p192 27 [vi r61.Scale, vu (r61.Zero + r62.Zero), vi c209, v211, vi r570, Value.slice none 0 0] ∧ OwnSl 1010 Rep.u 22 x.2.1 w' x.2.2 x.1 ∧ x.2.1 = O') (fun x => [(4, Value.pointer (some ⟨p44, 0, none⟩)), (15, Value.pointer (some ⟨p192, 0, none⟩)), (17, Value.pointer (some ⟨p548, 0, none⟩)), (18, vi r570), (71, Value.slice (some ⟨p204, 0, none⟩) 2 2), (72, vi 2), (73, vi 1), (96, x.2.2), (100, Value.pointer (some ⟨p192, 5, none⟩))]) (fun hJ644 => ?_) ?_
       ·refine WD.heavy2 6 9 rfl rfl (by kernel_rfl) ?_ ?_
        ·obtain ⟨t645, ht645, h⟩ := bnd h
         refine WL.make (O := O576) (R := Rep.u) (zx := (0 : UInt64)) 26 (by decide) ty23 ty22 rfl (by decide) (by decide) rfl rfl (fun _ _ => rfl) ht645 rfl ?_
         intro v646 O648 wd649 hst650 ho647
         refine WL.nil ?_
         refine At.dq (Stp.up hst650 rfl) ?_
         refine WD.heavy 9 rfl (by kernel_rfl) ?_
         have hf651 := hb208.st hst551 rfl
         have hf652 := hf651.st hst553 rfl
         have hf653 := hf652.st hst579 rfl
         have hf654 := hf653.st hst604 rfl
         have hf655 := hf654.st hst650 rfl
         refine WL.store (v := vi r570) (cells' := [vi r61.Scale, vu (r61.Zero + r62.Zero), vi c209, v211, vi r570, Value.slice none 0 0]) ty3 rfl rfl hf655 rfl (Nat.le_of_ble_eq_true rfl) rfl rfl ?_
         intro wd656 hst657 hb658
         refine WL.nil ?_
         refine At.dq (Stp.up hst657 rfl) ?_
         refine WD.y 10 rfl (by kernel_rfl) (fun _ _ _ => Y.nilCheck rfl) rfl ?_
         refine WD.y 11 rfl (by kernel_rfl) (fun _ _ _ => Y.fieldAddr fo25_1 rfl) rfl ?_
         have hf665 := ho647.st hst657 rfl rfl rfl
         obtain ⟨O666, hst667, ho668⟩ := OwnSl.rlb 1010 rfl hf665
         have hf669 := hb658.st hst667 rfl
         refine WD.own (Stp.up hst667 rfl) ?_
         refine WD.perm _ [11, 10, 9, 8, 7, 6, 5, 4, 3, 2, 1, 0] (by kernel_rfl) ?_
         exact hJ644 (t645, O666, v646) _ _ _ ⟨some1 h, (Stp.trans (Stp.up hst650 rfl) (Stp.trans (Stp.up hst657 rfl) (Stp.up hst667 rfl))), hf669, ho668, rfl⟩ (.cons rfl (.cons rfl (.cons rfl (.cons rfl (.cons rfl (.cons rfl (.cons rfl (.cons rfl (.cons rfl .nil)))))))))
        ·try simp only [Option.bind_assoc] at h
         try simp only [Option.bind_some] at h
         have hf670 := hb208.st hst551 rfl
         have hf671 := hf670.st hst553 rfl
         have hf672 := hf671.st hst579 rfl
         have hf673 := hf672.st hst604 rfl
         refine WL.store (v := vi r570) (cells' := [vi r61.Scale, vu (r61.Zero + r62.Zero), vi c209, v211, vi r570, Value.slice none 0 0]) ty3 rfl rfl hf673 rfl (Nat.le_of_ble_eq_true rfl) rfl rfl ?_
         intro wd674 hst675 hb676
         refine WL.nil ?_
         refine At.dq (Stp.up hst675 rfl) ?_
         refine WD.heavy 6 rfl (by kernel_rfl) ?_
         obtain ⟨t677, ht677, h⟩ := bnd h
         refine WL.make (O := O576) (R := Rep.u) (zx := (0 : UInt64)) 27 (by decide) ty23 ty22 rfl (by decide) (by decide) rfl rfl (fun _ _ => rfl) ht677 rfl ?_
         intro v678 O680 wd681 hst682 ho679
         refine WL.nil ?_
         refine At.dq (Stp.up hst682 rfl) ?_
         refine WD.y 10 rfl (by kernel_rfl) (fun _ _ _ => Y.nilCheck rfl) rfl ?_
         refine WD.y 11 rfl (by kernel_rfl) (fun _ _ _ => Y.fieldAddr fo25_1 rfl) rfl ?_
         obtain ⟨O689, hst690, ho691⟩ := OwnSl.rlb 1010 rfl ho679
         have hf692 := hb676.st hst682 rfl
         have hf693 := hf692.st hst690 rfl
         refine WD.own (Stp.up hst690 rfl) ?_
         refine WD.perm _ [11, 10, 9, 8, 7, 6, 5, 4, 3, 2, 1, 0] (by kernel_rfl) ?_
         exact hJ644 (t677, O689, v678) _ _ _ ⟨some1 h, (Stp.trans (Stp.up hst675 rfl) (Stp.trans (Stp.up hst682 rfl) (Stp.up hst690 rfl))), hf693, ho691, rfl⟩ (.cons rfl (.cons rfl (.cons rfl (.cons rfl (.cons rfl (.cons rfl (.cons rfl (.cons rfl (.cons rfl .nil)))))))))
       ·rintro ⟨x636, O639, v637⟩ _ wd640 ⟨rfl, hst641, hb635, hf638, rfl⟩
        replace h := hk643
        try dsimp only at h hst641 hb635 hf638
        refine (show WD _ _ _ _ _ _ _ _ [(4, Value.pointer (some ⟨p44, 0, none⟩)), (15, Value.pointer (some ⟨p192, 0, none⟩)), (17, Value.pointer (some ⟨p548, 0, none⟩)), (18, vi r570), (71, Value.slice (some ⟨p204, 0, none⟩) 2 2), (72, vi 2), (73, vi 1), (96, v637), (100, Value.pointer (some ⟨p192, 5, none⟩))] _ _ from ?_)
        refine WD.phase [20] [0, 1, 2, 3, 4, 5, 6, 7, 8, 9, 10, 11, 12] (by kernel_rfl) (by kernel_rfl) ?_
        refine WD.heavy 12 rfl (by kernel_rfl) ?_
        have hh697 := h
        obtain ⟨p694, m695, c696, rfl⟩ := hf638.shape
        have h := hh697
        refine WL.store (v := (Value.slice p694 m695 c696)) (cells' := [vi r61.Scale, vu (r61.Zero + r62.Zero), vi c209, v211, vi r570, (Value.slice p694 m695 c696)]) ty23 rfl rfl hb635 rfl (Nat.le_of_ble_eq_true rfl) rfl rfl ?_
        intro wd698 hst699 hb700
        refine WL.nil ?_
        refine At.dq (Stp.up hst699 rfl) ?_
        refine WD.done_ (by kernel_rfl) ?_
        refine At.then ?_
        refine WC.seq ?_
        refine WC.region ?_
        refine WL.y (Y.fieldAddr fo99_0 rfl) rfl ?_
        have hf701 := hb554.st hst579 rfl
        have hf702 := hf701.st hst604 rfl
        have hf703 := hf702.st hst641 rfl
        have hf704 := hf703.st hst699 rfl
        refine WL.y (Y.loadSc ty98 rfl rfl (hf704.cell 0 _ rfl)) rfl ?_
        refine WL.y (Y.nilCheck rfl) rfl ?_
        refine WL.y (Y.fieldAddr fo25_1 rfl) rfl ?_
        refine WL.y (Y.loadSc ty23 rfl rfl (hb700.cell 5 _ rfl)) rfl ?_
        have hf705 := hf638.st hst699 rfl rfl rfl
        refine WL.y (Y.len ty23 rfl hf705.src.sl) rfl ?_
        refine WL.y (Y.move rfl) rfl ?_
        refine WL.nil ?_
        refine At.then ?_
        obtain ⟨p712, h, hk713⟩ := bnd h
        refine WC.join (σ := (List UInt64 × Own)) (fun x w' => x.1 = p712 ∧ Stp [1010, 1011, 1012] O639 wd698 x.2 w' ∧ OwnSl 1014 Rep.u 22 x.2 w' (Value.slice p694 m695 c696) x.1) (fun x => [(4, Value.pointer (some ⟨p44, 0, none⟩)), (15, Value.pointer (some ⟨p192, 0, none⟩)), (71, Value.slice (some ⟨p204, 0, none⟩) 2 2), (72, vi 2), (73, vi 1)]) ?_ ?_
        ·refine WC.block ?_
         obtain ⟨p727, h, hk729⟩ := flow1 h
         obtain ⟨k728, h⟩ := loop_some h
         refine WC.joinB 2 (σ := (List UInt64 × Own)) (fun x w' => p727 = .go x.1 ∧ Stp [1010, 1011] O639 wd698 x.2 w' ∧ OwnSl 1012 Rep.u 22 x.2 w' (Value.slice p694 m695 c696) x.1) (fun x => [(4, Value.pointer (some ⟨p44, 0, none⟩)), (15, Value.pointer (some ⟨p192, 0, none⟩)), (71, Value.slice (some ⟨p204, 0, none⟩) 2 2), (72, vi 2), (73, vi 1)]) ?_ ?_
         ·obtain ⟨O730, hst731, ho732⟩ := OwnSl.rlb 1011 rfl hf705
          refine WC.loop (σ := (List UInt64 × Int × Own)) (fun x k w' => loopN k (fold_Merge_lp2 r61 r62 r570 x636) (x.1, x.2.1) = some p727 ∧ Stp [1010, 1011] O639 wd698 x.2.2 w' ∧ OwnSl 1011 Rep.u 22 x.2.2 w' (Value.slice p694 m695 c696) x.1) (fun x => [(4, Value.pointer (some ⟨p44, 0, none⟩)), (15, Value.pointer (some ⟨p192, 0, none⟩)), (17, Value.pointer (some ⟨p548, 0, none⟩)), (18, vi r570), (71, Value.slice (some ⟨p204, 0, none⟩) 2 2), (72, vi 2), (73, vi 1), (106, vi (x636.length : Int)), (107, vi x.2.1)]) (x636, 0, O730) k728 (.cons rfl (.cons rfl (.cons rfl (.cons rfl (.cons rfl (.cons rfl (.cons rfl (.cons rfl (.cons rfl .nil))))))))) ⟨h, (Stp.up hst731 rfl), ho732⟩ ?_
          rintro ⟨c714, x717, O718⟩ k728 wd719 ⟨h, hst720, hf716⟩
          obtain ⟨j733, q734, rfl, h, hn735⟩ := rnd1 h
          unfold fold_Merge_lp2 at h
          try dsimp only at h hst720 hf716
          refine (show WC _ _ _ _ [(4, Value.pointer (some ⟨p44, 0, none⟩)), (15, Value.pointer (some ⟨p192, 0, none⟩)), (17, Value.pointer (some ⟨p548, 0, none⟩)), (18, vi r570), (71, Value.slice (some ⟨p204, 0, none⟩) 2 2), (72, vi 2), (73, vi 1), (106, vi (x636.length : Int)), (107, vi x717)] _ from ?_)
          refine WC.seq ?_
          refine WC.region ?_
          refine WL.y (Y.lss_i rfl rfl) rfl ?_
          refine WL.nil ?_
          refine At.then ?_
          refine WC.seq ?_
          rcases cnd h with ⟨hc736, h⟩ | ⟨hc736, h⟩
          ·refine WC.condT' rfl hc736 ?_
           refine WC.skip ?_
           refine At.then ?_
           refine WC.seq ?_
           refine WC.block ?_
           refine WC.seq ?_
           refine WC.region ?_
           refine WL.y (Y.move rfl) rfl ?_
           refine WL.y (Y.assign rfl) rfl ?_
           refine WL.nil ?_
           refine At.then ?_
           refine WC.drawH [] [0, 1, 2, 3, 4, 5, 6, 7, 8, 9, 10, 11, 12, 13, 14, 15, 16, 17, 18, 19] O718 21 fmix rfl (by kernel_rfl) ?_
           intro wd737 hst738
           refine WD.y 0 rfl (by kernel_rfl) (fun _ _ _ => Y.fieldAddr fo99_0 rfl) rfl ?_
           refine WD.y 1 rfl (by kernel_rfl) (fun wd743 O742 hst744 => have hf745 := hf704.st hst720 rfl; have hf746 := hf745.st hst738 rfl; have hf747 := hf746.st hst744 rfl; Y.loadSc ty98 rfl rfl (hf747.cell 0 _ rfl)) rfl ?_
           refine WD.y 2 rfl (by kernel_rfl) (fun _ _ _ => Y.nilCheck rfl) rfl ?_
           refine WD.y 3 rfl (by kernel_rfl) (fun _ _ _ => Y.fieldAddr fo25_1 rfl) rfl ?_
           refine WD.y 4 rfl (by kernel_rfl) (fun wd755 O754 hst756 => have hf757 := hb700.st hst720 rfl; have hf758 := hf757.st hst738 rfl; have hf759 := hf758.st hst756 rfl; Y.loadSc ty23 rfl rfl (hf759.cell 5 _ rfl)) rfl ?_
           refine WD.y 5 rfl (by kernel_rfl) (fun _ _ _ => Y.move rfl) rfl ?_
           refine WD.y 6 rfl (by kernel_rfl) (fun _ _ _ => Y.fieldAddr fo99_1 rfl) rfl ?_
           refine WD.y 7 rfl (by kernel_rfl) (fun wd767 O766 hst768 => have hf769 := hf704.st hst720 rfl; have hf770 := hf769.st hst738 rfl; have hf771 := hf770.st hst768 rfl; Y.loadAg ty25 rfl rfl (hf771.cells 1 [vi r61.Neg.Offset, (Value.slice p108 m109 c110)] rfl) rfl) rfl ?_
           refine WD.y 8 rfl (by kernel_rfl) (fun _ _ _ => Y.move rfl) rfl ?_
           refine WD.y 9 rfl (by kernel_rfl) (fun _ _ _ => Y.move rfl) rfl ?_
           refine WD.y 10 rfl (by kernel_rfl) (fun _ _ _ => Y.add_i rfl rfl) rfl ?_
           refine WD.y 12 rfl (by kernel_rfl) (fun _ _ _ => Y.fieldAddr fo99_2 rfl) rfl ?_
           refine WD.y 13 rfl (by kernel_rfl) (fun wd785 O784 hst786 => have hf787 := hf704.st hst720 rfl; have hf788 := hf787.st hst738 rfl; have hf789 := hf788.st hst786 rfl; Y.loadAg ty25 rfl rfl (hf789.cells 3 [vi r62.Neg.Offset, (Value.slice p126 m127 c128)] rfl) rfl) rfl ?_
           refine WD.y 14 rfl (by kernel_rfl) (fun _ _ _ => Y.move rfl) rfl ?_
           refine WD.y 15 rfl (by kernel_rfl) (fun _ _ _ => Y.move rfl) rfl ?_
           refine WD.y 16 rfl (by kernel_rfl) (fun _ _ _ => Y.add_i rfl rfl) rfl ?_
           refine WD.heavy 11 rfl (by kernel_rfl) ?_
           have hf799 := hf562.st hst579 rfl rfl rfl
           have hf800 := hf799.st hst604 rfl rfl rfl
           have hf801 := hf800.st hst641 rfl rfl rfl
           have hf802 := hf801.st hst699 rfl rfl rfl
           have hf803 := hf802.st hst720 rfl rfl rfl
           have hf804 := hf803.st hst738 rfl rfl rfl
           obtain ⟨r805, hp806, h⟩ := bnd h
           refine WL.call (vals := [Value.agg (List.toArray [vi r61.Neg.Offset, (Value.slice p108 m109 c110)]), vi (w64 (r570 + x717))]) kok23 rfl rfl (c_hist_At (A := fun _ => True) (a0 := r61.Neg) (hf804.src.sl) hp806) ?_
           rintro vr809 wd808 ⟨rfl, hm807⟩
           obtain ⟨O810, hold811, hnew812, hst813⟩ := adoptE O718 (fun k => 1) hm807
           refine WL.nil ?_
           refine At.dq (Stp.up hst813 rfl) ?_
           refine WD.heavy 17 rfl (by kernel_rfl) ?_
           have hf814 := hf569.st hst579 rfl rfl rfl
           have hf815 := hf814.st hst604 rfl rfl rfl
           have hf816 := hf815.st hst641 rfl rfl rfl
           have hf817 := hf816.st hst699 rfl rfl rfl
           have hf818 := hf817.st hst720 rfl rfl rfl
           have hf819 := hf818.st hst738 rfl rfl rfl
           have hf820 := hf819.st hst813 rfl rfl rfl
           obtain ⟨r821, hp822, h⟩ := bnd h
           refine WL.call (vals := [Value.agg (List.toArray [vi r62.Neg.Offset, (Value.slice p126 m127 c128)]), vi (w64 (r570 + x717))]) kok23 rfl rfl (c_hist_At (A := fun _ => True) (a0 := r62.Neg) (hf820.src.sl) hp822) ?_
           rintro vr825 wd824 ⟨rfl, hm823⟩
           obtain ⟨O826, hold827, hnew828, hst829⟩ := adoptE O810 (fun k => 1) hm823
           refine WL.nil ?_
           refine At.dq (Stp.up hst829 rfl) ?_
           refine WD.y 18 rfl (by kernel_rfl) (fun _ _ _ => Y.add_u rfl rfl) rfl ?_
           obtain ⟨e833, he833, h⟩ := bnd h
           have hf842 := hf716.st hst738 rfl rfl rfl
           have hf843 := hf842.st hst813 rfl rfl rfl
           have hf844 := hf843.st hst829 rfl rfl rfl
           obtain ⟨b834, cap841, cs840, hv835, hi836, hl837, hc838, hok839⟩ := OwnSl.at hf844 he833
           obtain rfl := hok839
           replace hc838 : CellsAt _ _ _ [vu e833] := hc838
           have hca845 := CAt.own hf844 hv835 hc838
           refine WD.y 19 rfl (by kernel_rfl) (fun _ _ _ => Y.indexAddr ty23 ty22 rfl hv835 rfl hi836 hl837) rfl ?_
           refine WD.phase [1011] [0, 1, 2, 3, 4, 5, 6, 7, 8, 9, 10, 11, 12, 13, 14, 15, 16, 17, 18, 19, 20] (by kernel_rfl) (by kernel_rfl) ?_
           refine WD.heavy 20 rfl (by kernel_rfl) ?_
           obtain ⟨t849, ht849, h⟩ := lt1 h
           refine WL.ren 128 rfl (congrArg vu ht849.symm) ?_
           obtain ⟨xs850, hxs850, h⟩ := bnd h
           refine WL.storeOwn (by decide) ty22 rfl rfl rfl hf844 hv835 hxs850 ?_
           intro wd851 hst852 ho853
           refine WL.nil ?_
           refine At.dq (Stp.up hst852 rfl) ?_
           refine WD.done_ (by kernel_rfl) ?_
           refine At.inBlock ?_
           refine At.then ?_
           refine WC.region ?_
           refine WL.y (Y.add_i rfl rfl) rfl ?_
           refine WL.y (Y.move rfl) rfl ?_
           refine WL.nil ?_
           exact At.round (xs850, w64 (x717 + 1), O826) j733 (Nat.lt_succ_self _) ⟨next1 h hn735, (Stp.trans (Stp.up hst720 rfl) (Stp.trans (Stp.up hst738 rfl) (Stp.trans (Stp.up hst813 rfl) (Stp.trans (Stp.up hst829 rfl) (Stp.up hst852 rfl))))), ho853⟩ (.cons rfl (.cons rfl (.cons rfl (.cons rfl (.cons rfl (.cons rfl (.cons rfl (.cons rfl (.cons rfl .nil)))))))))
          ·refine WC.condF' rfl hc736 ?_
           refine WC.exit ?_
           refine At.thenX ?_
           refine At.loopX ?_
           obtain ⟨O854, hst855, ho856⟩ := OwnSl.rlb 1012 rfl hf716
           exact At.hitB (σ := (List UInt64 × Own)) (c714, O854) ⟨brk1 h hn735, (Stp.trans (Stp.up hst720 rfl) (Stp.up hst855 rfl)), ho856⟩ (.cons rfl (.cons rfl (.cons rfl (.cons rfl (.cons rfl .nil)))))
         ·rintro ⟨c721, O724⟩ wd725 ⟨rfl, hst726, hf723⟩
          replace h := flowK_go hk729
          try dsimp only at h hst726 hf723
          refine (show At _ _ _ [(4, Value.pointer (some ⟨p44, 0, none⟩)), (15, Value.pointer (some ⟨p192, 0, none⟩)), (71, Value.slice (some ⟨p204, 0, none⟩) 2 2), (72, vi 2), (73, vi 1)] _ from ?_)
          refine At.inBlockHit ?_
          obtain ⟨O857, hst858, ho859⟩ := OwnSl.rlb 1014 rfl hf723
          exact At.join (σ := (List UInt64 × Own)) (c721, O857) ⟨some1 h, (Stp.trans (Stp.up hst726 rfl) (Stp.up hst858 rfl)), ho859⟩ (.cons rfl (.cons rfl (.cons rfl (.cons rfl (.cons rfl .nil)))))
        ·rintro ⟨c706, O709⟩ wd710 ⟨rfl, hst711, hf708⟩
         replace h := hk713
         try dsimp only at h hst711 hf708
         refine (show At _ _ _ [(4, Value.pointer (some ⟨p44, 0, none⟩)), (15, Value.pointer (some ⟨p192, 0, none⟩)), (71, Value.slice (some ⟨p204, 0, none⟩) 2 2), (72, vi 2), (73, vi 1)] _ from ?_)
         refine At.inBlock ?_
         obtain ⟨O860, hst861, ho862⟩ := OwnSl.rlb 1017 rfl hf708
         have hf863 := hb700.st hst711 rfl
         have hf864 := hf863.st hst861 rfl
         exact At.join (σ := (Int × List UInt64 × Own × Value)) (r570, c706, O860, (Value.slice p694 m695 c696)) ⟨go2 h, (Stp.trans (Stp.up hst551 rfl) (Stp.trans (Stp.up hst553 rfl) (Stp.trans (Stp.up hst579 rfl) (Stp.trans (Stp.up hst604 rfl) (Stp.trans (Stp.up hst641 rfl) (Stp.trans (Stp.up hst699 rfl) (Stp.trans (Stp.up hst711 rfl) (Stp.up hst861 rfl)))))))), ho862, hf864⟩ (.cons rfl (.cons rfl (.cons rfl (.cons rfl (.cons rfl .nil)))))
    ·rintro ⟨c537, c538, O541, v539⟩ wd542 ⟨rfl, hst543, hf540, hb536⟩
     replace h := flowK_go hk545
     try dsimp only at h hst543 hf540 hb536
     refine (show At _ _ _ [(4, Value.pointer (some ⟨p44, 0, none⟩)), (15, Value.pointer (some ⟨p192, 0, none⟩)), (71, Value.slice (some ⟨p204, 0, none⟩) 2 2), (72, vi 2), (73, vi 1)] _ from ?_)
     refine At.then ?_
     refine WC.region ?_
     refine WL.yE (Y.add_i rfl rfl) (congrArg vi (by decide : w64 (1 + 1) = 2)) rfl ?_
     refine WL.y (Y.move rfl) rfl ?_
     refine WL.nil ?_
     refine At.again ?_
     refine WC.seq ?_
     refine WC.region ?_
     refine WL.yE (Y.lss_i rfl rfl) (congrArg Value.bool (by decide : decide ((2 : Int) < (2 : Int)) = false)) rfl ?_
     refine WL.nil ?_
     refine At.then ?_
     refine WC.seq ?_
     refine WC.condF rfl ?_
     refine WC.exit ?_
     refine At.thenX ?_
     refine At.thenX ?_
     refine At.inBlockHit ?_
     refine At.then ?_
     refine WC.seq ?_
     refine WC.region ?_
     refine WL.y (Y.loadAg ty27 rfl rfl (hb536.cells 0 [vi r61.Scale, vu (r61.Zero + r62.Zero), vi c209, v211, vi c537, v539] rfl) rfl) rfl ?_
     have hf865 := hf212.st hst543 rfl rfl rfl
     have hh869 := h
     obtain ⟨p866, m867, c868, rfl⟩ := hf865.shape
     have h := hh869
     have hh873 := h
     obtain ⟨p870, m871, c872, rfl⟩ := hf540.shape
     have h := hh873
     have hf874 := hb43.st hst85 rfl
     have hf875 := hf874.st hst94 rfl
     have hf876 := hf875.st hst99 rfl
     have hf877 := hf876.st hst114 rfl
     have hf878 := hf877.st hst132 rfl
     have hf879 := hf878.st hst158 rfl
     have hf880 := hf879.st hst173 rfl
     have hf881 := hf880.st hst195 rfl
     have hf882 := hf881.st hst197 rfl
     have hf883 := hf882.st hst207 rfl
     have hf884 := hf883.st hst215 rfl
     have hf885 := hf884.st hst543 rfl
     refine WL.store (v := Value.agg (List.toArray [vi r61.Scale, vu (r61.Zero + r62.Zero), vi c209, (Value.slice p866 m867 c868), vi c537, (Value.slice p870 m871 c872)])) (cells' := [vi r61.Scale, vu (r61.Zero + r62.Zero), vi c209, (Value.slice p866 m867 c868), vi c537, (Value.slice p870 m871 c872)]) ty27 rfl rfl hf885 rfl (Nat.le_of_ble_eq_true rfl) rfl rfl ?_
     intro wd886 hst887 hb888
     refine WL.y (Y.assign rfl) rfl ?_
     refine WL.nil ?_
     refine At.then ?_
     refine WC.ret ?_
     obtain ⟨rfl, rfl⟩ := tup2 h
     have hs889 : Stp [13, 18, 19, 20, 22, 23, 24, 25, 26, 27, 1001, 1002, 1003, 1005, 1010, 1011, 1012, 1014] (Lg.O0 A) w O541 wd886 := (Stp.trans (Stp.up hst27 rfl) (Stp.trans (Stp.up hst42 rfl) (Stp.trans (Stp.up hst47 rfl) (Stp.trans (Stp.up hst85 rfl) (Stp.trans (Stp.up hst94 rfl) (Stp.trans (Stp.up hst99 rfl) (Stp.trans (Stp.up hst114 rfl) (Stp.trans (Stp.up hst132 rfl) (Stp.trans (Stp.up hst158 rfl) (Stp.trans (Stp.up hst173 rfl) (Stp.trans (Stp.up hst195 rfl) (Stp.trans (Stp.up hst197 rfl) (Stp.trans (Stp.up hst207 rfl) (Stp.trans (Stp.up hst215 rfl) (Stp.trans (Stp.up hst543 rfl) (Stp.up hst887 rfl))))))))))))))))
     have hf890 := hf865.st hst887 rfl rfl rfl
     have hf891 := hf540.st hst887 rfl rfl rfl
     exact At.res (.inl rfl) rfl (.cell rfl (hb888.runAg 0 [vi r61.Scale, vu (r61.Zero + r62.Zero), vi c209, (Value.slice p866 m867 c868), vi c537, (Value.slice p870 m871 c872)] ty27 rfl rfl rfl) (.tmp rfl .nil)) ⟨(Value.slice p866 m867 c868), (Value.slice p870 m871 c872), rfl, (Stp.ext hs889 rfl rfl), (OwnSl.outF hf890 hs889 low0 rfl), (OwnSl.outF hf891 hs889 low0 rfl), (ne_own hf890 hf891 rfl)⟩
theorem c_slices_Clone_uint64_uint64 {A : Nat → Prop} {a0 : List UInt64} {v0 : Value} {w : World} (hs0 : Sl Rep.u w A v0 a0) {r0 : List UInt64} (h : slices_Clone_uint64_uint64 a0 = some r0) : Rets Try.prog 65 [v0] w (fun v w' => ∃ (u0 : Value), v = u0 ∧ Ext w w' ∧ RowF Rep.u 22 w w' u0 r0) := by
  unfold slices_Clone_uint64_uint64 at h
  refine Rets.enter Try.func65 rfl rfl ?_
  refine (show WC _ _ _ _ [(0, v0)] _ from ?_)
  refine WC.seq (WC.region (WL.y (Y.assign rfl) rfl (WL.nil (At.then ?_))))
  refine WC.seq (WC.seq (WC.region ?_))
  refine WL.y (Y.move rfl) rfl ?_
  rcases hs0.nilOr with ⟨rfl, rfl⟩ | ⟨q, n, c, rfl⟩
  · refine WL.y (Y.slnil (p := none) (n := 0) (c := 0) ty23.u rfl rfl) rfl (WL.nil (At.then ?_))
    refine WC.condT rfl (WC.seq (WC.region (WL.y (Y.assign rfl) rfl (WL.nil (At.then (WC.ret (At.thenR ?_)))))))
    have : r0 = [] := by simpa [app] using h.symm
    subst this
    exact At.res (.inl rfl) rfl (.tmp rfl .nil) ⟨_, rfl, Ext.refl w, RowF.nil⟩
  · refine WL.y (Y.slnil (p := some _) ty23.u rfl rfl) rfl (WL.nil (At.then ?_))
    refine WC.condF rfl (WC.skip (At.then ?_))
    refine WC.seq (WC.region ?_)
    have hs := hs0
    refine WL.buildSlice (O := Lg.O0 A) (R := Rep.u) (vals := []) 11 [] (xs := []) (by decide) ty23 ty22 (by decide) (by decide) (Fits.evalp rfl) (by kernel_rfl) rfl rfl rfl ?_
    intro v O1 w1 hst1 ho1
    refine WL.y (Y.move rfl) rfl ?_
    have hs1 := (Sl.start hs).mono (imm_st hst1 rfl rfl)
    refine WL.append (by decide) ty23 ty22 rfl (by decide) rfl rfl ho1 hs1.src h rfl ?_
    intro v2 O2 w2 hst2 ho2
    refine WL.y (Y.assign rfl) rfl (WL.nil (At.then (WC.ret ?_)))
    have hs9 : Stp [11] (Lg.O0 A) w O2 w2 := (Stp.trans (Stp.up hst1 rfl) hst2)
    exact At.res (.inl rfl) rfl (.tmp rfl .nil) ⟨_, rfl, Stp.ext hs9 rfl rfl, OwnSl.outF ho2 hs9 low0 rfl⟩
theorem c_hist_Trim {A : Nat → Prop} {v0_1 : Value} {a0 : api_Side} {w : World} (hs0_1 : Sl Rep.u w A v0_1 a0.Counts) {r0 : api_Side} (h : hist_Trim a0 = some r0) : Rets Try.prog 28 [Value.agg (List.toArray [vi a0.Offset, v0_1])] w (fun v w' => ∃ (u0_1 : Value), v = Value.agg (List.toArray [vi r0.Offset, u0_1]) ∧ Ext w w' ∧ RowF Rep.u 22 w w' u0_1 r0.Counts) := by
 unfold hist_Trim at h
 refine Rets.enter Try.func28 rfl rfl ?_
 have hf11 : Sl Rep.u w (imm (Lg.O0 A)) v0_1 a0.Counts := (Sl.start hs0_1)
 refine (show WC _ _ _ _ [(0, Value.agg (List.toArray [vi a0.Offset, v0_1]))] _ from ?_)
 refine WC.seq ?_
 refine WC.region ?_
 have hh15 := h
 obtain ⟨p12, m13, c14, rfl⟩ := hf11.shape
 have h := hh15
 refine WL.box (O := (Lg.O0 A)) 11 [vi a0.Offset, (Value.slice p12 m13 c14)] rfl rfl rfl ?_
 intro p17 O18 wd19 hst20 hb16
 refine WL.alloc (O := O18) 12 [vi 0, Value.slice none 0 0] ty25 rfl rfl ?_
 intro p22 O23 wd24 hst25 hb21
 refine WL.nil ?_
 refine At.then ?_
 refine WC.seq ?_
 refine WC.draw 4 O23 fmix (by kernel_rfl) ?_
 intro wd26 hst27
 refine WS.y (Y.fieldAddr fo25_1 rfl) rfl ?_
 have hf28 := hb16.st hst25 rfl
 have hf29 := hf28.st hst27 rfl
 refine WS.y (Y.loadSc ty23 rfl rfl (hf29.cell 1 _ rfl)) rfl ?_
 have hf30 := hf11.mono (imm_st hst20 rfl rfl)
 have hf31 := hf30.mono (imm_st hst25 rfl rfl)
 have hf32 := hf31.mono (imm_st hst27 rfl rfl)
 refine WS.y (Y.len ty23 rfl hf32) rfl ?_
 refine WS.y (Y.assign rfl) rfl ?_
 refine WS.tail ?_
 obtain ⟨to33, hto33, h⟩ := lt1 h
 refine WL.yE (Y.assign rfl) (congrArg vi hto33.symm) rfl ?_
 refine WL.nil ?_
 refine At.then ?_
 refine WC.seq ?_
 obtain ⟨p35, h, hk36⟩ := bnd h
 refine WC.join (σ := Int) (fun x w' => x = p35 ∧ wd26 = w') (fun x => [(1, Value.pointer (some ⟨p17, 0, none⟩)), (2, Value.pointer (some ⟨p22, 0, none⟩)), (3, vi x), (4, vi to33)]) ?_ ?_
 ·refine WC.block ?_
  obtain ⟨p39, h, hk41⟩ := flow1 h
  obtain ⟨k40, h⟩ := loop_some h
  refine WC.joinB 0 (σ := Int) (fun x w' => p39 = .go x ∧ wd26 = w') (fun x => [(1, Value.pointer (some ⟨p17, 0, none⟩)), (2, Value.pointer (some ⟨p22, 0, none⟩)), (3, vi x), (4, vi to33)]) ?_ ?_
  ·refine WC.loop (σ := Int) (fun x k w' => loopN k (hist_Trim_lp1 a0 to33) x = some p39 ∧ wd26 = w') (fun x => [(1, Value.pointer (some ⟨p17, 0, none⟩)), (2, Value.pointer (some ⟨p22, 0, none⟩)), (3, vi x), (4, vi to33)]) 0 k40 (.cons rfl (.cons rfl (.cons rfl (.cons rfl .nil)))) ⟨h, rfl⟩ ?_
   rintro from37 k40 _ ⟨h, rfl⟩
   obtain ⟨j42, q43, rfl, h, hn44⟩ := rnd1 h
   unfold hist_Trim_lp1 at h
   try dsimp only at h
   refine (show WC _ _ _ _ [(1, Value.pointer (some ⟨p17, 0, none⟩)), (2, Value.pointer (some ⟨p22, 0, none⟩)), (3, vi from37), (4, vi to33)] _ from ?_)
   refine WC.seq ?_
   refine WC.seq ?_
   refine WC.region ?_
   refine WL.y (Y.move rfl) rfl ?_
   refine WL.y (Y.move rfl) rfl ?_
   refine WL.y (Y.lss_i rfl rfl) rfl ?_
   refine WL.y (Y.move rfl) rfl ?_
   obtain ⟨p46, h, hk47⟩ := bnd h
   refine WL.cut 7 (σ := Bool) (fun x w' => x = p46 ∧ wd26 = w') (fun x => [(1, Value.pointer (some ⟨p17, 0, none⟩)), (2, Value.pointer (some ⟨p22, 0, none⟩)), (3, vi from37), (4, vi to33), (18, Value.bool x)]) ?_ ?_
   ·rcases cnd h with ⟨hE48, h⟩ | ⟨hE48, h⟩
    ·refine WL.ren 11 rfl (congrArg Value.bool hE48) ?_
     refine WL.ung rfl rfl ?_
     refine WL.y (Y.fieldAddr fo25_1 rfl) rfl ?_
     refine WL.ung rfl rfl ?_
     refine WL.y (Y.loadSc ty23 rfl rfl (hf29.cell 1 _ rfl)) rfl ?_
     refine WL.ung rfl rfl ?_
     refine WL.y (Y.move rfl) rfl ?_
     refine WL.ung rfl rfl ?_
     obtain ⟨e49, he49, h⟩ := bnd h
     obtain ⟨b50, off58, cap57, cs56, hv51, hi52, hl53, hc54, hok55, hA59⟩ := Sl.at2 hf32 he49
     obtain rfl := hok55
     replace hc54 : CellsAt _ _ _ [vu e49] := hc54
     have hca60 := CAt.imm hc54 hA59
     refine WL.y (Y.indexAddr ty23 ty22 rfl hv51 rfl hi52 hl53) rfl ?_
     refine WL.ung rfl rfl ?_
     refine WL.y (Y.loadSc ty22 rfl rfl hca60.at_) rfl ?_
     refine WL.ung rfl rfl ?_
     refine WL.y (Y.eql_u (b := 0) rfl rfl) rfl ?_
     refine WL.y (Y.pick (b := true) rfl rfl) rfl ?_
     exact WL.nil (At.join (σ := Bool) (decide (e49 = 0)) ⟨some1 h, rfl⟩ (.cons rfl (.cons rfl (.cons rfl (.cons rfl (.cons rfl .nil))))))
    ·refine WL.ren 11 rfl (congrArg Value.bool hE48) ?_
     refine WL.gS rfl rfl rfl rfl ?_
     refine WL.gS rfl rfl rfl rfl ?_
     refine WL.gS rfl rfl rfl rfl ?_
     refine WL.gS rfl rfl rfl rfl ?_
     refine WL.gS rfl rfl rfl rfl ?_
     refine WL.gS rfl rfl rfl rfl ?_
     refine WL.y (Y.pick (b := false) rfl rfl) rfl ?_
     exact WL.nil (At.join (σ := Bool) false ⟨some1 h, rfl⟩ (.cons rfl (.cons rfl (.cons rfl (.cons rfl (.cons rfl .nil))))))
   ·rintro x45 _ ⟨rfl, rfl⟩
    replace h := hk47
    try dsimp only at h
    refine (show WL _ _ _ _ _ [(1, Value.pointer (some ⟨p17, 0, none⟩)), (2, Value.pointer (some ⟨p22, 0, none⟩)), (3, vi from37), (4, vi to33), (18, Value.bool x45)] _ from ?_)
    refine WL.nil ?_
    refine At.then ?_
    rcases cnd h with ⟨hc61, h⟩ | ⟨hc61, h⟩
    ·refine WC.condT' rfl hc61 ?_
     refine WC.skip ?_
     refine At.then ?_
     refine WC.block ?_
     refine WC.region ?_
     refine WL.y (Y.move rfl) rfl ?_
     refine WL.y (Y.add_i rfl rfl) rfl ?_
     obtain ⟨from62, hfrom62, h⟩ := lt1 h
     refine WL.yE (Y.assign rfl) (congrArg vi hfrom62.symm) rfl ?_
     refine WL.nil ?_
     refine At.inBlock ?_
     exact At.round from62 j42 (Nat.lt_succ_self _) ⟨next1 h hn44, rfl⟩ (.cons rfl (.cons rfl (.cons rfl (.cons rfl .nil))))
    ·refine WC.condF' rfl hc61 ?_
     refine WC.exit ?_
     refine At.thenX ?_
     refine At.loopX ?_
     exact At.hitB (σ := Int) from37 ⟨brk1 h hn44, rfl⟩ (.cons rfl (.cons rfl (.cons rfl (.cons rfl .nil))))
  ·rintro from38 _ ⟨rfl, rfl⟩
   replace h := flowK_go hk41
   try dsimp only at h
   refine (show At _ _ _ [(1, Value.pointer (some ⟨p17, 0, none⟩)), (2, Value.pointer (some ⟨p22, 0, none⟩)), (3, vi from38), (4, vi to33)] _ from ?_)
   refine At.inBlockHit ?_
   exact At.join (σ := Int) from38 ⟨some1 h, rfl⟩ (.cons rfl (.cons rfl (.cons rfl (.cons rfl .nil))))
 ·rintro from34 _ ⟨rfl, rfl⟩
  replace h := hk36
  try dsimp only at h
  refine (show At _ _ _ [(1, Value.pointer (some ⟨p17, 0, none⟩)), (2, Value.pointer (some ⟨p22, 0, none⟩)), (3, vi from34), (4, vi to33)] _ from ?_)
  refine At.then ?_
  refine WC.seq ?_
  obtain ⟨p64, h, hk65⟩ := bnd h
  refine WC.join (σ := Int) (fun x w' => x = p64 ∧ wd26 = w') (fun x => [(1, Value.pointer (some ⟨p17, 0, none⟩)), (2, Value.pointer (some ⟨p22, 0, none⟩)), (3, vi from34), (4, vi x)]) ?_ ?_
  ·refine WC.block ?_
   obtain ⟨p68, h, hk70⟩ := flow1 h
   obtain ⟨k69, h⟩ := loop_some h
   refine WC.joinB 2 (σ := Int) (fun x w' => p68 = .go x ∧ wd26 = w') (fun x => [(1, Value.pointer (some ⟨p17, 0, none⟩)), (2, Value.pointer (some ⟨p22, 0, none⟩)), (3, vi from34), (4, vi x)]) ?_ ?_
   ·refine WC.loop (σ := Int) (fun x k w' => loopN k (hist_Trim_lp2 a0 from34) x = some p68 ∧ wd26 = w') (fun x => [(1, Value.pointer (some ⟨p17, 0, none⟩)), (2, Value.pointer (some ⟨p22, 0, none⟩)), (3, vi from34), (4, vi x)]) to33 k69 (.cons rfl (.cons rfl (.cons rfl (.cons rfl .nil)))) ⟨h, rfl⟩ ?_
    rintro to66 k69 _ ⟨h, rfl⟩
    obtain ⟨j71, q72, rfl, h, hn73⟩ := rnd1 h
    unfold hist_Trim_lp2 at h
    try dsimp only at h
    refine (show WC _ _ _ _ [(1, Value.pointer (some ⟨p17, 0, none⟩)), (2, Value.pointer (some ⟨p22, 0, none⟩)), (3, vi from34), (4, vi to66)] _ from ?_)
    refine WC.seq ?_
    refine WC.seq ?_
    refine WC.region ?_
    refine WL.y (Y.move rfl) rfl ?_
    refine WL.y (Y.move rfl) rfl ?_
    refine WL.y (Y.gtr_i rfl rfl) rfl ?_
    refine WL.y (Y.move rfl) rfl ?_
    obtain ⟨p75, h, hk76⟩ := bnd h
    refine WL.cut 8 (σ := Bool) (fun x w' => x = p75 ∧ wd26 = w') (fun x => [(1, Value.pointer (some ⟨p17, 0, none⟩)), (2, Value.pointer (some ⟨p22, 0, none⟩)), (3, vi from34), (4, vi to66), (32, Value.bool x)]) ?_ ?_
    ·rcases cnd h with ⟨hE77, h⟩ | ⟨hE77, h⟩
     ·refine WL.ren 24 rfl (congrArg Value.bool hE77) ?_
      refine WL.ung rfl rfl ?_
      refine WL.y (Y.fieldAddr fo25_1 rfl) rfl ?_
      refine WL.ung rfl rfl ?_
      refine WL.y (Y.loadSc ty23 rfl rfl (hf29.cell 1 _ rfl)) rfl ?_
      refine WL.ung rfl rfl ?_
      refine WL.y (Y.move rfl) rfl ?_
      refine WL.ung rfl rfl ?_
      refine WL.y (Y.sub_i rfl rfl) rfl ?_
      refine WL.ung rfl rfl ?_
      obtain ⟨e78, he78, h⟩ := bnd h
      obtain ⟨b79, off87, cap86, cs85, hv80, hi81, hl82, hc83, hok84, hA88⟩ := Sl.at2 hf32 he78
      obtain rfl := hok84
      replace hc83 : CellsAt _ _ _ [vu e78] := hc83
      have hca89 := CAt.imm hc83 hA88
      refine WL.y (Y.indexAddr ty23 ty22 rfl hv80 rfl hi81 hl82) rfl ?_
      refine WL.ung rfl rfl ?_
      refine WL.y (Y.loadSc ty22 rfl rfl hca89.at_) rfl ?_
      refine WL.ung rfl rfl ?_
      refine WL.y (Y.eql_u (b := 0) rfl rfl) rfl ?_
      refine WL.y (Y.pick (b := true) rfl rfl) rfl ?_
      exact WL.nil (At.join (σ := Bool) (decide (e78 = 0)) ⟨some1 h, rfl⟩ (.cons rfl (.cons rfl (.cons rfl (.cons rfl (.cons rfl .nil))))))
     ·refine WL.ren 24 rfl (congrArg Value.bool hE77) ?_
      refine WL.gS rfl rfl rfl rfl ?_
      refine WL.gS rfl rfl rfl rfl ?_
      refine WL.gS rfl rfl rfl rfl ?_
      refine WL.gS rfl rfl rfl rfl ?_
      refine WL.gS rfl rfl rfl rfl ?_
      refine WL.gS rfl rfl rfl rfl ?_
      refine WL.gS rfl rfl rfl rfl ?_
      refine WL.y (Y.pick (b := false) rfl rfl) rfl ?_
      exact WL.nil (At.join (σ := Bool) false ⟨some1 h, rfl⟩ (.cons rfl (.cons rfl (.cons rfl (.cons rfl (.cons rfl .nil))))))
    ·rintro x74 _ ⟨rfl, rfl⟩
     replace h := hk76
     try dsimp only at h
     refine (show WL _ _ _ _ _ [(1, Value.pointer (some ⟨p17, 0, none⟩)), (2, Value.pointer (some ⟨p22, 0, none⟩)), (3, vi from34), (4, vi to66), (32, Value.bool x74)] _ from ?_)
     refine WL.nil ?_
     refine At.then ?_
     rcases cnd h with ⟨hc90, h⟩ | ⟨hc90, h⟩
     ·refine WC.condT' rfl hc90 ?_
      refine WC.skip ?_
      refine At.then ?_
      refine WC.block ?_
      refine WC.region ?_
      refine WL.y (Y.move rfl) rfl ?_
      refine WL.y (Y.sub_i rfl rfl) rfl ?_
      obtain ⟨to91, hto91, h⟩ := lt1 h
      refine WL.yE (Y.assign rfl) (congrArg vi hto91.symm) rfl ?_
      refine WL.nil ?_
      refine At.inBlock ?_
      exact At.round to91 j71 (Nat.lt_succ_self _) ⟨next1 h hn73, rfl⟩ (.cons rfl (.cons rfl (.cons rfl (.cons rfl .nil))))
     ·refine WC.condF' rfl hc90 ?_
      refine WC.exit ?_
      refine At.thenX ?_
      refine At.loopX ?_
      exact At.hitB (σ := Int) to66 ⟨brk1 h hn73, rfl⟩ (.cons rfl (.cons rfl (.cons rfl (.cons rfl .nil))))
   ·rintro to67 _ ⟨rfl, rfl⟩
    replace h := flowK_go hk70
    try dsimp only at h
    refine (show At _ _ _ [(1, Value.pointer (some ⟨p17, 0, none⟩)), (2, Value.pointer (some ⟨p22, 0, none⟩)), (3, vi from34), (4, vi to67)] _ from ?_)
    refine At.inBlockHit ?_
    exact At.join (σ := Int) to67 ⟨some1 h, rfl⟩ (.cons rfl (.cons rfl (.cons rfl (.cons rfl .nil))))
  ·rintro to63 _ ⟨rfl, rfl⟩
   replace h := hk65
   try dsimp only at h
   refine (show At _ _ _ [(1, Value.pointer (some ⟨p17, 0, none⟩)), (2, Value.pointer (some ⟨p22, 0, none⟩)), (3, vi from34), (4, vi to63)] _ from ?_)
   refine At.then ?_
   refine WC.seq ?_
   refine WC.seq ?_
   refine WC.region ?_
   refine WL.y (Y.move rfl) rfl ?_
   refine WL.y (Y.move rfl) rfl ?_
   refine WL.y (Y.eql_i rfl rfl) rfl ?_
   refine WL.nil ?_
   refine At.then ?_
   rcases cnd h with ⟨hc92, h⟩ | ⟨hc92, h⟩
   ·refine WC.condT' rfl hc92 ?_
    refine WC.seq ?_
    refine WC.region ?_
    refine WL.y (Y.build (vals := []) (cells := [vi 0, Value.slice none 0 0]) (Fits.evalp rfl) (by kernel_rfl)) rfl ?_
    have hf93 := hb21.st hst27 rfl
    refine WL.store (v := Value.agg (List.toArray [vi 0, Value.slice none 0 0])) (cells' := [vi 0, Value.slice none 0 0]) ty25 rfl rfl hf93 rfl (Nat.le_of_ble_eq_true rfl) rfl rfl ?_
    intro wd94 hst95 hb96
    refine WL.nil ?_
    refine At.then ?_
    refine WC.ret ?_
    refine At.thenR ?_
    obtain rfl := some1 h
    have hs97 : Stp [12] (Lg.O0 A) w O23 wd94 := (Stp.trans (Stp.up hst20 rfl) (Stp.trans (Stp.up hst25 rfl) (Stp.trans (Stp.up hst27 rfl) (Stp.up hst95 rfl))))
    exact At.res (.inl rfl) rfl (.cell rfl (hb96.runAg 0 [vi 0, Value.slice none 0 0] ty25 rfl rfl rfl) .nil) ⟨Value.slice none 0 0, rfl, (Stp.ext hs97 rfl rfl), RowF.nil⟩
   ·refine WC.condF' rfl hc92 ?_
    refine WC.skip ?_
    refine At.then ?_
    refine WC.seq ?_
    refine WC.drawH [] [0, 1, 2, 3, 4, 5, 6, 7, 8, 9, 10] O23 12 fmix rfl (by kernel_rfl) ?_
    intro wd98 hst99
    refine WD.y 0 rfl (by kernel_rfl) (fun _ _ _ => Y.fieldAddr fo25_0 rfl) rfl ?_
    refine WD.y 1 rfl (by kernel_rfl) (fun wd104 O103 hst105 => have hf106 := hf29.st hst99 rfl; have hf107 := hf106.st hst105 rfl; Y.loadSc ty3 rfl rfl (hf107.cell 0 _ rfl)) rfl ?_
    refine WD.y 2 rfl (by kernel_rfl) (fun _ _ _ => Y.move rfl) rfl ?_
    refine WD.y 3 rfl (by kernel_rfl) (fun _ _ _ => Y.add_i rfl rfl) rfl ?_
    refine WD.y 4 rfl (by kernel_rfl) (fun _ _ _ => Y.fieldAddr fo25_1 rfl) rfl ?_
    refine WD.y 5 rfl (by kernel_rfl) (fun wd118 O117 hst119 => have hf120 := hf29.st hst99 rfl; have hf121 := hf120.st hst119 rfl; Y.loadSc ty23 rfl rfl (hf121.cell 1 _ rfl)) rfl ?_
    refine WD.y 6 rfl (by kernel_rfl) (fun _ _ _ => Y.move rfl) rfl ?_
    refine WD.y 7 rfl (by kernel_rfl) (fun _ _ _ => Y.move rfl) rfl ?_
    obtain ⟨t128, ht128, h⟩ := bnd h
    have hf131 := hf32.mono (imm_st hst99 rfl rfl)
    obtain ⟨v129, hY132, hf130⟩ := Sl.slice (ρ := [(44, (Value.slice p12 m13 c14)), (45, vi from34), (46, vi to63)]) (x := (.tmp 44)) (lo := (some (.tmp 45))) (hi := (some (.tmp 46))) ty23 ty22 rfl rfl rfl hf131 ht128
    refine WD.y 8 rfl (by kernel_rfl) (fun _ _ _ => Y.sub (.cons rfl (.cons rfl (.cons rfl .nil))) (hY132 _ _)) rfl ?_
    refine WD.heavy 9 rfl (by kernel_rfl) ?_
    obtain ⟨r136, hp137, h⟩ := bnd h
    refine WL.call (vals := [v129]) kok65 rfl rfl (c_slices_Clone_uint64_uint64 (A := fun _ => True) (Sl.all hf130) hp137) ?_
    rintro vr142 wd141 ⟨_, rfl, hm140, f139⟩
    obtain ⟨O143, hold144, hnew145, hst146⟩ := adoptE O23 (fun k => if Value.ownBlock vr142 = some k then 13 else 1) hm140
    have hf147 : OwnSl 13 Rep.u 22 O143 wd141 vr142 r136 := RowF.adopt 13 Flat.u f139 hnew145 (fun k hk => if_pos hk)
    refine WL.nil ?_
    refine At.dq (Stp.up hst146 rfl) ?_
    have hh151 := h
    obtain ⟨p148, m149, c150, rfl⟩ := hf147.shape
    have h := hh151
    refine WD.y 10 rfl (by kernel_rfl) (fun _ _ _ => Y.build (vals := [(0, vi (w64 (a0.Offset + from34))), (1, (Value.slice p148 m149 c150))]) (cells := [vi (w64 (a0.Offset + from34)), (Value.slice p148 m149 c150)]) (Fits.evalp rfl) (by kernel_rfl)) rfl ?_
    refine WD.phase [12] [0, 1, 2, 3, 4, 5, 6, 7, 8, 9, 10, 11] (by kernel_rfl) (by kernel_rfl) ?_
    refine WD.heavy 11 rfl (by kernel_rfl) ?_
    have hf155 := hb21.st hst27 rfl
    have hf156 := hf155.st hst99 rfl
    have hf157 := hf156.st hst146 rfl
    refine WL.store (v := Value.agg (List.toArray [vi (w64 (a0.Offset + from34)), (Value.slice p148 m149 c150)])) (cells' := [vi (w64 (a0.Offset + from34)), (Value.slice p148 m149 c150)]) ty25 rfl rfl hf157 rfl (Nat.le_of_ble_eq_true rfl) rfl rfl ?_
    intro wd158 hst159 hb160
    refine WL.nil ?_
    refine At.dq (Stp.up hst159 rfl) ?_
    refine WD.done_ (by kernel_rfl) ?_
    refine At.then ?_
    refine WC.ret ?_
    obtain rfl := some1 h
    have hs161 : Stp [12] (Lg.O0 A) w O143 wd158 := (Stp.trans (Stp.up hst20 rfl) (Stp.trans (Stp.up hst25 rfl) (Stp.trans (Stp.up hst27 rfl) (Stp.trans (Stp.up hst99 rfl) (Stp.trans (Stp.up hst146 rfl) (Stp.up hst159 rfl))))))
    have hf162 := hf147.st hst159 rfl rfl rfl
    exact At.res (.inl rfl) rfl (.cell rfl (hb160.runAg 0 [vi (w64 (a0.Offset + from34)), (Value.slice p148 m149 c150)] ty25 rfl rfl rfl) .nil) ⟨(Value.slice p148 m149 c150), rfl, (Stp.ext hs161 rfl rfl), (OwnSl.outF hf162 hs161 low0 rfl)⟩
theorem c_fold_left {A : Nat → Prop} {v0_1 : Value} {a0 : api_Side} {v1_1 : Value} {a1 : api_Side} {w : World} (hs0_1 : Sl Rep.u w A v0_1 a0.Counts) (hs1_1 : Sl Rep.u w A v1_1 a1.Counts) {r0 : api_Side} {r1 : Bool} (h : fold_left a0 a1 = some (r0, r1)) : Rets Try.prog 73 [Value.agg (List.toArray [vi a0.Offset, v0_1]), Value.agg (List.toArray [vi a1.Offset, v1_1])] w (fun v w' => ∃ (u0_1 : Value), v = Value.tuple (List.toArray [Value.agg (List.toArray [vi r0.Offset, u0_1]), Value.bool r1]) ∧ Ext w w' ∧ RowF Rep.u 22 w w' u0_1 r0.Counts) := by
 unfold fold_left at h
 refine Rets.enter Try.func73 rfl rfl ?_
 have hf11 : Sl Rep.u w (imm (Lg.O0 A)) v0_1 a0.Counts := (Sl.start hs0_1)
 have hf12 : Sl Rep.u w (imm (Lg.O0 A)) v1_1 a1.Counts := (Sl.start hs1_1)
 refine (show WC _ _ _ _ [(0, Value.agg (List.toArray [vi a0.Offset, v0_1])), (1, Value.agg (List.toArray [vi a1.Offset, v1_1]))] _ from ?_)
 refine WC.seq ?_
 refine WC.region ?_
 have hh16 := h
 obtain ⟨p13, m14, c15, rfl⟩ := hf11.shape
 have h := hh16
 refine WL.box (O := (Lg.O0 A)) 11 [vi a0.Offset, (Value.slice p13 m14 c15)] rfl rfl rfl ?_
 intro p18 O19 wd20 hst21 hb17
 have hf22 := hf12.mono (imm_st hst21 rfl rfl)
 have hh26 := h
 obtain ⟨p23, m24, c25, rfl⟩ := hf22.shape
 have h := hh26
 refine WL.box (O := O19) 12 [vi a1.Offset, (Value.slice p23 m24 c25)] rfl rfl rfl ?_
 intro p28 O29 wd30 hst31 hb27
 refine WL.alloc (O := O29) 13 [vi 0, Value.slice none 0 0] ty25 rfl rfl ?_
 intro p33 O34 wd35 hst36 hb32
 refine WL.y (Y.assign rfl) rfl ?_
 refine WL.nil ?_
 refine At.then ?_
 refine WC.seq ?_
 refine WC.seq ?_
 refine WC.region ?_
 refine WL.y (Y.fieldAddr fo25_1 rfl) rfl ?_
 have hf37 := hb27.st hst36 rfl
 refine WL.y (Y.loadSc ty23 rfl rfl (hf37.cell 1 _ rfl)) rfl ?_
 have hf38 := hf22.mono (imm_st hst31 rfl rfl)
 have hf39 := hf38.mono (imm_st hst36 rfl rfl)
 refine WL.y (Y.len ty23 rfl hf39) rfl ?_
 refine WL.y (Y.move rfl) rfl ?_
 refine WL.nil ?_
 refine At.then ?_
 obtain ⟨p43, h, hk44⟩ := flow1 h
 refine WC.join (σ := Own) (fun x w' => p43 = .go () ∧ Stp [] O34 wd35 x w') (fun x => [(2, Value.pointer (some ⟨p18, 0, none⟩)), (3, Value.pointer (some ⟨p28, 0, none⟩)), (4, Value.pointer (some ⟨p33, 0, none⟩))]) ?_ ?_
 ·refine WC.block ?_
  obtain ⟨p52, h, hk54⟩ := flow1 h
  obtain ⟨k53, h⟩ := loop_some h
  refine WC.joinB 0 (σ := Own) (fun x w' => p52 = .go () ∧ Stp [] O34 wd35 x w') (fun x => [(2, Value.pointer (some ⟨p18, 0, none⟩)), (3, Value.pointer (some ⟨p28, 0, none⟩)), (4, Value.pointer (some ⟨p33, 0, none⟩))]) ?_ ?_
  ·refine WC.loop (σ := (Int × Own)) (fun x k w' => loopN k (fold_left_lp1 a0 a1) x.1 = some p52 ∧ Stp [] O34 wd35 x.2 w') (fun x => [(2, Value.pointer (some ⟨p18, 0, none⟩)), (3, Value.pointer (some ⟨p28, 0, none⟩)), (4, Value.pointer (some ⟨p33, 0, none⟩)), (12, (Value.slice p23 m24 c25)), (13, vi (a1.Counts.length : Int)), (14, vi x.1)]) (0, O34) k53 (.cons rfl (.cons rfl (.cons rfl (.cons rfl (.cons rfl (.cons rfl .nil)))))) ⟨h, (Stp.refl _ _ _)⟩ ?_
   rintro ⟨x45, O46⟩ k53 wd47 ⟨h, hst48⟩
   obtain ⟨j55, q56, rfl, h, hn57⟩ := rnd1 h
   unfold fold_left_lp1 at h
   try dsimp only at h hst48
   refine (show WC _ _ _ _ [(2, Value.pointer (some ⟨p18, 0, none⟩)), (3, Value.pointer (some ⟨p28, 0, none⟩)), (4, Value.pointer (some ⟨p33, 0, none⟩)), (12, (Value.slice p23 m24 c25)), (13, vi (a1.Counts.length : Int)), (14, vi x45)] _ from ?_)
   refine WC.seq ?_
   refine WC.region ?_
   refine WL.y (Y.lss_i rfl rfl) rfl ?_
   refine WL.nil ?_
   refine At.then ?_
   refine WC.seq ?_
   rcases cnd h with ⟨hc58, h⟩ | ⟨hc58, h⟩
   ·refine WC.condT' rfl hc58 ?_
    refine WC.skip ?_
    refine At.then ?_
    refine WC.seq ?_
    refine WC.block ?_
    refine WC.seq ?_
    refine WC.region ?_
    refine WL.y (Y.move rfl) rfl ?_
    obtain ⟨e59, he59, h⟩ := bnd h
    have hf68 := hf39.mono (imm_st hst48 rfl rfl)
    obtain ⟨b60, off69, cap67, cs66, hv61, hi62, hl63, hc64, hok65, hA70⟩ := Sl.at2 hf68 he59
    obtain rfl := hok65
    replace hc64 : CellsAt _ _ _ [vu e59] := hc64
    have hca71 := CAt.imm hc64 hA70
    refine WL.y (Y.indexAddr ty23 ty22 rfl hv61 rfl hi62 hl63) rfl ?_
    refine WL.y (Y.loadSc ty22 rfl rfl hca71.at_) rfl ?_
    refine WL.y (Y.assign rfl) rfl ?_
    refine WL.y (Y.assign rfl) rfl ?_
    refine WL.nil ?_
    refine At.then ?_
    refine WC.seq ?_
    refine WC.region ?_
    refine WL.y (Y.move rfl) rfl ?_
    have hf72 := hb17.st hst31 rfl
    have hf73 := hf72.st hst36 rfl
    have hf74 := hf73.st hst48 rfl
    refine WL.y (Y.loadAg ty25 rfl rfl (hf74.cells 0 [vi a0.Offset, (Value.slice p13 m14 c15)] rfl) rfl) rfl ?_
    refine WL.y (Y.fieldAddr fo25_0 rfl) rfl ?_
    have hf75 := hf37.st hst48 rfl
    refine WL.y (Y.loadSc ty3 rfl rfl (hf75.cell 0 _ rfl)) rfl ?_
    refine WL.y (Y.move rfl) rfl ?_
    refine WL.y (Y.add_i rfl rfl) rfl ?_
    have hf76 := hf11.mono (imm_st hst21 rfl rfl)
    have hf77 := hf76.mono (imm_st hst31 rfl rfl)
    have hf78 := hf77.mono (imm_st hst36 rfl rfl)
    have hf79 := hf78.mono (imm_st hst48 rfl rfl)
    obtain ⟨r80, hp81, h⟩ := bnd h
    refine WL.call (vals := [Value.agg (List.toArray [vi a0.Offset, (Value.slice p13 m14 c15)]), vi (w64 (a1.Offset + x45))]) kok23 rfl rfl (c_hist_At (A := fun _ => True) (a0 := a0) (Sl.all hf79) hp81) ?_
    rintro vr84 wd83 ⟨rfl, hm82⟩
    obtain ⟨O85, hold86, hnew87, hst88⟩ := adoptE O46 (fun k => 1) hm82
    refine WL.y (Y.gtr_u rfl rfl) rfl ?_
    refine WL.nil ?_
    refine At.then ?_
    rcases cnd h with ⟨hc89, h⟩ | ⟨hc89, h⟩
    ·refine WC.condT' rfl hc89 ?_
     refine WC.seq ?_
     refine WC.region ?_
     refine WL.y (Y.build (vals := []) (cells := [vi 0, Value.slice none 0 0]) (Fits.evalp rfl) (by kernel_rfl)) rfl ?_
     have hf90 := hb32.st hst48 rfl
     have hf91 := hf90.st hst88 rfl
     refine WL.store (v := Value.agg (List.toArray [vi 0, Value.slice none 0 0])) (cells' := [vi 0, Value.slice none 0 0]) ty25 rfl rfl hf91 rfl (Nat.le_of_ble_eq_true rfl) rfl rfl ?_
     intro wd92 hst93 hb94
     refine WL.y (Y.assign rfl) rfl ?_
     refine WL.nil ?_
     refine At.then ?_
     refine WC.ret ?_
     refine At.inBlockR ?_
     refine At.thenR ?_
     refine At.loopR ?_
     have h := outr1 h hn57 hk54
     refine At.joinBR ?_
     refine At.inBlockR ?_
     have h := outs1 h hk44
     refine At.joinR ?_
     refine At.thenR ?_
     obtain ⟨rfl, rfl⟩ := tup2 h
     have hs95 : Stp [13] (Lg.O0 A) w O85 wd92 := (Stp.trans (Stp.up hst21 rfl) (Stp.trans (Stp.up hst31 rfl) (Stp.trans (Stp.up hst36 rfl) (Stp.trans (Stp.up hst48 rfl) (Stp.trans (Stp.up hst88 rfl) (Stp.up hst93 rfl))))))
     exact At.res (.inl rfl) rfl (.cell rfl (hb94.runAg 0 [vi 0, Value.slice none 0 0] ty25 rfl rfl rfl) (.tmp rfl .nil)) ⟨Value.slice none 0 0, rfl, (Stp.ext hs95 rfl rfl), RowF.nil⟩
    ·refine WC.condF' rfl hc89 ?_
     refine WC.skip ?_
     refine At.inBlock ?_
     refine At.then ?_
     refine WC.region ?_
     refine WL.y (Y.add_i rfl rfl) rfl ?_
     refine WL.y (Y.move rfl) rfl ?_
     refine WL.nil ?_
     exact At.round (w64 (x45 + 1), O85) j55 (Nat.lt_succ_self _) ⟨next1 h hn57, (Stp.trans (Stp.up hst48 rfl) (Stp.up hst88 rfl))⟩ (.cons rfl (.cons rfl (.cons rfl (.cons rfl (.cons rfl (.cons rfl .nil))))))
   ·refine WC.condF' rfl hc58 ?_
    refine WC.exit ?_
    refine At.thenX ?_
    refine At.loopX ?_
    exact At.hitB (σ := Own) O46 ⟨brk1 h hn57, (Stp.up hst48 rfl)⟩ (.cons rfl (.cons rfl (.cons rfl .nil)))
  ·rintro O49 wd50 ⟨rfl, hst51⟩
   replace h := flowK_go hk54
   refine (show At _ _ _ [(2, Value.pointer (some ⟨p18, 0, none⟩)), (3, Value.pointer (some ⟨p28, 0, none⟩)), (4, Value.pointer (some ⟨p33, 0, none⟩))] _ from ?_)
   refine At.inBlockHit ?_
   exact At.join (σ := Own) O49 ⟨go2 h, (Stp.up hst51 rfl)⟩ (.cons rfl (.cons rfl (.cons rfl .nil)))
 ·rintro O40 wd41 ⟨rfl, hst42⟩
  replace h := flowK_go hk44
  refine (show At _ _ _ [(2, Value.pointer (some ⟨p18, 0, none⟩)), (3, Value.pointer (some ⟨p28, 0, none⟩)), (4, Value.pointer (some ⟨p33, 0, none⟩))] _ from ?_)
  refine At.then ?_
  refine WC.seq ?_
  refine WC.region ?_
  refine WL.y (Y.fieldAddr fo25_0 rfl) rfl ?_
  have hf96 := hb17.st hst31 rfl
  have hf97 := hf96.st hst36 rfl
  have hf98 := hf97.st hst42 rfl
  refine WL.y (Y.loadSc ty3 rfl rfl (hf98.cell 0 _ rfl)) rfl ?_
  refine WL.y (Y.build (vals := [(0, vi a0.Offset)]) (cells := [vi a0.Offset, Value.slice none 0 0]) (Fits.evalp rfl) (by kernel_rfl)) rfl ?_
  refine WL.alloc (O := O40) 14 [vi 0, Value.slice none 0 0] ty25 rfl rfl ?_
  intro p100 O101 wd102 hst103 hb99
  refine WL.store (v := Value.agg (List.toArray [vi a0.Offset, Value.slice none 0 0])) (cells' := [vi a0.Offset, Value.slice none 0 0]) ty25 rfl rfl hb99 rfl (Nat.le_of_ble_eq_true rfl) rfl rfl ?_
  intro wd104 hst105 hb106
  refine WL.nil ?_
  refine At.then ?_
  refine WC.seq ?_
  refine WC.seq ?_
  refine WC.region ?_
  refine WL.y (Y.fieldAddr fo25_1 rfl) rfl ?_
  have hf107 := hf98.st hst103 rfl
  have hf108 := hf107.st hst105 rfl
  refine WL.y (Y.loadSc ty23 rfl rfl (hf108.cell 1 _ rfl)) rfl ?_
  have hf109 := hf11.mono (imm_st hst21 rfl rfl)
  have hf110 := hf109.mono (imm_st hst31 rfl rfl)
  have hf111 := hf110.mono (imm_st hst36 rfl rfl)
  have hf112 := hf111.mono (imm_st hst42 rfl rfl)
  have hf113 := hf112.mono (imm_st hst103 rfl rfl)
  have hf114 := hf113.mono (imm_st hst105 rfl rfl)
  refine WL.y (Y.len ty23 rfl hf114) rfl ?_
  refine WL.y (Y.move rfl) rfl ?_
  refine WL.nil ?_
  refine At.then ?_
  obtain ⟨p122, h, hk123⟩ := bnd h
  refine WC.join (σ := (List UInt64 × Own × Value)) (fun x w' => x.1 = p122 ∧ Stp [14, 16, 1001, 1002] O101 wd104 x.2.1 w' ∧ OwnSl 1004 Rep.u 22 x.2.1 w' x.2.2 x.1 ∧ Blk 14 x.2.1 w' p100 25 [vi a0.Offset, x.2.2]) (fun x => [(4, Value.pointer (some ⟨p33, 0, none⟩)), (8, Value.pointer (some ⟨p100, 0, none⟩))]) ?_ ?_
  ·refine WC.block ?_
   obtain ⟨p139, h, hk141⟩ := flow1 h
   obtain ⟨k140, h⟩ := loop_some h
   refine WC.joinB 2 (σ := (List UInt64 × Own × Value)) (fun x w' => p139 = .go x.1 ∧ Stp [14, 16, 1001] O101 wd104 x.2.1 w' ∧ OwnSl 1002 Rep.u 22 x.2.1 w' x.2.2 x.1 ∧ Blk 14 x.2.1 w' p100 25 [vi a0.Offset, x.2.2]) (fun x => [(4, Value.pointer (some ⟨p33, 0, none⟩)), (8, Value.pointer (some ⟨p100, 0, none⟩))]) ?_ ?_
   ·refine WC.loop (σ := (List UInt64 × Int × Own × Value)) (fun x k w' => loopN k (fold_left_lp2 a0 a1) (x.1, x.2.1) = some p139 ∧ Stp [14, 16, 1001] O101 wd104 x.2.2.1 w' ∧ OwnSl 1001 Rep.u 22 x.2.2.1 w' x.2.2.2 x.1 ∧ Blk 14 x.2.2.1 w' p100 25 [vi a0.Offset, x.2.2.2]) (fun x => [(2, Value.pointer (some ⟨p18, 0, none⟩)), (3, Value.pointer (some ⟨p28, 0, none⟩)), (4, Value.pointer (some ⟨p33, 0, none⟩)), (8, Value.pointer (some ⟨p100, 0, none⟩)), (33, (Value.slice p13 m14 c15)), (34, vi (a0.Counts.length : Int)), (35, vi x.2.1)]) ([], 0, O101, Value.slice none 0 0) k140 (.cons rfl (.cons rfl (.cons rfl (.cons rfl (.cons rfl (.cons rfl (.cons rfl .nil))))))) ⟨h, (Stp.refl _ _ _), (OwnSl.nil 1001 Rep.u 22), hb106⟩ ?_
    rintro ⟨c125, x128, O129, v126⟩ k140 wd130 ⟨h, hst131, hf127, hb124⟩
    obtain ⟨j142, q143, rfl, h, hn144⟩ := rnd1 h
    unfold fold_left_lp2 at h
    try dsimp only at h hst131 hf127 hb124
    refine (show WC _ _ _ _ [(2, Value.pointer (some ⟨p18, 0, none⟩)), (3, Value.pointer (some ⟨p28, 0, none⟩)), (4, Value.pointer (some ⟨p33, 0, none⟩)), (8, Value.pointer (some ⟨p100, 0, none⟩)), (33, (Value.slice p13 m14 c15)), (34, vi (a0.Counts.length : Int)), (35, vi x128)] _ from ?_)
    refine WC.seq ?_
    refine WC.region ?_
    refine WL.y (Y.lss_i rfl rfl) rfl ?_
    refine WL.nil ?_
    refine At.then ?_
    refine WC.seq ?_
    rcases cnd h with ⟨hc145, h⟩ | ⟨hc145, h⟩
    ·refine WC.condT' rfl hc145 ?_
     refine WC.skip ?_
     refine At.then ?_
     refine WC.seq ?_
     refine WC.block ?_
     refine WC.seq ?_
     refine WC.region ?_
     refine WL.y (Y.move rfl) rfl ?_
     obtain ⟨e146, he146, h⟩ := bnd h
     have hf155 := hf114.mono (imm_st hst131 rfl rfl)
     obtain ⟨b147, off156, cap154, cs153, hv148, hi149, hl150, hc151, hok152, hA157⟩ := Sl.at2 hf155 he146
     obtain rfl := hok152
     replace hc151 : CellsAt _ _ _ [vu e146] := hc151
     have hca158 := CAt.imm hc151 hA157
     refine WL.y (Y.indexAddr ty23 ty22 rfl hv148 rfl hi149 hl150) rfl ?_
     refine WL.y (Y.loadSc ty22 rfl rfl hca158.at_) rfl ?_
     refine WL.y (Y.assign rfl) rfl ?_
     refine WL.y (Y.assign rfl) rfl ?_
     refine WL.nil ?_
     refine At.then ?_
     refine WC.drawH [1001] [0, 1, 2, 3, 4, 5, 6, 7, 8, 9, 10, 11, 12] O129 14 fmix rfl (by kernel_rfl) ?_
     intro wd159 hst160
     refine WD.y 0 rfl (by kernel_rfl) (fun _ _ _ => Y.fieldAddr fo25_1 rfl) rfl ?_
     refine WD.y 1 rfl (by kernel_rfl) (fun wd165 O164 hst166 => have hf167 := hb124.st hst160 rfl; have hf168 := hf167.st hst166 rfl; Y.loadSc ty23 rfl rfl (hf168.cell 1 _ rfl)) rfl ?_
     refine WD.y 2 rfl (by kernel_rfl) (fun _ _ _ => Y.move rfl) rfl ?_
     refine WD.y 3 rfl (by kernel_rfl) (fun wd173 O172 hst174 => have hf175 := hf37.st hst42 rfl; have hf176 := hf175.st hst103 rfl; have hf177 := hf176.st hst105 rfl; have hf178 := hf177.st hst131 rfl; have hf179 := hf178.st hst160 rfl; have hf180 := hf179.st hst174 rfl; Y.loadAg ty25 rfl rfl (hf180.cells 0 [vi a1.Offset, (Value.slice p23 m24 c25)] rfl) rfl) rfl ?_
     refine WD.y 4 rfl (by kernel_rfl) (fun _ _ _ => Y.fieldAddr fo25_0 rfl) rfl ?_
     refine WD.y 5 rfl (by kernel_rfl) (fun wd185 O184 hst186 => have hf187 := hf108.st hst131 rfl; have hf188 := hf187.st hst160 rfl; have hf189 := hf188.st hst186 rfl; Y.loadSc ty3 rfl rfl (hf189.cell 0 _ rfl)) rfl ?_
     refine WD.y 6 rfl (by kernel_rfl) (fun _ _ _ => Y.move rfl) rfl ?_
     refine WD.y 7 rfl (by kernel_rfl) (fun _ _ _ => Y.add_i rfl rfl) rfl ?_
     refine WD.heavy 8 rfl (by kernel_rfl) ?_
     have hf196 := hf39.mono (imm_st hst42 rfl rfl)
     have hf197 := hf196.mono (imm_st hst103 rfl rfl)
     have hf198 := hf197.mono (imm_st hst105 rfl rfl)
     have hf199 := hf198.mono (imm_st hst131 rfl rfl)
     have hf200 := hf199.mono (imm_st hst160 rfl rfl)
     obtain ⟨r201, hp202, h⟩ := bnd h
     refine WL.call (vals := [Value.agg (List.toArray [vi a1.Offset, (Value.slice p23 m24 c25)]), vi (w64 (a0.Offset + x128))]) kok23 rfl rfl (c_hist_At (A := fun _ => True) (a0 := a1) (Sl.all hf200) hp202) ?_
     rintro vr205 wd204 ⟨rfl, hm203⟩
     obtain ⟨O206, hold207, hnew208, hst209⟩ := adoptE O129 (fun k => 1) hm203
     refine WL.nil ?_
     refine At.dq (Stp.up hst209 rfl) ?_
     refine WD.y 9 rfl (by kernel_rfl) (fun _ _ _ => Y.sub_u rfl rfl) rfl ?_
     refine WD.heavy 10 rfl (by kernel_rfl) ?_
     refine WL.buildSlice (O := O206) (R := Rep.u) (vals := [(0, vu (e146 - r201))]) 15 [vu (e146 - r201)] (xs := [(e146 - r201)]) (by decide) ty23 ty22 (by decide) (by decide) (Fits.evalp rfl) (by kernel_rfl) rfl ⟨[vu (e146 - r201)], [], rfl, rfl, rfl⟩ rfl ?_
     intro v213 O215 wd216 hst217 ho214
     refine WL.nil ?_
     refine At.dq (Stp.up hst217 rfl) ?_
     refine WD.heavy 11 rfl (by kernel_rfl) ?_
     obtain ⟨xs218, hxs218, h⟩ := bnd h
     have hf219 := hf127.st hst160 rfl rfl rfl
     have hf220 := hf219.st hst209 rfl rfl rfl
     have hf221 := hf220.st hst217 rfl rfl rfl
     refine WL.append (by decide) ty23 ty22 rfl (by decide) rfl rfl hf221 ho214.src hxs218 rfl ?_
     intro v225 O222 wd223 hst224 ho226
     refine WL.nil ?_
     refine At.dq (Stp.up hst224 rfl) ?_
     refine WD.y 12 rfl (by kernel_rfl) (fun _ _ _ => Y.fieldAddr fo25_1 rfl) rfl ?_
     refine WD.phase [14] [0, 1, 2, 3, 4, 5, 6, 7, 8, 9, 10, 11, 12, 13] (by kernel_rfl) (by kernel_rfl) ?_
     refine WD.heavy 13 rfl (by kernel_rfl) ?_
     have hh233 := h
     obtain ⟨p230, m231, c232, rfl⟩ := ho226.shape
     have h := hh233
     have hf234 := hb124.st hst160 rfl
     have hf235 := hf234.st hst209 rfl
     have hf236 := hf235.st hst217 rfl
     have hf237 := hf236.st hst224 rfl
     refine WL.store (v := (Value.slice p230 m231 c232)) (cells' := [vi a0.Offset, (Value.slice p230 m231 c232)]) ty23 rfl rfl hf237 rfl (Nat.le_of_ble_eq_true rfl) rfl rfl ?_
     intro wd238 hst239 hb240
     refine WL.nil ?_
     refine At.dq (Stp.up hst239 rfl) ?_
     refine WD.done_ (by kernel_rfl) ?_
     refine At.inBlock ?_
     refine At.then ?_
     refine WC.region ?_
     refine WL.y (Y.add_i rfl rfl) rfl ?_
     refine WL.y (Y.move rfl) rfl ?_
     refine WL.nil ?_
     have hf241 := ho226.st hst239 rfl rfl rfl
     exact At.round (xs218, w64 (x128 + 1), O222, (Value.slice p230 m231 c232)) j142 (Nat.lt_succ_self _) ⟨next1 h hn144, (Stp.trans (Stp.up hst131 rfl) (Stp.trans (Stp.up hst160 rfl) (Stp.trans (Stp.up hst209 rfl) (Stp.trans (Stp.up hst217 rfl) (Stp.trans (Stp.up hst224 rfl) (Stp.up hst239 rfl)))))), hf241, hb240⟩ (.cons rfl (.cons rfl (.cons rfl (.cons rfl (.cons rfl (.cons rfl (.cons rfl .nil)))))))
    ·refine WC.condF' rfl hc145 ?_
     refine WC.exit ?_
     refine At.thenX ?_
     refine At.loopX ?_
     obtain ⟨O242, hst243, ho244⟩ := OwnSl.rlb 1002 rfl hf127
     have hf245 := hb124.st hst243 rfl
     exact At.hitB (σ := (List UInt64 × Own × Value)) (c125, O242, v126) ⟨brk1 h hn144, (Stp.trans (Stp.up hst131 rfl) (Stp.up hst243 rfl)), ho244, hf245⟩ (.cons rfl (.cons rfl .nil))
   ·rintro ⟨c133, O136, v134⟩ wd137 ⟨rfl, hst138, hf135, hb132⟩
    replace h := flowK_go hk141
    try dsimp only at h hst138 hf135 hb132
    refine (show At _ _ _ [(4, Value.pointer (some ⟨p33, 0, none⟩)), (8, Value.pointer (some ⟨p100, 0, none⟩))] _ from ?_)
    refine At.inBlockHit ?_
    obtain ⟨O246, hst247, ho248⟩ := OwnSl.rlb 1004 rfl hf135
    have hf249 := hb132.st hst247 rfl
    exact At.join (σ := (List UInt64 × Own × Value)) (c133, O246, v134) ⟨some1 h, (Stp.trans (Stp.up hst138 rfl) (Stp.up hst247 rfl)), ho248, hf249⟩ (.cons rfl (.cons rfl .nil))
  ·rintro ⟨c116, O119, v117⟩ wd120 ⟨rfl, hst121, hf118, hb115⟩
   replace h := hk123
   try dsimp only at h hst121 hf118 hb115
   refine (show At _ _ _ [(4, Value.pointer (some ⟨p33, 0, none⟩)), (8, Value.pointer (some ⟨p100, 0, none⟩))] _ from ?_)
   refine At.then ?_
   refine WC.seq ?_
   refine WC.region ?_
   refine WL.y (Y.loadAg ty25 rfl rfl (hb115.cells 0 [vi a0.Offset, v117] rfl) rfl) rfl ?_
   obtain ⟨r250, hp251, h⟩ := bnd h
   refine WL.call (vals := [Value.agg (List.toArray [vi a0.Offset, v117])]) kok28 rfl rfl (c_hist_Trim (A := fun _ => True) (a0 := (api_Side.mk a0.Offset c116)) (hf118.src.sl) hp251) ?_
   rintro vr256 wd255 ⟨u252, rfl, hm254, f253⟩
   obtain ⟨O257, hold258, hnew259, hst260⟩ := adoptE O119 (fun k => if Value.ownBlock u252 = some k then 16 else 1) hm254
   have hf261 : OwnSl 16 Rep.u 22 O257 wd255 u252 r250.Counts := RowF.adopt 16 Flat.u f253 hnew259 (fun k hk => if_pos hk)
   have hh265 := h
   obtain ⟨p262, m263, c264, rfl⟩ := hf261.shape
   have h := hh265
   have hf266 := hb32.st hst42 rfl
   have hf267 := hf266.st hst103 rfl
   have hf268 := hf267.st hst105 rfl
   have hf269 := hf268.st hst121 rfl
   have hf270 := hf269.st hst260 rfl
   refine WL.store (v := Value.agg (List.toArray [vi r250.Offset, (Value.slice p262 m263 c264)])) (cells' := [vi r250.Offset, (Value.slice p262 m263 c264)]) ty25 rfl rfl hf270 rfl (Nat.le_of_ble_eq_true rfl) rfl rfl ?_
   intro wd271 hst272 hb273
   refine WL.y (Y.assign rfl) rfl ?_
   refine WL.nil ?_
   refine At.then ?_
   refine WC.ret ?_
   obtain ⟨rfl, rfl⟩ := tup2 h
   have hs274 : Stp [13, 14, 16, 1001, 1002] (Lg.O0 A) w O257 wd271 := (Stp.trans (Stp.up hst21 rfl) (Stp.trans (Stp.up hst31 rfl) (Stp.trans (Stp.up hst36 rfl) (Stp.trans (Stp.up hst42 rfl) (Stp.trans (Stp.up hst103 rfl) (Stp.trans (Stp.up hst105 rfl) (Stp.trans (Stp.up hst121 rfl) (Stp.trans (Stp.up hst260 rfl) (Stp.up hst272 rfl)))))))))
   have hf275 := hf261.st hst272 rfl rfl rfl
   exact At.res (.inl rfl) rfl (.cell rfl (hb273.runAg 0 [vi r250.Offset, (Value.slice p262 m263 c264)] ty25 rfl rfl rfl) (.tmp rfl .nil)) ⟨(Value.slice p262 m263 c264), rfl, (Stp.ext hs274 rfl rfl), (OwnSl.outF hf275 hs274 low0 rfl)⟩
end Go.Lg
