/- The walks of HistDowns and of what it calls, printed by gen.py. -/
import Derived.Test.YtdpokdaeekanjaaLgHistP
import Derived.Test.YtdpokdaeekanjaaProg
set_option linter.unusedVariables false
namespace Go.Lg
open Go Go.Proofs
set_option maxRecDepth 100000
theorem fmix : Try.prog.follows .mixedOrders = true := by kernel_rfl
theorem ty3 : TyOk Try.prog 3 (.int .i64) 1 8 (.int .i64 0) := tyOk Try.underlying3 (by kernel_rfl)
theorem ty22 : TyOk Try.prog 22 (.int .u64) 1 8 (.int .u64 0) := tyOk Try.underlying22 (by kernel_rfl)
theorem ty23 : TyOk Try.prog 23 (.slice 22) 1 24 (.slice none 0 0) := tyOk Try.underlying23 (by kernel_rfl)
theorem ty25 : TyOk Try.prog 25 (.struct #[(Field.mk "Offset" 3 0 false "" "" 0), (Field.mk "Counts" 23 1 false "" "" 8)]) 2 32 (.agg #[(.int .i64 0), (.slice none 0 0)]) := tyOk Try.underlying25 (by kernel_rfl)
theorem ty27 : TyOk Try.prog 27 (.struct #[(Field.mk "Scale" 3 0 false "" "" 0), (Field.mk "Zero" 22 1 false "" "" 8), (Field.mk "Pos" 25 2 false "" "" 16), (Field.mk "Neg" 25 4 false "" "" 48)]) 6 80 (.agg #[(.int .i64 0), (.int .u64 0), (.int .i64 0), (.slice none 0 0), (.int .i64 0), (.slice none 0 0)]) := tyOk Try.underlying27 (by kernel_rfl)
theorem ty75 : TyOk Try.prog 75 (.array 2 25) 4 64 (.agg #[(.int .i64 0), (.slice none 0 0), (.int .i64 0), (.slice none 0 0)]) := tyOk Try.underlying75 (by kernel_rfl)
theorem ty82 : TyOk Try.prog 82 (.int .u64) 1 8 (.int .u64 0) := tyOk Try.underlying82 (by kernel_rfl)
theorem fo25_0 : FieldOk Try.prog 25 0 0 := fieldOk Try.underlying25 rfl rfl (by kernel_rfl)
theorem fo25_1 : FieldOk Try.prog 25 1 1 := fieldOk Try.underlying25 rfl rfl (by kernel_rfl)
theorem fo27_0 : FieldOk Try.prog 27 0 0 := fieldOk Try.underlying27 rfl rfl (by kernel_rfl)
theorem fo27_1 : FieldOk Try.prog 27 1 1 := fieldOk Try.underlying27 rfl rfl (by kernel_rfl)
theorem fo27_2 : FieldOk Try.prog 27 2 2 := fieldOk Try.underlying27 rfl rfl (by kernel_rfl)
theorem fo27_3 : FieldOk Try.prog 27 3 4 := fieldOk Try.underlying27 rfl rfl (by kernel_rfl)
theorem x64_58 : X64 Try.prog 58 := x64 Try.func58 (by kernel_rfl) rfl (by kernel_rfl) (by kernel_rfl)
theorem kok15 : CallOk Try.prog 15 := callOk Try.func15 (by kernel_rfl) rfl
theorem kok16 : CallOk Try.prog 16 := callOk Try.func16 (by kernel_rfl) rfl
theorem kok17 : CallOk Try.prog 17 := callOk Try.func17 (by kernel_rfl) rfl
theorem kok18 : CallOk Try.prog 18 := callOk Try.func18 (by kernel_rfl) rfl
theorem kok19 : CallOk Try.prog 19 := callOk Try.func19 (by kernel_rfl) rfl
theorem kok20 : CallOk Try.prog 20 := callOk Try.func20 (by kernel_rfl) rfl
theorem kok21 : CallOk Try.prog 21 := callOk Try.func21 (by kernel_rfl) rfl
theorem kok22 : CallOk Try.prog 22 := callOk Try.func22 (by kernel_rfl) rfl
theorem kok23 : CallOk Try.prog 23 := callOk Try.func23 (by kernel_rfl) rfl
theorem kok24 : CallOk Try.prog 24 := callOk Try.func24 (by kernel_rfl) rfl
theorem kok25 : CallOk Try.prog 25 := callOk Try.func25 (by kernel_rfl) rfl
theorem kok26 : CallOk Try.prog 26 := callOk Try.func26 (by kernel_rfl) rfl
theorem kok27 : CallOk Try.prog 27 := callOk Try.func27 (by kernel_rfl) rfl
theorem kok29 : CallOk Try.prog 29 := callOk Try.func29 (by kernel_rfl) rfl
theorem kok57 : CallOk Try.prog 57 := callOk Try.func57 (by kernel_rfl) rfl
theorem kok59 : CallOk Try.prog 59 := callOk Try.func59 (by kernel_rfl) rfl
theorem kok60 : CallOk Try.prog 60 := callOk Try.func60 (by kernel_rfl) rfl
theorem kok61 : CallOk Try.prog 61 := callOk Try.func61 (by kernel_rfl) rfl
theorem kok62 : CallOk Try.prog 62 := callOk Try.func62 (by kernel_rfl) rfl
theorem kok63 : CallOk Try.prog 63 := callOk Try.func63 (by kernel_rfl) rfl
theorem kok64 : CallOk Try.prog 64 := callOk Try.func64 (by kernel_rfl) rfl
theorem kok93 : CallOk Try.prog 93 := callOk Try.func93 (by kernel_rfl) rfl

theorem c_hist_sides {A : Nat → Prop} {v0_3 : Value} {v0_5 : Value} {a0 : api_Hist} {w : World} (hs0_3 : Sl Rep.u w A v0_3 a0.Pos.Counts) (hs0_5 : Sl Rep.u w A v0_5 a0.Neg.Counts) {r0 : List api_Side} (h : hist_sides a0 = some r0) : Rets Try.prog 57 [.agg [vi a0.Scale, vu a0.Zero, vi a0.Pos.Offset, v0_3, vi a0.Neg.Offset, v0_5].toArray] w (fun v w' => ∃ (cs0 : List Value), v = .agg (List.toArray cs0) ∧ Ext w w' ∧ Rows' rep_api_Side w' (fun k => A k ∨ w.heap.size ≤ k) cs0 r0 ∧ r0.length = 2) := by
  unfold hist_sides at h
  refine Rets.enter Try.func57 rfl rfl ?_
  have hf11 : Sl Rep.u w (imm (Lg.O0 A)) v0_3 a0.Pos.Counts := (Sl.start hs0_3)
  have hf12 : Sl Rep.u w (imm (Lg.O0 A)) v0_5 a0.Neg.Counts := (Sl.start hs0_5)
  refine (show WC _ _ _ _ [(0, .agg [vi a0.Scale, vu a0.Zero, vi a0.Pos.Offset, v0_3, vi a0.Neg.Offset, v0_5].toArray)] _ from ?_)
  refine WC.seq ?_
  refine WC.region ?_
  have hh16 := h
  obtain ⟨p13, m14, c15, rfl⟩ := hf11.shape
  have h := hh16
  have hh20 := h
  obtain ⟨p17, m18, c19, rfl⟩ := hf12.shape
  have h := hh20
  refine WL.box (O := (Lg.O0 A)) 11 [vi a0.Scale, vu a0.Zero, vi a0.Pos.Offset, (.slice p13 m14 c15), vi a0.Neg.Offset, (.slice p17 m18 c19)] rfl rfl rfl ?_
  intro p22 O23 wd24 hst25 hb21
  refine WL.alloc (O := O23) 12 [vi 0, .slice none 0 0, vi 0, .slice none 0 0] ty75 rfl rfl ?_
  intro p27 O28 wd29 hst30 hb26
  refine WL.nil ?_
  refine At.then ?_
  refine WC.seq ?_
  refine WC.region ?_
  refine WL.y (Y.fieldAddr fo27_2 rfl) rfl ?_
  have hf31 := hb21.st hst30 rfl
  refine WL.y (Y.loadAg ty25 rfl rfl (hf31.cells 2 [vi a0.Pos.Offset, (.slice p13 m14 c15)] rfl) rfl) rfl ?_
  refine WL.y (Y.fieldAddr fo27_3 rfl) rfl ?_
  refine WL.y (Y.loadAg ty25 rfl rfl (hf31.cells 4 [vi a0.Neg.Offset, (.slice p17 m18 c19)] rfl) rfl) rfl ?_
  refine WL.y (Y.build (vals := [(0, .agg [vi a0.Pos.Offset, (.slice p13 m14 c15)].toArray), (1, .agg [vi a0.Neg.Offset, (.slice p17 m18 c19)].toArray)]) (cells := [vi a0.Pos.Offset, (.slice p13 m14 c15), vi a0.Neg.Offset, (.slice p17 m18 c19)]) (Fits.evalp rfl) (by kernel_rfl)) rfl ?_
  refine WL.store (v := .agg [vi a0.Pos.Offset, (.slice p13 m14 c15), vi a0.Neg.Offset, (.slice p17 m18 c19)].toArray) (cells' := [vi a0.Pos.Offset, (.slice p13 m14 c15), vi a0.Neg.Offset, (.slice p17 m18 c19)]) ty75 rfl rfl hb26 rfl (Nat.le_of_ble_eq_true rfl) rfl rfl ?_
  intro wd32 hst33 hb34
  refine WL.nil ?_
  refine At.then ?_
  refine WC.ret ?_
  obtain rfl := some1 h
  have hs35 : Stp [12] (Lg.O0 A) w O28 wd32 := (Stp.trans (Stp.up hst25 rfl) (Stp.trans (Stp.up hst30 rfl) (Stp.up hst33 rfl)))
  have hf36 := hf11.mono (imm_st hst25 rfl rfl)
  have hf37 := hf36.mono (imm_st hst30 rfl rfl)
  have hf38 := hf37.mono (imm_st hst33 rfl rfl)
  have hf39 := hf12.mono (imm_st hst25 rfl rfl)
  have hf40 := hf39.mono (imm_st hst30 rfl rfl)
  have hf41 := hf40.mono (imm_st hst33 rfl rfl)
  exact At.res (.inl rfl) rfl (.cell rfl (hb34.runAg 0 [vi a0.Pos.Offset, (.slice p13 m14 c15), vi a0.Neg.Offset, (.slice p17 m18 c19)] ty75 rfl rfl rfl) .nil) ⟨[vi a0.Pos.Offset, (.slice p13 m14 c15), vi a0.Neg.Offset, (.slice p17 m18 c19)], rfl, (Stp.ext hs35 rfl rfl), (Rows'.outI (O' := O28) (R := rep_api_Side) ⟨[vi a0.Pos.Offset, (.slice p13 m14 c15)], [vi a0.Neg.Offset, (.slice p17 m18 c19)], rfl, ⟨[vi a0.Pos.Offset], [(.slice p13 m14 c15)], rfl, rfl, ⟨_, rfl, hf38⟩⟩, ⟨[vi a0.Neg.Offset, (.slice p17 m18 c19)], [], rfl, ⟨[vi a0.Neg.Offset], [(.slice p17 m18 c19)], rfl, rfl, ⟨_, rfl, hf41⟩⟩, rfl⟩⟩ hs35 low0 O0_A), rfl⟩

theorem c_hist_Total {A : Nat → Prop} {v0_3 : Value} {v0_5 : Value} {a0 : api_Hist} {w : World} (hs0_3 : Sl Rep.u w A v0_3 a0.Pos.Counts) (hs0_5 : Sl Rep.u w A v0_5 a0.Neg.Counts) {r0 : UInt64} {r1 : Bool} (h : hist_Total a0 = some (r0, r1)) : Rets Try.prog 17 [.agg [vi a0.Scale, vu a0.Zero, vi a0.Pos.Offset, v0_3, vi a0.Neg.Offset, v0_5].toArray] w (fun v w' => v = .tuple (List.toArray [vu r0, .bool r1]) ∧ Ext w w') := by
  unfold hist_Total at h
  refine Rets.enter Try.func17 rfl rfl ?_
  have hf11 : Sl Rep.u w (imm (Lg.O0 A)) v0_3 a0.Pos.Counts := (Sl.start hs0_3)
  have hf12 : Sl Rep.u w (imm (Lg.O0 A)) v0_5 a0.Neg.Counts := (Sl.start hs0_5)
  refine (show WC _ _ _ _ [(0, .agg [vi a0.Scale, vu a0.Zero, vi a0.Pos.Offset, v0_3, vi a0.Neg.Offset, v0_5].toArray)] _ from ?_)
  refine WC.seq ?_
  refine WC.region ?_
  have hh16 := h
  obtain ⟨p13, m14, c15, rfl⟩ := hf11.shape
  have h := hh16
  have hh20 := h
  obtain ⟨p17, m18, c19, rfl⟩ := hf12.shape
  have h := hh20
  refine WL.box (O := (Lg.O0 A)) 11 [vi a0.Scale, vu a0.Zero, vi a0.Pos.Offset, (.slice p13 m14 c15), vi a0.Neg.Offset, (.slice p17 m18 c19)] rfl rfl rfl ?_
  intro p22 O23 wd24 hst25 hb21
  refine WL.y (Y.assign (v := vu 0) rfl) rfl ?_
  refine WL.y (Y.assign rfl) rfl ?_
  refine WL.nil ?_
  refine At.then ?_
  refine WC.seq ?_
  refine WC.region ?_
  refine WL.y (Y.fieldAddr fo27_1 rfl) rfl ?_
  refine WL.y (Y.loadSc ty22 rfl rfl (hb21.cell 1 _ rfl)) rfl ?_
  refine WL.y (Y.assign rfl) rfl ?_
  refine WL.y (Y.assign (v := vu 0) rfl) rfl ?_
  refine WL.nil ?_
  refine At.then ?_
  refine WC.seq ?_
  refine WC.seq ?_
  refine WC.region ?_
  refine WL.y (Y.loadAg ty27 rfl rfl (hb21.cells 0 [vi a0.Scale, vu a0.Zero, vi a0.Pos.Offset, (.slice p13 m14 c15), vi a0.Neg.Offset, (.slice p17 m18 c19)] rfl) rfl) rfl ?_
  have hf26 := hf11.mono (imm_st hst25 rfl rfl)
  have hf27 := hf12.mono (imm_st hst25 rfl rfl)
  obtain ⟨r28, hp29, h⟩ := bnd h
  refine WL.call (vals := [.agg [vi a0.Scale, vu a0.Zero, vi a0.Pos.Offset, (.slice p13 m14 c15), vi a0.Neg.Offset, (.slice p17 m18 c19)].toArray]) kok57 rfl rfl (c_hist_sides (A := imm O23) (a0 := a0) hf26 hf27 hp29) ?_
  rintro vr35 wd34 ⟨cs30, rfl, hm33, f31, f32⟩
  obtain ⟨O36, hold37, hnew38, hst39⟩ := adoptE O23 (fun k => 1) hm33
  have hf40 := Rows'.adoptI (O := O23) f31 (fun _ hk => hk) (fun _ _ => Nat.le_refl _) hold37 hnew38
  refine WL.y (Y.move rfl) rfl ?_
  refine WL.nil ?_
  refine At.then ?_
  obtain ⟨p46, h, hk47⟩ := bnd h
  refine WC.join (σ := (UInt64 × UInt64 × Own)) (fun x w' => (x.1, x.2.1) = p46 ∧ Stp [12] O36 wd34 x.2.2 w') (fun x => [(4, vu x.1), (5, vu x.2.1)]) ?_ ?_
  · refine WC.block ?_
    obtain ⟨p59, h, hk61⟩ := flow1 h
    obtain ⟨k60, h⟩ := loop_some h
    refine WC.joinB 0 (σ := (UInt64 × UInt64 × Own)) (fun x w' => p59 = .go (x.1, x.2.1) ∧ Stp [12] O36 wd34 x.2.2 w') (fun x => [(4, vu x.1), (5, vu x.2.1)]) ?_ ?_
    · refine WC.loop (σ := (UInt64 × UInt64 × Int × Own)) (fun x k w' => loopN k (hist_Total_lp1 r28) (x.1, x.2.1, x.2.2.1) = some p59 ∧ Stp [12] O36 wd34 x.2.2.2 w') (fun x => [(4, vu x.1), (5, vu x.2.1), (14, .agg cs30.toArray), (15, vi x.2.2.1)]) (a0.Zero, 0, 0, O36) k60 (.cons rfl (.cons rfl (.cons rfl (.cons rfl .nil)))) ⟨h, (Stp.refl _ _ _)⟩ ?_
      rintro ⟨sum48, over49, x50, O51⟩ k60 wd52 ⟨h, hst53⟩
      obtain ⟨j62, q63, rfl, h, hn64⟩ := rnd1 h
      unfold hist_Total_lp1 at h
      try dsimp only at h hst53
      refine (show WC _ _ _ _ [(4, vu sum48), (5, vu over49), (14, .agg cs30.toArray), (15, vi x50)] _ from ?_)
      refine WC.seq ?_
      refine WC.region ?_
      refine WL.y (Y.lss_i rfl rfl) rfl ?_
      refine WL.nil ?_
      refine At.then ?_
      refine WC.seq ?_
      rcases cnd h with ⟨hc65, h⟩ | ⟨hc65, h⟩
      · refine WC.condT' rfl hc65 ?_
        refine WC.skip ?_
        refine At.then ?_
        refine WC.seq ?_
        refine WC.block ?_
        refine WC.seq ?_
        refine WC.region ?_
        have hf66 := Rows'.mono (imm_st hst53 rfl rfl) hf40
        obtain ⟨e67, he67, h⟩ := bnd h
        obtain ⟨cs68, hcs69, hok70⟩ := arrAt (R := rep_api_Side) (w := wd52) (A := imm O51) (cells := cs30) hf66 he67
        obtain ⟨_, _, rfl, rfl, ⟨v71, rfl, hf72⟩⟩ := hok70
        replace hcs69 : _ = [vi e67.Offset, v71] := hcs69
        refine WL.y (Y.indexArrAg ty75 ty25 rfl rfl hcs69 he67 f32) rfl ?_
        refine WL.alloc (O := O51) 12 [vi 0, .slice none 0 0] ty25 rfl rfl ?_
        intro p74 O75 wd76 hst77 hb73
        have hf78 := hf72.mono (imm_st hst77 rfl rfl)
        have hh82 := h
        obtain ⟨p79, m80, c81, rfl⟩ := hf78.shape
        have h := hh82
        refine WL.store (v := .agg [vi e67.Offset, (.slice p79 m80 c81)].toArray) (cells' := [vi e67.Offset, (.slice p79 m80 c81)]) ty25 rfl rfl hb73 rfl (Nat.le_of_ble_eq_true rfl) rfl rfl ?_
        intro wd83 hst84 hb85
        refine WL.nil ?_
        refine At.then ?_
        refine WC.seq ?_
        refine WC.region ?_
        refine WL.y (Y.fieldAddr fo25_1 rfl) rfl ?_
        refine WL.y (Y.loadSc ty23 rfl rfl (hb85.cell 1 _ rfl)) rfl ?_
        have hf86 := hf78.mono (imm_st hst84 rfl rfl)
        refine WL.y (Y.len ty23 rfl hf86) rfl ?_
        refine WL.y (Y.move rfl) rfl ?_
        refine WL.nil ?_
        refine At.then ?_
        obtain ⟨p89, h, hk90⟩ := bnd h
        refine WC.join (σ := (UInt64 × UInt64)) (fun x w' => (x.1, x.2) = p89 ∧ wd83 = w') (fun x => [(4, vu x.1), (5, vu x.2), (14, .agg cs30.toArray), (15, vi x50)]) ?_ ?_
        · refine WC.block ?_
          obtain ⟨p96, h, hk98⟩ := flow1 h
          obtain ⟨k97, h⟩ := loop_some h
          refine WC.joinB 2 (σ := (UInt64 × UInt64)) (fun x w' => p96 = .go (x.1, x.2) ∧ wd83 = w') (fun x => [(4, vu x.1), (5, vu x.2), (14, .agg cs30.toArray), (15, vi x50)]) ?_ ?_
          · refine WC.loop (σ := (UInt64 × UInt64 × Int)) (fun x k w' => loopN k (hist_Total_lp2 e67) (x.1, x.2.1, x.2.2) = some p96 ∧ wd83 = w') (fun x => [(4, vu x.1), (5, vu x.2.1), (14, .agg cs30.toArray), (15, vi x50), (19, (.slice p79 m80 c81)), (20, vi (e67.Counts.length : Int)), (21, vi x.2.2)]) (sum48, over49, 0) k97 (.cons rfl (.cons rfl (.cons rfl (.cons rfl (.cons rfl (.cons rfl (.cons rfl .nil))))))) ⟨h, rfl⟩ ?_
            rintro ⟨sum91, over92, x93⟩ k97 _ ⟨h, rfl⟩
            obtain ⟨j99, q100, rfl, h, hn101⟩ := rnd1 h
            unfold hist_Total_lp2 at h
            try dsimp only at h
            refine (show WC _ _ _ _ [(4, vu sum91), (5, vu over92), (14, .agg cs30.toArray), (15, vi x50), (19, (.slice p79 m80 c81)), (20, vi (e67.Counts.length : Int)), (21, vi x93)] _ from ?_)
            refine WC.seq ?_
            refine WC.region ?_
            refine WL.y (Y.lss_i rfl rfl) rfl ?_
            refine WL.nil ?_
            refine At.then ?_
            refine WC.seq ?_
            rcases cnd h with ⟨hc102, h⟩ | ⟨hc102, h⟩
            · refine WC.condT' rfl hc102 ?_
              refine WC.skip ?_
              refine At.then ?_
              refine WC.seq ?_
              refine WC.block ?_
              refine WC.seq ?_
              refine WC.region ?_
              obtain ⟨e103, he103, h⟩ := bnd h
              obtain ⟨b104, off112, cap111, cs110, hv105, hi106, hl107, hc108, hok109, hA113⟩ := Sl.at2 hf86 he103
              obtain rfl := hok109
              replace hc108 : CellsAt _ _ _ [vu e103] := hc108
              have hca114 := CAt.imm hc108 hA113
              refine WL.y (Y.indexAddr ty23 ty22 rfl hv105 rfl hi106 hl107) rfl ?_
              refine WL.y (Y.loadSc ty22 rfl rfl hca114.at_) rfl ?_
              refine WL.y (Y.assign rfl) rfl ?_
              refine WL.nil ?_
              refine At.then ?_
              refine WC.seq ?_
              refine WC.region ?_
              refine WL.y (Y.assign (v := vu 0) rfl) rfl ?_
              refine WL.nil ?_
              refine At.then ?_
              refine WC.seq ?_
              refine WC.region ?_
              refine WL.y (Y.move rfl) rfl ?_
              refine WL.y (Y.move rfl) rfl ?_
              refine WL.y (Y.add64 (c := 0) x64_58 (by decide) rfl rfl rfl) rfl ?_
              refine WL.y (Y.move rfl) rfl ?_
              refine WL.y (Y.extract rfl rfl) rfl ?_
              refine WL.y (Y.extract rfl rfl) rfl ?_
              obtain ⟨sum115, hsum115, h⟩ := lt1 h
              refine WL.yE (Y.assign rfl) (congrArg vu hsum115.symm) rfl ?_
              obtain ⟨carry116, hcarry116, h⟩ := lt1 h
              refine WL.yE (Y.assign rfl) (congrArg vu hcarry116.symm) rfl ?_
              refine WL.nil ?_
              refine At.then ?_
              refine WC.region ?_
              refine WL.y (Y.move rfl) rfl ?_
              refine WL.y (Y.move rfl) rfl ?_
              refine WL.y (Y.or_u rfl rfl) rfl ?_
              obtain ⟨over117, hover117, h⟩ := lt1 h
              refine WL.yE (Y.assign rfl) (congrArg vu hover117.symm) rfl ?_
              refine WL.nil ?_
              refine At.inBlock ?_
              refine At.then ?_
              refine WC.region ?_
              refine WL.y (Y.add_i rfl rfl) rfl ?_
              refine WL.y (Y.move rfl) rfl ?_
              refine WL.nil ?_
              exact At.round (sum115, over117, w64 (x93 + 1)) j99 (Nat.lt_succ_self _) ⟨next1 h hn101, rfl⟩ (.cons rfl (.cons rfl (.cons rfl (.cons rfl (.cons rfl (.cons rfl (.cons rfl .nil)))))))
            · refine WC.condF' rfl hc102 ?_
              refine WC.exit ?_
              refine At.thenX ?_
              refine At.loopX ?_
              exact At.hitB (σ := (UInt64 × UInt64)) (sum91, over92) ⟨brk1 h hn101, rfl⟩ (.cons rfl (.cons rfl (.cons rfl (.cons rfl .nil))))
          · rintro ⟨sum94, over95⟩ _ ⟨rfl, rfl⟩
            replace h := flowK_go hk98
            try dsimp only at h
            refine (show At _ _ _ [(4, vu sum94), (5, vu over95), (14, .agg cs30.toArray), (15, vi x50)] _ from ?_)
            refine At.inBlockHit ?_
            exact At.join (σ := (UInt64 × UInt64)) (sum94, over95) ⟨some1 h, rfl⟩ (.cons rfl (.cons rfl (.cons rfl (.cons rfl .nil))))
        · rintro ⟨sum87, over88⟩ _ ⟨rfl, rfl⟩
          replace h := hk90
          try dsimp only at h
          refine (show At _ _ _ [(4, vu sum87), (5, vu over88), (14, .agg cs30.toArray), (15, vi x50)] _ from ?_)
          refine At.inBlock ?_
          refine At.then ?_
          refine WC.region ?_
          refine WL.y (Y.add_i rfl rfl) rfl ?_
          refine WL.y (Y.move rfl) rfl ?_
          refine WL.nil ?_
          exact At.round (sum87, over88, w64 (x50 + 1), O75) j62 (Nat.lt_succ_self _) ⟨next1 h hn64, (Stp.trans (Stp.up hst53 rfl) (Stp.trans (Stp.up hst77 rfl) (Stp.up hst84 rfl)))⟩ (.cons rfl (.cons rfl (.cons rfl (.cons rfl .nil))))
      · refine WC.condF' rfl hc65 ?_
        refine WC.exit ?_
        refine At.thenX ?_
        refine At.loopX ?_
        exact At.hitB (σ := (UInt64 × UInt64 × Own)) (sum48, over49, O51) ⟨brk1 h hn64, (Stp.up hst53 rfl)⟩ (.cons rfl (.cons rfl .nil))
    · rintro ⟨sum54, over55, O56⟩ wd57 ⟨rfl, hst58⟩
      replace h := flowK_go hk61
      try dsimp only at h hst58
      refine (show At _ _ _ [(4, vu sum54), (5, vu over55)] _ from ?_)
      refine At.inBlockHit ?_
      exact At.join (σ := (UInt64 × UInt64 × Own)) (sum54, over55, O56) ⟨some1 h, (Stp.up hst58 rfl)⟩ (.cons rfl (.cons rfl .nil))
  · rintro ⟨sum41, over42, O43⟩ wd44 ⟨rfl, hst45⟩
    replace h := hk47
    try dsimp only at h hst45
    refine (show At _ _ _ [(4, vu sum41), (5, vu over42)] _ from ?_)
    refine At.then ?_
    refine WC.seq ?_
    refine WC.seq ?_
    refine WC.region ?_
    refine WL.y (Y.move rfl) rfl ?_
    refine WL.y (Y.neq_u (b := 0) rfl rfl) rfl ?_
    refine WL.nil ?_
    refine At.then ?_
    rcases cnd h with ⟨hc118, h⟩ | ⟨hc118, h⟩
    · refine WC.condT' rfl hc118 ?_
      refine WC.seq ?_
      refine WC.region ?_
      refine WL.y (Y.assign (v := vu 0) rfl) rfl ?_
      refine WL.y (Y.assign rfl) rfl ?_
      refine WL.nil ?_
      refine At.then ?_
      refine WC.ret ?_
      refine At.thenR ?_
      obtain ⟨rfl, rfl⟩ := tup2 h
      have hs119 : Stp [12] (Lg.O0 A) w O43 wd44 := (Stp.trans (Stp.up hst25 rfl) (Stp.trans (Stp.up hst39 rfl) (Stp.up hst45 rfl)))
      exact At.res (.inl rfl) rfl (.tmp rfl (.tmp rfl .nil)) ⟨rfl, (Stp.ext hs119 rfl rfl)⟩
    · refine WC.condF' rfl hc118 ?_
      refine WC.skip ?_
      refine At.then ?_
      refine WC.seq ?_
      refine WC.region ?_
      refine WL.y (Y.move rfl) rfl ?_
      refine WL.y (Y.assign rfl) rfl ?_
      refine WL.y (Y.assign rfl) rfl ?_
      refine WL.nil ?_
      refine At.then ?_
      refine WC.ret ?_
      obtain ⟨rfl, rfl⟩ := tup2 h
      have hs120 : Stp [12] (Lg.O0 A) w O43 wd44 := (Stp.trans (Stp.up hst25 rfl) (Stp.trans (Stp.up hst39 rfl) (Stp.up hst45 rfl)))
      exact At.res (.inl rfl) rfl (.tmp rfl (.tmp rfl .nil)) ⟨rfl, (Stp.ext hs120 rfl rfl)⟩

theorem c_hist_check {A : Nat → Prop} {v0_1 : Value} {a0 : api_Side} {w : World} (hs0_1 : Sl Rep.u w A v0_1 a0.Counts) {r0 : Int} (h : hist_check a0 = some r0) : Rets Try.prog 60 [.agg [vi a0.Offset, v0_1].toArray] w (fun v w' => v = vi r0 ∧ Ext w w') := by
  unfold hist_check at h
  refine Rets.enter Try.func60 rfl rfl ?_
  have hf11 : Sl Rep.u w (imm (Lg.O0 A)) v0_1 a0.Counts := (Sl.start hs0_1)
  refine (show WC _ _ _ _ [(0, .agg [vi a0.Offset, v0_1].toArray)] _ from ?_)
  refine WC.seq ?_
  refine WC.region ?_
  have hh15 := h
  obtain ⟨p12, m13, c14, rfl⟩ := hf11.shape
  have h := hh15
  refine WL.box (O := (Lg.O0 A)) 11 [vi a0.Offset, (.slice p12 m13 c14)] rfl rfl rfl ?_
  intro p17 O18 wd19 hst20 hb16
  refine WL.y (Y.assign rfl) rfl ?_
  refine WL.nil ?_
  refine At.then ?_
  refine WC.seq ?_
  refine WC.region ?_
  refine WL.y (Y.fieldAddr fo25_1 rfl) rfl ?_
  refine WL.y (Y.loadSc ty23 rfl rfl (hb16.cell 1 _ rfl)) rfl ?_
  have hf21 := hf11.mono (imm_st hst20 rfl rfl)
  refine WL.y (Y.len ty23 rfl hf21) rfl ?_
  obtain ⟨nv22, hnv22, h⟩ := lt1 h
  refine WL.yE (Y.assign rfl) (congrArg vi hnv22.symm) rfl ?_
  refine WL.nil ?_
  refine At.then ?_
  refine WC.seq ?_
  refine WC.block ?_
  refine WC.seq ?_
  refine WC.region ?_
  refine WL.y (Y.move rfl) rfl ?_
  refine WL.y (Y.gtr_i rfl rfl) rfl ?_
  obtain ⟨t23, ht23, h⟩ := lt1 h
  refine WL.yE (Y.assign rfl) (congrArg Value.bool ht23.symm) rfl ?_
  refine WL.nil ?_
  refine At.then ?_
  rcases cnd h with ⟨hc24, h⟩ | ⟨hc24, h⟩
  · refine WC.condT' rfl hc24 ?_
    refine WC.seq ?_
    refine WC.region ?_
    refine WL.y (Y.assign rfl) rfl ?_
    refine WL.nil ?_
    refine At.then ?_
    refine WC.ret ?_
    refine At.inBlockR ?_
    refine At.thenR ?_
    obtain rfl := some1 h
    have hs25 : Stp [] (Lg.O0 A) w O18 wd19 := (Stp.up hst20 rfl)
    exact At.res (.inl rfl) rfl (.tmp rfl .nil) ⟨rfl, (Stp.ext hs25 rfl rfl)⟩
  · refine WC.condF' rfl hc24 ?_
    refine WC.seq ?_
    refine WC.region ?_
    refine WL.y (Y.move rfl) rfl ?_
    refine WL.y (Y.eql_i rfl rfl) rfl ?_
    refine WL.y (Y.move rfl) rfl ?_
    refine WL.cut 4 (σ := Unit) (fun _ w' => wd19 = w') (fun _ => [(1, .pointer (some ⟨p17, 0, none⟩)), (3, vi nv22), (17, .bool ((decide (nv22 = 0)) && (!decide (a0.Offset = 0))))]) ?_ ?_
    · refine WL.part 13 rfl (fun hE26 => ?_) (fun hE26 => ?_)
      · refine WL.ung rfl rfl ?_
        refine WL.y (Y.fieldAddr fo25_0 rfl) rfl ?_
        refine WL.ung rfl rfl ?_
        refine WL.y (Y.loadSc ty3 rfl rfl (hb16.cell 0 _ rfl)) rfl ?_
        refine WL.ung rfl rfl ?_
        refine WL.y (Y.neq_i rfl rfl) rfl ?_
        refine WL.y (Y.pick (b := true) rfl rfl) rfl ?_
        refine WL.ren (v' := .bool ((decide (nv22 = 0)) && (!decide (a0.Offset = 0)))) 17 rfl (congrArg Value.bool (andT hE26)) ?_
        exact WL.nil (At.join () rfl (.cons rfl (.cons rfl (.cons rfl .nil))))
      · refine WL.gS rfl rfl rfl rfl ?_
        refine WL.gS rfl rfl rfl rfl ?_
        refine WL.gS rfl rfl rfl rfl ?_
        refine WL.y (Y.pick (b := false) rfl rfl) rfl ?_
        refine WL.ren (v' := .bool ((decide (nv22 = 0)) && (!decide (a0.Offset = 0)))) 17 rfl (congrArg Value.bool (andF hE26)) ?_
        exact WL.nil (At.join () rfl (.cons rfl (.cons rfl (.cons rfl .nil))))
    · rintro _ _ rfl
      refine (show WL _ _ _ _ _ [(1, .pointer (some ⟨p17, 0, none⟩)), (3, vi nv22), (17, .bool ((decide (nv22 = 0)) && (!decide (a0.Offset = 0))))] _ from ?_)
      obtain ⟨t27, ht27, h⟩ := lt1 h
      refine WL.yE (Y.assign rfl) (congrArg Value.bool ht27.symm) rfl ?_
      refine WL.nil ?_
      refine At.then ?_
      rcases cnd h with ⟨hc28, h⟩ | ⟨hc28, h⟩
      · refine WC.condT' rfl hc28 ?_
        refine WC.seq ?_
        refine WC.region ?_
        refine WL.y (Y.assign rfl) rfl ?_
        refine WL.nil ?_
        refine At.then ?_
        refine WC.ret ?_
        refine At.inBlockR ?_
        refine At.thenR ?_
        obtain rfl := some1 h
        have hs29 : Stp [] (Lg.O0 A) w O18 wd19 := (Stp.up hst20 rfl)
        exact At.res (.inl rfl) rfl (.tmp rfl .nil) ⟨rfl, (Stp.ext hs29 rfl rfl)⟩
      · refine WC.condF' rfl hc28 ?_
        refine WC.seq ?_
        refine WC.region ?_
        refine WL.y (Y.move rfl) rfl ?_
        refine WL.y (Y.eql_i rfl rfl) rfl ?_
        obtain ⟨t30, ht30, h⟩ := lt1 h
        refine WL.yE (Y.assign rfl) (congrArg Value.bool ht30.symm) rfl ?_
        refine WL.nil ?_
        refine At.then ?_
        rcases cnd h with ⟨hc31, h⟩ | ⟨hc31, h⟩
        · refine WC.condT' rfl hc31 ?_
          refine WC.seq ?_
          refine WC.region ?_
          refine WL.y (Y.assign rfl) rfl ?_
          refine WL.nil ?_
          refine At.then ?_
          refine WC.ret ?_
          refine At.inBlockR ?_
          refine At.thenR ?_
          obtain rfl := some1 h
          have hs32 : Stp [] (Lg.O0 A) w O18 wd19 := (Stp.up hst20 rfl)
          exact At.res (.inl rfl) rfl (.tmp rfl .nil) ⟨rfl, (Stp.ext hs32 rfl rfl)⟩
        · refine WC.condF' rfl hc31 ?_
          refine WC.seq ?_
          refine WC.region ?_
          refine WL.y (Y.fieldAddr fo25_1 rfl) rfl ?_
          refine WL.y (Y.loadSc ty23 rfl rfl (hb16.cell 1 _ rfl)) rfl ?_
          obtain ⟨e33, he33, h⟩ := bnd h
          obtain ⟨b34, off42, cap41, cs40, hv35, hi36, hl37, hc38, hok39, hA43⟩ := Sl.at2 hf21 he33
          obtain rfl := hok39
          replace hc38 : CellsAt _ _ _ [vu e33] := hc38
          have hca44 := CAt.imm hc38 hA43
          refine WL.y (Y.indexAddr ty23 ty22 rfl hv35 rfl hi36 hl37) rfl ?_
          refine WL.y (Y.loadSc ty22 rfl rfl hca44.at_) rfl ?_
          refine WL.y (Y.eql_u (b := 0) rfl rfl) rfl ?_
          refine WL.y (Y.move rfl) rfl ?_
          obtain ⟨p46, h, hk47⟩ := bnd h
          refine WL.cut 8 (σ := Bool) (fun x w' => x = p46 ∧ wd19 = w') (fun x => [(1, .pointer (some ⟨p17, 0, none⟩)), (3, vi nv22), (35, .bool x)]) ?_ ?_
          · rcases cnd h with ⟨hE48, h⟩ | ⟨hE48, h⟩
            · refine WL.ren 27 rfl (congrArg Value.bool hE48) ?_
              refine WL.gS rfl rfl rfl rfl ?_
              refine WL.gS rfl rfl rfl rfl ?_
              refine WL.gS rfl rfl rfl rfl ?_
              refine WL.gS rfl rfl rfl rfl ?_
              refine WL.gS rfl rfl rfl rfl ?_
              refine WL.gS rfl rfl rfl rfl ?_
              refine WL.gS rfl rfl rfl rfl ?_
              refine WL.y (Y.pick (b := true) rfl rfl) rfl ?_
              exact WL.nil (At.join (σ := Bool) true ⟨some1 h, rfl⟩ (.cons rfl (.cons rfl (.cons rfl .nil))))
            · refine WL.ren 27 rfl (congrArg Value.bool hE48) ?_
              refine WL.ung rfl rfl ?_
              refine WL.y (Y.fieldAddr fo25_1 rfl) rfl ?_
              refine WL.ung rfl rfl ?_
              refine WL.y (Y.loadSc ty23 rfl rfl (hb16.cell 1 _ rfl)) rfl ?_
              refine WL.ung rfl rfl ?_
              refine WL.y (Y.move rfl) rfl ?_
              refine WL.ung rfl rfl ?_
              refine WL.y (Y.sub_i rfl rfl) rfl ?_
              refine WL.ung rfl rfl ?_
              obtain ⟨e49, he49, h⟩ := bnd h
              obtain ⟨b50, off58, cap57, cs56, hv51, hi52, hl53, hc54, hok55, hA59⟩ := Sl.at2 hf21 he49
              obtain rfl := hok55
              replace hc54 : CellsAt _ _ _ [vu e49] := hc54
              have hca60 := CAt.imm hc54 hA59
              refine WL.y (Y.indexAddr ty23 ty22 rfl hv51 rfl hi52 hl53) rfl ?_
              refine WL.ung rfl rfl ?_
              refine WL.y (Y.loadSc ty22 rfl rfl hca60.at_) rfl ?_
              refine WL.ung rfl rfl ?_
              refine WL.y (Y.eql_u (b := 0) rfl rfl) rfl ?_
              refine WL.y (Y.pick (b := false) rfl rfl) rfl ?_
              exact WL.nil (At.join (σ := Bool) (decide (e49 = 0)) ⟨some1 h, rfl⟩ (.cons rfl (.cons rfl (.cons rfl .nil))))
          · rintro x45 _ ⟨rfl, rfl⟩
            replace h := hk47
            try dsimp only at h
            refine (show WL _ _ _ _ _ [(1, .pointer (some ⟨p17, 0, none⟩)), (3, vi nv22), (35, .bool x45)] _ from ?_)
            refine WL.y (Y.assign rfl) rfl ?_
            refine WL.nil ?_
            refine At.then ?_
            rcases cnd h with ⟨hc61, h⟩ | ⟨hc61, h⟩
            · refine WC.condT' rfl hc61 ?_
              refine WC.seq ?_
              refine WC.region ?_
              refine WL.y (Y.assign rfl) rfl ?_
              refine WL.nil ?_
              refine At.then ?_
              refine WC.ret ?_
              refine At.inBlockR ?_
              refine At.thenR ?_
              obtain rfl := some1 h
              have hs62 : Stp [] (Lg.O0 A) w O18 wd19 := (Stp.up hst20 rfl)
              exact At.res (.inl rfl) rfl (.tmp rfl .nil) ⟨rfl, (Stp.ext hs62 rfl rfl)⟩
            · refine WC.condF' rfl hc61 ?_
              refine WC.seq ?_
              refine WC.region ?_
              refine WL.y (Y.fieldAddr fo25_0 rfl) rfl ?_
              refine WL.y (Y.loadSc ty3 rfl rfl (hb16.cell 0 _ rfl)) rfl ?_
              refine WL.y (Y.lss_i rfl rfl) rfl ?_
              refine WL.y (Y.move rfl) rfl ?_
              refine WL.cut 7 (σ := Unit) (fun _ w' => wd19 = w') (fun _ => [(47, .bool ((decide (a0.Offset < (-1073741824))) || (decide (w64 (1073741824 - (w64 (nv22 - 1))) < a0.Offset))))]) ?_ ?_
              · refine WL.part 40 rfl (fun hE63 => ?_) (fun hE63 => ?_)
                · refine WL.gS rfl rfl rfl rfl ?_
                  refine WL.gS rfl rfl rfl rfl ?_
                  refine WL.gS rfl rfl rfl rfl ?_
                  refine WL.gS rfl rfl rfl rfl ?_
                  refine WL.gS rfl rfl rfl rfl ?_
                  refine WL.gS rfl rfl rfl rfl ?_
                  refine WL.y (Y.pick (b := true) rfl rfl) rfl ?_
                  refine WL.ren (v' := .bool ((decide (a0.Offset < (-1073741824))) || (decide (w64 (1073741824 - (w64 (nv22 - 1))) < a0.Offset)))) 47 rfl (congrArg Value.bool (orT hE63)) ?_
                  exact WL.nil (At.join () rfl (.cons rfl .nil))
                · refine WL.ung rfl rfl ?_
                  refine WL.y (Y.fieldAddr fo25_0 rfl) rfl ?_
                  refine WL.ung rfl rfl ?_
                  refine WL.y (Y.loadSc ty3 rfl rfl (hb16.cell 0 _ rfl)) rfl ?_
                  refine WL.ung rfl rfl ?_
                  refine WL.y (Y.move rfl) rfl ?_
                  refine WL.ung rfl rfl ?_
                  refine WL.y (Y.sub_i rfl rfl) rfl ?_
                  refine WL.ung rfl rfl ?_
                  refine WL.y (Y.sub_i rfl rfl) rfl ?_
                  refine WL.ung rfl rfl ?_
                  refine WL.y (Y.gtr_i rfl rfl) rfl ?_
                  refine WL.y (Y.pick (b := false) rfl rfl) rfl ?_
                  refine WL.ren (v' := .bool ((decide (a0.Offset < (-1073741824))) || (decide (w64 (1073741824 - (w64 (nv22 - 1))) < a0.Offset)))) 47 rfl (congrArg Value.bool (orF hE63)) ?_
                  exact WL.nil (At.join () rfl (.cons rfl .nil))
              · rintro _ _ rfl
                refine (show WL _ _ _ _ _ [(47, .bool ((decide (a0.Offset < (-1073741824))) || (decide (w64 (1073741824 - (w64 (nv22 - 1))) < a0.Offset))))] _ from ?_)
                obtain ⟨t64, ht64, h⟩ := lt1 h
                refine WL.yE (Y.assign rfl) (congrArg Value.bool ht64.symm) rfl ?_
                refine WL.nil ?_
                refine At.then ?_
                rcases cnd h with ⟨hc65, h⟩ | ⟨hc65, h⟩
                · refine WC.condT' rfl hc65 ?_
                  refine WC.seq ?_
                  refine WC.region ?_
                  refine WL.y (Y.assign rfl) rfl ?_
                  refine WL.nil ?_
                  refine At.then ?_
                  refine WC.ret ?_
                  refine At.inBlockR ?_
                  refine At.thenR ?_
                  obtain rfl := some1 h
                  have hs66 : Stp [] (Lg.O0 A) w O18 wd19 := (Stp.up hst20 rfl)
                  exact At.res (.inl rfl) rfl (.tmp rfl .nil) ⟨rfl, (Stp.ext hs66 rfl rfl)⟩
                · refine WC.condF' rfl hc65 ?_
                  refine WC.skip ?_
                  refine At.inBlock ?_
                  refine At.then ?_
                  refine WC.seq ?_
                  refine WC.region ?_
                  refine WL.y (Y.assign rfl) rfl ?_
                  refine WL.nil ?_
                  refine At.then ?_
                  refine WC.ret ?_
                  obtain rfl := some1 h
                  have hs67 : Stp [] (Lg.O0 A) w O18 wd19 := (Stp.up hst20 rfl)
                  exact At.res (.inl rfl) rfl (.tmp rfl .nil) ⟨rfl, (Stp.ext hs67 rfl rfl)⟩

theorem c_hist_Check {A : Nat → Prop} {v0_3 : Value} {v0_5 : Value} {a0 : api_Hist} {w : World} (hs0_3 : Sl Rep.u w A v0_3 a0.Pos.Counts) (hs0_5 : Sl Rep.u w A v0_5 a0.Neg.Counts) {r0 : Int} (h : hist_Check a0 = some r0) : Rets Try.prog 19 [.agg [vi a0.Scale, vu a0.Zero, vi a0.Pos.Offset, v0_3, vi a0.Neg.Offset, v0_5].toArray] w (fun v w' => v = vi r0 ∧ Ext w w') := by
  unfold hist_Check at h
  refine Rets.enter Try.func19 rfl rfl ?_
  have hf11 : Sl Rep.u w (imm (Lg.O0 A)) v0_3 a0.Pos.Counts := (Sl.start hs0_3)
  have hf12 : Sl Rep.u w (imm (Lg.O0 A)) v0_5 a0.Neg.Counts := (Sl.start hs0_5)
  refine (show WC _ _ _ _ [(0, .agg [vi a0.Scale, vu a0.Zero, vi a0.Pos.Offset, v0_3, vi a0.Neg.Offset, v0_5].toArray)] _ from ?_)
  refine WC.seq ?_
  refine WC.region ?_
  have hh16 := h
  obtain ⟨p13, m14, c15, rfl⟩ := hf11.shape
  have h := hh16
  have hh20 := h
  obtain ⟨p17, m18, c19, rfl⟩ := hf12.shape
  have h := hh20
  refine WL.box (O := (Lg.O0 A)) 11 [vi a0.Scale, vu a0.Zero, vi a0.Pos.Offset, (.slice p13 m14 c15), vi a0.Neg.Offset, (.slice p17 m18 c19)] rfl rfl rfl ?_
  intro p22 O23 wd24 hst25 hb21
  refine WL.y (Y.assign rfl) rfl ?_
  refine WL.nil ?_
  refine At.then ?_
  refine WC.seq ?_
  refine WC.seq ?_
  refine WC.region ?_
  refine WL.y (Y.fieldAddr fo27_0 rfl) rfl ?_
  refine WL.y (Y.loadSc ty3 rfl rfl (hb21.cell 0 _ rfl)) rfl ?_
  refine WL.y (Y.lss_i rfl rfl) rfl ?_
  refine WL.y (Y.move rfl) rfl ?_
  refine WL.cut 4 (σ := Unit) (fun _ w' => wd24 = w') (fun _ => [(1, .pointer (some ⟨p22, 0, none⟩)), (15, .bool ((decide (a0.Scale < (-10))) || (decide (20 < a0.Scale))))]) ?_ ?_
  · refine WL.part 11 rfl (fun hE26 => ?_) (fun hE26 => ?_)
    · refine WL.gS rfl rfl rfl rfl ?_
      refine WL.gS rfl rfl rfl rfl ?_
      refine WL.gS rfl rfl rfl rfl ?_
      refine WL.y (Y.pick (b := true) rfl rfl) rfl ?_
      refine WL.ren (v' := .bool ((decide (a0.Scale < (-10))) || (decide (20 < a0.Scale)))) 15 rfl (congrArg Value.bool (orT hE26)) ?_
      exact WL.nil (At.join () rfl (.cons rfl (.cons rfl .nil)))
    · refine WL.ung rfl rfl ?_
      refine WL.y (Y.fieldAddr fo27_0 rfl) rfl ?_
      refine WL.ung rfl rfl ?_
      refine WL.y (Y.loadSc ty3 rfl rfl (hb21.cell 0 _ rfl)) rfl ?_
      refine WL.ung rfl rfl ?_
      refine WL.y (Y.gtr_i rfl rfl) rfl ?_
      refine WL.y (Y.pick (b := false) rfl rfl) rfl ?_
      refine WL.ren (v' := .bool ((decide (a0.Scale < (-10))) || (decide (20 < a0.Scale)))) 15 rfl (congrArg Value.bool (orF hE26)) ?_
      exact WL.nil (At.join () rfl (.cons rfl (.cons rfl .nil)))
  · rintro _ _ rfl
    refine (show WL _ _ _ _ _ [(1, .pointer (some ⟨p22, 0, none⟩)), (15, .bool ((decide (a0.Scale < (-10))) || (decide (20 < a0.Scale))))] _ from ?_)
    refine WL.nil ?_
    refine At.then ?_
    rcases cnd h with ⟨hc27, h⟩ | ⟨hc27, h⟩
    · refine WC.condT' rfl hc27 ?_
      refine WC.seq ?_
      refine WC.region ?_
      refine WL.y (Y.assign rfl) rfl ?_
      refine WL.nil ?_
      refine At.then ?_
      refine WC.ret ?_
      refine At.thenR ?_
      obtain rfl := some1 h
      have hs28 : Stp [] (Lg.O0 A) w O23 wd24 := (Stp.up hst25 rfl)
      exact At.res (.inl rfl) rfl (.tmp rfl .nil) ⟨rfl, (Stp.ext hs28 rfl rfl)⟩
    · refine WC.condF' rfl hc27 ?_
      refine WC.skip ?_
      refine At.then ?_
      refine WC.seq ?_
      refine WC.seq ?_
      refine WC.region ?_
      refine WL.y (Y.loadAg ty27 rfl rfl (hb21.cells 0 [vi a0.Scale, vu a0.Zero, vi a0.Pos.Offset, (.slice p13 m14 c15), vi a0.Neg.Offset, (.slice p17 m18 c19)] rfl) rfl) rfl ?_
      have hf29 := hf11.mono (imm_st hst25 rfl rfl)
      have hf30 := hf12.mono (imm_st hst25 rfl rfl)
      obtain ⟨r31, hp32, h⟩ := bnd h
      refine WL.call (vals := [.agg [vi a0.Scale, vu a0.Zero, vi a0.Pos.Offset, (.slice p13 m14 c15), vi a0.Neg.Offset, (.slice p17 m18 c19)].toArray]) kok57 rfl rfl (c_hist_sides (A := imm O23) (a0 := a0) hf29 hf30 hp32) ?_
      rintro vr38 wd37 ⟨cs33, rfl, hm36, f34, f35⟩
      obtain ⟨O39, hold40, hnew41, hst42⟩ := adoptE O23 (fun k => 1) hm36
      have hf43 := Rows'.adoptI (O := O23) f34 (fun _ hk => hk) (fun _ _ => Nat.le_refl _) hold40 hnew41
      refine WL.y (Y.move rfl) rfl ?_
      refine WL.nil ?_
      refine At.then ?_
      obtain ⟨p47, h, hk48⟩ := flow1 h
      refine WC.join (σ := Own) (fun x w' => p47 = .go () ∧ Stp [12] O39 wd37 x w') (fun x => [(1, .pointer (some ⟨p22, 0, none⟩))]) ?_ ?_
      · refine WC.block ?_
        obtain ⟨p56, h, hk58⟩ := flow1 h
        obtain ⟨k57, h⟩ := loop_some h
        refine WC.joinB 0 (σ := Own) (fun x w' => p56 = .go () ∧ Stp [12] O39 wd37 x w') (fun x => [(1, .pointer (some ⟨p22, 0, none⟩))]) ?_ ?_
        · refine WC.loop (σ := (Int × Own)) (fun x k w' => loopN k (hist_Check_lp1 r31) x.1 = some p56 ∧ Stp [12] O39 wd37 x.2 w') (fun x => [(1, .pointer (some ⟨p22, 0, none⟩)), (17, .agg cs33.toArray), (18, vi x.1)]) (0, O39) k57 (.cons rfl (.cons rfl (.cons rfl .nil))) ⟨h, (Stp.refl _ _ _)⟩ ?_
          rintro ⟨x49, O50⟩ k57 wd51 ⟨h, hst52⟩
          obtain ⟨j59, q60, rfl, h, hn61⟩ := rnd1 h
          unfold hist_Check_lp1 at h
          try dsimp only at h hst52
          refine (show WC _ _ _ _ [(1, .pointer (some ⟨p22, 0, none⟩)), (17, .agg cs33.toArray), (18, vi x49)] _ from ?_)
          refine WC.seq ?_
          refine WC.region ?_
          refine WL.y (Y.lss_i rfl rfl) rfl ?_
          refine WL.nil ?_
          refine At.then ?_
          refine WC.seq ?_
          rcases cnd h with ⟨hc62, h⟩ | ⟨hc62, h⟩
          · refine WC.condT' rfl hc62 ?_
            refine WC.skip ?_
            refine At.then ?_
            refine WC.seq ?_
            refine WC.block ?_
            refine WC.seq ?_
            refine WC.region ?_
            have hf63 := Rows'.mono (imm_st hst52 rfl rfl) hf43
            obtain ⟨e64, he64, h⟩ := bnd h
            obtain ⟨cs65, hcs66, hok67⟩ := arrAt (R := rep_api_Side) (w := wd51) (A := imm O50) (cells := cs33) hf63 he64
            obtain ⟨_, _, rfl, rfl, ⟨v68, rfl, hf69⟩⟩ := hok67
            replace hcs66 : _ = [vi e64.Offset, v68] := hcs66
            refine WL.y (Y.indexArrAg ty75 ty25 rfl rfl hcs66 he64 f35) rfl ?_
            refine WL.alloc (O := O50) 12 [vi 0, .slice none 0 0] ty25 rfl rfl ?_
            intro p71 O72 wd73 hst74 hb70
            have hf75 := hf69.mono (imm_st hst74 rfl rfl)
            have hh79 := h
            obtain ⟨p76, m77, c78, rfl⟩ := hf75.shape
            have h := hh79
            refine WL.store (v := .agg [vi e64.Offset, (.slice p76 m77 c78)].toArray) (cells' := [vi e64.Offset, (.slice p76 m77 c78)]) ty25 rfl rfl hb70 rfl (Nat.le_of_ble_eq_true rfl) rfl rfl ?_
            intro wd80 hst81 hb82
            refine WL.nil ?_
            refine At.then ?_
            refine WC.seq ?_
            refine WC.region ?_
            refine WL.y (Y.loadAg ty25 rfl rfl (hb82.cells 0 [vi e64.Offset, (.slice p76 m77 c78)] rfl) rfl) rfl ?_
            have hf83 := hf75.mono (imm_st hst81 rfl rfl)
            obtain ⟨r84, hp85, h⟩ := bnd h
            refine WL.call (vals := [.agg [vi e64.Offset, (.slice p76 m77 c78)].toArray]) kok60 rfl rfl (c_hist_check (A := fun _ => True) (a0 := e64) (Sl.all hf83) hp85) ?_
            rintro vr88 wd87 ⟨rfl, hm86⟩
            obtain ⟨O89, hold90, hnew91, hst92⟩ := adoptE O72 (fun k => 1) hm86
            refine WL.y (Y.assign rfl) rfl ?_
            refine WL.nil ?_
            refine At.then ?_
            refine WC.seq ?_
            refine WC.region ?_
            refine WL.y (Y.move rfl) rfl ?_
            refine WL.y (Y.neq_i rfl rfl) rfl ?_
            refine WL.nil ?_
            refine At.then ?_
            rcases cnd h with ⟨hc93, h⟩ | ⟨hc93, h⟩
            · refine WC.condT' rfl hc93 ?_
              refine WC.seq ?_
              refine WC.region ?_
              refine WL.y (Y.move rfl) rfl ?_
              refine WL.y (Y.assign rfl) rfl ?_
              refine WL.nil ?_
              refine At.then ?_
              refine WC.ret ?_
              refine At.inBlockR ?_
              refine At.thenR ?_
              refine At.loopR ?_
              have h := outr1 h hn61 hk58
              refine At.joinBR ?_
              refine At.inBlockR ?_
              have h := outs1 h hk48
              refine At.joinR ?_
              refine At.thenR ?_
              obtain rfl := some1 h
              have hs94 : Stp [12] (Lg.O0 A) w O89 wd87 := (Stp.trans (Stp.up hst25 rfl) (Stp.trans (Stp.up hst42 rfl) (Stp.trans (Stp.up hst52 rfl) (Stp.trans (Stp.up hst74 rfl) (Stp.trans (Stp.up hst81 rfl) (Stp.up hst92 rfl))))))
              exact At.res (.inl rfl) rfl (.tmp rfl .nil) ⟨rfl, (Stp.ext hs94 rfl rfl)⟩
            · refine WC.condF' rfl hc93 ?_
              refine WC.skip ?_
              refine At.inBlock ?_
              refine At.then ?_
              refine WC.region ?_
              refine WL.y (Y.add_i rfl rfl) rfl ?_
              refine WL.y (Y.move rfl) rfl ?_
              refine WL.nil ?_
              exact At.round (w64 (x49 + 1), O89) j59 (Nat.lt_succ_self _) ⟨next1 h hn61, (Stp.trans (Stp.up hst52 rfl) (Stp.trans (Stp.up hst74 rfl) (Stp.trans (Stp.up hst81 rfl) (Stp.up hst92 rfl))))⟩ (.cons rfl (.cons rfl (.cons rfl .nil)))
          · refine WC.condF' rfl hc62 ?_
            refine WC.exit ?_
            refine At.thenX ?_
            refine At.loopX ?_
            exact At.hitB (σ := Own) O50 ⟨brk1 h hn61, (Stp.up hst52 rfl)⟩ (.cons rfl .nil)
        · rintro O53 wd54 ⟨rfl, hst55⟩
          replace h := flowK_go hk58
          refine (show At _ _ _ [(1, .pointer (some ⟨p22, 0, none⟩))] _ from ?_)
          refine At.inBlockHit ?_
          exact At.join (σ := Own) O53 ⟨go2 h, (Stp.up hst55 rfl)⟩ (.cons rfl .nil)
      · rintro O44 wd45 ⟨rfl, hst46⟩
        replace h := flowK_go hk48
        refine (show At _ _ _ [(1, .pointer (some ⟨p22, 0, none⟩))] _ from ?_)
        refine At.then ?_
        refine WC.seq ?_
        refine WC.seq ?_
        refine WC.region ?_
        have hf95 := hb21.st hst42 rfl
        have hf96 := hf95.st hst46 rfl
        refine WL.y (Y.loadAg ty27 rfl rfl (hf96.cells 0 [vi a0.Scale, vu a0.Zero, vi a0.Pos.Offset, (.slice p13 m14 c15), vi a0.Neg.Offset, (.slice p17 m18 c19)] rfl) rfl) rfl ?_
        have hf97 := hf29.mono (imm_st hst42 rfl rfl)
        have hf98 := hf97.mono (imm_st hst46 rfl rfl)
        have hf99 := hf30.mono (imm_st hst42 rfl rfl)
        have hf100 := hf99.mono (imm_st hst46 rfl rfl)
        obtain ⟨⟨r101, r102⟩, hp103, h⟩ := bnd h
        refine WL.call (vals := [.agg [vi a0.Scale, vu a0.Zero, vi a0.Pos.Offset, (.slice p13 m14 c15), vi a0.Neg.Offset, (.slice p17 m18 c19)].toArray]) kok17 rfl rfl (c_hist_Total (A := fun _ => True) (a0 := a0) (Sl.all hf98) (Sl.all hf100) hp103) ?_
        rintro vr106 wd105 ⟨rfl, hm104⟩
        obtain ⟨O107, hold108, hnew109, hst110⟩ := adoptE O44 (fun k => 1) hm104
        refine WL.y (Y.move rfl) rfl ?_
        refine WL.y (Y.extract rfl rfl) rfl ?_
        refine WL.y (Y.extract rfl rfl) rfl ?_
        refine WL.y (Y.assign rfl) rfl ?_
        refine WL.y (Y.assign rfl) rfl ?_
        refine WL.nil ?_
        refine At.then ?_
        refine WC.seq ?_
        refine WC.region ?_
        refine WL.y (Y.move rfl) rfl ?_
        refine WL.y (Y.not rfl) rfl ?_
        refine WL.nil ?_
        refine At.then ?_
        rcases cnd h with ⟨hc111, h⟩ | ⟨hc111, h⟩
        · refine WC.condT' rfl hc111 ?_
          refine WC.seq ?_
          refine WC.region ?_
          refine WL.y (Y.assign rfl) rfl ?_
          refine WL.nil ?_
          refine At.then ?_
          refine WC.ret ?_
          refine At.thenR ?_
          obtain rfl := some1 h
          have hs112 : Stp [12] (Lg.O0 A) w O107 wd105 := (Stp.trans (Stp.up hst25 rfl) (Stp.trans (Stp.up hst42 rfl) (Stp.trans (Stp.up hst46 rfl) (Stp.up hst110 rfl))))
          exact At.res (.inl rfl) rfl (.tmp rfl .nil) ⟨rfl, (Stp.ext hs112 rfl rfl)⟩
        · refine WC.condF' rfl hc111 ?_
          refine WC.skip ?_
          refine At.then ?_
          refine WC.seq ?_
          refine WC.region ?_
          refine WL.y (Y.assign rfl) rfl ?_
          refine WL.nil ?_
          refine At.then ?_
          refine WC.ret ?_
          obtain rfl := some1 h
          have hs113 : Stp [12] (Lg.O0 A) w O107 wd105 := (Stp.trans (Stp.up hst25 rfl) (Stp.trans (Stp.up hst42 rfl) (Stp.trans (Stp.up hst46 rfl) (Stp.up hst110 rfl))))
          exact At.res (.inl rfl) rfl (.tmp rfl .nil) ⟨rfl, (Stp.ext hs113 rfl rfl)⟩

theorem c_hist_span {A : Nat → Prop} {v0_1 : Value} {a0 : api_Side} {a1 : UInt64} {w : World} (hs0_1 : Sl Rep.u w A v0_1 a0.Counts) {r0 : Int} (h : hist_span a0 a1 = some r0) : Rets Try.prog 64 [.agg [vi a0.Offset, v0_1].toArray, vu a1] w (fun v w' => v = vi r0 ∧ Ext w w') := by
  unfold hist_span at h
  refine Rets.enter Try.func64 rfl rfl ?_
  have hf11 : Sl Rep.u w (imm (Lg.O0 A)) v0_1 a0.Counts := (Sl.start hs0_1)
  refine (show WC _ _ _ _ [(0, .agg [vi a0.Offset, v0_1].toArray), (1, vu a1)] _ from ?_)
  refine WC.seq ?_
  refine WC.region ?_
  have hh15 := h
  obtain ⟨p12, m13, c14, rfl⟩ := hf11.shape
  have h := hh15
  refine WL.box (O := (Lg.O0 A)) 11 [vi a0.Offset, (.slice p12 m13 c14)] rfl rfl rfl ?_
  intro p17 O18 wd19 hst20 hb16
  refine WL.y (Y.assign rfl) rfl ?_
  refine WL.nil ?_
  refine At.then ?_
  refine WC.seq ?_
  refine WC.region ?_
  refine WL.y (Y.fieldAddr fo25_1 rfl) rfl ?_
  refine WL.y (Y.loadSc ty23 rfl rfl (hb16.cell 1 _ rfl)) rfl ?_
  have hf21 := hf11.mono (imm_st hst20 rfl rfl)
  refine WL.y (Y.len ty23 rfl hf21) rfl ?_
  obtain ⟨nv22, hnv22, h⟩ := lt1 h
  refine WL.yE (Y.assign rfl) (congrArg vi hnv22.symm) rfl ?_
  refine WL.nil ?_
  refine At.then ?_
  refine WC.seq ?_
  refine WC.seq ?_
  refine WC.region ?_
  refine WL.y (Y.move rfl) rfl ?_
  refine WL.y (Y.eql_i rfl rfl) rfl ?_
  refine WL.nil ?_
  refine At.then ?_
  rcases cnd h with ⟨hc23, h⟩ | ⟨hc23, h⟩
  · refine WC.condT' rfl hc23 ?_
    refine WC.seq ?_
    refine WC.region ?_
    refine WL.y (Y.assign rfl) rfl ?_
    refine WL.nil ?_
    refine At.then ?_
    refine WC.ret ?_
    refine At.thenR ?_
    obtain rfl := some1 h
    have hs24 : Stp [] (Lg.O0 A) w O18 wd19 := (Stp.up hst20 rfl)
    exact At.res (.inl rfl) rfl (.tmp rfl .nil) ⟨rfl, (Stp.ext hs24 rfl rfl)⟩
  · refine WC.condF' rfl hc23 ?_
    refine WC.skip ?_
    refine At.then ?_
    refine WC.seq ?_
    refine WC.region ?_
    refine WL.y (Y.fieldAddr fo25_0 rfl) rfl ?_
    refine WL.y (Y.loadSc ty3 rfl rfl (hb16.cell 0 _ rfl)) rfl ?_
    refine WL.y (Y.move rfl) rfl ?_
    refine WL.y (Y.add_i rfl rfl) rfl ?_
    refine WL.y (Y.sub_i rfl rfl) rfl ?_
    refine WL.y (Y.move rfl) rfl ?_
    refine WL.y (Y.shr_iu rfl rfl) rfl ?_
    refine WL.y (Y.fieldAddr fo25_0 rfl) rfl ?_
    refine WL.y (Y.loadSc ty3 rfl rfl (hb16.cell 0 _ rfl)) rfl ?_
    refine WL.y (Y.move rfl) rfl ?_
    refine WL.y (Y.shr_iu rfl rfl) rfl ?_
    refine WL.y (Y.sub_i rfl rfl) rfl ?_
    refine WL.y (Y.add_i rfl rfl) rfl ?_
    obtain ⟨t25, ht25, h⟩ := lt1 h
    refine WL.yE (Y.assign rfl) (congrArg vi ht25.symm) rfl ?_
    refine WL.nil ?_
    refine At.then ?_
    refine WC.ret ?_
    obtain rfl := some1 h
    have hs26 : Stp [] (Lg.O0 A) w O18 wd19 := (Stp.up hst20 rfl)
    exact At.res (.inl rfl) rfl (.tmp rfl .nil) ⟨rfl, (Stp.ext hs26 rfl rfl)⟩

theorem c_hist_down {A : Nat → Prop} {v0_1 : Value} {a0 : api_Side} {a1 : UInt64} {w : World} (hs0_1 : Sl Rep.u w A v0_1 a0.Counts) {r0 : api_Side} (h : hist_down a0 a1 = some r0) : Rets Try.prog 62 [.agg [vi a0.Offset, v0_1].toArray, vu a1] w (fun v w' => ∃ (u0_1 : Value), v = .agg (List.toArray [vi r0.Offset, u0_1]) ∧ Ext w w' ∧ Sl Rep.u w' (fun k => w.heap.size ≤ k) u0_1 r0.Counts) := by
  unfold hist_down at h
  refine Rets.enter Try.func62 rfl rfl ?_
  have hf11 : Sl Rep.u w (imm (Lg.O0 A)) v0_1 a0.Counts := (Sl.start hs0_1)
  refine (show WC _ _ _ _ [(0, .agg [vi a0.Offset, v0_1].toArray), (1, vu a1)] _ from ?_)
  refine WC.seq ?_
  refine WC.region ?_
  have hh15 := h
  obtain ⟨p12, m13, c14, rfl⟩ := hf11.shape
  have h := hh15
  refine WL.box (O := (Lg.O0 A)) 11 [vi a0.Offset, (.slice p12 m13 c14)] rfl rfl rfl ?_
  intro p17 O18 wd19 hst20 hb16
  refine WL.alloc (O := O18) 12 [vi 0, .slice none 0 0] ty25 rfl rfl ?_
  intro p22 O23 wd24 hst25 hb21
  refine WL.nil ?_
  refine At.then ?_
  refine WC.seq ?_
  refine WC.seq ?_
  refine WC.region ?_
  refine WL.y (Y.fieldAddr fo25_1 rfl) rfl ?_
  have hf26 := hb16.st hst25 rfl
  refine WL.y (Y.loadSc ty23 rfl rfl (hf26.cell 1 _ rfl)) rfl ?_
  have hf27 := hf11.mono (imm_st hst20 rfl rfl)
  have hf28 := hf27.mono (imm_st hst25 rfl rfl)
  refine WL.y (Y.len ty23 rfl hf28) rfl ?_
  refine WL.y (Y.eql_i rfl rfl) rfl ?_
  refine WL.nil ?_
  refine At.then ?_
  rcases cnd h with ⟨hc29, h⟩ | ⟨hc29, h⟩
  · refine WC.condT' rfl hc29 ?_
    refine WC.seq ?_
    refine WC.region ?_
    refine WL.y (Y.build (vals := []) (cells := [vi 0, .slice none 0 0]) (Fits.evalp rfl) (by kernel_rfl)) rfl ?_
    refine WL.store (v := .agg [vi 0, .slice none 0 0].toArray) (cells' := [vi 0, .slice none 0 0]) ty25 rfl rfl hb21 rfl (Nat.le_of_ble_eq_true rfl) rfl rfl ?_
    intro wd30 hst31 hb32
    refine WL.nil ?_
    refine At.then ?_
    refine WC.ret ?_
    refine At.thenR ?_
    obtain rfl := some1 h
    have hs33 : Stp [12] (Lg.O0 A) w O23 wd30 := (Stp.trans (Stp.up hst20 rfl) (Stp.trans (Stp.up hst25 rfl) (Stp.up hst31 rfl)))
    exact At.res (.inl rfl) rfl (.cell rfl (hb32.runAg 0 [vi 0, .slice none 0 0] ty25 rfl rfl rfl) .nil) ⟨.slice none 0 0, rfl, (Stp.ext hs33 rfl rfl), (Or.inl ⟨rfl, rfl⟩)⟩
  · refine WC.condF' rfl hc29 ?_
    refine WC.skip ?_
    refine At.then ?_
    refine WC.seq ?_
    refine WC.drawH [13, 14, 15, 16, 17, 18, 1001, 1002] [0, 1, 2, 3, 4, 5, 6, 7, 8, 9] O23 11 fmix rfl (by kernel_rfl) ?_
    intro wd34 hst35
    refine WD.y 0 rfl (by kernel_rfl) (fun _ _ _ => Y.fieldAddr fo25_0 rfl) rfl ?_
    refine WD.y 1 rfl (by kernel_rfl) (fun wd40 O39 hst41 => have hf42 := hf26.st hst35 rfl; have hf43 := hf42.st hst41 rfl; Y.loadSc ty3 rfl rfl (hf43.cell 0 _ rfl)) rfl ?_
    refine WD.y 2 rfl (by kernel_rfl) (fun _ _ _ => Y.move rfl) rfl ?_
    refine WD.y 3 rfl (by kernel_rfl) (fun _ _ _ => Y.shr_iu rfl rfl) rfl ?_
    refine WD.y 4 rfl (by kernel_rfl) (fun wd51 O50 hst52 => have hf53 := hf26.st hst35 rfl; have hf54 := hf53.st hst52 rfl; Y.loadAg ty25 rfl rfl (hf54.cells 0 [vi a0.Offset, (.slice p12 m13 c14)] rfl) rfl) rfl ?_
    refine WD.y 5 rfl (by kernel_rfl) (fun _ _ _ => Y.move rfl) rfl ?_
    obtain ⟨p66, h, hk67⟩ := bnd h
    refine WD.join (σ := (List UInt64 × Own × Nat × Value)) (f' := 1) [9, 8, 7, 6, 5, 4, 3, 2, 1, 0] (fun x O' w' => x.1 = p66 ∧ Stp [13, 14, 15, 16, 17, 18, 1001, 1002] O23 wd34 x.2.1 w' ∧ Blk 1003 x.2.1 w' x.2.2.1 25 [vi 0, .slice none 0 0] ∧ OwnSl 1004 Rep.u 22 x.2.1 w' x.2.2.2 x.1 ∧ x.2.1 = O') (fun x => [(1, vu a1), (2, .pointer (some ⟨p17, 0, none⟩)), (4, .pointer (some ⟨p22, 0, none⟩)), (5, .pointer (some ⟨x.2.2.1, 0, none⟩)), (21, .agg [vi (shrI a0.Offset a1.toNat), x.2.2.2].toArray)]) (fun hJ68 => ?_) ?_
    · refine WD.heavy2 6 9 rfl rfl (by kernel_rfl) ?_ ?_
      · have hf69 := hf28.mono (imm_st hst35 rfl rfl)
        obtain ⟨r70, hp71, h⟩ := bnd h
        refine WL.call (vals := [.agg [vi a0.Offset, (.slice p12 m13 c14)].toArray, vu a1]) kok64 rfl rfl (c_hist_span (A := fun _ => True) (a0 := a0) (Sl.all hf69) hp71) ?_
        rintro vr74 wd73 ⟨rfl, hm72⟩
        obtain ⟨O75, hold76, hnew77, hst78⟩ := adoptE O23 (fun k => 1) hm72
        refine WL.nil ?_
        refine At.dq (Stp.up hst78 rfl) ?_
        obtain ⟨p87, h, hk88⟩ := bnd h
        refine WD.join (σ := (List UInt64 × Own × Nat × Value)) (f' := 1) [9, 8, 7, 6, 5, 4, 3, 2, 1, 0] (fun x O' w' => x.1 = p87 ∧ Stp [13, 14, 15, 16] O75 wd73 x.2.1 w' ∧ Blk 1001 x.2.1 w' x.2.2.1 25 [vi 0, .slice none 0 0] ∧ OwnSl 1002 Rep.u 22 x.2.1 w' x.2.2.2 x.1 ∧ x.2.1 = O') (fun x => [(1, vu a1), (2, .pointer (some ⟨p17, 0, none⟩)), (4, .pointer (some ⟨p22, 0, none⟩)), (5, .pointer (some ⟨x.2.2.1, 0, none⟩)), (21, .agg [vi (shrI a0.Offset a1.toNat), x.2.2.2].toArray)]) (fun hJ89 => ?_) ?_
        · refine WD.heavy2 7 9 rfl rfl (by kernel_rfl) ?_ ?_
          · obtain ⟨t90, ht90, h⟩ := bnd h
            refine WL.make (O := O75) (R := Rep.u) (zx := (0 : UInt64)) 13 (by decide) ty23 ty22 rfl (by decide) (by decide) rfl rfl (fun _ _ => rfl) ht90 rfl ?_
            intro v91 O93 wd94 hst95 ho92
            refine WL.nil ?_
            refine At.dq (Stp.up hst95 rfl) ?_
            have hh99 := h
            obtain ⟨p96, m97, c98, rfl⟩ := ho92.shape
            have h := hh99
            refine WD.y 8 rfl (by kernel_rfl) (fun _ _ _ => Y.build (vals := [(0, vi (shrI a0.Offset a1.toNat)), (1, (.slice p96 m97 c98))]) (cells := [vi (shrI a0.Offset a1.toNat), (.slice p96 m97 c98)]) (Fits.evalp rfl) (by kernel_rfl)) rfl ?_
            refine WD.heavy 9 rfl (by kernel_rfl) ?_
            refine WL.alloc (O := O93) 14 [vi 0, .slice none 0 0] ty25 rfl rfl ?_
            intro p104 O105 wd106 hst107 hb103
            refine WL.nil ?_
            refine At.dq (Stp.up hst107 rfl) ?_
            obtain ⟨O108, hst109, hb110⟩ := Blk.rlb 1001 rfl hb103
            have hf111 := ho92.st hst107 rfl rfl rfl
            have hf112 := hf111.st hst109 rfl rfl rfl
            obtain ⟨O113, hst114, ho115⟩ := OwnSl.rlb 1002 rfl hf112
            have hf116 := hb110.st hst114 rfl
            refine WD.own (Stp.trans (Stp.up hst109 rfl) (Stp.up hst114 rfl)) ?_
            refine WD.perm _ [9, 8, 7, 6, 5, 4, 3, 2, 1, 0] (by kernel_rfl) ?_
            exact hJ89 (t90, O113, p104, (.slice p96 m97 c98)) _ _ _ ⟨some1 h, (Stp.trans (Stp.up hst95 rfl) (Stp.trans (Stp.up hst107 rfl) (Stp.trans (Stp.up hst109 rfl) (Stp.up hst114 rfl)))), hf116, ho115, rfl⟩ (.cons rfl (.cons rfl (.cons rfl (.cons rfl (.cons rfl .nil)))))
          · try simp only [Option.bind_assoc, Option.bind_some] at h
            refine WL.alloc (O := O75) 15 [vi 0, .slice none 0 0] ty25 rfl rfl ?_
            intro p118 O119 wd120 hst121 hb117
            refine WL.nil ?_
            refine At.dq (Stp.up hst121 rfl) ?_
            refine WD.heavy 7 rfl (by kernel_rfl) ?_
            obtain ⟨t122, ht122, h⟩ := bnd h
            refine WL.make (O := O119) (R := Rep.u) (zx := (0 : UInt64)) 16 (by decide) ty23 ty22 rfl (by decide) (by decide) rfl rfl (fun _ _ => rfl) ht122 rfl ?_
            intro v123 O125 wd126 hst127 ho124
            refine WL.nil ?_
            refine At.dq (Stp.up hst127 rfl) ?_
            have hh131 := h
            obtain ⟨p128, m129, c130, rfl⟩ := ho124.shape
            have h := hh131
            refine WD.y 8 rfl (by kernel_rfl) (fun _ _ _ => Y.build (vals := [(0, vi (shrI a0.Offset a1.toNat)), (1, (.slice p128 m129 c130))]) (cells := [vi (shrI a0.Offset a1.toNat), (.slice p128 m129 c130)]) (Fits.evalp rfl) (by kernel_rfl)) rfl ?_
            have hf135 := hb117.st hst127 rfl
            obtain ⟨O136, hst137, hb138⟩ := Blk.rlb 1001 rfl hf135
            have hf139 := ho124.st hst137 rfl rfl rfl
            obtain ⟨O140, hst141, ho142⟩ := OwnSl.rlb 1002 rfl hf139
            have hf143 := hb138.st hst141 rfl
            refine WD.own (Stp.trans (Stp.up hst137 rfl) (Stp.up hst141 rfl)) ?_
            refine WD.perm _ [9, 8, 7, 6, 5, 4, 3, 2, 1, 0] (by kernel_rfl) ?_
            exact hJ89 (t122, O140, p118, (.slice p128 m129 c130)) _ _ _ ⟨some1 h, (Stp.trans (Stp.up hst121 rfl) (Stp.trans (Stp.up hst127 rfl) (Stp.trans (Stp.up hst137 rfl) (Stp.up hst141 rfl)))), hf143, ho142, rfl⟩ (.cons rfl (.cons rfl (.cons rfl (.cons rfl (.cons rfl .nil)))))
        · rintro ⟨x81, O84, b79, v82⟩ _ wd85 ⟨rfl, hst86, hb80, hf83, rfl⟩
          replace h := hk88
          try dsimp only at h hst86 hb80 hf83
          refine (show WD _ _ _ _ _ _ _ _ [(1, vu a1), (2, .pointer (some ⟨p17, 0, none⟩)), (4, .pointer (some ⟨p22, 0, none⟩)), (5, .pointer (some ⟨b79, 0, none⟩)), (21, .agg [vi (shrI a0.Offset a1.toNat), v82].toArray)] _ _ from ?_)
          obtain ⟨O144, hst145, hb146⟩ := Blk.rlb 1003 rfl hb80
          have hf147 := hf83.st hst145 rfl rfl rfl
          obtain ⟨O148, hst149, ho150⟩ := OwnSl.rlb 1004 rfl hf147
          have hf151 := hb146.st hst149 rfl
          refine WD.own (Stp.trans (Stp.up hst145 rfl) (Stp.up hst149 rfl)) ?_
          refine WD.perm _ [9, 8, 7, 6, 5, 4, 3, 2, 1, 0] (by kernel_rfl) ?_
          exact hJ68 (x81, O148, b79, v82) _ _ _ ⟨some1 h, (Stp.trans (Stp.up hst78 rfl) (Stp.trans (Stp.up hst86 rfl) (Stp.trans (Stp.up hst145 rfl) (Stp.up hst149 rfl)))), hf151, ho150, rfl⟩ (.cons rfl (.cons rfl (.cons rfl (.cons rfl (.cons rfl .nil)))))
      · try simp only [Option.bind_assoc, Option.bind_some] at h
        refine WL.alloc (O := O23) 17 [vi 0, .slice none 0 0] ty25 rfl rfl ?_
        intro p153 O154 wd155 hst156 hb152
        refine WL.nil ?_
        refine At.dq (Stp.up hst156 rfl) ?_
        refine WD.heavy 6 rfl (by kernel_rfl) ?_
        have hf157 := hf28.mono (imm_st hst35 rfl rfl)
        have hf158 := hf157.mono (imm_st hst156 rfl rfl)
        obtain ⟨r159, hp160, h⟩ := bnd h
        refine WL.call (vals := [.agg [vi a0.Offset, (.slice p12 m13 c14)].toArray, vu a1]) kok64 rfl rfl (c_hist_span (A := fun _ => True) (a0 := a0) (Sl.all hf158) hp160) ?_
        rintro vr163 wd162 ⟨rfl, hm161⟩
        obtain ⟨O164, hold165, hnew166, hst167⟩ := adoptE O154 (fun k => 1) hm161
        refine WL.nil ?_
        refine At.dq (Stp.up hst167 rfl) ?_
        refine WD.heavy 7 rfl (by kernel_rfl) ?_
        obtain ⟨t168, ht168, h⟩ := bnd h
        refine WL.make (O := O164) (R := Rep.u) (zx := (0 : UInt64)) 18 (by decide) ty23 ty22 rfl (by decide) (by decide) rfl rfl (fun _ _ => rfl) ht168 rfl ?_
        intro v169 O171 wd172 hst173 ho170
        refine WL.nil ?_
        refine At.dq (Stp.up hst173 rfl) ?_
        have hh177 := h
        obtain ⟨p174, m175, c176, rfl⟩ := ho170.shape
        have h := hh177
        refine WD.y 8 rfl (by kernel_rfl) (fun _ _ _ => Y.build (vals := [(0, vi (shrI a0.Offset a1.toNat)), (1, (.slice p174 m175 c176))]) (cells := [vi (shrI a0.Offset a1.toNat), (.slice p174 m175 c176)]) (Fits.evalp rfl) (by kernel_rfl)) rfl ?_
        have hf181 := hb152.st hst167 rfl
        have hf182 := hf181.st hst173 rfl
        obtain ⟨O183, hst184, hb185⟩ := Blk.rlb 1003 rfl hf182
        have hf186 := ho170.st hst184 rfl rfl rfl
        obtain ⟨O187, hst188, ho189⟩ := OwnSl.rlb 1004 rfl hf186
        have hf190 := hb185.st hst188 rfl
        refine WD.own (Stp.trans (Stp.up hst184 rfl) (Stp.up hst188 rfl)) ?_
        refine WD.perm _ [9, 8, 7, 6, 5, 4, 3, 2, 1, 0] (by kernel_rfl) ?_
        exact hJ68 (t168, O187, p153, (.slice p174 m175 c176)) _ _ _ ⟨some1 h, (Stp.trans (Stp.up hst156 rfl) (Stp.trans (Stp.up hst167 rfl) (Stp.trans (Stp.up hst173 rfl) (Stp.trans (Stp.up hst184 rfl) (Stp.up hst188 rfl))))), hf190, ho189, rfl⟩ (.cons rfl (.cons rfl (.cons rfl (.cons rfl (.cons rfl .nil)))))
    · rintro ⟨x60, O63, b58, v61⟩ _ wd64 ⟨rfl, hst65, hb59, hf62, rfl⟩
      replace h := hk67
      try dsimp only at h hst65 hb59 hf62
      refine (show WD _ _ _ _ _ _ _ _ [(1, vu a1), (2, .pointer (some ⟨p17, 0, none⟩)), (4, .pointer (some ⟨p22, 0, none⟩)), (5, .pointer (some ⟨b58, 0, none⟩)), (21, .agg [vi (shrI a0.Offset a1.toNat), v61].toArray)] _ _ from ?_)
      refine WD.phase [1003] [0, 1, 2, 3, 4, 5, 6, 7, 8, 9, 10] (by kernel_rfl) (by kernel_rfl) ?_
      refine WD.heavy 10 rfl (by kernel_rfl) ?_
      have hh194 := h
      obtain ⟨p191, m192, c193, rfl⟩ := hf62.shape
      have h := hh194
      refine WL.store (v := .agg [vi (shrI a0.Offset a1.toNat), (.slice p191 m192 c193)].toArray) (cells' := [vi (shrI a0.Offset a1.toNat), (.slice p191 m192 c193)]) ty25 rfl rfl hb59 rfl (Nat.le_of_ble_eq_true rfl) rfl rfl ?_
      intro wd195 hst196 hb197
      refine WL.nil ?_
      refine At.dq (Stp.up hst196 rfl) ?_
      refine WD.done_ (by kernel_rfl) ?_
      refine At.then ?_
      refine WC.seq ?_
      refine WC.seq ?_
      refine WC.region ?_
      refine WL.y (Y.fieldAddr fo25_1 rfl) rfl ?_
      have hf198 := hf26.st hst35 rfl
      have hf199 := hf198.st hst65 rfl
      have hf200 := hf199.st hst196 rfl
      refine WL.y (Y.loadSc ty23 rfl rfl (hf200.cell 1 _ rfl)) rfl ?_
      have hf201 := hf28.mono (imm_st hst35 rfl rfl)
      have hf202 := hf201.mono (imm_st hst65 rfl rfl)
      have hf203 := hf202.mono (imm_st hst196 rfl rfl)
      refine WL.y (Y.len ty23 rfl hf203) rfl ?_
      refine WL.y (Y.move rfl) rfl ?_
      refine WL.nil ?_
      refine At.then ?_
      refine WC.block ?_
      obtain ⟨p217, h, hk219⟩ := flow1 h
      obtain ⟨k218, h⟩ := loop_some h
      refine WC.joinB 0 (σ := (List UInt64 × Own)) (fun x w' => p217 = .go x.1 ∧ Stp [1004, 1005] O63 wd195 x.2 w' ∧ OwnSl 1006 Rep.u 22 x.2 w' (.slice p191 m192 c193) x.1) (fun x => [(4, .pointer (some ⟨p22, 0, none⟩)), (5, .pointer (some ⟨b58, 0, none⟩))]) ?_ ?_
      · have hf220 := hf62.st hst196 rfl rfl rfl
        obtain ⟨O221, hst222, ho223⟩ := OwnSl.rlb 1005 rfl hf220
        refine WC.loop (σ := (List UInt64 × Int × Own)) (fun x k w' => loopN k (hist_down_lp1 a0 a1) (x.1, x.2.1) = some p217 ∧ Stp [1004, 1005] O63 wd195 x.2.2 w' ∧ OwnSl 1005 Rep.u 22 x.2.2 w' (.slice p191 m192 c193) x.1) (fun x => [(1, vu a1), (2, .pointer (some ⟨p17, 0, none⟩)), (4, .pointer (some ⟨p22, 0, none⟩)), (5, .pointer (some ⟨b58, 0, none⟩)), (23, (.slice p12 m13 c14)), (24, vi (a0.Counts.length : Int)), (25, vi x.2.1)]) (x60, 0, O221) k218 (.cons rfl (.cons rfl (.cons rfl (.cons rfl (.cons rfl (.cons rfl (.cons rfl .nil))))))) ⟨h, (Stp.up hst222 rfl), ho223⟩ ?_
        rintro ⟨c204, x207, O208⟩ k218 wd209 ⟨h, hst210, hf206⟩
        obtain ⟨j224, q225, rfl, h, hn226⟩ := rnd1 h
        unfold hist_down_lp1 at h
        try dsimp only at h hst210 hf206
        refine (show WC _ _ _ _ [(1, vu a1), (2, .pointer (some ⟨p17, 0, none⟩)), (4, .pointer (some ⟨p22, 0, none⟩)), (5, .pointer (some ⟨b58, 0, none⟩)), (23, (.slice p12 m13 c14)), (24, vi (a0.Counts.length : Int)), (25, vi x207)] _ from ?_)
        refine WC.seq ?_
        refine WC.region ?_
        refine WL.y (Y.lss_i rfl rfl) rfl ?_
        refine WL.nil ?_
        refine At.then ?_
        refine WC.seq ?_
        rcases cnd h with ⟨hc227, h⟩ | ⟨hc227, h⟩
        · refine WC.condT' rfl hc227 ?_
          refine WC.skip ?_
          refine At.then ?_
          refine WC.seq ?_
          refine WC.block ?_
          refine WC.seq ?_
          refine WC.region ?_
          refine WL.y (Y.move rfl) rfl ?_
          obtain ⟨e228, he228, h⟩ := bnd h
          have hf237 := hf203.mono (imm_st hst210 rfl rfl)
          obtain ⟨b229, off238, cap236, cs235, hv230, hi231, hl232, hc233, hok234, hA239⟩ := Sl.at2 hf237 he228
          obtain rfl := hok234
          replace hc233 : CellsAt _ _ _ [vu e228] := hc233
          have hca240 := CAt.imm hc233 hA239
          refine WL.y (Y.indexAddr ty23 ty22 rfl hv230 rfl hi231 hl232) rfl ?_
          refine WL.y (Y.loadSc ty22 rfl rfl hca240.at_) rfl ?_
          refine WL.y (Y.assign rfl) rfl ?_
          refine WL.y (Y.assign rfl) rfl ?_
          refine WL.nil ?_
          refine At.then ?_
          refine WC.region ?_
          refine WL.y (Y.fieldAddr fo25_1 rfl) rfl ?_
          have hf241 := hb197.st hst210 rfl
          refine WL.y (Y.loadSc ty23 rfl rfl (hf241.cell 1 _ rfl)) rfl ?_
          refine WL.y (Y.fieldAddr fo25_0 rfl) rfl ?_
          have hf242 := hf200.st hst210 rfl
          refine WL.y (Y.loadSc ty3 rfl rfl (hf242.cell 0 _ rfl)) rfl ?_
          refine WL.y (Y.move rfl) rfl ?_
          refine WL.y (Y.add_i rfl rfl) rfl ?_
          refine WL.y (Y.move rfl) rfl ?_
          refine WL.y (Y.shr_iu rfl rfl) rfl ?_
          refine WL.y (Y.fieldAddr fo25_0 rfl) rfl ?_
          refine WL.y (Y.loadSc ty3 rfl rfl (hf241.cell 0 _ rfl)) rfl ?_
          refine WL.y (Y.sub_i rfl rfl) rfl ?_
          obtain ⟨e243, he243, h⟩ := bnd h
          obtain ⟨b244, cap251, cs250, hv245, hi246, hl247, hc248, hok249⟩ := OwnSl.at hf206 he243
          obtain rfl := hok249
          replace hc248 : CellsAt _ _ _ [vu e243] := hc248
          have hca252 := CAt.own hf206 hv245 hc248
          refine WL.y (Y.indexAddr ty23 ty22 rfl hv245 rfl hi246 hl247) rfl ?_
          refine WL.y (Y.loadSc ty22 rfl rfl hca252.at_) rfl ?_
          refine WL.y (Y.move rfl) rfl ?_
          refine WL.y (Y.add_u rfl rfl) rfl ?_
          obtain ⟨e253, he253, h⟩ := bnd h
          obtain ⟨b254, cap261, cs260, hv255, hi256, hl257, hc258, hok259⟩ := OwnSl.at hf206 he253
          obtain rfl := hok259
          replace hc258 : CellsAt _ _ _ [vu e253] := hc258
          have hca262 := CAt.own hf206 hv255 hc258
          refine WL.y (Y.indexAddr ty23 ty22 rfl hv255 rfl hi256 hl257) rfl ?_
          obtain ⟨t263, ht263, h⟩ := lt1 h
          refine WL.ren 44 rfl (congrArg vu ht263.symm) ?_
          obtain ⟨xs264, hxs264, h⟩ := bnd h
          refine WL.storeOwn (by decide) ty22 rfl rfl rfl hf206 hv255 hxs264 ?_
          intro wd265 hst266 ho267
          refine WL.nil ?_
          refine At.inBlock ?_
          refine At.then ?_
          refine WC.region ?_
          refine WL.y (Y.add_i rfl rfl) rfl ?_
          refine WL.y (Y.move rfl) rfl ?_
          refine WL.nil ?_
          exact At.round (xs264, w64 (x207 + 1), O208) j224 (Nat.lt_succ_self _) ⟨next1 h hn226, (Stp.trans (Stp.up hst210 rfl) (Stp.up hst266 rfl)), ho267⟩ (.cons rfl (.cons rfl (.cons rfl (.cons rfl (.cons rfl (.cons rfl (.cons rfl .nil)))))))
        · refine WC.condF' rfl hc227 ?_
          refine WC.exit ?_
          refine At.thenX ?_
          refine At.loopX ?_
          obtain ⟨O268, hst269, ho270⟩ := OwnSl.rlb 1006 rfl hf206
          exact At.hitB (σ := (List UInt64 × Own)) (c204, O268) ⟨brk1 h hn226, (Stp.trans (Stp.up hst210 rfl) (Stp.up hst269 rfl)), ho270⟩ (.cons rfl (.cons rfl .nil))
      · rintro ⟨c211, O214⟩ wd215 ⟨rfl, hst216, hf213⟩
        replace h := flowK_go hk219
        try dsimp only at h hst216 hf213
        refine (show At _ _ _ [(4, .pointer (some ⟨p22, 0, none⟩)), (5, .pointer (some ⟨b58, 0, none⟩))] _ from ?_)
        refine At.inBlockHit ?_
        refine At.then ?_
        refine WC.seq ?_
        refine WC.region ?_
        have hf271 := hb197.st hst216 rfl
        refine WL.y (Y.loadAg ty25 rfl rfl (hf271.cells 0 [vi (shrI a0.Offset a1.toNat), (.slice p191 m192 c193)] rfl) rfl) rfl ?_
        have hf272 := hb21.st hst35 rfl
        have hf273 := hf272.st hst65 rfl
        have hf274 := hf273.st hst196 rfl
        have hf275 := hf274.st hst216 rfl
        refine WL.store (v := .agg [vi (shrI a0.Offset a1.toNat), (.slice p191 m192 c193)].toArray) (cells' := [vi (shrI a0.Offset a1.toNat), (.slice p191 m192 c193)]) ty25 rfl rfl hf275 rfl (Nat.le_of_ble_eq_true rfl) rfl rfl ?_
        intro wd276 hst277 hb278
        refine WL.nil ?_
        refine At.then ?_
        refine WC.ret ?_
        obtain rfl := some1 h
        have hf279 := hf213.st hst277 rfl rfl rfl
        obtain ⟨O280, hst281, hf282⟩ := OwnSl.giveF rfl Flat.u hf279
        have hs283 : Stp [12, 13, 14, 15, 16, 17, 18, 1001, 1002, 1003, 1004, 1005, 1006] (Lg.O0 A) w O280 wd276 := (Stp.trans (Stp.up hst20 rfl) (Stp.trans (Stp.up hst25 rfl) (Stp.trans (Stp.up hst35 rfl) (Stp.trans (Stp.up hst65 rfl) (Stp.trans (Stp.up hst196 rfl) (Stp.trans (Stp.up hst216 rfl) (Stp.trans (Stp.up hst277 rfl) (Stp.up hst281 rfl))))))))
        have hf284 := hb278.st hst281 rfl
        exact At.res (.inl rfl) rfl (.cell rfl (hf284.runAg 0 [vi (shrI a0.Offset a1.toNat), (.slice p191 m192 c193)] ty25 rfl rfl rfl) .nil) ⟨(.slice p191 m192 c193), rfl, (Stp.ext hs283 rfl rfl), (Sl.outF hf282 hs283 low0)⟩

theorem c_hist_Down {A : Nat → Prop} {v0_3 : Value} {v0_5 : Value} {a0 : api_Hist} {a1 : Int} {w : World} (hs0_3 : Sl Rep.u w A v0_3 a0.Pos.Counts) (hs0_5 : Sl Rep.u w A v0_5 a0.Neg.Counts) {r0 : api_Hist} {r1 : Int} (h : hist_Down a0 a1 = some (r0, r1)) : Rets Try.prog 21 [.agg [vi a0.Scale, vu a0.Zero, vi a0.Pos.Offset, v0_3, vi a0.Neg.Offset, v0_5].toArray, vi a1] w (fun v w' => ∃ (u0_3 : Value) (u0_5 : Value), v = .tuple (List.toArray [.agg (List.toArray [vi r0.Scale, vu r0.Zero, vi r0.Pos.Offset, u0_3, vi r0.Neg.Offset, u0_5]), vi r1]) ∧ Ext w w' ∧ Sl Rep.u w' (fun k => w.heap.size ≤ k) u0_3 r0.Pos.Counts ∧ Sl Rep.u w' (fun k => w.heap.size ≤ k) u0_5 r0.Neg.Counts) := by
  unfold hist_Down at h
  refine Rets.enter Try.func21 rfl rfl ?_
  have hf11 : Sl Rep.u w (imm (Lg.O0 A)) v0_3 a0.Pos.Counts := (Sl.start hs0_3)
  have hf12 : Sl Rep.u w (imm (Lg.O0 A)) v0_5 a0.Neg.Counts := (Sl.start hs0_5)
  refine (show WC _ _ _ _ [(0, .agg [vi a0.Scale, vu a0.Zero, vi a0.Pos.Offset, v0_3, vi a0.Neg.Offset, v0_5].toArray), (1, vi a1)] _ from ?_)
  refine WC.seq ?_
  refine WC.region ?_
  have hh16 := h
  obtain ⟨p13, m14, c15, rfl⟩ := hf11.shape
  have h := hh16
  have hh20 := h
  obtain ⟨p17, m18, c19, rfl⟩ := hf12.shape
  have h := hh20
  refine WL.box (O := (Lg.O0 A)) 11 [vi a0.Scale, vu a0.Zero, vi a0.Pos.Offset, (.slice p13 m14 c15), vi a0.Neg.Offset, (.slice p17 m18 c19)] rfl rfl rfl ?_
  intro p22 O23 wd24 hst25 hb21
  refine WL.alloc (O := O23) 12 [vi 0, vu 0, vi 0, .slice none 0 0, vi 0, .slice none 0 0] ty27 rfl rfl ?_
  intro p27 O28 wd29 hst30 hb26
  refine WL.y (Y.assign rfl) rfl ?_
  refine WL.nil ?_
  refine At.then ?_
  refine WC.seq ?_
  refine WC.seq ?_
  refine WC.region ?_
  have hf31 := hb21.st hst30 rfl
  refine WL.y (Y.loadAg ty27 rfl rfl (hf31.cells 0 [vi a0.Scale, vu a0.Zero, vi a0.Pos.Offset, (.slice p13 m14 c15), vi a0.Neg.Offset, (.slice p17 m18 c19)] rfl) rfl) rfl ?_
  have hf32 := hf11.mono (imm_st hst25 rfl rfl)
  have hf33 := hf32.mono (imm_st hst30 rfl rfl)
  have hf34 := hf12.mono (imm_st hst25 rfl rfl)
  have hf35 := hf34.mono (imm_st hst30 rfl rfl)
  obtain ⟨r36, hp37, h⟩ := bnd h
  refine WL.call (vals := [.agg [vi a0.Scale, vu a0.Zero, vi a0.Pos.Offset, (.slice p13 m14 c15), vi a0.Neg.Offset, (.slice p17 m18 c19)].toArray]) kok19 rfl rfl (c_hist_Check (A := fun _ => True) (a0 := a0) (Sl.all hf33) (Sl.all hf35) hp37) ?_
  rintro vr40 wd39 ⟨rfl, hm38⟩
  obtain ⟨O41, hold42, hnew43, hst44⟩ := adoptE O28 (fun k => 1) hm38
  refine WL.y (Y.assign rfl) rfl ?_
  refine WL.nil ?_
  refine At.then ?_
  refine WC.seq ?_
  refine WC.region ?_
  refine WL.y (Y.move rfl) rfl ?_
  refine WL.y (Y.neq_i rfl rfl) rfl ?_
  refine WL.nil ?_
  refine At.then ?_
  rcases cnd h with ⟨hc45, h⟩ | ⟨hc45, h⟩
  · refine WC.condT' rfl hc45 ?_
    refine WC.seq ?_
    refine WC.region ?_
    refine WL.y (Y.build (vals := []) (cells := [vi 0, vu 0, vi 0, .slice none 0 0, vi 0, .slice none 0 0]) (Fits.evalp rfl) (by kernel_rfl)) rfl ?_
    refine WL.y (Y.move rfl) rfl ?_
    have hf46 := hb26.st hst44 rfl
    refine WL.store (v := .agg [vi 0, vu 0, vi 0, .slice none 0 0, vi 0, .slice none 0 0].toArray) (cells' := [vi 0, vu 0, vi 0, .slice none 0 0, vi 0, .slice none 0 0]) ty27 rfl rfl hf46 rfl (Nat.le_of_ble_eq_true rfl) rfl rfl ?_
    intro wd47 hst48 hb49
    refine WL.y (Y.assign rfl) rfl ?_
    refine WL.nil ?_
    refine At.then ?_
    refine WC.ret ?_
    refine At.thenR ?_
    obtain ⟨rfl, rfl⟩ := tup2 h
    have hs50 : Stp [12] (Lg.O0 A) w O41 wd47 := (Stp.trans (Stp.up hst25 rfl) (Stp.trans (Stp.up hst30 rfl) (Stp.trans (Stp.up hst44 rfl) (Stp.up hst48 rfl))))
    exact At.res (.inl rfl) rfl (.cell rfl (hb49.runAg 0 [vi 0, vu 0, vi 0, .slice none 0 0, vi 0, .slice none 0 0] ty27 rfl rfl rfl) (.tmp rfl .nil)) ⟨.slice none 0 0, .slice none 0 0, rfl, (Stp.ext hs50 rfl rfl), (Or.inl ⟨rfl, rfl⟩), (Or.inl ⟨rfl, rfl⟩)⟩
  · refine WC.condF' rfl hc45 ?_
    refine WC.skip ?_
    refine At.then ?_
    refine WC.seq ?_
    refine WC.seq ?_
    refine WC.region ?_
    refine WL.y (Y.move rfl) rfl ?_
    refine WL.y (Y.lss_i rfl rfl) rfl ?_
    refine WL.y (Y.move rfl) rfl ?_
    refine WL.cut 6 (σ := Unit) (fun _ w' => wd39 = w') (fun _ => [(1, vi a1), (2, .pointer (some ⟨p22, 0, none⟩)), (4, .pointer (some ⟨p27, 0, none⟩)), (21, .bool ((decide (a1 < 0)) || (decide (w64 (a0.Scale - (-10)) < a1))))]) ?_ ?_
    · refine WL.part 15 rfl (fun hE51 => ?_) (fun hE51 => ?_)
      · refine WL.gS rfl rfl rfl rfl ?_
        refine WL.gS rfl rfl rfl rfl ?_
        refine WL.gS rfl rfl rfl rfl ?_
        refine WL.gS rfl rfl rfl rfl ?_
        refine WL.gS rfl rfl rfl rfl ?_
        refine WL.y (Y.pick (b := true) rfl rfl) rfl ?_
        refine WL.ren (v' := .bool ((decide (a1 < 0)) || (decide (w64 (a0.Scale - (-10)) < a1)))) 21 rfl (congrArg Value.bool (orT hE51)) ?_
        exact WL.nil (At.join () rfl (.cons rfl (.cons rfl (.cons rfl (.cons rfl .nil)))))
      · refine WL.ung rfl rfl ?_
        refine WL.y (Y.move rfl) rfl ?_
        refine WL.ung rfl rfl ?_
        refine WL.y (Y.fieldAddr fo27_0 rfl) rfl ?_
        refine WL.ung rfl rfl ?_
        have hf52 := hf31.st hst44 rfl
        refine WL.y (Y.loadSc ty3 rfl rfl (hf52.cell 0 _ rfl)) rfl ?_
        refine WL.ung rfl rfl ?_
        refine WL.y (Y.sub_i rfl rfl) rfl ?_
        refine WL.ung rfl rfl ?_
        refine WL.y (Y.gtr_i rfl rfl) rfl ?_
        refine WL.y (Y.pick (b := false) rfl rfl) rfl ?_
        refine WL.ren (v' := .bool ((decide (a1 < 0)) || (decide (w64 (a0.Scale - (-10)) < a1)))) 21 rfl (congrArg Value.bool (orF hE51)) ?_
        exact WL.nil (At.join () rfl (.cons rfl (.cons rfl (.cons rfl (.cons rfl .nil)))))
    · rintro _ _ rfl
      refine (show WL _ _ _ _ _ [(1, vi a1), (2, .pointer (some ⟨p22, 0, none⟩)), (4, .pointer (some ⟨p27, 0, none⟩)), (21, .bool ((decide (a1 < 0)) || (decide (w64 (a0.Scale - (-10)) < a1))))] _ from ?_)
      refine WL.nil ?_
      refine At.then ?_
      rcases cnd h with ⟨hc53, h⟩ | ⟨hc53, h⟩
      · refine WC.condT' rfl hc53 ?_
        refine WC.seq ?_
        refine WC.region ?_
        refine WL.y (Y.build (vals := []) (cells := [vi 0, vu 0, vi 0, .slice none 0 0, vi 0, .slice none 0 0]) (Fits.evalp rfl) (by kernel_rfl)) rfl ?_
        have hf54 := hb26.st hst44 rfl
        refine WL.store (v := .agg [vi 0, vu 0, vi 0, .slice none 0 0, vi 0, .slice none 0 0].toArray) (cells' := [vi 0, vu 0, vi 0, .slice none 0 0, vi 0, .slice none 0 0]) ty27 rfl rfl hf54 rfl (Nat.le_of_ble_eq_true rfl) rfl rfl ?_
        intro wd55 hst56 hb57
        refine WL.y (Y.assign rfl) rfl ?_
        refine WL.nil ?_
        refine At.then ?_
        refine WC.ret ?_
        refine At.thenR ?_
        obtain ⟨rfl, rfl⟩ := tup2 h
        have hs58 : Stp [12] (Lg.O0 A) w O41 wd55 := (Stp.trans (Stp.up hst25 rfl) (Stp.trans (Stp.up hst30 rfl) (Stp.trans (Stp.up hst44 rfl) (Stp.up hst56 rfl))))
        exact At.res (.inl rfl) rfl (.cell rfl (hb57.runAg 0 [vi 0, vu 0, vi 0, .slice none 0 0, vi 0, .slice none 0 0] ty27 rfl rfl rfl) (.tmp rfl .nil)) ⟨.slice none 0 0, .slice none 0 0, rfl, (Stp.ext hs58 rfl rfl), (Or.inl ⟨rfl, rfl⟩), (Or.inl ⟨rfl, rfl⟩)⟩
      · refine WC.condF' rfl hc53 ?_
        refine WC.skip ?_
        refine At.then ?_
        refine WC.seq ?_
        refine WC.drawH [] [0, 1, 2, 3, 4, 5, 6, 7, 8, 9, 10, 11, 12, 13, 14, 15, 16] O41 19 fmix rfl (by kernel_rfl) ?_
        intro wd59 hst60
        refine WD.y 0 rfl (by kernel_rfl) (fun _ _ _ => Y.fieldAddr fo27_0 rfl) rfl ?_
        refine WD.y 1 rfl (by kernel_rfl) (fun wd65 O64 hst66 => have hf67 := hf31.st hst44 rfl; have hf68 := hf67.st hst60 rfl; have hf69 := hf68.st hst66 rfl; Y.loadSc ty3 rfl rfl (hf69.cell 0 _ rfl)) rfl ?_
        refine WD.y 2 rfl (by kernel_rfl) (fun _ _ _ => Y.move rfl) rfl ?_
        refine WD.y 3 rfl (by kernel_rfl) (fun _ _ _ => Y.sub_i rfl rfl) rfl ?_
        refine WD.y 4 rfl (by kernel_rfl) (fun _ _ _ => Y.fieldAddr fo27_1 rfl) rfl ?_
        refine WD.y 5 rfl (by kernel_rfl) (fun wd80 O79 hst81 => have hf82 := hf31.st hst44 rfl; have hf83 := hf82.st hst60 rfl; have hf84 := hf83.st hst81 rfl; Y.loadSc ty22 rfl rfl (hf84.cell 1 _ rfl)) rfl ?_
        refine WD.y 6 rfl (by kernel_rfl) (fun _ _ _ => Y.fieldAddr fo27_2 rfl) rfl ?_
        refine WD.y 7 rfl (by kernel_rfl) (fun wd89 O88 hst90 => have hf91 := hf31.st hst44 rfl; have hf92 := hf91.st hst60 rfl; have hf93 := hf92.st hst90 rfl; Y.loadAg ty25 rfl rfl (hf93.cells 2 [vi a0.Pos.Offset, (.slice p13 m14 c15)] rfl) rfl) rfl ?_
        refine WD.y 8 rfl (by kernel_rfl) (fun _ _ _ => Y.move rfl) rfl ?_
        refine WD.y 9 rfl (by kernel_rfl) (fun _ _ _ => Y.conv_iu ty3.u ty82.u rfl) rfl ?_
        refine WD.y 11 rfl (by kernel_rfl) (fun _ _ _ => Y.fieldAddr fo27_3 rfl) rfl ?_
        refine WD.y 12 rfl (by kernel_rfl) (fun wd104 O103 hst105 => have hf106 := hf31.st hst44 rfl; have hf107 := hf106.st hst60 rfl; have hf108 := hf107.st hst105 rfl; Y.loadAg ty25 rfl rfl (hf108.cells 4 [vi a0.Neg.Offset, (.slice p17 m18 c19)] rfl) rfl) rfl ?_
        refine WD.y 13 rfl (by kernel_rfl) (fun _ _ _ => Y.move rfl) rfl ?_
        refine WD.y 14 rfl (by kernel_rfl) (fun _ _ _ => Y.conv_iu ty3.u ty82.u rfl) rfl ?_
        refine WD.heavy 10 rfl (by kernel_rfl) ?_
        have hf115 := hf33.mono (imm_st hst44 rfl rfl)
        have hf116 := hf115.mono (imm_st hst60 rfl rfl)
        obtain ⟨r117, hp118, h⟩ := bnd h
        refine WL.call (vals := [.agg [vi a0.Pos.Offset, (.slice p13 m14 c15)].toArray, vu (toU64 a1)]) kok62 rfl rfl (c_hist_down (A := fun _ => True) (a0 := a0.Pos) (Sl.all hf116) hp118) ?_
        rintro vr123 wd122 ⟨u119, rfl, hm121, f120⟩
        obtain ⟨O124, hold125, hnew126, hst127⟩ := adoptE O41 (fun k => 1) hm121
        have hf128 : Sl Rep.u wd122 (frs O124) u119 r117.Counts := Sl.adoptF f120 (fun k hk => ⟨hk, rfl⟩) hnew126
        refine WL.nil ?_
        refine At.dq (Stp.up hst127 rfl) ?_
        refine WD.heavy 15 rfl (by kernel_rfl) ?_
        have hf129 := hf35.mono (imm_st hst44 rfl rfl)
        have hf130 := hf129.mono (imm_st hst60 rfl rfl)
        have hf131 := hf130.mono (imm_st hst127 rfl rfl)
        obtain ⟨r132, hp133, h⟩ := bnd h
        refine WL.call (vals := [.agg [vi a0.Neg.Offset, (.slice p17 m18 c19)].toArray, vu (toU64 a1)]) kok62 rfl rfl (c_hist_down (A := fun _ => True) (a0 := a0.Neg) (Sl.all hf131) hp133) ?_
        rintro vr138 wd137 ⟨u134, rfl, hm136, f135⟩
        obtain ⟨O139, hold140, hnew141, hst142⟩ := adoptE O124 (fun k => 1) hm136
        have hf143 : Sl Rep.u wd137 (frs O139) u134 r132.Counts := Sl.adoptF f135 (fun k hk => ⟨hk, rfl⟩) hnew141
        refine WL.nil ?_
        refine At.dq (Stp.up hst142 rfl) ?_
        have hf144 := hf128.mono (frs_st hst142 rfl)
        have hh148 := h
        obtain ⟨p145, m146, c147, rfl⟩ := hf144.shape
        have h := hh148
        have hh152 := h
        obtain ⟨p149, m150, c151, rfl⟩ := hf143.shape
        have h := hh152
        refine WD.y 16 rfl (by kernel_rfl) (fun _ _ _ => Y.build (vals := [(0, vi (w64 (a0.Scale - a1))), (1, vu a0.Zero), (2, .agg [vi r117.Offset, (.slice p145 m146 c147)].toArray), (3, .agg [vi r132.Offset, (.slice p149 m150 c151)].toArray)]) (cells := [vi (w64 (a0.Scale - a1)), vu a0.Zero, vi r117.Offset, (.slice p145 m146 c147), vi r132.Offset, (.slice p149 m150 c151)]) (Fits.evalp rfl) (by kernel_rfl)) rfl ?_
        refine WD.phase [12] [0, 1, 2, 3, 4, 5, 6, 7, 8, 9, 10, 11, 12, 13, 14, 15, 16, 17, 18] (by kernel_rfl) (by kernel_rfl) ?_
        refine WD.heavy 17 rfl (by kernel_rfl) ?_
        have hf156 := hb26.st hst44 rfl
        have hf157 := hf156.st hst60 rfl
        have hf158 := hf157.st hst127 rfl
        have hf159 := hf158.st hst142 rfl
        refine WL.store (v := .agg [vi (w64 (a0.Scale - a1)), vu a0.Zero, vi r117.Offset, (.slice p145 m146 c147), vi r132.Offset, (.slice p149 m150 c151)].toArray) (cells' := [vi (w64 (a0.Scale - a1)), vu a0.Zero, vi r117.Offset, (.slice p145 m146 c147), vi r132.Offset, (.slice p149 m150 c151)]) ty27 rfl rfl hf159 rfl (Nat.le_of_ble_eq_true rfl) rfl rfl ?_
        intro wd160 hst161 hb162
        refine WL.nil ?_
        refine At.dq (Stp.up hst161 rfl) ?_
        refine WD.y 18 rfl (by kernel_rfl) (fun _ _ _ => Y.assign rfl) rfl ?_
        refine WD.done_ (by kernel_rfl) ?_
        refine At.then ?_
        refine WC.ret ?_
        obtain ⟨rfl, rfl⟩ := tup2 h
        have hs166 : Stp [12] (Lg.O0 A) w O139 wd160 := (Stp.trans (Stp.up hst25 rfl) (Stp.trans (Stp.up hst30 rfl) (Stp.trans (Stp.up hst44 rfl) (Stp.trans (Stp.up hst60 rfl) (Stp.trans (Stp.up hst127 rfl) (Stp.trans (Stp.up hst142 rfl) (Stp.up hst161 rfl)))))))
        have hf167 := hf144.mono (frs_st hst161 rfl)
        have hf168 := hf143.mono (frs_st hst161 rfl)
        exact At.res (.inl rfl) rfl (.cell rfl (hb162.runAg 0 [vi (w64 (a0.Scale - a1)), vu a0.Zero, vi r117.Offset, (.slice p145 m146 c147), vi r132.Offset, (.slice p149 m150 c151)] ty27 rfl rfl rfl) (.tmp rfl .nil)) ⟨(.slice p145 m146 c147), (.slice p149 m150 c151), rfl, (Stp.ext hs166 rfl rfl), (Sl.outF hf167 hs166 low0), (Sl.outF hf168 hs166 low0)⟩

theorem c_hist_At {A : Nat → Prop} {v0_1 : Value} {a0 : api_Side} {a1 : Int} {w : World} (hs0_1 : Sl Rep.u w A v0_1 a0.Counts) {r0 : UInt64} (h : hist_At a0 a1 = some r0) : Rets Try.prog 23 [.agg [vi a0.Offset, v0_1].toArray, vi a1] w (fun v w' => v = vu r0 ∧ Ext w w') := by
  unfold hist_At at h
  refine Rets.enter Try.func23 rfl rfl ?_
  have hf11 : Sl Rep.u w (imm (Lg.O0 A)) v0_1 a0.Counts := (Sl.start hs0_1)
  refine (show WC _ _ _ _ [(0, .agg [vi a0.Offset, v0_1].toArray), (1, vi a1)] _ from ?_)
  refine WC.seq ?_
  refine WC.region ?_
  have hh15 := h
  obtain ⟨p12, m13, c14, rfl⟩ := hf11.shape
  have h := hh15
  refine WL.box (O := (Lg.O0 A)) 11 [vi a0.Offset, (.slice p12 m13 c14)] rfl rfl rfl ?_
  intro p17 O18 wd19 hst20 hb16
  refine WL.y (Y.assign (v := vu 0) rfl) rfl ?_
  refine WL.nil ?_
  refine At.then ?_
  refine WC.seq ?_
  refine WC.seq ?_
  refine WC.region ?_
  refine WL.y (Y.move rfl) rfl ?_
  refine WL.y (Y.fieldAddr fo25_0 rfl) rfl ?_
  refine WL.y (Y.loadSc ty3 rfl rfl (hb16.cell 0 _ rfl)) rfl ?_
  refine WL.y (Y.lss_i rfl rfl) rfl ?_
  refine WL.y (Y.move rfl) rfl ?_
  refine WL.cut 12 (σ := Unit) (fun _ w' => wd19 = w') (fun _ => [(1, vi a1), (2, .pointer (some ⟨p17, 0, none⟩)), (21, .bool ((decide (a1 < a0.Offset)) || (decide (toU64 (a0.Counts.length : Int) ≤ ((toU64 a1) - (toU64 a0.Offset))))))]) ?_ ?_
  · refine WL.part 9 rfl (fun hE21 => ?_) (fun hE21 => ?_)
    · refine WL.gS rfl rfl rfl rfl ?_
      refine WL.gS rfl rfl rfl rfl ?_
      refine WL.gS rfl rfl rfl rfl ?_
      refine WL.gS rfl rfl rfl rfl ?_
      refine WL.gS rfl rfl rfl rfl ?_
      refine WL.gS rfl rfl rfl rfl ?_
      refine WL.gS rfl rfl rfl rfl ?_
      refine WL.gS rfl rfl rfl rfl ?_
      refine WL.gS rfl rfl rfl rfl ?_
      refine WL.gS rfl rfl rfl rfl ?_
      refine WL.gS rfl rfl rfl rfl ?_
      refine WL.y (Y.pick (b := true) rfl rfl) rfl ?_
      refine WL.ren (v' := .bool ((decide (a1 < a0.Offset)) || (decide (toU64 (a0.Counts.length : Int) ≤ ((toU64 a1) - (toU64 a0.Offset)))))) 21 rfl (congrArg Value.bool (orT hE21)) ?_
      exact WL.nil (At.join () rfl (.cons rfl (.cons rfl (.cons rfl .nil))))
    · refine WL.ung rfl rfl ?_
      refine WL.y (Y.move rfl) rfl ?_
      refine WL.ung rfl rfl ?_
      refine WL.y (Y.conv_iu ty3.u ty22.u rfl) rfl ?_
      refine WL.ung rfl rfl ?_
      refine WL.y (Y.fieldAddr fo25_0 rfl) rfl ?_
      refine WL.ung rfl rfl ?_
      refine WL.y (Y.loadSc ty3 rfl rfl (hb16.cell 0 _ rfl)) rfl ?_
      refine WL.ung rfl rfl ?_
      refine WL.y (Y.conv_iu ty3.u ty22.u rfl) rfl ?_
      refine WL.ung rfl rfl ?_
      refine WL.y (Y.sub_u rfl rfl) rfl ?_
      refine WL.ung rfl rfl ?_
      refine WL.y (Y.fieldAddr fo25_1 rfl) rfl ?_
      refine WL.ung rfl rfl ?_
      refine WL.y (Y.loadSc ty23 rfl rfl (hb16.cell 1 _ rfl)) rfl ?_
      refine WL.ung rfl rfl ?_
      have hf22 := hf11.mono (imm_st hst20 rfl rfl)
      refine WL.y (Y.len ty23 rfl hf22) rfl ?_
      refine WL.ung rfl rfl ?_
      refine WL.y (Y.conv_iu ty3.u ty22.u rfl) rfl ?_
      refine WL.ung rfl rfl ?_
      refine WL.y (Y.geq_u rfl rfl) rfl ?_
      refine WL.y (Y.pick (b := false) rfl rfl) rfl ?_
      refine WL.ren (v' := .bool ((decide (a1 < a0.Offset)) || (decide (toU64 (a0.Counts.length : Int) ≤ ((toU64 a1) - (toU64 a0.Offset)))))) 21 rfl (congrArg Value.bool (orF hE21)) ?_
      exact WL.nil (At.join () rfl (.cons rfl (.cons rfl (.cons rfl .nil))))
  · rintro _ _ rfl
    refine (show WL _ _ _ _ _ [(1, vi a1), (2, .pointer (some ⟨p17, 0, none⟩)), (21, .bool ((decide (a1 < a0.Offset)) || (decide (toU64 (a0.Counts.length : Int) ≤ ((toU64 a1) - (toU64 a0.Offset))))))] _ from ?_)
    refine WL.nil ?_
    refine At.then ?_
    rcases cnd h with ⟨hc23, h⟩ | ⟨hc23, h⟩
    · refine WC.condT' rfl hc23 ?_
      refine WC.seq ?_
      refine WC.region ?_
      refine WL.y (Y.assign (v := vu 0) rfl) rfl ?_
      refine WL.nil ?_
      refine At.then ?_
      refine WC.ret ?_
      refine At.thenR ?_
      obtain rfl := some1 h
      have hs24 : Stp [] (Lg.O0 A) w O18 wd19 := (Stp.up hst20 rfl)
      exact At.res (.inl rfl) rfl (.tmp rfl .nil) ⟨rfl, (Stp.ext hs24 rfl rfl)⟩
    · refine WC.condF' rfl hc23 ?_
      refine WC.skip ?_
      refine At.then ?_
      refine WC.seq ?_
      refine WC.region ?_
      refine WL.y (Y.fieldAddr fo25_1 rfl) rfl ?_
      refine WL.y (Y.loadSc ty23 rfl rfl (hb16.cell 1 _ rfl)) rfl ?_
      refine WL.y (Y.move rfl) rfl ?_
      refine WL.y (Y.fieldAddr fo25_0 rfl) rfl ?_
      refine WL.y (Y.loadSc ty3 rfl rfl (hb16.cell 0 _ rfl)) rfl ?_
      refine WL.y (Y.sub_i rfl rfl) rfl ?_
      obtain ⟨e25, he25, h⟩ := bnd h
      have hf34 := hf11.mono (imm_st hst20 rfl rfl)
      obtain ⟨b26, off35, cap33, cs32, hv27, hi28, hl29, hc30, hok31, hA36⟩ := Sl.at2 hf34 he25
      obtain rfl := hok31
      replace hc30 : CellsAt _ _ _ [vu e25] := hc30
      have hca37 := CAt.imm hc30 hA36
      refine WL.y (Y.indexAddr ty23 ty22 rfl hv27 rfl hi28 hl29) rfl ?_
      refine WL.y (Y.loadSc ty22 rfl rfl hca37.at_) rfl ?_
      refine WL.y (Y.assign rfl) rfl ?_
      refine WL.nil ?_
      refine At.then ?_
      refine WC.ret ?_
      obtain rfl := some1 h
      have hs38 : Stp [] (Lg.O0 A) w O18 wd19 := (Stp.up hst20 rfl)
      exact At.res (.inl rfl) rfl (.tmp rfl .nil) ⟨rfl, (Stp.ext hs38 rfl rfl)⟩

theorem c_law08_awake {w : World} {r0 : Bool} (h : law08_awake = some r0) : Rets Try.prog 15 [] w (fun v w' => v = .bool r0 ∧ Ext w w') := by
  unfold law08_awake at h
  refine Rets.enter Try.func15 rfl rfl ?_
  refine (show WC _ _ _ _ [] _ from ?_)
  refine WC.seq ?_
  refine WC.region ?_
  refine WL.y (Y.assign rfl) rfl ?_
  refine WL.nil ?_
  refine At.then ?_
  refine WC.seq ?_
  refine WC.region ?_
  refine WL.buildSlice (O := (Lg.O0 (fun _ => False))) (R := Rep.u) (vals := [(0, vu 1), (1, vu 2), (2, vu 3)]) 11 [vu 1, vu 2, vu 3] (xs := [1, 2, 3]) (by decide) ty23 ty22 (by decide) (by decide) (Fits.evalp rfl) (by kernel_rfl) rfl ⟨[vu 1], [vu 2, vu 3], rfl, rfl, ⟨[vu 2], [vu 3], rfl, rfl, ⟨[vu 3], [], rfl, rfl, rfl⟩⟩⟩ rfl ?_
  intro v11 O13 wd14 hst15 ho12
  have hh19 := h
  obtain ⟨p16, m17, c18, rfl⟩ := ho12.shape
  have h := hh19
  refine WL.y (Y.build (vals := [(0, vi (-3)), (1, (.slice p16 m17 c18))]) (cells := [vi (-3), (.slice p16 m17 c18)]) (Fits.evalp rfl) (by kernel_rfl)) rfl ?_
  refine WL.y (Y.build (vals := [(0, vi 3), (2, .agg [vi (-3), (.slice p16 m17 c18)].toArray)]) (cells := [vi 3, vu 0, vi (-3), (.slice p16 m17 c18), vi 0, .slice none 0 0]) (Fits.evalp rfl) (by kernel_rfl)) rfl ?_
  refine WL.alloc (O := O13) 12 [vi 0, vu 0, vi 0, .slice none 0 0, vi 0, .slice none 0 0] ty27 rfl rfl ?_
  intro p21 O22 wd23 hst24 hb20
  refine WL.store (v := .agg [vi 3, vu 0, vi (-3), (.slice p16 m17 c18), vi 0, .slice none 0 0].toArray) (cells' := [vi 3, vu 0, vi (-3), (.slice p16 m17 c18), vi 0, .slice none 0 0]) ty27 rfl rfl hb20 rfl (Nat.le_of_ble_eq_true rfl) rfl rfl ?_
  intro wd25 hst26 hb27
  refine WL.nil ?_
  refine At.then ?_
  refine WC.seq ?_
  refine WC.region ?_
  refine WL.y (Y.loadAg ty27 rfl rfl (hb27.cells 0 [vi 3, vu 0, vi (-3), (.slice p16 m17 c18), vi 0, .slice none 0 0] rfl) rfl) rfl ?_
  have hf28 := ho12.st hst24 rfl rfl rfl
  have hf29 := hf28.st hst26 rfl rfl rfl
  obtain ⟨⟨r30, r31⟩, hp32, h⟩ := bnd h
  refine WL.call (vals := [.agg [vi 3, vu 0, vi (-3), (.slice p16 m17 c18), vi 0, .slice none 0 0].toArray, vi 1]) kok21 rfl rfl (c_hist_Down (A := fun _ => True) (a0 := (api_Hist.mk 3 0 (api_Side.mk (-3) [1, 2, 3]) (api_Side.mk 0 []))) (hf29.src.sl) (Or.inl ⟨rfl, rfl⟩) hp32) ?_
  rintro vr39 wd38 ⟨u33, u34, rfl, hm37, f35, f36⟩
  obtain ⟨O40, hold41, hnew42, hst43⟩ := adoptE O22 (fun k => 1) hm37
  have hf44 : Sl Rep.u wd38 (frs O40) u33 r30.Pos.Counts := Sl.adoptF f35 (fun k hk => ⟨hk, rfl⟩) hnew42
  have hf45 : Sl Rep.u wd38 (frs O40) u34 r30.Neg.Counts := Sl.adoptF f36 (fun k hk => ⟨hk, rfl⟩) hnew42
  refine WL.y (Y.move rfl) rfl ?_
  refine WL.y (Y.extract rfl rfl) rfl ?_
  refine WL.y (Y.extract rfl rfl) rfl ?_
  refine WL.alloc (O := O40) 13 [vi 0, vu 0, vi 0, .slice none 0 0, vi 0, .slice none 0 0] ty27 rfl rfl ?_
  intro p47 O48 wd49 hst50 hb46
  have hf51 := hf44.mono (frs_st hst50 rfl)
  have hh55 := h
  obtain ⟨p52, m53, c54, rfl⟩ := hf51.shape
  have h := hh55
  have hf56 := hf45.mono (frs_st hst50 rfl)
  have hh60 := h
  obtain ⟨p57, m58, c59, rfl⟩ := hf56.shape
  have h := hh60
  refine WL.store (v := .agg [vi r30.Scale, vu r30.Zero, vi r30.Pos.Offset, (.slice p52 m53 c54), vi r30.Neg.Offset, (.slice p57 m58 c59)].toArray) (cells' := [vi r30.Scale, vu r30.Zero, vi r30.Pos.Offset, (.slice p52 m53 c54), vi r30.Neg.Offset, (.slice p57 m58 c59)]) ty27 rfl rfl hb46 rfl (Nat.le_of_ble_eq_true rfl) rfl rfl ?_
  intro wd61 hst62 hb63
  refine WL.y (Y.assign rfl) rfl ?_
  refine WL.nil ?_
  refine At.then ?_
  refine WC.seq ?_
  refine WC.region ?_
  refine WL.y (Y.move rfl) rfl ?_
  refine WL.y (Y.eql_i rfl rfl) rfl ?_
  refine WL.y (Y.move rfl) rfl ?_
  refine WL.cut 4 (σ := Unit) (fun _ w' => wd61 = w') (fun _ => [(2, .pointer (some ⟨p47, 0, none⟩)), (18, .bool ((decide (r31 = 0)) && (decide (r30.Scale = 2))))]) ?_ ?_
  · refine WL.part 14 rfl (fun hE64 => ?_) (fun hE64 => ?_)
    · refine WL.ung rfl rfl ?_
      refine WL.y (Y.fieldAddr fo27_0 rfl) rfl ?_
      refine WL.ung rfl rfl ?_
      refine WL.y (Y.loadSc ty3 rfl rfl (hb63.cell 0 _ rfl)) rfl ?_
      refine WL.ung rfl rfl ?_
      refine WL.y (Y.eql_i rfl rfl) rfl ?_
      refine WL.y (Y.pick (b := true) rfl rfl) rfl ?_
      refine WL.ren (v' := .bool ((decide (r31 = 0)) && (decide (r30.Scale = 2)))) 18 rfl (congrArg Value.bool (andT hE64)) ?_
      exact WL.nil (At.join () rfl (.cons rfl (.cons rfl .nil)))
    · refine WL.gS rfl rfl rfl rfl ?_
      refine WL.gS rfl rfl rfl rfl ?_
      refine WL.gS rfl rfl rfl rfl ?_
      refine WL.y (Y.pick (b := false) rfl rfl) rfl ?_
      refine WL.ren (v' := .bool ((decide (r31 = 0)) && (decide (r30.Scale = 2)))) 18 rfl (congrArg Value.bool (andF hE64)) ?_
      exact WL.nil (At.join () rfl (.cons rfl (.cons rfl .nil)))
  · rintro _ _ rfl
    refine (show WL _ _ _ _ _ [(2, .pointer (some ⟨p47, 0, none⟩)), (18, .bool ((decide (r31 = 0)) && (decide (r30.Scale = 2))))] _ from ?_)
    refine WL.y (Y.move rfl) rfl ?_
    obtain ⟨p69, h, hk70⟩ := bnd h
    refine WL.cut 5 (σ := (Bool × Own)) (fun x w' => x.1 = p69 ∧ Stp [] O48 wd61 x.2 w') (fun x => [(2, .pointer (some ⟨p47, 0, none⟩)), (24, .bool x.1)]) ?_ ?_
    · rcases cnd h with ⟨hE71, h⟩ | ⟨hE71, h⟩
      · refine WL.ren 19 rfl (congrArg Value.bool hE71) ?_
        refine WL.ung rfl rfl ?_
        refine WL.y (Y.fieldAddr fo27_2 rfl) rfl ?_
        refine WL.ung rfl rfl ?_
        refine WL.y (Y.loadAg ty25 rfl rfl (hb63.cells 2 [vi r30.Pos.Offset, (.slice p52 m53 c54)] rfl) rfl) rfl ?_
        refine WL.ung rfl rfl ?_
        have hf72 := hf51.mono (frs_st hst62 rfl)
        obtain ⟨r73, hp74, h⟩ := bnd h
        refine WL.call (vals := [.agg [vi r30.Pos.Offset, (.slice p52 m53 c54)].toArray, vi (-2)]) kok23 rfl rfl (c_hist_At (A := fun _ => True) (a0 := r30.Pos) (Sl.all hf72) hp74) ?_
        rintro vr77 wd76 ⟨rfl, hm75⟩
        obtain ⟨O78, hold79, hnew80, hst81⟩ := adoptE O48 (fun k => 1) hm75
        refine WL.ung rfl rfl ?_
        refine WL.y (Y.eql_u (b := 1) rfl rfl) rfl ?_
        refine WL.y (Y.pick (b := true) rfl rfl) rfl ?_
        exact WL.nil (At.join (σ := (Bool × Own)) (decide (r73 = 1), O78) ⟨some1 h, (Stp.up hst81 rfl)⟩ (.cons rfl (.cons rfl .nil)))
      · refine WL.ren 19 rfl (congrArg Value.bool hE71) ?_
        refine WL.gS rfl rfl rfl rfl ?_
        refine WL.gS rfl rfl rfl rfl ?_
        refine WL.gS rfl rfl rfl rfl ?_
        refine WL.gS rfl rfl rfl rfl ?_
        refine WL.y (Y.pick (b := false) rfl rfl) rfl ?_
        exact WL.nil (At.join (σ := (Bool × Own)) (false, O48) ⟨some1 h, (Stp.refl _ _ _)⟩ (.cons rfl (.cons rfl .nil)))
    · rintro ⟨x65, O66⟩ wd67 ⟨rfl, hst68⟩
      replace h := hk70
      try dsimp only at h hst68
      refine (show WL _ _ _ _ _ [(2, .pointer (some ⟨p47, 0, none⟩)), (24, .bool x65)] _ from ?_)
      refine WL.y (Y.move rfl) rfl ?_
      obtain ⟨p86, h, hk87⟩ := bnd h
      refine WL.cut 5 (σ := (Bool × Own)) (fun x w' => x.1 = p86 ∧ Stp [] O66 wd67 x.2 w') (fun x => [(2, .pointer (some ⟨p47, 0, none⟩)), (30, .bool x.1)]) ?_ ?_
      · rcases cnd h with ⟨hE88, h⟩ | ⟨hE88, h⟩
        · refine WL.ren 25 rfl (congrArg Value.bool hE88) ?_
          refine WL.ung rfl rfl ?_
          refine WL.y (Y.fieldAddr fo27_2 rfl) rfl ?_
          refine WL.ung rfl rfl ?_
          have hf89 := hb63.st hst68 rfl
          refine WL.y (Y.loadAg ty25 rfl rfl (hf89.cells 2 [vi r30.Pos.Offset, (.slice p52 m53 c54)] rfl) rfl) rfl ?_
          refine WL.ung rfl rfl ?_
          have hf90 := hf51.mono (frs_st hst62 rfl)
          have hf91 := hf90.mono (frs_st hst68 rfl)
          obtain ⟨r92, hp93, h⟩ := bnd h
          refine WL.call (vals := [.agg [vi r30.Pos.Offset, (.slice p52 m53 c54)].toArray, vi (-1)]) kok23 rfl rfl (c_hist_At (A := fun _ => True) (a0 := r30.Pos) (Sl.all hf91) hp93) ?_
          rintro vr96 wd95 ⟨rfl, hm94⟩
          obtain ⟨O97, hold98, hnew99, hst100⟩ := adoptE O66 (fun k => 1) hm94
          refine WL.ung rfl rfl ?_
          refine WL.y (Y.eql_u (b := 5) rfl rfl) rfl ?_
          refine WL.y (Y.pick (b := true) rfl rfl) rfl ?_
          exact WL.nil (At.join (σ := (Bool × Own)) (decide (r92 = 5), O97) ⟨some1 h, (Stp.up hst100 rfl)⟩ (.cons rfl (.cons rfl .nil)))
        · refine WL.ren 25 rfl (congrArg Value.bool hE88) ?_
          refine WL.gS rfl rfl rfl rfl ?_
          refine WL.gS rfl rfl rfl rfl ?_
          refine WL.gS rfl rfl rfl rfl ?_
          refine WL.gS rfl rfl rfl rfl ?_
          refine WL.y (Y.pick (b := false) rfl rfl) rfl ?_
          exact WL.nil (At.join (σ := (Bool × Own)) (false, O66) ⟨some1 h, (Stp.refl _ _ _)⟩ (.cons rfl (.cons rfl .nil)))
      · rintro ⟨x82, O83⟩ wd84 ⟨rfl, hst85⟩
        replace h := hk87
        try dsimp only at h hst85
        refine (show WL _ _ _ _ _ [(2, .pointer (some ⟨p47, 0, none⟩)), (30, .bool x82)] _ from ?_)
        refine WL.y (Y.move rfl) rfl ?_
        refine WL.cut 6 (σ := Unit) (fun _ w' => wd84 = w') (fun _ => [(37, .bool (x82 && (decide ((r30.Pos.Counts.length : Int) = 2))))]) ?_ ?_
        · refine WL.part 31 rfl (fun hE101 => ?_) (fun hE101 => ?_)
          · refine WL.ung rfl rfl ?_
            refine WL.y (Y.fieldAddr fo27_2 rfl) rfl ?_
            refine WL.ung rfl rfl ?_
            refine WL.y (Y.fieldAddr fo25_1 rfl) rfl ?_
            refine WL.ung rfl rfl ?_
            have hf102 := hb63.st hst68 rfl
            have hf103 := hf102.st hst85 rfl
            refine WL.y (Y.loadSc ty23 rfl rfl (hf103.cell 3 _ rfl)) rfl ?_
            refine WL.ung rfl rfl ?_
            have hf104 := hf51.mono (frs_st hst62 rfl)
            have hf105 := hf104.mono (frs_st hst68 rfl)
            have hf106 := hf105.mono (frs_st hst85 rfl)
            refine WL.y (Y.len ty23 rfl hf106) rfl ?_
            refine WL.ung rfl rfl ?_
            refine WL.y (Y.eql_i rfl rfl) rfl ?_
            refine WL.y (Y.pick (b := true) rfl rfl) rfl ?_
            refine WL.ren (v' := .bool (x82 && (decide ((r30.Pos.Counts.length : Int) = 2)))) 37 rfl (congrArg Value.bool (andT hE101)) ?_
            exact WL.nil (At.join () rfl (.cons rfl .nil))
          · refine WL.gS rfl rfl rfl rfl ?_
            refine WL.gS rfl rfl rfl rfl ?_
            refine WL.gS rfl rfl rfl rfl ?_
            refine WL.gS rfl rfl rfl rfl ?_
            refine WL.gS rfl rfl rfl rfl ?_
            refine WL.y (Y.pick (b := false) rfl rfl) rfl ?_
            refine WL.ren (v' := .bool (x82 && (decide ((r30.Pos.Counts.length : Int) = 2)))) 37 rfl (congrArg Value.bool (andF hE101)) ?_
            exact WL.nil (At.join () rfl (.cons rfl .nil))
        · rintro _ _ rfl
          refine (show WL _ _ _ _ _ [(37, .bool (x82 && (decide ((r30.Pos.Counts.length : Int) = 2))))] _ from ?_)
          refine WL.y (Y.move rfl) rfl ?_
          obtain ⟨p111, h, hk112⟩ := bnd h
          refine WL.cut 6 (σ := (Bool × Own)) (fun x w' => x.1 = p111 ∧ Stp [] O83 wd84 x.2 w') (fun x => [(44, .bool x.1)]) ?_ ?_
          · rcases cnd h with ⟨hE113, h⟩ | ⟨hE113, h⟩
            · refine WL.ren 38 rfl (congrArg Value.bool hE113) ?_
              refine WL.ung rfl rfl ?_
              refine WL.buildSlice (O := O83) (R := Rep.u) (vals := [(0, vu 0), (1, vu 1)]) 14 [vu 0, vu 1] (xs := [0, 1]) (by decide) ty23 ty22 (by decide) (by decide) (Fits.evalp rfl) (by kernel_rfl) rfl ⟨[vu 0], [vu 1], rfl, rfl, ⟨[vu 1], [], rfl, rfl, rfl⟩⟩ rfl ?_
              intro v114 O116 wd117 hst118 ho115
              refine WL.ung rfl rfl ?_
              have hh122 := h
              obtain ⟨p119, m120, c121, rfl⟩ := ho115.shape
              have h := hh122
              refine WL.y (Y.build (vals := [(1, (.slice p119 m120 c121))]) (cells := [vi 0, (.slice p119 m120 c121)]) (Fits.evalp rfl) (by kernel_rfl)) rfl ?_
              refine WL.ung rfl rfl ?_
              refine WL.y (Y.build (vals := [(2, .agg [vi 0, (.slice p119 m120 c121)].toArray)]) (cells := [vi 0, vu 0, vi 0, (.slice p119 m120 c121), vi 0, .slice none 0 0]) (Fits.evalp rfl) (by kernel_rfl)) rfl ?_
              refine WL.ung rfl rfl ?_
              obtain ⟨r123, hp124, h⟩ := bnd h
              refine WL.call (vals := [.agg [vi 0, vu 0, vi 0, (.slice p119 m120 c121), vi 0, .slice none 0 0].toArray]) kok19 rfl rfl (c_hist_Check (A := fun _ => True) (a0 := (api_Hist.mk 0 0 (api_Side.mk 0 [0, 1]) (api_Side.mk 0 []))) (ho115.src.sl) (Or.inl ⟨rfl, rfl⟩) hp124) ?_
              rintro vr127 wd126 ⟨rfl, hm125⟩
              obtain ⟨O128, hold129, hnew130, hst131⟩ := adoptE O116 (fun k => 1) hm125
              refine WL.ung rfl rfl ?_
              refine WL.y (Y.eql_i rfl rfl) rfl ?_
              refine WL.y (Y.pick (b := true) rfl rfl) rfl ?_
              exact WL.nil (At.join (σ := (Bool × Own)) (decide (r123 = 3), O128) ⟨some1 h, (Stp.trans (Stp.up hst118 rfl) (Stp.up hst131 rfl))⟩ (.cons rfl .nil))
            · refine WL.ren 38 rfl (congrArg Value.bool hE113) ?_
              refine WL.gS rfl rfl rfl rfl ?_
              refine WL.gS rfl rfl rfl rfl ?_
              refine WL.gS rfl rfl rfl rfl ?_
              refine WL.gS rfl rfl rfl rfl ?_
              refine WL.gS rfl rfl rfl rfl ?_
              refine WL.y (Y.pick (b := false) rfl rfl) rfl ?_
              exact WL.nil (At.join (σ := (Bool × Own)) (false, O83) ⟨some1 h, (Stp.refl _ _ _)⟩ (.cons rfl .nil))
          · rintro ⟨x107, O108⟩ wd109 ⟨rfl, hst110⟩
            replace h := hk112
            try dsimp only at h hst110
            refine (show WL _ _ _ _ _ [(44, .bool x107)] _ from ?_)
            refine WL.y (Y.assign rfl) rfl ?_
            refine WL.nil ?_
            refine At.then ?_
            refine WC.ret ?_
            obtain rfl := some1 h
            have hs132 : Stp [12, 13] (Lg.O0 (fun _ => False)) w O108 wd109 := (Stp.trans (Stp.up hst15 rfl) (Stp.trans (Stp.up hst24 rfl) (Stp.trans (Stp.up hst26 rfl) (Stp.trans (Stp.up hst43 rfl) (Stp.trans (Stp.up hst50 rfl) (Stp.trans (Stp.up hst62 rfl) (Stp.trans (Stp.up hst68 rfl) (Stp.trans (Stp.up hst85 rfl) (Stp.up hst110 rfl)))))))))
            exact At.res (.inl rfl) rfl (.tmp rfl .nil) ⟨rfl, (Stp.ext hs132 rfl rfl)⟩

theorem c_ref08_Light {A : Nat → Prop} {v0_3 : Value} {v0_5 : Value} {a0 : api_Hist} {w : World} (hs0_3 : Sl Rep.u w A v0_3 a0.Pos.Counts) (hs0_5 : Sl Rep.u w A v0_5 a0.Neg.Counts) {r0 : Bool} (h : ref08_Light a0 = some r0) : Rets Try.prog 16 [.agg [vi a0.Scale, vu a0.Zero, vi a0.Pos.Offset, v0_3, vi a0.Neg.Offset, v0_5].toArray] w (fun v w' => v = .bool r0 ∧ Ext w w') := by
  unfold ref08_Light at h
  refine Rets.enter Try.func16 rfl rfl ?_
  have hf11 : Sl Rep.u w (imm (Lg.O0 A)) v0_3 a0.Pos.Counts := (Sl.start hs0_3)
  have hf12 : Sl Rep.u w (imm (Lg.O0 A)) v0_5 a0.Neg.Counts := (Sl.start hs0_5)
  refine (show WC _ _ _ _ [(0, .agg [vi a0.Scale, vu a0.Zero, vi a0.Pos.Offset, v0_3, vi a0.Neg.Offset, v0_5].toArray)] _ from ?_)
  refine WC.seq ?_
  refine WC.region ?_
  have hh16 := h
  obtain ⟨p13, m14, c15, rfl⟩ := hf11.shape
  have h := hh16
  have hh20 := h
  obtain ⟨p17, m18, c19, rfl⟩ := hf12.shape
  have h := hh20
  refine WL.box (O := (Lg.O0 A)) 11 [vi a0.Scale, vu a0.Zero, vi a0.Pos.Offset, (.slice p13 m14 c15), vi a0.Neg.Offset, (.slice p17 m18 c19)] rfl rfl rfl ?_
  intro p22 O23 wd24 hst25 hb21
  refine WL.y (Y.assign rfl) rfl ?_
  refine WL.nil ?_
  refine At.then ?_
  refine WC.seq ?_
  refine WC.region ?_
  refine WL.y (Y.fieldAddr fo27_2 rfl) rfl ?_
  refine WL.y (Y.fieldAddr fo25_1 rfl) rfl ?_
  refine WL.y (Y.loadSc ty23 rfl rfl (hb21.cell 3 _ rfl)) rfl ?_
  have hf26 := hf11.mono (imm_st hst25 rfl rfl)
  refine WL.y (Y.len ty23 rfl hf26) rfl ?_
  refine WL.y (Y.leq_i rfl rfl) rfl ?_
  refine WL.y (Y.move rfl) rfl ?_
  refine WL.cut 6 (σ := Unit) (fun _ w' => wd24 = w') (fun _ => [(14, .bool ((decide ((a0.Pos.Counts.length : Int) ≤ 300)) && (decide ((a0.Neg.Counts.length : Int) ≤ 300))))]) ?_ ?_
  · refine WL.part 8 rfl (fun hE27 => ?_) (fun hE27 => ?_)
    · refine WL.ung rfl rfl ?_
      refine WL.y (Y.fieldAddr fo27_3 rfl) rfl ?_
      refine WL.ung rfl rfl ?_
      refine WL.y (Y.fieldAddr fo25_1 rfl) rfl ?_
      refine WL.ung rfl rfl ?_
      refine WL.y (Y.loadSc ty23 rfl rfl (hb21.cell 5 _ rfl)) rfl ?_
      refine WL.ung rfl rfl ?_
      have hf28 := hf12.mono (imm_st hst25 rfl rfl)
      refine WL.y (Y.len ty23 rfl hf28) rfl ?_
      refine WL.ung rfl rfl ?_
      refine WL.y (Y.leq_i rfl rfl) rfl ?_
      refine WL.y (Y.pick (b := true) rfl rfl) rfl ?_
      refine WL.ren (v' := .bool ((decide ((a0.Pos.Counts.length : Int) ≤ 300)) && (decide ((a0.Neg.Counts.length : Int) ≤ 300)))) 14 rfl (congrArg Value.bool (andT hE27)) ?_
      exact WL.nil (At.join () rfl (.cons rfl .nil))
    · refine WL.gS rfl rfl rfl rfl ?_
      refine WL.gS rfl rfl rfl rfl ?_
      refine WL.gS rfl rfl rfl rfl ?_
      refine WL.gS rfl rfl rfl rfl ?_
      refine WL.gS rfl rfl rfl rfl ?_
      refine WL.y (Y.pick (b := false) rfl rfl) rfl ?_
      refine WL.ren (v' := .bool ((decide ((a0.Pos.Counts.length : Int) ≤ 300)) && (decide ((a0.Neg.Counts.length : Int) ≤ 300)))) 14 rfl (congrArg Value.bool (andF hE27)) ?_
      exact WL.nil (At.join () rfl (.cons rfl .nil))
  · rintro _ _ rfl
    refine (show WL _ _ _ _ _ [(14, .bool ((decide ((a0.Pos.Counts.length : Int) ≤ 300)) && (decide ((a0.Neg.Counts.length : Int) ≤ 300))))] _ from ?_)
    obtain ⟨t29, ht29, h⟩ := lt1 h
    refine WL.yE (Y.assign rfl) (congrArg Value.bool ht29.symm) rfl ?_
    refine WL.nil ?_
    refine At.then ?_
    refine WC.ret ?_
    obtain rfl := some1 h
    have hs30 : Stp [] (Lg.O0 A) w O23 wd24 := (Stp.up hst25 rfl)
    exact At.res (.inl rfl) rfl (.tmp rfl .nil) ⟨rfl, (Stp.ext hs30 rfl rfl)⟩

theorem c_ref08_SameSide {A : Nat → Prop} {v0_1 : Value} {a0 : api_Side} {v1_1 : Value} {a1 : api_Side} {w : World} (hs0_1 : Sl Rep.u w A v0_1 a0.Counts) (hs1_1 : Sl Rep.u w A v1_1 a1.Counts) {r0 : Bool} (h : ref08_SameSide a0 a1 = some r0) : Rets Try.prog 27 [.agg [vi a0.Offset, v0_1].toArray, .agg [vi a1.Offset, v1_1].toArray] w (fun v w' => v = .bool r0 ∧ Ext w w') := by
  unfold ref08_SameSide at h
  refine Rets.enter Try.func27 rfl rfl ?_
  have hf11 : Sl Rep.u w (imm (Lg.O0 A)) v0_1 a0.Counts := (Sl.start hs0_1)
  have hf12 : Sl Rep.u w (imm (Lg.O0 A)) v1_1 a1.Counts := (Sl.start hs1_1)
  refine (show WC _ _ _ _ [(0, .agg [vi a0.Offset, v0_1].toArray), (1, .agg [vi a1.Offset, v1_1].toArray)] _ from ?_)
  refine WC.seq ?_
  refine WC.region ?_
  have hh16 := h
  obtain ⟨p13, m14, c15, rfl⟩ := hf11.shape
  have h := hh16
  refine WL.box (O := (Lg.O0 A)) 11 [vi a0.Offset, (.slice p13 m14 c15)] rfl rfl rfl ?_
  intro p18 O19 wd20 hst21 hb17
  have hf22 := hf12.mono (imm_st hst21 rfl rfl)
  have hh26 := h
  obtain ⟨p23, m24, c25, rfl⟩ := hf22.shape
  have h := hh26
  refine WL.box (O := O19) 12 [vi a1.Offset, (.slice p23 m24 c25)] rfl rfl rfl ?_
  intro p28 O29 wd30 hst31 hb27
  refine WL.y (Y.assign rfl) rfl ?_
  refine WL.nil ?_
  refine At.then ?_
  refine WC.seq ?_
  refine WC.seq ?_
  refine WC.region ?_
  refine WL.y (Y.fieldAddr fo25_0 rfl) rfl ?_
  have hf32 := hb17.st hst31 rfl
  refine WL.y (Y.loadSc ty3 rfl rfl (hf32.cell 0 _ rfl)) rfl ?_
  refine WL.y (Y.fieldAddr fo25_0 rfl) rfl ?_
  refine WL.y (Y.loadSc ty3 rfl rfl (hb27.cell 0 _ rfl)) rfl ?_
  refine WL.y (Y.neq_i rfl rfl) rfl ?_
  refine WL.y (Y.move rfl) rfl ?_
  refine WL.cut 8 (σ := Unit) (fun _ w' => wd30 = w') (fun _ => [(2, .pointer (some ⟨p18, 0, none⟩)), (3, .pointer (some ⟨p28, 0, none⟩)), (19, .bool ((!decide (a0.Offset = a1.Offset)) || (!decide ((a0.Counts.length : Int) = (a1.Counts.length : Int)))))]) ?_ ?_
  · refine WL.part 11 rfl (fun hE33 => ?_) (fun hE33 => ?_)
    · refine WL.gS rfl rfl rfl rfl ?_
      refine WL.gS rfl rfl rfl rfl ?_
      refine WL.gS rfl rfl rfl rfl ?_
      refine WL.gS rfl rfl rfl rfl ?_
      refine WL.gS rfl rfl rfl rfl ?_
      refine WL.gS rfl rfl rfl rfl ?_
      refine WL.gS rfl rfl rfl rfl ?_
      refine WL.y (Y.pick (b := true) rfl rfl) rfl ?_
      refine WL.ren (v' := .bool ((!decide (a0.Offset = a1.Offset)) || (!decide ((a0.Counts.length : Int) = (a1.Counts.length : Int))))) 19 rfl (congrArg Value.bool (orT hE33)) ?_
      exact WL.nil (At.join () rfl (.cons rfl (.cons rfl (.cons rfl .nil))))
    · refine WL.ung rfl rfl ?_
      refine WL.y (Y.fieldAddr fo25_1 rfl) rfl ?_
      refine WL.ung rfl rfl ?_
      refine WL.y (Y.loadSc ty23 rfl rfl (hf32.cell 1 _ rfl)) rfl ?_
      refine WL.ung rfl rfl ?_
      have hf34 := hf11.mono (imm_st hst21 rfl rfl)
      have hf35 := hf34.mono (imm_st hst31 rfl rfl)
      refine WL.y (Y.len ty23 rfl hf35) rfl ?_
      refine WL.ung rfl rfl ?_
      refine WL.y (Y.fieldAddr fo25_1 rfl) rfl ?_
      refine WL.ung rfl rfl ?_
      refine WL.y (Y.loadSc ty23 rfl rfl (hb27.cell 1 _ rfl)) rfl ?_
      refine WL.ung rfl rfl ?_
      have hf36 := hf22.mono (imm_st hst31 rfl rfl)
      refine WL.y (Y.len ty23 rfl hf36) rfl ?_
      refine WL.ung rfl rfl ?_
      refine WL.y (Y.neq_i rfl rfl) rfl ?_
      refine WL.y (Y.pick (b := false) rfl rfl) rfl ?_
      refine WL.ren (v' := .bool ((!decide (a0.Offset = a1.Offset)) || (!decide ((a0.Counts.length : Int) = (a1.Counts.length : Int))))) 19 rfl (congrArg Value.bool (orF hE33)) ?_
      exact WL.nil (At.join () rfl (.cons rfl (.cons rfl (.cons rfl .nil))))
  · rintro _ _ rfl
    refine (show WL _ _ _ _ _ [(2, .pointer (some ⟨p18, 0, none⟩)), (3, .pointer (some ⟨p28, 0, none⟩)), (19, .bool ((!decide (a0.Offset = a1.Offset)) || (!decide ((a0.Counts.length : Int) = (a1.Counts.length : Int)))))] _ from ?_)
    refine WL.nil ?_
    refine At.then ?_
    rcases cnd h with ⟨hc37, h⟩ | ⟨hc37, h⟩
    · refine WC.condT' rfl hc37 ?_
      refine WC.seq ?_
      refine WC.region ?_
      refine WL.y (Y.assign rfl) rfl ?_
      refine WL.nil ?_
      refine At.then ?_
      refine WC.ret ?_
      refine At.thenR ?_
      obtain rfl := some1 h
      have hs38 : Stp [] (Lg.O0 A) w O29 wd30 := (Stp.trans (Stp.up hst21 rfl) (Stp.up hst31 rfl))
      exact At.res (.inl rfl) rfl (.tmp rfl .nil) ⟨rfl, (Stp.ext hs38 rfl rfl)⟩
    · refine WC.condF' rfl hc37 ?_
      refine WC.skip ?_
      refine At.then ?_
      refine WC.seq ?_
      refine WC.seq ?_
      refine WC.region ?_
      refine WL.y (Y.assign rfl) rfl ?_
      refine WL.nil ?_
      refine At.then ?_
      refine WC.block ?_
      obtain ⟨p46, h, hk48⟩ := flow1 h
      obtain ⟨k47, h⟩ := loop_some h
      refine WC.joinB 0 (σ := Own) (fun x w' => p46 = .go () ∧ Stp [] O29 wd30 x w') (fun x => []) ?_ ?_
      · refine WC.loop (σ := (Int × Own)) (fun x k w' => loopN k (ref08_SameSide_lp1 a0 a1) x.1 = some p46 ∧ Stp [] O29 wd30 x.2 w') (fun x => [(2, .pointer (some ⟨p18, 0, none⟩)), (3, .pointer (some ⟨p28, 0, none⟩)), (5, vi x.1)]) (0, O29) k47 (.cons rfl (.cons rfl (.cons rfl .nil))) ⟨h, (Stp.refl _ _ _)⟩ ?_
        rintro ⟨i39, O40⟩ k47 wd41 ⟨h, hst42⟩
        obtain ⟨j49, q50, rfl, h, hn51⟩ := rnd1 h
        unfold ref08_SameSide_lp1 at h
        try dsimp only at h hst42
        refine (show WC _ _ _ _ [(2, .pointer (some ⟨p18, 0, none⟩)), (3, .pointer (some ⟨p28, 0, none⟩)), (5, vi i39)] _ from ?_)
        refine WC.seq ?_
        refine WC.seq ?_
        refine WC.region ?_
        refine WL.y (Y.move rfl) rfl ?_
        refine WL.y (Y.fieldAddr fo25_1 rfl) rfl ?_
        have hf52 := hf32.st hst42 rfl
        refine WL.y (Y.loadSc ty23 rfl rfl (hf52.cell 1 _ rfl)) rfl ?_
        have hf53 := hf11.mono (imm_st hst21 rfl rfl)
        have hf54 := hf53.mono (imm_st hst31 rfl rfl)
        have hf55 := hf54.mono (imm_st hst42 rfl rfl)
        refine WL.y (Y.len ty23 rfl hf55) rfl ?_
        refine WL.y (Y.lss_i rfl rfl) rfl ?_
        refine WL.nil ?_
        refine At.then ?_
        rcases cnd h with ⟨hc56, h⟩ | ⟨hc56, h⟩
        · refine WC.condT' rfl hc56 ?_
          refine WC.skip ?_
          refine At.then ?_
          refine WC.seq ?_
          refine WC.block ?_
          refine WC.seq ?_
          refine WC.draw 10 O40 fmix (by kernel_rfl) ?_
          intro wd57 hst58
          refine WS.y (Y.fieldAddr fo25_1 rfl) rfl ?_
          have hf59 := hf52.st hst58 rfl
          refine WS.y (Y.loadSc ty23 rfl rfl (hf59.cell 1 _ rfl)) rfl ?_
          refine WS.y (Y.move rfl) rfl ?_
          obtain ⟨e60, he60, h⟩ := bnd h
          have hf69 := hf55.mono (imm_st hst58 rfl rfl)
          obtain ⟨b61, off70, cap68, cs67, hv62, hi63, hl64, hc65, hok66, hA71⟩ := Sl.at2 hf69 he60
          obtain rfl := hok66
          replace hc65 : CellsAt _ _ _ [vu e60] := hc65
          have hca72 := CAt.imm hc65 hA71
          refine WS.y (Y.indexAddr ty23 ty22 rfl hv62 rfl hi63 hl64) rfl ?_
          refine WS.y (Y.loadSc ty22 rfl rfl hca72.at_) rfl ?_
          refine WS.y (Y.fieldAddr fo25_1 rfl) rfl ?_
          have hf73 := hb27.st hst42 rfl
          have hf74 := hf73.st hst58 rfl
          refine WS.y (Y.loadSc ty23 rfl rfl (hf74.cell 1 _ rfl)) rfl ?_
          refine WS.y (Y.move rfl) rfl ?_
          obtain ⟨e75, he75, h⟩ := bnd h
          have hf84 := hf22.mono (imm_st hst31 rfl rfl)
          have hf85 := hf84.mono (imm_st hst42 rfl rfl)
          have hf86 := hf85.mono (imm_st hst58 rfl rfl)
          obtain ⟨b76, off87, cap83, cs82, hv77, hi78, hl79, hc80, hok81, hA88⟩ := Sl.at2 hf86 he75
          obtain rfl := hok81
          replace hc80 : CellsAt _ _ _ [vu e75] := hc80
          have hca89 := CAt.imm hc80 hA88
          refine WS.y (Y.indexAddr ty23 ty22 rfl hv77 rfl hi78 hl79) rfl ?_
          refine WS.y (Y.loadSc ty22 rfl rfl hca89.at_) rfl ?_
          refine WS.tail ?_
          refine WL.y (Y.neq_u rfl rfl) rfl ?_
          refine WL.nil ?_
          refine At.then ?_
          rcases cnd h with ⟨hc90, h⟩ | ⟨hc90, h⟩
          · refine WC.condT' rfl hc90 ?_
            refine WC.seq ?_
            refine WC.region ?_
            refine WL.y (Y.assign rfl) rfl ?_
            refine WL.nil ?_
            refine At.then ?_
            refine WC.ret ?_
            refine At.inBlockR ?_
            refine At.thenR ?_
            refine At.loopR ?_
            have h := outr1 h hn51 hk48
            refine At.joinBR ?_
            refine At.inBlockR ?_
            refine At.thenR ?_
            obtain rfl := some1 h
            have hs91 : Stp [] (Lg.O0 A) w O40 wd57 := (Stp.trans (Stp.up hst21 rfl) (Stp.trans (Stp.up hst31 rfl) (Stp.trans (Stp.up hst42 rfl) (Stp.up hst58 rfl))))
            exact At.res (.inl rfl) rfl (.tmp rfl .nil) ⟨rfl, (Stp.ext hs91 rfl rfl)⟩
          · refine WC.condF' rfl hc90 ?_
            refine WC.skip ?_
            refine At.inBlock ?_
            refine At.then ?_
            refine WC.region ?_
            refine WL.y (Y.move rfl) rfl ?_
            refine WL.y (Y.add_i rfl rfl) rfl ?_
            obtain ⟨i92, hi92, h⟩ := lt1 h
            refine WL.yE (Y.assign rfl) (congrArg vi hi92.symm) rfl ?_
            refine WL.nil ?_
            exact At.round (i92, O40) j49 (Nat.lt_succ_self _) ⟨next1 h hn51, (Stp.trans (Stp.up hst42 rfl) (Stp.up hst58 rfl))⟩ (.cons rfl (.cons rfl (.cons rfl .nil)))
        · refine WC.condF' rfl hc56 ?_
          refine WC.exit ?_
          refine At.thenX ?_
          refine At.loopX ?_
          exact At.hitB (σ := Own) O40 ⟨brk1 h hn51, (Stp.up hst42 rfl)⟩ .nil
      · rintro O43 wd44 ⟨rfl, hst45⟩
        replace h := flowK_go hk48
        refine (show At _ _ _ [] _ from ?_)
        refine At.inBlockHit ?_
        refine At.then ?_
        refine WC.seq ?_
        refine WC.region ?_
        refine WL.y (Y.assign rfl) rfl ?_
        refine WL.nil ?_
        refine At.then ?_
        refine WC.ret ?_
        obtain rfl := some1 h
        have hs93 : Stp [] (Lg.O0 A) w O43 wd44 := (Stp.trans (Stp.up hst21 rfl) (Stp.trans (Stp.up hst31 rfl) (Stp.up hst45 rfl)))
        exact At.res (.inl rfl) rfl (.tmp rfl .nil) ⟨rfl, (Stp.ext hs93 rfl rfl)⟩

theorem c_ref08_Same {A : Nat → Prop} {v0_3 : Value} {v0_5 : Value} {a0 : api_Hist} {v1_3 : Value} {v1_5 : Value} {a1 : api_Hist} {w : World} (hs0_3 : Sl Rep.u w A v0_3 a0.Pos.Counts) (hs0_5 : Sl Rep.u w A v0_5 a0.Neg.Counts) (hs1_3 : Sl Rep.u w A v1_3 a1.Pos.Counts) (hs1_5 : Sl Rep.u w A v1_5 a1.Neg.Counts) {r0 : Bool} (h : ref08_Same a0 a1 = some r0) : Rets Try.prog 22 [.agg [vi a0.Scale, vu a0.Zero, vi a0.Pos.Offset, v0_3, vi a0.Neg.Offset, v0_5].toArray, .agg [vi a1.Scale, vu a1.Zero, vi a1.Pos.Offset, v1_3, vi a1.Neg.Offset, v1_5].toArray] w (fun v w' => v = .bool r0 ∧ Ext w w') := by
  unfold ref08_Same at h
  refine Rets.enter Try.func22 rfl rfl ?_
  have hf11 : Sl Rep.u w (imm (Lg.O0 A)) v0_3 a0.Pos.Counts := (Sl.start hs0_3)
  have hf12 : Sl Rep.u w (imm (Lg.O0 A)) v0_5 a0.Neg.Counts := (Sl.start hs0_5)
  have hf13 : Sl Rep.u w (imm (Lg.O0 A)) v1_3 a1.Pos.Counts := (Sl.start hs1_3)
  have hf14 : Sl Rep.u w (imm (Lg.O0 A)) v1_5 a1.Neg.Counts := (Sl.start hs1_5)
  refine (show WC _ _ _ _ [(0, .agg [vi a0.Scale, vu a0.Zero, vi a0.Pos.Offset, v0_3, vi a0.Neg.Offset, v0_5].toArray), (1, .agg [vi a1.Scale, vu a1.Zero, vi a1.Pos.Offset, v1_3, vi a1.Neg.Offset, v1_5].toArray)] _ from ?_)
  refine WC.seq ?_
  refine WC.region ?_
  have hh18 := h
  obtain ⟨p15, m16, c17, rfl⟩ := hf11.shape
  have h := hh18
  have hh22 := h
  obtain ⟨p19, m20, c21, rfl⟩ := hf12.shape
  have h := hh22
  refine WL.box (O := (Lg.O0 A)) 11 [vi a0.Scale, vu a0.Zero, vi a0.Pos.Offset, (.slice p15 m16 c17), vi a0.Neg.Offset, (.slice p19 m20 c21)] rfl rfl rfl ?_
  intro p24 O25 wd26 hst27 hb23
  have hf28 := hf13.mono (imm_st hst27 rfl rfl)
  have hh32 := h
  obtain ⟨p29, m30, c31, rfl⟩ := hf28.shape
  have h := hh32
  have hf33 := hf14.mono (imm_st hst27 rfl rfl)
  have hh37 := h
  obtain ⟨p34, m35, c36, rfl⟩ := hf33.shape
  have h := hh37
  refine WL.box (O := O25) 12 [vi a1.Scale, vu a1.Zero, vi a1.Pos.Offset, (.slice p29 m30 c31), vi a1.Neg.Offset, (.slice p34 m35 c36)] rfl rfl rfl ?_
  intro p39 O40 wd41 hst42 hb38
  refine WL.y (Y.assign rfl) rfl ?_
  refine WL.nil ?_
  refine At.then ?_
  refine WC.seq ?_
  refine WC.region ?_
  refine WL.y (Y.fieldAddr fo27_0 rfl) rfl ?_
  have hf43 := hb23.st hst42 rfl
  refine WL.y (Y.loadSc ty3 rfl rfl (hf43.cell 0 _ rfl)) rfl ?_
  refine WL.y (Y.fieldAddr fo27_0 rfl) rfl ?_
  refine WL.y (Y.loadSc ty3 rfl rfl (hb38.cell 0 _ rfl)) rfl ?_
  refine WL.y (Y.eql_i rfl rfl) rfl ?_
  refine WL.y (Y.move rfl) rfl ?_
  refine WL.cut 6 (σ := Unit) (fun _ w' => wd41 = w') (fun _ => [(2, .pointer (some ⟨p24, 0, none⟩)), (3, .pointer (some ⟨p39, 0, none⟩)), (16, .bool ((decide (a0.Scale = a1.Scale)) && (decide (a0.Zero = a1.Zero))))]) ?_ ?_
  · refine WL.part 10 rfl (fun hE44 => ?_) (fun hE44 => ?_)
    · refine WL.ung rfl rfl ?_
      refine WL.y (Y.fieldAddr fo27_1 rfl) rfl ?_
      refine WL.ung rfl rfl ?_
      refine WL.y (Y.loadSc ty22 rfl rfl (hf43.cell 1 _ rfl)) rfl ?_
      refine WL.ung rfl rfl ?_
      refine WL.y (Y.fieldAddr fo27_1 rfl) rfl ?_
      refine WL.ung rfl rfl ?_
      refine WL.y (Y.loadSc ty22 rfl rfl (hb38.cell 1 _ rfl)) rfl ?_
      refine WL.ung rfl rfl ?_
      refine WL.y (Y.eql_u rfl rfl) rfl ?_
      refine WL.y (Y.pick (b := true) rfl rfl) rfl ?_
      refine WL.ren (v' := .bool ((decide (a0.Scale = a1.Scale)) && (decide (a0.Zero = a1.Zero)))) 16 rfl (congrArg Value.bool (andT hE44)) ?_
      exact WL.nil (At.join () rfl (.cons rfl (.cons rfl (.cons rfl .nil))))
    · refine WL.gS rfl rfl rfl rfl ?_
      refine WL.gS rfl rfl rfl rfl ?_
      refine WL.gS rfl rfl rfl rfl ?_
      refine WL.gS rfl rfl rfl rfl ?_
      refine WL.gS rfl rfl rfl rfl ?_
      refine WL.y (Y.pick (b := false) rfl rfl) rfl ?_
      refine WL.ren (v' := .bool ((decide (a0.Scale = a1.Scale)) && (decide (a0.Zero = a1.Zero)))) 16 rfl (congrArg Value.bool (andF hE44)) ?_
      exact WL.nil (At.join () rfl (.cons rfl (.cons rfl (.cons rfl .nil))))
  · rintro _ _ rfl
    refine (show WL _ _ _ _ _ [(2, .pointer (some ⟨p24, 0, none⟩)), (3, .pointer (some ⟨p39, 0, none⟩)), (16, .bool ((decide (a0.Scale = a1.Scale)) && (decide (a0.Zero = a1.Zero))))] _ from ?_)
    refine WL.y (Y.move rfl) rfl ?_
    obtain ⟨p49, h, hk50⟩ := bnd h
    refine WL.cut 6 (σ := (Bool × Own)) (fun x w' => x.1 = p49 ∧ Stp [] O40 wd41 x.2 w') (fun x => [(2, .pointer (some ⟨p24, 0, none⟩)), (3, .pointer (some ⟨p39, 0, none⟩)), (23, .bool x.1)]) ?_ ?_
    · rcases cnd h with ⟨hE51, h⟩ | ⟨hE51, h⟩
      · refine WL.ren 17 rfl (congrArg Value.bool hE51) ?_
        refine WL.ung rfl rfl ?_
        refine WL.y (Y.fieldAddr fo27_2 rfl) rfl ?_
        refine WL.ung rfl rfl ?_
        refine WL.y (Y.loadAg ty25 rfl rfl (hf43.cells 2 [vi a0.Pos.Offset, (.slice p15 m16 c17)] rfl) rfl) rfl ?_
        refine WL.ung rfl rfl ?_
        refine WL.y (Y.fieldAddr fo27_2 rfl) rfl ?_
        refine WL.ung rfl rfl ?_
        refine WL.y (Y.loadAg ty25 rfl rfl (hb38.cells 2 [vi a1.Pos.Offset, (.slice p29 m30 c31)] rfl) rfl) rfl ?_
        refine WL.ung rfl rfl ?_
        have hf52 := hf11.mono (imm_st hst27 rfl rfl)
        have hf53 := hf52.mono (imm_st hst42 rfl rfl)
        have hf54 := hf28.mono (imm_st hst42 rfl rfl)
        obtain ⟨r55, hp56, h⟩ := bnd h
        refine WL.call (vals := [.agg [vi a0.Pos.Offset, (.slice p15 m16 c17)].toArray, .agg [vi a1.Pos.Offset, (.slice p29 m30 c31)].toArray]) kok27 rfl rfl (c_ref08_SameSide (A := fun _ => True) (a0 := a0.Pos) (a1 := a1.Pos) (Sl.all hf53) (Sl.all hf54) hp56) ?_
        rintro vr59 wd58 ⟨rfl, hm57⟩
        obtain ⟨O60, hold61, hnew62, hst63⟩ := adoptE O40 (fun k => 1) hm57
        refine WL.y (Y.pick (b := true) rfl rfl) rfl ?_
        exact WL.nil (At.join (σ := (Bool × Own)) (r55, O60) ⟨some1 h, (Stp.up hst63 rfl)⟩ (.cons rfl (.cons rfl (.cons rfl .nil))))
      · refine WL.ren 17 rfl (congrArg Value.bool hE51) ?_
        refine WL.gS rfl rfl rfl rfl ?_
        refine WL.gS rfl rfl rfl rfl ?_
        refine WL.gS rfl rfl rfl rfl ?_
        refine WL.gS rfl rfl rfl rfl ?_
        refine WL.gS rfl rfl rfl rfl ?_
        refine WL.y (Y.pick (b := false) rfl rfl) rfl ?_
        exact WL.nil (At.join (σ := (Bool × Own)) (false, O40) ⟨some1 h, (Stp.refl _ _ _)⟩ (.cons rfl (.cons rfl (.cons rfl .nil))))
    · rintro ⟨x45, O46⟩ wd47 ⟨rfl, hst48⟩
      replace h := hk50
      try dsimp only at h hst48
      refine (show WL _ _ _ _ _ [(2, .pointer (some ⟨p24, 0, none⟩)), (3, .pointer (some ⟨p39, 0, none⟩)), (23, .bool x45)] _ from ?_)
      refine WL.y (Y.move rfl) rfl ?_
      obtain ⟨p68, h, hk69⟩ := bnd h
      refine WL.cut 6 (σ := (Bool × Own)) (fun x w' => x.1 = p68 ∧ Stp [] O46 wd47 x.2 w') (fun x => [(30, .bool x.1)]) ?_ ?_
      · rcases cnd h with ⟨hE70, h⟩ | ⟨hE70, h⟩
        · refine WL.ren 24 rfl (congrArg Value.bool hE70) ?_
          refine WL.ung rfl rfl ?_
          refine WL.y (Y.fieldAddr fo27_3 rfl) rfl ?_
          refine WL.ung rfl rfl ?_
          have hf71 := hf43.st hst48 rfl
          refine WL.y (Y.loadAg ty25 rfl rfl (hf71.cells 4 [vi a0.Neg.Offset, (.slice p19 m20 c21)] rfl) rfl) rfl ?_
          refine WL.ung rfl rfl ?_
          refine WL.y (Y.fieldAddr fo27_3 rfl) rfl ?_
          refine WL.ung rfl rfl ?_
          have hf72 := hb38.st hst48 rfl
          refine WL.y (Y.loadAg ty25 rfl rfl (hf72.cells 4 [vi a1.Neg.Offset, (.slice p34 m35 c36)] rfl) rfl) rfl ?_
          refine WL.ung rfl rfl ?_
          have hf73 := hf12.mono (imm_st hst27 rfl rfl)
          have hf74 := hf73.mono (imm_st hst42 rfl rfl)
          have hf75 := hf74.mono (imm_st hst48 rfl rfl)
          have hf76 := hf33.mono (imm_st hst42 rfl rfl)
          have hf77 := hf76.mono (imm_st hst48 rfl rfl)
          obtain ⟨r78, hp79, h⟩ := bnd h
          refine WL.call (vals := [.agg [vi a0.Neg.Offset, (.slice p19 m20 c21)].toArray, .agg [vi a1.Neg.Offset, (.slice p34 m35 c36)].toArray]) kok27 rfl rfl (c_ref08_SameSide (A := fun _ => True) (a0 := a0.Neg) (a1 := a1.Neg) (Sl.all hf75) (Sl.all hf77) hp79) ?_
          rintro vr82 wd81 ⟨rfl, hm80⟩
          obtain ⟨O83, hold84, hnew85, hst86⟩ := adoptE O46 (fun k => 1) hm80
          refine WL.y (Y.pick (b := true) rfl rfl) rfl ?_
          exact WL.nil (At.join (σ := (Bool × Own)) (r78, O83) ⟨some1 h, (Stp.up hst86 rfl)⟩ (.cons rfl .nil))
        · refine WL.ren 24 rfl (congrArg Value.bool hE70) ?_
          refine WL.gS rfl rfl rfl rfl ?_
          refine WL.gS rfl rfl rfl rfl ?_
          refine WL.gS rfl rfl rfl rfl ?_
          refine WL.gS rfl rfl rfl rfl ?_
          refine WL.gS rfl rfl rfl rfl ?_
          refine WL.y (Y.pick (b := false) rfl rfl) rfl ?_
          exact WL.nil (At.join (σ := (Bool × Own)) (false, O46) ⟨some1 h, (Stp.refl _ _ _)⟩ (.cons rfl .nil))
      · rintro ⟨x64, O65⟩ wd66 ⟨rfl, hst67⟩
        replace h := hk69
        try dsimp only at h hst67
        refine (show WL _ _ _ _ _ [(30, .bool x64)] _ from ?_)
        refine WL.y (Y.assign rfl) rfl ?_
        refine WL.nil ?_
        refine At.then ?_
        refine WC.ret ?_
        obtain rfl := some1 h
        have hs87 : Stp [] (Lg.O0 A) w O65 wd66 := (Stp.trans (Stp.up hst27 rfl) (Stp.trans (Stp.up hst42 rfl) (Stp.trans (Stp.up hst48 rfl) (Stp.up hst67 rfl))))
        exact At.res (.inl rfl) rfl (.tmp rfl .nil) ⟨rfl, (Stp.ext hs87 rfl rfl)⟩

theorem c_ref08_sum {A : Nat → Prop} {a0 : UInt64} {a1 : List UInt64} {v1 : Value} {w : World} (hs1 : Sl Rep.u w A v1 a1) {r0 : UInt64} {r1 : Bool} (h : ref08_sum a0 a1 = some (r0, r1)) : Rets Try.prog 59 [vu a0, v1] w (fun v w' => v = .tuple (List.toArray [vu r0, .bool r1]) ∧ Ext w w') := by
  unfold ref08_sum at h
  refine Rets.enter Try.func59 rfl rfl ?_
  have hf11 : Sl Rep.u w (imm (Lg.O0 A)) v1 a1 := (Sl.start hs1)
  refine (show WC _ _ _ _ [(0, vu a0), (1, v1)] _ from ?_)
  refine WC.seq ?_
  refine WC.region ?_
  refine WL.y (Y.assign (v := vu 0) rfl) rfl ?_
  refine WL.y (Y.assign rfl) rfl ?_
  refine WL.nil ?_
  refine At.then ?_
  refine WC.seq ?_
  refine WC.seq ?_
  refine WC.region ?_
  refine WL.y (Y.assign rfl) rfl ?_
  refine WL.nil ?_
  refine At.then ?_
  refine WC.block ?_
  obtain ⟨p15, h, hk17⟩ := flow1 h
  obtain ⟨k16, h⟩ := loop_some h
  refine WC.joinB 0 (σ := UInt64) (fun x w' => p15 = .go x ∧ w = w') (fun x => [(0, vu x)]) ?_ ?_
  · refine WC.loop (σ := (UInt64 × Int)) (fun x k w' => loopN k (ref08_sum_lp1 a1) (x.1, x.2) = some p15 ∧ w = w') (fun x => [(0, vu x.1), (1, v1), (6, vi x.2)]) (a0, 0) k16 (.cons rfl (.cons rfl (.cons rfl .nil))) ⟨h, rfl⟩ ?_
    rintro ⟨a12, i13⟩ k16 _ ⟨h, rfl⟩
    obtain ⟨j18, q19, rfl, h, hn20⟩ := rnd1 h
    unfold ref08_sum_lp1 at h
    try dsimp only at h
    refine (show WC _ _ _ _ [(0, vu a12), (1, v1), (6, vi i13)] _ from ?_)
    refine WC.seq ?_
    refine WC.seq ?_
    refine WC.region ?_
    refine WL.y (Y.move rfl) rfl ?_
    refine WL.y (Y.move rfl) rfl ?_
    refine WL.y (Y.len ty23 rfl hf11) rfl ?_
    refine WL.y (Y.lss_i rfl rfl) rfl ?_
    refine WL.nil ?_
    refine At.then ?_
    rcases cnd h with ⟨hc21, h⟩ | ⟨hc21, h⟩
    · refine WC.condT' rfl hc21 ?_
      refine WC.skip ?_
      refine At.then ?_
      refine WC.seq ?_
      refine WC.block ?_
      refine WC.seq ?_
      refine WC.seq ?_
      refine WC.region ?_
      refine WL.y (Y.move rfl) rfl ?_
      refine WL.y (Y.move rfl) rfl ?_
      obtain ⟨e22, he22, h⟩ := bnd h
      obtain ⟨b23, off31, cap30, cs29, hv24, hi25, hl26, hc27, hok28, hA32⟩ := Sl.at2 hf11 he22
      obtain rfl := hok28
      replace hc27 : CellsAt _ _ _ [vu e22] := hc27
      have hca33 := CAt.imm hc27 hA32
      refine WL.y (Y.indexAddr ty23 ty22 rfl hv24 rfl hi25 hl26) rfl ?_
      refine WL.y (Y.loadSc ty22 rfl rfl hca33.at_) rfl ?_
      refine WL.y (Y.move rfl) rfl ?_
      refine WL.y (Y.sub_u (a := 18446744073709551615) rfl rfl) rfl ?_
      refine WL.y (Y.gtr_u rfl rfl) rfl ?_
      refine WL.nil ?_
      refine At.then ?_
      rcases cnd h with ⟨hc34, h⟩ | ⟨hc34, h⟩
      · refine WC.condT' rfl hc34 ?_
        refine WC.seq ?_
        refine WC.region ?_
        refine WL.y (Y.assign (v := vu 0) rfl) rfl ?_
        refine WL.y (Y.assign rfl) rfl ?_
        refine WL.nil ?_
        refine At.then ?_
        refine WC.ret ?_
        refine At.thenR ?_
        refine At.inBlockR ?_
        refine At.thenR ?_
        refine At.loopR ?_
        have h := outr1 h hn20 hk17
        refine At.joinBR ?_
        refine At.inBlockR ?_
        refine At.thenR ?_
        obtain ⟨rfl, rfl⟩ := tup2 h
        have hs35 : Stp [] (Lg.O0 A) w (Lg.O0 A) w := (Stp.refl _ _ _)
        exact At.res (.inl rfl) rfl (.tmp rfl (.tmp rfl .nil)) ⟨rfl, (Stp.ext hs35 rfl rfl)⟩
      · refine WC.condF' rfl hc34 ?_
        refine WC.skip ?_
        refine At.then ?_
        refine WC.region ?_
        refine WL.y (Y.move rfl) rfl ?_
        refine WL.y (Y.move rfl) rfl ?_
        refine WL.y (Y.move rfl) rfl ?_
        obtain ⟨e36, he36, h⟩ := bnd h
        obtain ⟨b37, off45, cap44, cs43, hv38, hi39, hl40, hc41, hok42, hA46⟩ := Sl.at2 hf11 he36
        obtain rfl := hok42
        replace hc41 : CellsAt _ _ _ [vu e36] := hc41
        have hca47 := CAt.imm hc41 hA46
        refine WL.y (Y.indexAddr ty23 ty22 rfl hv38 rfl hi39 hl40) rfl ?_
        refine WL.y (Y.loadSc ty22 rfl rfl hca47.at_) rfl ?_
        refine WL.y (Y.add_u rfl rfl) rfl ?_
        obtain ⟨a48, ha48, h⟩ := lt1 h
        refine WL.yE (Y.assign rfl) (congrArg vu ha48.symm) rfl ?_
        refine WL.nil ?_
        refine At.inBlock ?_
        refine At.then ?_
        refine WC.region ?_
        refine WL.y (Y.move rfl) rfl ?_
        refine WL.y (Y.add_i rfl rfl) rfl ?_
        obtain ⟨i49, hi49, h⟩ := lt1 h
        refine WL.yE (Y.assign rfl) (congrArg vi hi49.symm) rfl ?_
        refine WL.nil ?_
        exact At.round (a48, i49) j18 (Nat.lt_succ_self _) ⟨next1 h hn20, rfl⟩ (.cons rfl (.cons rfl (.cons rfl .nil)))
    · refine WC.condF' rfl hc21 ?_
      refine WC.exit ?_
      refine At.thenX ?_
      refine At.loopX ?_
      exact At.hitB (σ := UInt64) a12 ⟨brk1 h hn20, rfl⟩ (.cons rfl .nil)
  · rintro a14 _ ⟨rfl, rfl⟩
    replace h := flowK_go hk17
    try dsimp only at h
    refine (show At _ _ _ [(0, vu a14)] _ from ?_)
    refine At.inBlockHit ?_
    refine At.then ?_
    refine WC.seq ?_
    refine WC.region ?_
    refine WL.y (Y.move rfl) rfl ?_
    refine WL.y (Y.assign rfl) rfl ?_
    refine WL.y (Y.assign rfl) rfl ?_
    refine WL.nil ?_
    refine At.then ?_
    refine WC.ret ?_
    obtain ⟨rfl, rfl⟩ := tup2 h
    have hs50 : Stp [] (Lg.O0 A) w (Lg.O0 A) w := (Stp.refl _ _ _)
    exact At.res (.inl rfl) rfl (.tmp rfl (.tmp rfl .nil)) ⟨rfl, (Stp.ext hs50 rfl rfl)⟩

theorem c_ref08_Total {A : Nat → Prop} {v0_3 : Value} {v0_5 : Value} {a0 : api_Hist} {w : World} (hs0_3 : Sl Rep.u w A v0_3 a0.Pos.Counts) (hs0_5 : Sl Rep.u w A v0_5 a0.Neg.Counts) {r0 : UInt64} {r1 : Bool} (h : ref08_Total a0 = some (r0, r1)) : Rets Try.prog 18 [.agg [vi a0.Scale, vu a0.Zero, vi a0.Pos.Offset, v0_3, vi a0.Neg.Offset, v0_5].toArray] w (fun v w' => v = .tuple (List.toArray [vu r0, .bool r1]) ∧ Ext w w') := by
  unfold ref08_Total at h
  refine Rets.enter Try.func18 rfl rfl ?_
  have hf11 : Sl Rep.u w (imm (Lg.O0 A)) v0_3 a0.Pos.Counts := (Sl.start hs0_3)
  have hf12 : Sl Rep.u w (imm (Lg.O0 A)) v0_5 a0.Neg.Counts := (Sl.start hs0_5)
  refine (show WC _ _ _ _ [(0, .agg [vi a0.Scale, vu a0.Zero, vi a0.Pos.Offset, v0_3, vi a0.Neg.Offset, v0_5].toArray)] _ from ?_)
  refine WC.seq ?_
  refine WC.region ?_
  have hh16 := h
  obtain ⟨p13, m14, c15, rfl⟩ := hf11.shape
  have h := hh16
  have hh20 := h
  obtain ⟨p17, m18, c19, rfl⟩ := hf12.shape
  have h := hh20
  refine WL.box (O := (Lg.O0 A)) 11 [vi a0.Scale, vu a0.Zero, vi a0.Pos.Offset, (.slice p13 m14 c15), vi a0.Neg.Offset, (.slice p17 m18 c19)] rfl rfl rfl ?_
  intro p22 O23 wd24 hst25 hb21
  refine WL.y (Y.assign (v := vu 0) rfl) rfl ?_
  refine WL.y (Y.assign rfl) rfl ?_
  refine WL.nil ?_
  refine At.then ?_
  refine WC.seq ?_
  refine WC.region ?_
  refine WL.y (Y.fieldAddr fo27_1 rfl) rfl ?_
  refine WL.y (Y.loadSc ty22 rfl rfl (hb21.cell 1 _ rfl)) rfl ?_
  refine WL.y (Y.fieldAddr fo27_2 rfl) rfl ?_
  refine WL.y (Y.fieldAddr fo25_1 rfl) rfl ?_
  refine WL.y (Y.loadSc ty23 rfl rfl (hb21.cell 3 _ rfl)) rfl ?_
  have hf26 := hf11.mono (imm_st hst25 rfl rfl)
  obtain ⟨⟨r27, r28⟩, hp29, h⟩ := bnd h
  refine WL.call (vals := [vu a0.Zero, (.slice p13 m14 c15)]) kok59 rfl rfl (c_ref08_sum (A := fun _ => True) (Sl.all hf26) hp29) ?_
  rintro vr32 wd31 ⟨rfl, hm30⟩
  obtain ⟨O33, hold34, hnew35, hst36⟩ := adoptE O23 (fun k => 1) hm30
  refine WL.y (Y.move rfl) rfl ?_
  refine WL.y (Y.extract rfl rfl) rfl ?_
  refine WL.y (Y.extract rfl rfl) rfl ?_
  refine WL.y (Y.assign rfl) rfl ?_
  refine WL.y (Y.assign rfl) rfl ?_
  refine WL.nil ?_
  refine At.then ?_
  refine WC.seq ?_
  refine WC.seq ?_
  refine WC.region ?_
  refine WL.y (Y.move rfl) rfl ?_
  refine WL.y (Y.not rfl) rfl ?_
  refine WL.nil ?_
  refine At.then ?_
  rcases cnd h with ⟨hc37, h⟩ | ⟨hc37, h⟩
  · refine WC.condT' rfl hc37 ?_
    refine WC.seq ?_
    refine WC.region ?_
    refine WL.y (Y.assign (v := vu 0) rfl) rfl ?_
    refine WL.y (Y.assign rfl) rfl ?_
    refine WL.nil ?_
    refine At.then ?_
    refine WC.ret ?_
    refine At.thenR ?_
    obtain ⟨rfl, rfl⟩ := tup2 h
    have hs38 : Stp [] (Lg.O0 A) w O33 wd31 := (Stp.trans (Stp.up hst25 rfl) (Stp.up hst36 rfl))
    exact At.res (.inl rfl) rfl (.tmp rfl (.tmp rfl .nil)) ⟨rfl, (Stp.ext hs38 rfl rfl)⟩
  · refine WC.condF' rfl hc37 ?_
    refine WC.skip ?_
    refine At.then ?_
    refine WC.seq ?_
    refine WC.region ?_
    refine WL.y (Y.move rfl) rfl ?_
    refine WL.y (Y.fieldAddr fo27_3 rfl) rfl ?_
    refine WL.y (Y.fieldAddr fo25_1 rfl) rfl ?_
    have hf39 := hb21.st hst36 rfl
    refine WL.y (Y.loadSc ty23 rfl rfl (hf39.cell 5 _ rfl)) rfl ?_
    have hf40 := hf12.mono (imm_st hst25 rfl rfl)
    have hf41 := hf40.mono (imm_st hst36 rfl rfl)
    obtain ⟨⟨r42, r43⟩, hp44, h⟩ := bnd h
    refine WL.call (vals := [vu r27, (.slice p17 m18 c19)]) kok59 rfl rfl (c_ref08_sum (A := fun _ => True) (Sl.all hf41) hp44) ?_
    rintro vr47 wd46 ⟨rfl, hm45⟩
    obtain ⟨O48, hold49, hnew50, hst51⟩ := adoptE O33 (fun k => 1) hm45
    refine WL.y (Y.extract rfl rfl) rfl ?_
    refine WL.y (Y.extract rfl rfl) rfl ?_
    refine WL.y (Y.assign rfl) rfl ?_
    refine WL.y (Y.assign rfl) rfl ?_
    refine WL.nil ?_
    refine At.then ?_
    refine WC.ret ?_
    obtain ⟨rfl, rfl⟩ := tup2 h
    have hs52 : Stp [] (Lg.O0 A) w O48 wd46 := (Stp.trans (Stp.up hst25 rfl) (Stp.trans (Stp.up hst36 rfl) (Stp.up hst51 rfl)))
    exact At.res (.inl rfl) rfl (.tmp rfl (.tmp rfl .nil)) ⟨rfl, (Stp.ext hs52 rfl rfl)⟩

theorem c_ref08_side {A : Nat → Prop} {v0_1 : Value} {a0 : api_Side} {w : World} (hs0_1 : Sl Rep.u w A v0_1 a0.Counts) {r0 : Int} (h : ref08_side a0 = some r0) : Rets Try.prog 61 [.agg [vi a0.Offset, v0_1].toArray] w (fun v w' => v = vi r0 ∧ Ext w w') := by
  unfold ref08_side at h
  refine Rets.enter Try.func61 rfl rfl ?_
  have hf11 : Sl Rep.u w (imm (Lg.O0 A)) v0_1 a0.Counts := (Sl.start hs0_1)
  refine (show WC _ _ _ _ [(0, .agg [vi a0.Offset, v0_1].toArray)] _ from ?_)
  refine WC.seq ?_
  refine WC.region ?_
  have hh15 := h
  obtain ⟨p12, m13, c14, rfl⟩ := hf11.shape
  have h := hh15
  refine WL.box (O := (Lg.O0 A)) 11 [vi a0.Offset, (.slice p12 m13 c14)] rfl rfl rfl ?_
  intro p17 O18 wd19 hst20 hb16
  refine WL.y (Y.assign rfl) rfl ?_
  refine WL.nil ?_
  refine At.then ?_
  refine WC.seq ?_
  refine WC.region ?_
  refine WL.y (Y.fieldAddr fo25_1 rfl) rfl ?_
  refine WL.y (Y.loadSc ty23 rfl rfl (hb16.cell 1 _ rfl)) rfl ?_
  have hf21 := hf11.mono (imm_st hst20 rfl rfl)
  refine WL.y (Y.len ty23 rfl hf21) rfl ?_
  obtain ⟨nv22, hnv22, h⟩ := lt1 h
  refine WL.yE (Y.assign rfl) (congrArg vi hnv22.symm) rfl ?_
  refine WL.nil ?_
  refine At.then ?_
  refine WC.seq ?_
  refine WC.seq ?_
  refine WC.region ?_
  refine WL.y (Y.move rfl) rfl ?_
  refine WL.y (Y.gtr_i rfl rfl) rfl ?_
  refine WL.nil ?_
  refine At.then ?_
  rcases cnd h with ⟨hc23, h⟩ | ⟨hc23, h⟩
  · refine WC.condT' rfl hc23 ?_
    refine WC.seq ?_
    refine WC.region ?_
    refine WL.y (Y.assign rfl) rfl ?_
    refine WL.nil ?_
    refine At.then ?_
    refine WC.ret ?_
    refine At.thenR ?_
    obtain rfl := some1 h
    have hs24 : Stp [] (Lg.O0 A) w O18 wd19 := (Stp.up hst20 rfl)
    exact At.res (.inl rfl) rfl (.tmp rfl .nil) ⟨rfl, (Stp.ext hs24 rfl rfl)⟩
  · refine WC.condF' rfl hc23 ?_
    refine WC.skip ?_
    refine At.then ?_
    refine WC.seq ?_
    refine WC.seq ?_
    refine WC.region ?_
    refine WL.y (Y.move rfl) rfl ?_
    refine WL.y (Y.eql_i rfl rfl) rfl ?_
    refine WL.nil ?_
    refine At.then ?_
    rcases cnd h with ⟨hc25, h⟩ | ⟨hc25, h⟩
    · refine WC.condT' rfl hc25 ?_
      refine WC.seq ?_
      refine WC.seq ?_
      refine WC.region ?_
      refine WL.y (Y.fieldAddr fo25_0 rfl) rfl ?_
      refine WL.y (Y.loadSc ty3 rfl rfl (hb16.cell 0 _ rfl)) rfl ?_
      refine WL.y (Y.neq_i rfl rfl) rfl ?_
      refine WL.nil ?_
      refine At.then ?_
      rcases cnd h with ⟨hc26, h⟩ | ⟨hc26, h⟩
      · refine WC.condT' rfl hc26 ?_
        refine WC.seq ?_
        refine WC.region ?_
        refine WL.y (Y.assign rfl) rfl ?_
        refine WL.nil ?_
        refine At.then ?_
        refine WC.ret ?_
        refine At.thenR ?_
        refine At.thenR ?_
        obtain rfl := some1 h
        have hs27 : Stp [] (Lg.O0 A) w O18 wd19 := (Stp.up hst20 rfl)
        exact At.res (.inl rfl) rfl (.tmp rfl .nil) ⟨rfl, (Stp.ext hs27 rfl rfl)⟩
      · refine WC.condF' rfl hc26 ?_
        refine WC.skip ?_
        refine At.then ?_
        refine WC.seq ?_
        refine WC.region ?_
        refine WL.y (Y.assign rfl) rfl ?_
        refine WL.nil ?_
        refine At.then ?_
        refine WC.ret ?_
        refine At.thenR ?_
        obtain rfl := some1 h
        have hs28 : Stp [] (Lg.O0 A) w O18 wd19 := (Stp.up hst20 rfl)
        exact At.res (.inl rfl) rfl (.tmp rfl .nil) ⟨rfl, (Stp.ext hs28 rfl rfl)⟩
    · refine WC.condF' rfl hc25 ?_
      refine WC.skip ?_
      refine At.then ?_
      refine WC.seq ?_
      refine WC.seq ?_
      refine WC.region ?_
      refine WL.y (Y.fieldAddr fo25_1 rfl) rfl ?_
      refine WL.y (Y.loadSc ty23 rfl rfl (hb16.cell 1 _ rfl)) rfl ?_
      obtain ⟨e29, he29, h⟩ := bnd h
      obtain ⟨b30, off38, cap37, cs36, hv31, hi32, hl33, hc34, hok35, hA39⟩ := Sl.at2 hf21 he29
      obtain rfl := hok35
      replace hc34 : CellsAt _ _ _ [vu e29] := hc34
      have hca40 := CAt.imm hc34 hA39
      refine WL.y (Y.indexAddr ty23 ty22 rfl hv31 rfl hi32 hl33) rfl ?_
      refine WL.y (Y.loadSc ty22 rfl rfl hca40.at_) rfl ?_
      refine WL.y (Y.eql_u (b := 0) rfl rfl) rfl ?_
      refine WL.y (Y.move rfl) rfl ?_
      obtain ⟨p42, h, hk43⟩ := bnd h
      refine WL.cut 8 (σ := Bool) (fun x w' => x = p42 ∧ wd19 = w') (fun x => [(1, .pointer (some ⟨p17, 0, none⟩)), (3, vi nv22), (27, .bool x)]) ?_ ?_
      · rcases cnd h with ⟨hE44, h⟩ | ⟨hE44, h⟩
        · refine WL.ren 19 rfl (congrArg Value.bool hE44) ?_
          refine WL.gS rfl rfl rfl rfl ?_
          refine WL.gS rfl rfl rfl rfl ?_
          refine WL.gS rfl rfl rfl rfl ?_
          refine WL.gS rfl rfl rfl rfl ?_
          refine WL.gS rfl rfl rfl rfl ?_
          refine WL.gS rfl rfl rfl rfl ?_
          refine WL.gS rfl rfl rfl rfl ?_
          refine WL.y (Y.pick (b := true) rfl rfl) rfl ?_
          exact WL.nil (At.join (σ := Bool) true ⟨some1 h, rfl⟩ (.cons rfl (.cons rfl (.cons rfl .nil))))
        · refine WL.ren 19 rfl (congrArg Value.bool hE44) ?_
          refine WL.ung rfl rfl ?_
          refine WL.y (Y.fieldAddr fo25_1 rfl) rfl ?_
          refine WL.ung rfl rfl ?_
          refine WL.y (Y.loadSc ty23 rfl rfl (hb16.cell 1 _ rfl)) rfl ?_
          refine WL.ung rfl rfl ?_
          refine WL.y (Y.move rfl) rfl ?_
          refine WL.ung rfl rfl ?_
          refine WL.y (Y.sub_i rfl rfl) rfl ?_
          refine WL.ung rfl rfl ?_
          obtain ⟨e45, he45, h⟩ := bnd h
          obtain ⟨b46, off54, cap53, cs52, hv47, hi48, hl49, hc50, hok51, hA55⟩ := Sl.at2 hf21 he45
          obtain rfl := hok51
          replace hc50 : CellsAt _ _ _ [vu e45] := hc50
          have hca56 := CAt.imm hc50 hA55
          refine WL.y (Y.indexAddr ty23 ty22 rfl hv47 rfl hi48 hl49) rfl ?_
          refine WL.ung rfl rfl ?_
          refine WL.y (Y.loadSc ty22 rfl rfl hca56.at_) rfl ?_
          refine WL.ung rfl rfl ?_
          refine WL.y (Y.eql_u (b := 0) rfl rfl) rfl ?_
          refine WL.y (Y.pick (b := false) rfl rfl) rfl ?_
          exact WL.nil (At.join (σ := Bool) (decide (e45 = 0)) ⟨some1 h, rfl⟩ (.cons rfl (.cons rfl (.cons rfl .nil))))
      · rintro x41 _ ⟨rfl, rfl⟩
        replace h := hk43
        try dsimp only at h
        refine (show WL _ _ _ _ _ [(1, .pointer (some ⟨p17, 0, none⟩)), (3, vi nv22), (27, .bool x41)] _ from ?_)
        refine WL.nil ?_
        refine At.then ?_
        rcases cnd h with ⟨hc57, h⟩ | ⟨hc57, h⟩
        · refine WC.condT' rfl hc57 ?_
          refine WC.seq ?_
          refine WC.region ?_
          refine WL.y (Y.assign rfl) rfl ?_
          refine WL.nil ?_
          refine At.then ?_
          refine WC.ret ?_
          refine At.thenR ?_
          obtain rfl := some1 h
          have hs58 : Stp [] (Lg.O0 A) w O18 wd19 := (Stp.up hst20 rfl)
          exact At.res (.inl rfl) rfl (.tmp rfl .nil) ⟨rfl, (Stp.ext hs58 rfl rfl)⟩
        · refine WC.condF' rfl hc57 ?_
          refine WC.skip ?_
          refine At.then ?_
          refine WC.seq ?_
          refine WC.seq ?_
          refine WC.region ?_
          refine WL.y (Y.fieldAddr fo25_0 rfl) rfl ?_
          refine WL.y (Y.loadSc ty3 rfl rfl (hb16.cell 0 _ rfl)) rfl ?_
          refine WL.y (Y.lss_i rfl rfl) rfl ?_
          refine WL.y (Y.move rfl) rfl ?_
          refine WL.cut 4 (σ := Unit) (fun _ w' => wd19 = w') (fun _ => [(1, .pointer (some ⟨p17, 0, none⟩)), (3, vi nv22), (35, .bool ((decide (a0.Offset < (-1073741824))) || (decide (1073741824 < a0.Offset))))]) ?_ ?_
          · refine WL.part 31 rfl (fun hE59 => ?_) (fun hE59 => ?_)
            · refine WL.gS rfl rfl rfl rfl ?_
              refine WL.gS rfl rfl rfl rfl ?_
              refine WL.gS rfl rfl rfl rfl ?_
              refine WL.y (Y.pick (b := true) rfl rfl) rfl ?_
              refine WL.ren (v' := .bool ((decide (a0.Offset < (-1073741824))) || (decide (1073741824 < a0.Offset)))) 35 rfl (congrArg Value.bool (orT hE59)) ?_
              exact WL.nil (At.join () rfl (.cons rfl (.cons rfl (.cons rfl .nil))))
            · refine WL.ung rfl rfl ?_
              refine WL.y (Y.fieldAddr fo25_0 rfl) rfl ?_
              refine WL.ung rfl rfl ?_
              refine WL.y (Y.loadSc ty3 rfl rfl (hb16.cell 0 _ rfl)) rfl ?_
              refine WL.ung rfl rfl ?_
              refine WL.y (Y.gtr_i rfl rfl) rfl ?_
              refine WL.y (Y.pick (b := false) rfl rfl) rfl ?_
              refine WL.ren (v' := .bool ((decide (a0.Offset < (-1073741824))) || (decide (1073741824 < a0.Offset)))) 35 rfl (congrArg Value.bool (orF hE59)) ?_
              exact WL.nil (At.join () rfl (.cons rfl (.cons rfl (.cons rfl .nil))))
          · rintro _ _ rfl
            refine (show WL _ _ _ _ _ [(1, .pointer (some ⟨p17, 0, none⟩)), (3, vi nv22), (35, .bool ((decide (a0.Offset < (-1073741824))) || (decide (1073741824 < a0.Offset))))] _ from ?_)
            refine WL.y (Y.move rfl) rfl ?_
            refine WL.cut 7 (σ := Unit) (fun _ w' => wd19 = w') (fun _ => [(43, .bool (((decide (a0.Offset < (-1073741824))) || (decide (1073741824 < a0.Offset))) || (decide (1073741824 < w64 ((w64 (a0.Offset + nv22)) - 1)))))]) ?_ ?_
            · refine WL.part 36 rfl (fun hE60 => ?_) (fun hE60 => ?_)
              · refine WL.gS rfl rfl rfl rfl ?_
                refine WL.gS rfl rfl rfl rfl ?_
                refine WL.gS rfl rfl rfl rfl ?_
                refine WL.gS rfl rfl rfl rfl ?_
                refine WL.gS rfl rfl rfl rfl ?_
                refine WL.gS rfl rfl rfl rfl ?_
                refine WL.y (Y.pick (b := true) rfl rfl) rfl ?_
                refine WL.ren (v' := .bool (((decide (a0.Offset < (-1073741824))) || (decide (1073741824 < a0.Offset))) || (decide (1073741824 < w64 ((w64 (a0.Offset + nv22)) - 1))))) 43 rfl (congrArg Value.bool (orT hE60)) ?_
                exact WL.nil (At.join () rfl (.cons rfl .nil))
              · refine WL.ung rfl rfl ?_
                refine WL.y (Y.fieldAddr fo25_0 rfl) rfl ?_
                refine WL.ung rfl rfl ?_
                refine WL.y (Y.loadSc ty3 rfl rfl (hb16.cell 0 _ rfl)) rfl ?_
                refine WL.ung rfl rfl ?_
                refine WL.y (Y.move rfl) rfl ?_
                refine WL.ung rfl rfl ?_
                refine WL.y (Y.add_i rfl rfl) rfl ?_
                refine WL.ung rfl rfl ?_
                refine WL.y (Y.sub_i rfl rfl) rfl ?_
                refine WL.ung rfl rfl ?_
                refine WL.y (Y.gtr_i rfl rfl) rfl ?_
                refine WL.y (Y.pick (b := false) rfl rfl) rfl ?_
                refine WL.ren (v' := .bool (((decide (a0.Offset < (-1073741824))) || (decide (1073741824 < a0.Offset))) || (decide (1073741824 < w64 ((w64 (a0.Offset + nv22)) - 1))))) 43 rfl (congrArg Value.bool (orF hE60)) ?_
                exact WL.nil (At.join () rfl (.cons rfl .nil))
            · rintro _ _ rfl
              refine (show WL _ _ _ _ _ [(43, .bool (((decide (a0.Offset < (-1073741824))) || (decide (1073741824 < a0.Offset))) || (decide (1073741824 < w64 ((w64 (a0.Offset + nv22)) - 1)))))] _ from ?_)
              refine WL.nil ?_
              refine At.then ?_
              rcases cnd h with ⟨hc61, h⟩ | ⟨hc61, h⟩
              · refine WC.condT' rfl hc61 ?_
                refine WC.seq ?_
                refine WC.region ?_
                refine WL.y (Y.assign rfl) rfl ?_
                refine WL.nil ?_
                refine At.then ?_
                refine WC.ret ?_
                refine At.thenR ?_
                obtain rfl := some1 h
                have hs62 : Stp [] (Lg.O0 A) w O18 wd19 := (Stp.up hst20 rfl)
                exact At.res (.inl rfl) rfl (.tmp rfl .nil) ⟨rfl, (Stp.ext hs62 rfl rfl)⟩
              · refine WC.condF' rfl hc61 ?_
                refine WC.skip ?_
                refine At.then ?_
                refine WC.seq ?_
                refine WC.region ?_
                refine WL.y (Y.assign rfl) rfl ?_
                refine WL.nil ?_
                refine At.then ?_
                refine WC.ret ?_
                obtain rfl := some1 h
                have hs63 : Stp [] (Lg.O0 A) w O18 wd19 := (Stp.up hst20 rfl)
                exact At.res (.inl rfl) rfl (.tmp rfl .nil) ⟨rfl, (Stp.ext hs63 rfl rfl)⟩

theorem c_ref08_Check {A : Nat → Prop} {v0_3 : Value} {v0_5 : Value} {a0 : api_Hist} {w : World} (hs0_3 : Sl Rep.u w A v0_3 a0.Pos.Counts) (hs0_5 : Sl Rep.u w A v0_5 a0.Neg.Counts) {r0 : Int} (h : ref08_Check a0 = some r0) : Rets Try.prog 20 [.agg [vi a0.Scale, vu a0.Zero, vi a0.Pos.Offset, v0_3, vi a0.Neg.Offset, v0_5].toArray] w (fun v w' => v = vi r0 ∧ Ext w w') := by
  unfold ref08_Check at h
  refine Rets.enter Try.func20 rfl rfl ?_
  have hf11 : Sl Rep.u w (imm (Lg.O0 A)) v0_3 a0.Pos.Counts := (Sl.start hs0_3)
  have hf12 : Sl Rep.u w (imm (Lg.O0 A)) v0_5 a0.Neg.Counts := (Sl.start hs0_5)
  refine (show WC _ _ _ _ [(0, .agg [vi a0.Scale, vu a0.Zero, vi a0.Pos.Offset, v0_3, vi a0.Neg.Offset, v0_5].toArray)] _ from ?_)
  refine WC.seq ?_
  refine WC.region ?_
  have hh16 := h
  obtain ⟨p13, m14, c15, rfl⟩ := hf11.shape
  have h := hh16
  have hh20 := h
  obtain ⟨p17, m18, c19, rfl⟩ := hf12.shape
  have h := hh20
  refine WL.box (O := (Lg.O0 A)) 11 [vi a0.Scale, vu a0.Zero, vi a0.Pos.Offset, (.slice p13 m14 c15), vi a0.Neg.Offset, (.slice p17 m18 c19)] rfl rfl rfl ?_
  intro p22 O23 wd24 hst25 hb21
  refine WL.y (Y.assign rfl) rfl ?_
  refine WL.nil ?_
  refine At.then ?_
  refine WC.seq ?_
  refine WC.seq ?_
  refine WC.region ?_
  refine WL.y (Y.fieldAddr fo27_0 rfl) rfl ?_
  refine WL.y (Y.loadSc ty3 rfl rfl (hb21.cell 0 _ rfl)) rfl ?_
  refine WL.y (Y.lss_i rfl rfl) rfl ?_
  refine WL.y (Y.move rfl) rfl ?_
  refine WL.cut 4 (σ := Unit) (fun _ w' => wd24 = w') (fun _ => [(1, .pointer (some ⟨p22, 0, none⟩)), (14, .bool ((decide (a0.Scale < (-10))) || (decide (20 < a0.Scale))))]) ?_ ?_
  · refine WL.part 10 rfl (fun hE26 => ?_) (fun hE26 => ?_)
    · refine WL.gS rfl rfl rfl rfl ?_
      refine WL.gS rfl rfl rfl rfl ?_
      refine WL.gS rfl rfl rfl rfl ?_
      refine WL.y (Y.pick (b := true) rfl rfl) rfl ?_
      refine WL.ren (v' := .bool ((decide (a0.Scale < (-10))) || (decide (20 < a0.Scale)))) 14 rfl (congrArg Value.bool (orT hE26)) ?_
      exact WL.nil (At.join () rfl (.cons rfl (.cons rfl .nil)))
    · refine WL.ung rfl rfl ?_
      refine WL.y (Y.fieldAddr fo27_0 rfl) rfl ?_
      refine WL.ung rfl rfl ?_
      refine WL.y (Y.loadSc ty3 rfl rfl (hb21.cell 0 _ rfl)) rfl ?_
      refine WL.ung rfl rfl ?_
      refine WL.y (Y.gtr_i rfl rfl) rfl ?_
      refine WL.y (Y.pick (b := false) rfl rfl) rfl ?_
      refine WL.ren (v' := .bool ((decide (a0.Scale < (-10))) || (decide (20 < a0.Scale)))) 14 rfl (congrArg Value.bool (orF hE26)) ?_
      exact WL.nil (At.join () rfl (.cons rfl (.cons rfl .nil)))
  · rintro _ _ rfl
    refine (show WL _ _ _ _ _ [(1, .pointer (some ⟨p22, 0, none⟩)), (14, .bool ((decide (a0.Scale < (-10))) || (decide (20 < a0.Scale))))] _ from ?_)
    refine WL.nil ?_
    refine At.then ?_
    rcases cnd h with ⟨hc27, h⟩ | ⟨hc27, h⟩
    · refine WC.condT' rfl hc27 ?_
      refine WC.seq ?_
      refine WC.region ?_
      refine WL.y (Y.assign rfl) rfl ?_
      refine WL.nil ?_
      refine At.then ?_
      refine WC.ret ?_
      refine At.thenR ?_
      obtain rfl := some1 h
      have hs28 : Stp [] (Lg.O0 A) w O23 wd24 := (Stp.up hst25 rfl)
      exact At.res (.inl rfl) rfl (.tmp rfl .nil) ⟨rfl, (Stp.ext hs28 rfl rfl)⟩
    · refine WC.condF' rfl hc27 ?_
      refine WC.skip ?_
      refine At.then ?_
      refine WC.seq ?_
      refine WC.seq ?_
      refine WC.region ?_
      refine WL.y (Y.fieldAddr fo27_2 rfl) rfl ?_
      refine WL.y (Y.loadAg ty25 rfl rfl (hb21.cells 2 [vi a0.Pos.Offset, (.slice p13 m14 c15)] rfl) rfl) rfl ?_
      have hf29 := hf11.mono (imm_st hst25 rfl rfl)
      obtain ⟨r30, hp31, h⟩ := bnd h
      refine WL.call (vals := [.agg [vi a0.Pos.Offset, (.slice p13 m14 c15)].toArray]) kok61 rfl rfl (c_ref08_side (A := fun _ => True) (a0 := a0.Pos) (Sl.all hf29) hp31) ?_
      rintro vr34 wd33 ⟨rfl, hm32⟩
      obtain ⟨O35, hold36, hnew37, hst38⟩ := adoptE O23 (fun k => 1) hm32
      refine WL.y (Y.assign rfl) rfl ?_
      refine WL.nil ?_
      refine At.then ?_
      refine WC.seq ?_
      refine WC.region ?_
      refine WL.y (Y.move rfl) rfl ?_
      refine WL.y (Y.neq_i rfl rfl) rfl ?_
      refine WL.nil ?_
      refine At.then ?_
      rcases cnd h with ⟨hc39, h⟩ | ⟨hc39, h⟩
      · refine WC.condT' rfl hc39 ?_
        refine WC.seq ?_
        refine WC.region ?_
        refine WL.y (Y.move rfl) rfl ?_
        refine WL.y (Y.assign rfl) rfl ?_
        refine WL.nil ?_
        refine At.then ?_
        refine WC.ret ?_
        refine At.thenR ?_
        obtain rfl := some1 h
        have hs40 : Stp [] (Lg.O0 A) w O35 wd33 := (Stp.trans (Stp.up hst25 rfl) (Stp.up hst38 rfl))
        exact At.res (.inl rfl) rfl (.tmp rfl .nil) ⟨rfl, (Stp.ext hs40 rfl rfl)⟩
      · refine WC.condF' rfl hc39 ?_
        refine WC.skip ?_
        refine At.then ?_
        refine WC.seq ?_
        refine WC.seq ?_
        refine WC.region ?_
        refine WL.y (Y.fieldAddr fo27_3 rfl) rfl ?_
        have hf41 := hb21.st hst38 rfl
        refine WL.y (Y.loadAg ty25 rfl rfl (hf41.cells 4 [vi a0.Neg.Offset, (.slice p17 m18 c19)] rfl) rfl) rfl ?_
        have hf42 := hf12.mono (imm_st hst25 rfl rfl)
        have hf43 := hf42.mono (imm_st hst38 rfl rfl)
        obtain ⟨r44, hp45, h⟩ := bnd h
        refine WL.call (vals := [.agg [vi a0.Neg.Offset, (.slice p17 m18 c19)].toArray]) kok61 rfl rfl (c_ref08_side (A := fun _ => True) (a0 := a0.Neg) (Sl.all hf43) hp45) ?_
        rintro vr48 wd47 ⟨rfl, hm46⟩
        obtain ⟨O49, hold50, hnew51, hst52⟩ := adoptE O35 (fun k => 1) hm46
        refine WL.y (Y.assign rfl) rfl ?_
        refine WL.nil ?_
        refine At.then ?_
        refine WC.seq ?_
        refine WC.region ?_
        refine WL.y (Y.move rfl) rfl ?_
        refine WL.y (Y.neq_i rfl rfl) rfl ?_
        refine WL.nil ?_
        refine At.then ?_
        rcases cnd h with ⟨hc53, h⟩ | ⟨hc53, h⟩
        · refine WC.condT' rfl hc53 ?_
          refine WC.seq ?_
          refine WC.region ?_
          refine WL.y (Y.move rfl) rfl ?_
          refine WL.y (Y.assign rfl) rfl ?_
          refine WL.nil ?_
          refine At.then ?_
          refine WC.ret ?_
          refine At.thenR ?_
          obtain rfl := some1 h
          have hs54 : Stp [] (Lg.O0 A) w O49 wd47 := (Stp.trans (Stp.up hst25 rfl) (Stp.trans (Stp.up hst38 rfl) (Stp.up hst52 rfl)))
          exact At.res (.inl rfl) rfl (.tmp rfl .nil) ⟨rfl, (Stp.ext hs54 rfl rfl)⟩
        · refine WC.condF' rfl hc53 ?_
          refine WC.skip ?_
          refine At.then ?_
          refine WC.seq ?_
          refine WC.seq ?_
          refine WC.region ?_
          have hf55 := hf41.st hst52 rfl
          refine WL.y (Y.loadAg ty27 rfl rfl (hf55.cells 0 [vi a0.Scale, vu a0.Zero, vi a0.Pos.Offset, (.slice p13 m14 c15), vi a0.Neg.Offset, (.slice p17 m18 c19)] rfl) rfl) rfl ?_
          have hf56 := hf29.mono (imm_st hst38 rfl rfl)
          have hf57 := hf56.mono (imm_st hst52 rfl rfl)
          have hf58 := hf43.mono (imm_st hst52 rfl rfl)
          obtain ⟨⟨r59, r60⟩, hp61, h⟩ := bnd h
          refine WL.call (vals := [.agg [vi a0.Scale, vu a0.Zero, vi a0.Pos.Offset, (.slice p13 m14 c15), vi a0.Neg.Offset, (.slice p17 m18 c19)].toArray]) kok18 rfl rfl (c_ref08_Total (A := fun _ => True) (a0 := a0) (Sl.all hf57) (Sl.all hf58) hp61) ?_
          rintro vr64 wd63 ⟨rfl, hm62⟩
          obtain ⟨O65, hold66, hnew67, hst68⟩ := adoptE O49 (fun k => 1) hm62
          refine WL.y (Y.move rfl) rfl ?_
          refine WL.y (Y.extract rfl rfl) rfl ?_
          refine WL.y (Y.extract rfl rfl) rfl ?_
          refine WL.y (Y.assign rfl) rfl ?_
          refine WL.y (Y.assign rfl) rfl ?_
          refine WL.nil ?_
          refine At.then ?_
          refine WC.seq ?_
          refine WC.region ?_
          refine WL.y (Y.move rfl) rfl ?_
          refine WL.y (Y.not rfl) rfl ?_
          refine WL.nil ?_
          refine At.then ?_
          rcases cnd h with ⟨hc69, h⟩ | ⟨hc69, h⟩
          · refine WC.condT' rfl hc69 ?_
            refine WC.seq ?_
            refine WC.region ?_
            refine WL.y (Y.assign rfl) rfl ?_
            refine WL.nil ?_
            refine At.then ?_
            refine WC.ret ?_
            refine At.thenR ?_
            obtain rfl := some1 h
            have hs70 : Stp [] (Lg.O0 A) w O65 wd63 := (Stp.trans (Stp.up hst25 rfl) (Stp.trans (Stp.up hst38 rfl) (Stp.trans (Stp.up hst52 rfl) (Stp.up hst68 rfl))))
            exact At.res (.inl rfl) rfl (.tmp rfl .nil) ⟨rfl, (Stp.ext hs70 rfl rfl)⟩
          · refine WC.condF' rfl hc69 ?_
            refine WC.skip ?_
            refine At.then ?_
            refine WC.seq ?_
            refine WC.region ?_
            refine WL.y (Y.assign rfl) rfl ?_
            refine WL.nil ?_
            refine At.then ?_
            refine WC.ret ?_
            obtain rfl := some1 h
            have hs71 : Stp [] (Lg.O0 A) w O65 wd63 := (Stp.trans (Stp.up hst25 rfl) (Stp.trans (Stp.up hst38 rfl) (Stp.trans (Stp.up hst52 rfl) (Stp.up hst68 rfl))))
            exact At.res (.inl rfl) rfl (.tmp rfl .nil) ⟨rfl, (Stp.ext hs71 rfl rfl)⟩

theorem c_ref08_Trim {A : Nat → Prop} {v0_1 : Value} {a0 : api_Side} {w : World} (hs0_1 : Sl Rep.u w A v0_1 a0.Counts) {r0 : api_Side} (h : ref08_Trim a0 = some r0) : Rets Try.prog 29 [.agg [vi a0.Offset, v0_1].toArray] w (fun v w' => ∃ (u0_1 : Value), v = .agg (List.toArray [vi r0.Offset, u0_1]) ∧ Ext w w' ∧ Sl Rep.u w' (fun k => w.heap.size ≤ k) u0_1 r0.Counts) := by
  unfold ref08_Trim at h
  refine Rets.enter Try.func29 rfl rfl ?_
  have hf11 : Sl Rep.u w (imm (Lg.O0 A)) v0_1 a0.Counts := (Sl.start hs0_1)
  refine (show WC _ _ _ _ [(0, .agg [vi a0.Offset, v0_1].toArray)] _ from ?_)
  refine WC.seq ?_
  refine WC.region ?_
  have hh15 := h
  obtain ⟨p12, m13, c14, rfl⟩ := hf11.shape
  have h := hh15
  refine WL.box (O := (Lg.O0 A)) 11 [vi a0.Offset, (.slice p12 m13 c14)] rfl rfl rfl ?_
  intro p17 O18 wd19 hst20 hb16
  refine WL.alloc (O := O18) 12 [vi 0, .slice none 0 0] ty25 rfl rfl ?_
  intro p22 O23 wd24 hst25 hb21
  refine WL.nil ?_
  refine At.then ?_
  refine WC.seq ?_
  refine WC.region ?_
  refine WL.y (Y.fieldAddr fo25_1 rfl) rfl ?_
  have hf26 := hb16.st hst25 rfl
  refine WL.y (Y.loadSc ty23 rfl rfl (hf26.cell 1 _ rfl)) rfl ?_
  refine WL.y (Y.assign rfl) rfl ?_
  refine WL.nil ?_
  refine At.then ?_
  refine WC.seq ?_
  refine WC.region ?_
  refine WL.y (Y.fieldAddr fo25_0 rfl) rfl ?_
  refine WL.y (Y.loadSc ty3 rfl rfl (hf26.cell 0 _ rfl)) rfl ?_
  refine WL.y (Y.assign rfl) rfl ?_
  refine WL.nil ?_
  refine At.then ?_
  refine WC.seq ?_
  obtain ⟨p34, h, hk35⟩ := bnd h
  refine WC.join (σ := (List UInt64 × Int × Own × Value)) (fun x w' => (x.1, x.2.1) = p34 ∧ Stp [] O23 wd24 x.2.2.1 w' ∧ Sl Rep.u w' (imm x.2.2.1) x.2.2.2 x.1) (fun x => [(2, .pointer (some ⟨p22, 0, none⟩)), (3, x.2.2.2), (4, vi x.2.1)]) ?_ ?_
  · refine WC.block ?_
    obtain ⟨p50, h, hk52⟩ := flow1 h
    obtain ⟨k51, h⟩ := loop_some h
    refine WC.joinB 0 (σ := (List UInt64 × Int × Own × Value)) (fun x w' => p50 = .go (x.1, x.2.1) ∧ Stp [] O23 wd24 x.2.2.1 w' ∧ Sl Rep.u w' (imm x.2.2.1) x.2.2.2 x.1) (fun x => [(2, .pointer (some ⟨p22, 0, none⟩)), (3, x.2.2.2), (4, vi x.2.1)]) ?_ ?_
    · have hf53 := hf11.mono (imm_st hst20 rfl rfl)
      have hf54 := hf53.mono (imm_st hst25 rfl rfl)
      refine WC.loop (σ := (List UInt64 × Int × Own × Value)) (fun x k w' => loopN k (ref08_Trim_lp1) (x.1, x.2.1) = some p50 ∧ Stp [] O23 wd24 x.2.2.1 w' ∧ Sl Rep.u w' (imm x.2.2.1) x.2.2.2 x.1) (fun x => [(2, .pointer (some ⟨p22, 0, none⟩)), (3, x.2.2.2), (4, vi x.2.1)]) (a0.Counts, a0.Offset, O23, (.slice p12 m13 c14)) k51 (.cons rfl (.cons rfl (.cons rfl .nil))) ⟨h, (Stp.refl _ _ _), hf54⟩ ?_
      rintro ⟨l36, at39, O40, v37⟩ k51 wd41 ⟨h, hst42, hf38⟩
      obtain ⟨j55, q56, rfl, h, hn57⟩ := rnd1 h
      unfold ref08_Trim_lp1 at h
      try dsimp only at h hst42 hf38
      refine (show WC _ _ _ _ [(2, .pointer (some ⟨p22, 0, none⟩)), (3, v37), (4, vi at39)] _ from ?_)
      refine WC.seq ?_
      refine WC.seq ?_
      refine WC.region ?_
      refine WL.y (Y.move rfl) rfl ?_
      refine WL.y (Y.len ty23 rfl hf38) rfl ?_
      refine WL.y (Y.gtr_i rfl rfl) rfl ?_
      refine WL.y (Y.move rfl) rfl ?_
      obtain ⟨p59, h, hk60⟩ := bnd h
      refine WL.cut 5 (σ := Bool) (fun x w' => x = p59 ∧ wd41 = w') (fun x => [(2, .pointer (some ⟨p22, 0, none⟩)), (3, v37), (4, vi at39), (18, .bool x)]) ?_ ?_
      · rcases cnd h with ⟨hE61, h⟩ | ⟨hE61, h⟩
        · refine WL.ren 13 rfl (congrArg Value.bool hE61) ?_
          refine WL.ung rfl rfl ?_
          refine WL.y (Y.move rfl) rfl ?_
          refine WL.ung rfl rfl ?_
          obtain ⟨e62, he62, h⟩ := bnd h
          obtain ⟨b63, off71, cap70, cs69, hv64, hi65, hl66, hc67, hok68, hA72⟩ := Sl.at2 hf38 he62
          obtain rfl := hok68
          replace hc67 : CellsAt _ _ _ [vu e62] := hc67
          have hca73 := CAt.imm hc67 hA72
          refine WL.y (Y.indexAddr ty23 ty22 rfl hv64 rfl hi65 hl66) rfl ?_
          refine WL.ung rfl rfl ?_
          refine WL.y (Y.loadSc ty22 rfl rfl hca73.at_) rfl ?_
          refine WL.ung rfl rfl ?_
          refine WL.y (Y.eql_u (b := 0) rfl rfl) rfl ?_
          refine WL.y (Y.pick (b := true) rfl rfl) rfl ?_
          exact WL.nil (At.join (σ := Bool) (decide (e62 = 0)) ⟨some1 h, rfl⟩ (.cons rfl (.cons rfl (.cons rfl (.cons rfl .nil)))))
        · refine WL.ren 13 rfl (congrArg Value.bool hE61) ?_
          refine WL.gS rfl rfl rfl rfl ?_
          refine WL.gS rfl rfl rfl rfl ?_
          refine WL.gS rfl rfl rfl rfl ?_
          refine WL.gS rfl rfl rfl rfl ?_
          refine WL.y (Y.pick (b := false) rfl rfl) rfl ?_
          exact WL.nil (At.join (σ := Bool) false ⟨some1 h, rfl⟩ (.cons rfl (.cons rfl (.cons rfl (.cons rfl .nil)))))
      · rintro x58 _ ⟨rfl, rfl⟩
        replace h := hk60
        try dsimp only at h
        refine (show WL _ _ _ _ _ [(2, .pointer (some ⟨p22, 0, none⟩)), (3, v37), (4, vi at39), (18, .bool x58)] _ from ?_)
        refine WL.nil ?_
        refine At.then ?_
        rcases cnd h with ⟨hc74, h⟩ | ⟨hc74, h⟩
        · refine WC.condT' rfl hc74 ?_
          refine WC.skip ?_
          refine At.then ?_
          refine WC.block ?_
          refine WC.seq ?_
          refine WC.region ?_
          refine WL.y (Y.move rfl) rfl ?_
          obtain ⟨t75, ht75, h⟩ := bnd h
          obtain ⟨v76, hY78, hf77⟩ := Sl.slice (ρ := [(19, v37)]) (x := (.tmp 19)) (lo := (some (.const (.int .i64 1)))) (hi := none) ty23 ty22 rfl rfl rfl hf38 ht75
          refine WL.y (Y.sub (.cons rfl .nil) (hY78 _ _)) rfl ?_
          refine WL.y (Y.assign rfl) rfl ?_
          refine WL.nil ?_
          refine At.then ?_
          refine WC.region ?_
          refine WL.y (Y.move rfl) rfl ?_
          refine WL.y (Y.add_i rfl rfl) rfl ?_
          obtain ⟨at79, hat79, h⟩ := lt1 h
          refine WL.yE (Y.assign rfl) (congrArg vi hat79.symm) rfl ?_
          refine WL.nil ?_
          refine At.inBlock ?_
          exact At.round (t75, at79, O40, v76) j55 (Nat.lt_succ_self _) ⟨next1 h hn57, (Stp.up hst42 rfl), hf77⟩ (.cons rfl (.cons rfl (.cons rfl .nil)))
        · refine WC.condF' rfl hc74 ?_
          refine WC.exit ?_
          refine At.thenX ?_
          refine At.loopX ?_
          exact At.hitB (σ := (List UInt64 × Int × Own × Value)) (l36, at39, O40, v37) ⟨brk1 h hn57, (Stp.up hst42 rfl), hf38⟩ (.cons rfl (.cons rfl (.cons rfl .nil)))
    · rintro ⟨l43, at46, O47, v44⟩ wd48 ⟨rfl, hst49, hf45⟩
      replace h := flowK_go hk52
      try dsimp only at h hst49 hf45
      refine (show At _ _ _ [(2, .pointer (some ⟨p22, 0, none⟩)), (3, v44), (4, vi at46)] _ from ?_)
      refine At.inBlockHit ?_
      exact At.join (σ := (List UInt64 × Int × Own × Value)) (l43, at46, O47, v44) ⟨some1 h, (Stp.up hst49 rfl), hf45⟩ (.cons rfl (.cons rfl (.cons rfl .nil)))
  · rintro ⟨l27, at30, O31, v28⟩ wd32 ⟨rfl, hst33, hf29⟩
    replace h := hk35
    try dsimp only at h hst33 hf29
    refine (show At _ _ _ [(2, .pointer (some ⟨p22, 0, none⟩)), (3, v28), (4, vi at30)] _ from ?_)
    refine At.then ?_
    refine WC.seq ?_
    obtain ⟨p86, h, hk87⟩ := bnd h
    refine WC.join (σ := (List UInt64 × Own × Value)) (fun x w' => x.1 = p86 ∧ Stp [] O31 wd32 x.2.1 w' ∧ Sl Rep.u w' (imm x.2.1) x.2.2 x.1) (fun x => [(2, .pointer (some ⟨p22, 0, none⟩)), (3, x.2.2), (4, vi at30)]) ?_ ?_
    · refine WC.block ?_
      obtain ⟨p100, h, hk102⟩ := flow1 h
      obtain ⟨k101, h⟩ := loop_some h
      refine WC.joinB 2 (σ := (List UInt64 × Own × Value)) (fun x w' => p100 = .go x.1 ∧ Stp [] O31 wd32 x.2.1 w' ∧ Sl Rep.u w' (imm x.2.1) x.2.2 x.1) (fun x => [(2, .pointer (some ⟨p22, 0, none⟩)), (3, x.2.2), (4, vi at30)]) ?_ ?_
      · refine WC.loop (σ := (List UInt64 × Own × Value)) (fun x k w' => loopN k (ref08_Trim_lp2) x.1 = some p100 ∧ Stp [] O31 wd32 x.2.1 w' ∧ Sl Rep.u w' (imm x.2.1) x.2.2 x.1) (fun x => [(2, .pointer (some ⟨p22, 0, none⟩)), (3, x.2.2), (4, vi at30)]) (l27, O31, v28) k101 (.cons rfl (.cons rfl (.cons rfl .nil))) ⟨h, (Stp.refl _ _ _), hf29⟩ ?_
        rintro ⟨l88, O91, v89⟩ k101 wd92 ⟨h, hst93, hf90⟩
        obtain ⟨j103, q104, rfl, h, hn105⟩ := rnd1 h
        unfold ref08_Trim_lp2 at h
        try dsimp only at h hst93 hf90
        refine (show WC _ _ _ _ [(2, .pointer (some ⟨p22, 0, none⟩)), (3, v89), (4, vi at30)] _ from ?_)
        refine WC.seq ?_
        refine WC.seq ?_
        refine WC.region ?_
        refine WL.y (Y.move rfl) rfl ?_
        refine WL.y (Y.len ty23 rfl hf90) rfl ?_
        refine WL.y (Y.gtr_i rfl rfl) rfl ?_
        refine WL.y (Y.move rfl) rfl ?_
        obtain ⟨p107, h, hk108⟩ := bnd h
        refine WL.cut 8 (σ := Bool) (fun x w' => x = p107 ∧ wd92 = w') (fun x => [(2, .pointer (some ⟨p22, 0, none⟩)), (3, v89), (4, vi at30), (34, .bool x)]) ?_ ?_
        · rcases cnd h with ⟨hE109, h⟩ | ⟨hE109, h⟩
          · refine WL.ren 26 rfl (congrArg Value.bool hE109) ?_
            refine WL.ung rfl rfl ?_
            refine WL.y (Y.move rfl) rfl ?_
            refine WL.ung rfl rfl ?_
            refine WL.y (Y.move rfl) rfl ?_
            refine WL.ung rfl rfl ?_
            refine WL.y (Y.len ty23 rfl hf90) rfl ?_
            refine WL.ung rfl rfl ?_
            refine WL.y (Y.sub_i rfl rfl) rfl ?_
            refine WL.ung rfl rfl ?_
            obtain ⟨e110, he110, h⟩ := bnd h
            obtain ⟨b111, off119, cap118, cs117, hv112, hi113, hl114, hc115, hok116, hA120⟩ := Sl.at2 hf90 he110
            obtain rfl := hok116
            replace hc115 : CellsAt _ _ _ [vu e110] := hc115
            have hca121 := CAt.imm hc115 hA120
            refine WL.y (Y.indexAddr ty23 ty22 rfl hv112 rfl hi113 hl114) rfl ?_
            refine WL.ung rfl rfl ?_
            refine WL.y (Y.loadSc ty22 rfl rfl hca121.at_) rfl ?_
            refine WL.ung rfl rfl ?_
            refine WL.y (Y.eql_u (b := 0) rfl rfl) rfl ?_
            refine WL.y (Y.pick (b := true) rfl rfl) rfl ?_
            exact WL.nil (At.join (σ := Bool) (decide (e110 = 0)) ⟨some1 h, rfl⟩ (.cons rfl (.cons rfl (.cons rfl (.cons rfl .nil)))))
          · refine WL.ren 26 rfl (congrArg Value.bool hE109) ?_
            refine WL.gS rfl rfl rfl rfl ?_
            refine WL.gS rfl rfl rfl rfl ?_
            refine WL.gS rfl rfl rfl rfl ?_
            refine WL.gS rfl rfl rfl rfl ?_
            refine WL.gS rfl rfl rfl rfl ?_
            refine WL.gS rfl rfl rfl rfl ?_
            refine WL.gS rfl rfl rfl rfl ?_
            refine WL.y (Y.pick (b := false) rfl rfl) rfl ?_
            exact WL.nil (At.join (σ := Bool) false ⟨some1 h, rfl⟩ (.cons rfl (.cons rfl (.cons rfl (.cons rfl .nil)))))
        · rintro x106 _ ⟨rfl, rfl⟩
          replace h := hk108
          try dsimp only at h
          refine (show WL _ _ _ _ _ [(2, .pointer (some ⟨p22, 0, none⟩)), (3, v89), (4, vi at30), (34, .bool x106)] _ from ?_)
          refine WL.nil ?_
          refine At.then ?_
          rcases cnd h with ⟨hc122, h⟩ | ⟨hc122, h⟩
          · refine WC.condT' rfl hc122 ?_
            refine WC.skip ?_
            refine At.then ?_
            refine WC.block ?_
            refine WC.region ?_
            refine WL.y (Y.move rfl) rfl ?_
            refine WL.y (Y.move rfl) rfl ?_
            refine WL.y (Y.len ty23 rfl hf90) rfl ?_
            refine WL.y (Y.sub_i rfl rfl) rfl ?_
            obtain ⟨t123, ht123, h⟩ := bnd h
            obtain ⟨v124, hY126, hf125⟩ := Sl.slice (ρ := [(35, v89), (38, vi (w64 ((l88.length : Int) - 1)))]) (x := (.tmp 35)) (lo := none) (hi := (some (.tmp 38))) ty23 ty22 rfl rfl rfl hf90 ht123
            refine WL.y (Y.sub (.cons rfl (.cons rfl .nil)) (hY126 _ _)) rfl ?_
            refine WL.y (Y.assign rfl) rfl ?_
            refine WL.nil ?_
            refine At.inBlock ?_
            exact At.round (t123, O91, v124) j103 (Nat.lt_succ_self _) ⟨next1 h hn105, (Stp.up hst93 rfl), hf125⟩ (.cons rfl (.cons rfl (.cons rfl .nil)))
          · refine WC.condF' rfl hc122 ?_
            refine WC.exit ?_
            refine At.thenX ?_
            refine At.loopX ?_
            exact At.hitB (σ := (List UInt64 × Own × Value)) (l88, O91, v89) ⟨brk1 h hn105, (Stp.up hst93 rfl), hf90⟩ (.cons rfl (.cons rfl (.cons rfl .nil)))
      · rintro ⟨l94, O97, v95⟩ wd98 ⟨rfl, hst99, hf96⟩
        replace h := flowK_go hk102
        try dsimp only at h hst99 hf96
        refine (show At _ _ _ [(2, .pointer (some ⟨p22, 0, none⟩)), (3, v95), (4, vi at30)] _ from ?_)
        refine At.inBlockHit ?_
        exact At.join (σ := (List UInt64 × Own × Value)) (l94, O97, v95) ⟨some1 h, (Stp.up hst99 rfl), hf96⟩ (.cons rfl (.cons rfl (.cons rfl .nil)))
    · rintro ⟨l80, O83, v81⟩ wd84 ⟨rfl, hst85, hf82⟩
      replace h := hk87
      try dsimp only at h hst85 hf82
      refine (show At _ _ _ [(2, .pointer (some ⟨p22, 0, none⟩)), (3, v81), (4, vi at30)] _ from ?_)
      refine At.then ?_
      refine WC.seq ?_
      refine WC.seq ?_
      refine WC.region ?_
      refine WL.y (Y.move rfl) rfl ?_
      refine WL.y (Y.len ty23 rfl hf82) rfl ?_
      refine WL.y (Y.eql_i rfl rfl) rfl ?_
      refine WL.nil ?_
      refine At.then ?_
      rcases cnd h with ⟨hc127, h⟩ | ⟨hc127, h⟩
      · refine WC.condT' rfl hc127 ?_
        refine WC.seq ?_
        refine WC.region ?_
        refine WL.y (Y.build (vals := []) (cells := [vi 0, .slice none 0 0]) (Fits.evalp rfl) (by kernel_rfl)) rfl ?_
        have hf128 := hb21.st hst33 rfl
        have hf129 := hf128.st hst85 rfl
        refine WL.store (v := .agg [vi 0, .slice none 0 0].toArray) (cells' := [vi 0, .slice none 0 0]) ty25 rfl rfl hf129 rfl (Nat.le_of_ble_eq_true rfl) rfl rfl ?_
        intro wd130 hst131 hb132
        refine WL.nil ?_
        refine At.then ?_
        refine WC.ret ?_
        refine At.thenR ?_
        obtain rfl := some1 h
        have hs133 : Stp [12] (Lg.O0 A) w O83 wd130 := (Stp.trans (Stp.up hst20 rfl) (Stp.trans (Stp.up hst25 rfl) (Stp.trans (Stp.up hst33 rfl) (Stp.trans (Stp.up hst85 rfl) (Stp.up hst131 rfl)))))
        exact At.res (.inl rfl) rfl (.cell rfl (hb132.runAg 0 [vi 0, .slice none 0 0] ty25 rfl rfl rfl) .nil) ⟨.slice none 0 0, rfl, (Stp.ext hs133 rfl rfl), (Or.inl ⟨rfl, rfl⟩)⟩
      · refine WC.condF' rfl hc127 ?_
        refine WC.skip ?_
        refine At.then ?_
        refine WC.seq ?_
        refine WC.region ?_
        refine WL.y (Y.assign rfl) rfl ?_
        refine WL.nil ?_
        refine At.then ?_
        refine WC.seq ?_
        refine WC.region ?_
        refine WL.y (Y.move rfl) rfl ?_
        refine WL.y (Y.move rfl) rfl ?_
        obtain ⟨xs134, hxs134, h⟩ := bnd h
        have ho135 := OwnSl.nil (O := O83) (w := wd84) 13 Rep.u 22
        refine WL.append (by decide) ty23 ty22 rfl (by decide) rfl rfl ho135 (Sl.src hf82) hxs134 rfl ?_
        intro v139 O136 wd137 hst138 ho140
        refine WL.y (Y.assign rfl) rfl ?_
        refine WL.nil ?_
        refine At.then ?_
        refine WC.seq ?_
        refine WC.region ?_
        refine WL.y (Y.move rfl) rfl ?_
        refine WL.y (Y.move rfl) rfl ?_
        have hh144 := h
        obtain ⟨p141, m142, c143, rfl⟩ := ho140.shape
        have h := hh144
        refine WL.y (Y.build (vals := [(0, vi at30), (1, (.slice p141 m142 c143))]) (cells := [vi at30, (.slice p141 m142 c143)]) (Fits.evalp rfl) (by kernel_rfl)) rfl ?_
        have hf145 := hb21.st hst33 rfl
        have hf146 := hf145.st hst85 rfl
        have hf147 := hf146.st hst138 rfl
        refine WL.store (v := .agg [vi at30, (.slice p141 m142 c143)].toArray) (cells' := [vi at30, (.slice p141 m142 c143)]) ty25 rfl rfl hf147 rfl (Nat.le_of_ble_eq_true rfl) rfl rfl ?_
        intro wd148 hst149 hb150
        refine WL.nil ?_
        refine At.then ?_
        refine WC.ret ?_
        obtain rfl := some1 h
        have hf151 := ho140.st hst149 rfl rfl rfl
        obtain ⟨O152, hst153, hf154⟩ := OwnSl.giveF rfl Flat.u hf151
        have hs155 : Stp [12, 13] (Lg.O0 A) w O152 wd148 := (Stp.trans (Stp.up hst20 rfl) (Stp.trans (Stp.up hst25 rfl) (Stp.trans (Stp.up hst33 rfl) (Stp.trans (Stp.up hst85 rfl) (Stp.trans (Stp.up hst138 rfl) (Stp.trans (Stp.up hst149 rfl) (Stp.up hst153 rfl)))))))
        have hf156 := hb150.st hst153 rfl
        exact At.res (.inl rfl) rfl (.cell rfl (hf156.runAg 0 [vi at30, (.slice p141 m142 c143)] ty25 rfl rfl rfl) .nil) ⟨(.slice p141 m142 c143), rfl, (Stp.ext hs155 rfl rfl), (Sl.outF hf154 hs155 low0)⟩

theorem c_ref08_half {a0 : Int} {w : World} {r0 : Int} (h : ref08_half a0 = some r0) : Rets Try.prog 93 [vi a0] w (fun v w' => v = vi r0 ∧ Ext w w') := by
  unfold ref08_half at h
  refine Rets.enter Try.func93 rfl rfl ?_
  refine (show WC _ _ _ _ [(0, vi a0)] _ from ?_)
  refine WC.seq ?_
  refine WC.region ?_
  refine WL.y (Y.assign rfl) rfl ?_
  refine WL.nil ?_
  refine At.then ?_
  refine WC.seq ?_
  refine WC.seq ?_
  refine WC.region ?_
  refine WL.y (Y.move rfl) rfl ?_
  refine WL.y (Y.lss_i rfl rfl) rfl ?_
  refine WL.nil ?_
  refine At.then ?_
  rcases cnd h with ⟨hc11, h⟩ | ⟨hc11, h⟩
  · refine WC.condT' rfl hc11 ?_
    refine WC.seq ?_
    refine WC.region ?_
    refine WL.y (Y.move rfl) rfl ?_
    refine WL.y (Y.sub_i rfl rfl) rfl ?_
    refine WL.y (Y.quo_i (by decide) rfl rfl) rfl ?_
    refine WL.y (Y.sub_i rfl rfl) rfl ?_
    obtain ⟨t12, ht12, h⟩ := lt1 h
    refine WL.yE (Y.assign rfl) (congrArg vi ht12.symm) rfl ?_
    refine WL.nil ?_
    refine At.then ?_
    refine WC.ret ?_
    refine At.thenR ?_
    obtain rfl := some1 h
    have hs13 : Stp [] (Lg.O0 (fun _ => False)) w (Lg.O0 (fun _ => False)) w := (Stp.refl _ _ _)
    exact At.res (.inl rfl) rfl (.tmp rfl .nil) ⟨rfl, (Stp.ext hs13 rfl rfl)⟩
  · refine WC.condF' rfl hc11 ?_
    refine WC.skip ?_
    refine At.then ?_
    refine WC.seq ?_
    refine WC.region ?_
    refine WL.y (Y.move rfl) rfl ?_
    refine WL.y (Y.quo_i (by decide) rfl rfl) rfl ?_
    obtain ⟨t14, ht14, h⟩ := lt1 h
    refine WL.yE (Y.assign rfl) (congrArg vi ht14.symm) rfl ?_
    refine WL.nil ?_
    refine At.then ?_
    refine WC.ret ?_
    obtain rfl := some1 h
    have hs15 : Stp [] (Lg.O0 (fun _ => False)) w (Lg.O0 (fun _ => False)) w := (Stp.refl _ _ _)
    exact At.res (.inl rfl) rfl (.tmp rfl .nil) ⟨rfl, (Stp.ext hs15 rfl rfl)⟩

theorem c_ref08_once {A : Nat → Prop} {v0_1 : Value} {a0 : api_Side} {w : World} (hs0_1 : Sl Rep.u w A v0_1 a0.Counts) {r0 : api_Side} (h : ref08_once a0 = some r0) : Rets Try.prog 63 [.agg [vi a0.Offset, v0_1].toArray] w (fun v w' => ∃ (u0_1 : Value), v = .agg (List.toArray [vi r0.Offset, u0_1]) ∧ Ext w w' ∧ Sl Rep.u w' (fun k => w.heap.size ≤ k) u0_1 r0.Counts) := by
  unfold ref08_once at h
  refine Rets.enter Try.func63 rfl rfl ?_
  have hf11 : Sl Rep.u w (imm (Lg.O0 A)) v0_1 a0.Counts := (Sl.start hs0_1)
  refine (show WC _ _ _ _ [(0, .agg [vi a0.Offset, v0_1].toArray)] _ from ?_)
  refine WC.seq ?_
  refine WC.region ?_
  have hh15 := h
  obtain ⟨p12, m13, c14, rfl⟩ := hf11.shape
  have h := hh15
  refine WL.box (O := (Lg.O0 A)) 11 [vi a0.Offset, (.slice p12 m13 c14)] rfl rfl rfl ?_
  intro p17 O18 wd19 hst20 hb16
  refine WL.alloc (O := O18) 12 [vi 0, .slice none 0 0] ty25 rfl rfl ?_
  intro p22 O23 wd24 hst25 hb21
  refine WL.nil ?_
  refine At.then ?_
  refine WC.seq ?_
  refine WC.region ?_
  refine WL.alloc (O := O23) 13 [vi 0, .slice none 0 0] ty25 rfl rfl ?_
  intro p27 O28 wd29 hst30 hb26
  refine WL.nil ?_
  refine At.then ?_
  refine WC.seq ?_
  refine WC.seq ?_
  refine WC.region ?_
  refine WL.y (Y.assign rfl) rfl ?_
  refine WL.nil ?_
  refine At.then ?_
  refine WC.block ?_
  obtain ⟨p48, h, hk50⟩ := flow1 h
  obtain ⟨k49, h⟩ := loop_some h
  refine WC.joinB 0 (σ := (Int × List UInt64 × Own × Value)) (fun x w' => p48 = .go (x.1, x.2.1) ∧ Stp [13, 14, 15, 16, 1002, 1004] O28 wd29 x.2.2.1 w' ∧ OwnSl 1008 Rep.u 22 x.2.2.1 w' x.2.2.2 x.2.1 ∧ Blk 13 x.2.2.1 w' p27 25 [vi x.1, x.2.2.2]) (fun x => [(2, .pointer (some ⟨p22, 0, none⟩)), (3, .pointer (some ⟨p27, 0, none⟩))]) ?_ ?_
  · refine WC.loop (σ := (Int × List UInt64 × Int × Own × Value)) (fun x k w' => loopN k (ref08_once_lp1 a0) (x.1, x.2.1, x.2.2.1) = some p48 ∧ Stp [13, 14, 15, 16, 1002, 1004] O28 wd29 x.2.2.2.1 w' ∧ OwnSl 1004 Rep.u 22 x.2.2.2.1 w' x.2.2.2.2 x.2.1 ∧ Blk 13 x.2.2.2.1 w' p27 25 [vi x.1, x.2.2.2.2]) (fun x => [(1, .pointer (some ⟨p17, 0, none⟩)), (2, .pointer (some ⟨p22, 0, none⟩)), (3, .pointer (some ⟨p27, 0, none⟩)), (4, vi x.2.2.1)]) (0, [], 0, O28, .slice none 0 0) k49 (.cons rfl (.cons rfl (.cons rfl (.cons rfl .nil)))) ⟨h, (Stp.refl _ _ _), (OwnSl.nil 1004 Rep.u 22), hb26⟩ ?_
    rintro ⟨c32, c33, i36, O37, v34⟩ k49 wd38 ⟨h, hst39, hf35, hb31⟩
    obtain ⟨j51, q52, rfl, h, hn53⟩ := rnd1 h
    unfold ref08_once_lp1 at h
    try dsimp only at h hst39 hf35 hb31
    refine (show WC _ _ _ _ [(1, .pointer (some ⟨p17, 0, none⟩)), (2, .pointer (some ⟨p22, 0, none⟩)), (3, .pointer (some ⟨p27, 0, none⟩)), (4, vi i36)] _ from ?_)
    refine WC.seq ?_
    refine WC.seq ?_
    refine WC.region ?_
    refine WL.y (Y.move rfl) rfl ?_
    refine WL.y (Y.fieldAddr fo25_1 rfl) rfl ?_
    have hf54 := hb16.st hst25 rfl
    have hf55 := hf54.st hst30 rfl
    have hf56 := hf55.st hst39 rfl
    refine WL.y (Y.loadSc ty23 rfl rfl (hf56.cell 1 _ rfl)) rfl ?_
    have hf57 := hf11.mono (imm_st hst20 rfl rfl)
    have hf58 := hf57.mono (imm_st hst25 rfl rfl)
    have hf59 := hf58.mono (imm_st hst30 rfl rfl)
    have hf60 := hf59.mono (imm_st hst39 rfl rfl)
    refine WL.y (Y.len ty23 rfl hf60) rfl ?_
    refine WL.y (Y.lss_i rfl rfl) rfl ?_
    refine WL.nil ?_
    refine At.then ?_
    rcases cnd h with ⟨hc61, h⟩ | ⟨hc61, h⟩
    · refine WC.condT' rfl hc61 ?_
      refine WC.skip ?_
      refine At.then ?_
      refine WC.seq ?_
      obtain ⟨p70, h, hk71⟩ := bnd h
      refine WC.join (σ := (Int × List UInt64 × Own × Value)) (fun x w' => (x.1, x.2.1) = p70 ∧ Stp [13, 14, 15, 1004] O37 wd38 x.2.2.1 w' ∧ OwnSl 1002 Rep.u 22 x.2.2.1 w' x.2.2.2 x.2.1 ∧ Blk 13 x.2.2.1 w' p27 25 [vi x.1, x.2.2.2]) (fun x => [(1, .pointer (some ⟨p17, 0, none⟩)), (2, .pointer (some ⟨p22, 0, none⟩)), (3, .pointer (some ⟨p27, 0, none⟩)), (4, vi i36)]) ?_ ?_
      · refine WC.block ?_
        refine WC.seq ?_
        refine WC.region ?_
        refine WL.y (Y.fieldAddr fo25_0 rfl) rfl ?_
        refine WL.y (Y.loadSc ty3 rfl rfl (hf56.cell 0 _ rfl)) rfl ?_
        refine WL.y (Y.move rfl) rfl ?_
        refine WL.y (Y.add_i rfl rfl) rfl ?_
        obtain ⟨r72, hp73, h⟩ := bnd h
        refine WL.call (vals := [vi (w64 (a0.Offset + i36))]) kok93 rfl rfl (c_ref08_half hp73) ?_
        rintro vr76 wd75 ⟨rfl, hm74⟩
        obtain ⟨O77, hold78, hnew79, hst80⟩ := adoptE O37 (fun k => 1) hm74
        refine WL.y (Y.assign rfl) rfl ?_
        refine WL.nil ?_
        refine At.then ?_
        refine WC.seq ?_
        refine WC.region ?_
        refine WL.y (Y.fieldAddr fo25_1 rfl) rfl ?_
        have hf81 := hb31.st hst80 rfl
        refine WL.y (Y.loadSc ty23 rfl rfl (hf81.cell 1 _ rfl)) rfl ?_
        have hf82 := hf35.st hst80 rfl rfl rfl
        refine WL.y (Y.len ty23 rfl hf82.src.sl) rfl ?_
        refine WL.y (Y.eql_i rfl rfl) rfl ?_
        refine WL.nil ?_
        refine At.then ?_
        rcases cnd h with ⟨hc83, h⟩ | ⟨hc83, h⟩
        · refine WC.condT' rfl hc83 ?_
          refine WC.seq ?_
          refine WC.region ?_
          refine WL.y (Y.move rfl) rfl ?_
          refine WL.y (Y.fieldAddr fo25_0 rfl) rfl ?_
          refine WL.store (v := vi r72) (cells' := [vi r72, v34]) ty3 rfl rfl hf81 rfl (Nat.le_of_ble_eq_true rfl) rfl rfl ?_
          intro wd84 hst85 hb86
          refine WL.nil ?_
          refine At.then ?_
          refine WC.region ?_
          refine WL.y (Y.fieldAddr fo25_1 rfl) rfl ?_
          have hf87 := hf56.st hst80 rfl
          have hf88 := hf87.st hst85 rfl
          refine WL.y (Y.loadSc ty23 rfl rfl (hf88.cell 1 _ rfl)) rfl ?_
          refine WL.y (Y.move rfl) rfl ?_
          obtain ⟨e89, he89, h⟩ := bnd h
          have hf98 := hf60.mono (imm_st hst80 rfl rfl)
          have hf99 := hf98.mono (imm_st hst85 rfl rfl)
          obtain ⟨b90, off100, cap97, cs96, hv91, hi92, hl93, hc94, hok95, hA101⟩ := Sl.at2 hf99 he89
          obtain rfl := hok95
          replace hc94 : CellsAt _ _ _ [vu e89] := hc94
          have hca102 := CAt.imm hc94 hA101
          refine WL.y (Y.indexAddr ty23 ty22 rfl hv91 rfl hi92 hl93) rfl ?_
          refine WL.y (Y.loadSc ty22 rfl rfl hca102.at_) rfl ?_
          refine WL.buildSlice (O := O77) (R := Rep.u) (vals := [(0, vu e89)]) 14 [vu e89] (xs := [e89]) (by decide) ty23 ty22 (by decide) (by decide) (Fits.evalp rfl) (by kernel_rfl) rfl ⟨[vu e89], [], rfl, rfl, rfl⟩ rfl ?_
          intro v103 O105 wd106 hst107 ho104
          refine WL.y (Y.fieldAddr fo25_1 rfl) rfl ?_
          have hh111 := h
          obtain ⟨p108, m109, c110, rfl⟩ := ho104.shape
          have h := hh111
          have hf112 := hb86.st hst107 rfl
          refine WL.store (v := (.slice p108 m109 c110)) (cells' := [vi r72, (.slice p108 m109 c110)]) ty23 rfl rfl hf112 rfl (Nat.le_of_ble_eq_true rfl) rfl rfl ?_
          intro wd113 hst114 hb115
          refine WL.nil ?_
          refine At.inBlock ?_
          have hf116 := ho104.st hst114 rfl rfl rfl
          obtain ⟨O117, hst118, ho119⟩ := OwnSl.rlb 1002 rfl hf116
          have hf120 := hb115.st hst118 rfl
          exact At.join (σ := (Int × List UInt64 × Own × Value)) (r72, [e89], O117, (.slice p108 m109 c110)) ⟨some1 h, (Stp.trans (Stp.up hst80 rfl) (Stp.trans (Stp.up hst85 rfl) (Stp.trans (Stp.up hst107 rfl) (Stp.trans (Stp.up hst114 rfl) (Stp.up hst118 rfl))))), ho119, hf120⟩ (.cons rfl (.cons rfl (.cons rfl (.cons rfl .nil))))
        · refine WC.condF' rfl hc83 ?_
          refine WC.seq ?_
          refine WC.region ?_
          refine WL.y (Y.move rfl) rfl ?_
          refine WL.y (Y.fieldAddr fo25_0 rfl) rfl ?_
          refine WL.y (Y.loadSc ty3 rfl rfl (hf81.cell 0 _ rfl)) rfl ?_
          refine WL.y (Y.fieldAddr fo25_1 rfl) rfl ?_
          refine WL.y (Y.loadSc ty23 rfl rfl (hf81.cell 1 _ rfl)) rfl ?_
          refine WL.y (Y.len ty23 rfl hf82.src.sl) rfl ?_
          refine WL.y (Y.add_i rfl rfl) rfl ?_
          refine WL.y (Y.sub_i rfl rfl) rfl ?_
          refine WL.y (Y.eql_i rfl rfl) rfl ?_
          refine WL.nil ?_
          refine At.then ?_
          rcases cnd h with ⟨hc121, h⟩ | ⟨hc121, h⟩
          · refine WC.condT' rfl hc121 ?_
            refine WC.seq ?_
            refine WC.region ?_
            refine WL.y (Y.fieldAddr fo25_1 rfl) rfl ?_
            refine WL.y (Y.loadSc ty23 rfl rfl (hf81.cell 1 _ rfl)) rfl ?_
            refine WL.y (Y.len ty23 rfl hf82.src.sl) rfl ?_
            obtain ⟨nv122, hnv122, h⟩ := lt1 h
            refine WL.yE (Y.assign rfl) (congrArg vi hnv122.symm) rfl ?_
            refine WL.nil ?_
            refine At.then ?_
            refine WC.seq ?_
            refine WC.draw 12 O77 fmix (by kernel_rfl) ?_
            intro wd123 hst124
            refine WS.y (Y.fieldAddr fo25_1 rfl) rfl ?_
            have hf125 := hf81.st hst124 rfl
            refine WS.y (Y.loadSc ty23 rfl rfl (hf125.cell 1 _ rfl)) rfl ?_
            refine WS.y (Y.move rfl) rfl ?_
            refine WS.y (Y.sub_i rfl rfl) rfl ?_
            obtain ⟨e126, he126, h⟩ := bnd h
            have hf135 := hf82.st hst124 rfl rfl rfl
            obtain ⟨b127, cap134, cs133, hv128, hi129, hl130, hc131, hok132⟩ := OwnSl.at hf135 he126
            obtain rfl := hok132
            replace hc131 : CellsAt _ _ _ [vu e126] := hc131
            have hca136 := CAt.own hf135 hv128 hc131
            refine WS.y (Y.indexAddr ty23 ty22 rfl hv128 rfl hi129 hl130) rfl ?_
            refine WS.y (Y.loadSc ty22 rfl rfl hca136.at_) rfl ?_
            refine WS.y (Y.fieldAddr fo25_1 rfl) rfl ?_
            have hf137 := hf56.st hst80 rfl
            have hf138 := hf137.st hst124 rfl
            refine WS.y (Y.loadSc ty23 rfl rfl (hf138.cell 1 _ rfl)) rfl ?_
            refine WS.y (Y.move rfl) rfl ?_
            obtain ⟨e139, he139, h⟩ := bnd h
            have hf148 := hf60.mono (imm_st hst80 rfl rfl)
            have hf149 := hf148.mono (imm_st hst124 rfl rfl)
            obtain ⟨b140, off150, cap147, cs146, hv141, hi142, hl143, hc144, hok145, hA151⟩ := Sl.at2 hf149 he139
            obtain rfl := hok145
            replace hc144 : CellsAt _ _ _ [vu e139] := hc144
            have hca152 := CAt.imm hc144 hA151
            refine WS.y (Y.indexAddr ty23 ty22 rfl hv141 rfl hi142 hl143) rfl ?_
            refine WS.y (Y.loadSc ty22 rfl rfl hca152.at_) rfl ?_
            refine WS.y (Y.add_u rfl rfl) rfl ?_
            refine WS.tail ?_
            obtain ⟨last153, hlast153, h⟩ := lt1 h
            refine WL.yE (Y.assign rfl) (congrArg vu hlast153.symm) rfl ?_
            refine WL.nil ?_
            refine At.then ?_
            refine WC.region ?_
            refine WL.buildSlice (O := O77) (R := Rep.u) (vals := []) 15 [] (xs := []) (by decide) ty23 ty22 (by decide) (by decide) (Fits.evalp rfl) (by kernel_rfl) rfl rfl rfl ?_
            intro v154 O156 wd157 hst158 ho155
            refine WL.y (Y.fieldAddr fo25_1 rfl) rfl ?_
            have hf159 := hf125.st hst158 rfl
            refine WL.y (Y.loadSc ty23 rfl rfl (hf159.cell 1 _ rfl)) rfl ?_
            refine WL.y (Y.move rfl) rfl ?_
            refine WL.y (Y.sub_i rfl rfl) rfl ?_
            obtain ⟨t160, ht160, h⟩ := bnd h
            have hf163 := hf135.st hst158 rfl rfl rfl
            refine WL.sliceOwn ty23 ty22 rfl rfl rfl hf163 ht160 rfl ?_
            intro v161 hf162
            obtain ⟨xs164, hxs164, h⟩ := bnd h
            refine WL.append (by decide) ty23 ty22 rfl (by decide) rfl rfl ho155 hf162.src hxs164 rfl ?_
            intro v168 O165 wd166 hst167 ho169
            refine WL.y (Y.move rfl) rfl ?_
            refine WL.buildSlice (O := O165) (R := Rep.u) (vals := [(0, vu last153)]) 16 [vu last153] (xs := [last153]) (by decide) ty23 ty22 (by decide) (by decide) (Fits.evalp rfl) (by kernel_rfl) rfl ⟨[vu last153], [], rfl, rfl, rfl⟩ rfl ?_
            intro v170 O172 wd173 hst174 ho171
            obtain ⟨xs175, hxs175, h⟩ := bnd h
            have hf176 := ho169.st hst174 rfl rfl rfl
            refine WL.append (by decide) ty23 ty22 rfl (by decide) rfl rfl hf176 ho171.src hxs175 rfl ?_
            intro v180 O177 wd178 hst179 ho181
            refine WL.y (Y.fieldAddr fo25_1 rfl) rfl ?_
            have hh185 := h
            obtain ⟨p182, m183, c184, rfl⟩ := ho181.shape
            have h := hh185
            have hf186 := hf159.st hst167 rfl
            have hf187 := hf186.st hst174 rfl
            have hf188 := hf187.st hst179 rfl
            refine WL.store (v := (.slice p182 m183 c184)) (cells' := [vi c32, (.slice p182 m183 c184)]) ty23 rfl rfl hf188 rfl (Nat.le_of_ble_eq_true rfl) rfl rfl ?_
            intro wd189 hst190 hb191
            refine WL.nil ?_
            refine At.inBlock ?_
            have hf192 := ho181.st hst190 rfl rfl rfl
            obtain ⟨O193, hst194, ho195⟩ := OwnSl.rlb 1002 rfl hf192
            have hf196 := hb191.st hst194 rfl
            exact At.join (σ := (Int × List UInt64 × Own × Value)) (c32, xs175, O193, (.slice p182 m183 c184)) ⟨some1 h, (Stp.trans (Stp.up hst80 rfl) (Stp.trans (Stp.up hst124 rfl) (Stp.trans (Stp.up hst158 rfl) (Stp.trans (Stp.up hst167 rfl) (Stp.trans (Stp.up hst174 rfl) (Stp.trans (Stp.up hst179 rfl) (Stp.trans (Stp.up hst190 rfl) (Stp.up hst194 rfl)))))))), ho195, hf196⟩ (.cons rfl (.cons rfl (.cons rfl (.cons rfl .nil))))
          · refine WC.condF' rfl hc121 ?_
            refine WC.drawH [1004] [0, 1, 2, 3, 4, 5, 6, 7, 8, 9] O77 11 fmix rfl (by kernel_rfl) ?_
            intro wd197 hst198
            refine WD.y 0 rfl (by kernel_rfl) (fun _ _ _ => Y.fieldAddr fo25_1 rfl) rfl ?_
            refine WD.y 1 rfl (by kernel_rfl) (fun wd203 O202 hst204 => have hf205 := hf81.st hst198 rfl; have hf206 := hf205.st hst204 rfl; Y.loadSc ty23 rfl rfl (hf206.cell 1 _ rfl)) rfl ?_
            refine WD.y 2 rfl (by kernel_rfl) (fun _ _ _ => Y.fieldAddr fo25_1 rfl) rfl ?_
            refine WD.y 3 rfl (by kernel_rfl) (fun wd211 O210 hst212 => have hf213 := hf56.st hst80 rfl; have hf214 := hf213.st hst198 rfl; have hf215 := hf214.st hst212 rfl; Y.loadSc ty23 rfl rfl (hf215.cell 1 _ rfl)) rfl ?_
            refine WD.y 4 rfl (by kernel_rfl) (fun _ _ _ => Y.move rfl) rfl ?_
            obtain ⟨e219, he219, h⟩ := bnd h
            have hf228 := hf60.mono (imm_st hst80 rfl rfl)
            have hf229 := hf228.mono (imm_st hst198 rfl rfl)
            obtain ⟨b220, off230, cap227, cs226, hv221, hi222, hl223, hc224, hok225, hA231⟩ := Sl.at2 hf229 he219
            obtain rfl := hok225
            replace hc224 : CellsAt _ _ _ [vu e219] := hc224
            have hca232 := CAt.imm hc224 hA231
            refine WD.y 5 rfl (by kernel_rfl) (fun _ _ _ => Y.indexAddr ty23 ty22 rfl hv221 rfl hi222 hl223) rfl ?_
            refine WD.y 6 rfl (by kernel_rfl) (fun wd237 O236 hst238 => have hf239 := hca232.st hst238 rfl; Y.loadSc ty22 rfl rfl hf239.at_) rfl ?_
            refine WD.heavy 7 rfl (by kernel_rfl) ?_
            refine WL.buildSlice (O := O77) (R := Rep.u) (vals := [(0, vu e219)]) 17 [vu e219] (xs := [e219]) (by decide) ty23 ty22 (by decide) (by decide) (Fits.evalp rfl) (by kernel_rfl) rfl ⟨[vu e219], [], rfl, rfl, rfl⟩ rfl ?_
            intro v240 O242 wd243 hst244 ho241
            refine WL.nil ?_
            refine At.dq (Stp.up hst244 rfl) ?_
            refine WD.heavy 8 rfl (by kernel_rfl) ?_
            obtain ⟨xs245, hxs245, h⟩ := bnd h
            have hf246 := hf82.st hst198 rfl rfl rfl
            have hf247 := hf246.st hst244 rfl rfl rfl
            refine WL.append (by decide) ty23 ty22 rfl (by decide) rfl rfl hf247 ho241.src hxs245 rfl ?_
            intro v251 O248 wd249 hst250 ho252
            refine WL.nil ?_
            refine At.dq (Stp.up hst250 rfl) ?_
            refine WD.y 9 rfl (by kernel_rfl) (fun _ _ _ => Y.fieldAddr fo25_1 rfl) rfl ?_
            refine WD.phase [13] [0, 1, 2, 3, 4, 5, 6, 7, 8, 9, 10] (by kernel_rfl) (by kernel_rfl) ?_
            refine WD.heavy 10 rfl (by kernel_rfl) ?_
            have hh259 := h
            obtain ⟨p256, m257, c258, rfl⟩ := ho252.shape
            have h := hh259
            have hf260 := hf81.st hst198 rfl
            have hf261 := hf260.st hst244 rfl
            have hf262 := hf261.st hst250 rfl
            refine WL.store (v := (.slice p256 m257 c258)) (cells' := [vi c32, (.slice p256 m257 c258)]) ty23 rfl rfl hf262 rfl (Nat.le_of_ble_eq_true rfl) rfl rfl ?_
            intro wd263 hst264 hb265
            refine WL.nil ?_
            refine At.dq (Stp.up hst264 rfl) ?_
            refine WD.done_ (by kernel_rfl) ?_
            refine At.inBlock ?_
            have hf266 := ho252.st hst264 rfl rfl rfl
            obtain ⟨O267, hst268, ho269⟩ := OwnSl.rlb 1002 rfl hf266
            have hf270 := hb265.st hst268 rfl
            exact At.join (σ := (Int × List UInt64 × Own × Value)) (c32, xs245, O267, (.slice p256 m257 c258)) ⟨some1 h, (Stp.trans (Stp.up hst80 rfl) (Stp.trans (Stp.up hst198 rfl) (Stp.trans (Stp.up hst244 rfl) (Stp.trans (Stp.up hst250 rfl) (Stp.trans (Stp.up hst264 rfl) (Stp.up hst268 rfl)))))), ho269, hf270⟩ (.cons rfl (.cons rfl (.cons rfl (.cons rfl .nil))))
      · rintro ⟨c63, c64, O67, v65⟩ wd68 ⟨rfl, hst69, hf66, hb62⟩
        replace h := hk71
        try dsimp only at h hst69 hf66 hb62
        refine (show At _ _ _ [(1, .pointer (some ⟨p17, 0, none⟩)), (2, .pointer (some ⟨p22, 0, none⟩)), (3, .pointer (some ⟨p27, 0, none⟩)), (4, vi i36)] _ from ?_)
        refine At.then ?_
        refine WC.region ?_
        refine WL.y (Y.move rfl) rfl ?_
        refine WL.y (Y.add_i rfl rfl) rfl ?_
        obtain ⟨i271, hi271, h⟩ := lt1 h
        refine WL.yE (Y.assign rfl) (congrArg vi hi271.symm) rfl ?_
        refine WL.nil ?_
        obtain ⟨O272, hst273, ho274⟩ := OwnSl.rlb 1004 rfl hf66
        have hf275 := hb62.st hst273 rfl
        exact At.round (c63, c64, i271, O272, v65) j51 (Nat.lt_succ_self _) ⟨next1 h hn53, (Stp.trans (Stp.up hst39 rfl) (Stp.trans (Stp.up hst69 rfl) (Stp.up hst273 rfl))), ho274, hf275⟩ (.cons rfl (.cons rfl (.cons rfl (.cons rfl .nil))))
    · refine WC.condF' rfl hc61 ?_
      refine WC.exit ?_
      refine At.thenX ?_
      refine At.loopX ?_
      obtain ⟨O276, hst277, ho278⟩ := OwnSl.rlb 1008 rfl hf35
      have hf279 := hb31.st hst277 rfl
      exact At.hitB (σ := (Int × List UInt64 × Own × Value)) (c32, c33, O276, v34) ⟨brk1 h hn53, (Stp.trans (Stp.up hst39 rfl) (Stp.up hst277 rfl)), ho278, hf279⟩ (.cons rfl (.cons rfl .nil))
  · rintro ⟨c41, c42, O45, v43⟩ wd46 ⟨rfl, hst47, hf44, hb40⟩
    replace h := flowK_go hk50
    try dsimp only at h hst47 hf44 hb40
    refine (show At _ _ _ [(2, .pointer (some ⟨p22, 0, none⟩)), (3, .pointer (some ⟨p27, 0, none⟩))] _ from ?_)
    refine At.inBlockHit ?_
    refine At.then ?_
    refine WC.seq ?_
    refine WC.region ?_
    refine WL.y (Y.loadAg ty25 rfl rfl (hb40.cells 0 [vi c41, v43] rfl) rfl) rfl ?_
    have hh283 := h
    obtain ⟨p280, m281, c282, rfl⟩ := hf44.shape
    have h := hh283
    have hf284 := hb21.st hst30 rfl
    have hf285 := hf284.st hst47 rfl
    refine WL.store (v := .agg [vi c41, (.slice p280 m281 c282)].toArray) (cells' := [vi c41, (.slice p280 m281 c282)]) ty25 rfl rfl hf285 rfl (Nat.le_of_ble_eq_true rfl) rfl rfl ?_
    intro wd286 hst287 hb288
    refine WL.nil ?_
    refine At.then ?_
    refine WC.ret ?_
    obtain rfl := some1 h
    have hf289 := hf44.st hst287 rfl rfl rfl
    obtain ⟨O290, hst291, hf292⟩ := OwnSl.giveF rfl Flat.u hf289
    have hs293 : Stp [12, 13, 14, 15, 16, 1002, 1004, 1008] (Lg.O0 A) w O290 wd286 := (Stp.trans (Stp.up hst20 rfl) (Stp.trans (Stp.up hst25 rfl) (Stp.trans (Stp.up hst30 rfl) (Stp.trans (Stp.up hst47 rfl) (Stp.trans (Stp.up hst287 rfl) (Stp.up hst291 rfl))))))
    have hf294 := hb288.st hst291 rfl
    exact At.res (.inl rfl) rfl (.cell rfl (hf294.runAg 0 [vi c41, (.slice p280 m281 c282)] ty25 rfl rfl rfl) .nil) ⟨(.slice p280 m281 c282), rfl, (Stp.ext hs293 rfl rfl), (Sl.outF hf292 hs293 low0)⟩

theorem c_ref08_Down {A : Nat → Prop} {v0_3 : Value} {v0_5 : Value} {a0 : api_Hist} {a1 : Int} {w : World} (hs0_3 : Sl Rep.u w A v0_3 a0.Pos.Counts) (hs0_5 : Sl Rep.u w A v0_5 a0.Neg.Counts) {r0 : api_Hist} {r1 : Int} (h : ref08_Down a0 a1 = some (r0, r1)) : Rets Try.prog 24 [.agg [vi a0.Scale, vu a0.Zero, vi a0.Pos.Offset, v0_3, vi a0.Neg.Offset, v0_5].toArray, vi a1] w (fun v w' => ∃ (u0_3 : Value) (u0_5 : Value), v = .tuple (List.toArray [.agg (List.toArray [vi r0.Scale, vu r0.Zero, vi r0.Pos.Offset, u0_3, vi r0.Neg.Offset, u0_5]), vi r1]) ∧ Ext w w' ∧ Sl Rep.u w' (fun k => w.heap.size ≤ k) u0_3 r0.Pos.Counts ∧ Sl Rep.u w' (fun k => w.heap.size ≤ k) u0_5 r0.Neg.Counts) := by
  unfold ref08_Down at h
  refine Rets.enter Try.func24 rfl rfl ?_
  have hf11 : Sl Rep.u w (imm (Lg.O0 A)) v0_3 a0.Pos.Counts := (Sl.start hs0_3)
  have hf12 : Sl Rep.u w (imm (Lg.O0 A)) v0_5 a0.Neg.Counts := (Sl.start hs0_5)
  refine (show WC _ _ _ _ [(0, .agg [vi a0.Scale, vu a0.Zero, vi a0.Pos.Offset, v0_3, vi a0.Neg.Offset, v0_5].toArray), (1, vi a1)] _ from ?_)
  refine WC.seq ?_
  refine WC.region ?_
  have hh16 := h
  obtain ⟨p13, m14, c15, rfl⟩ := hf11.shape
  have h := hh16
  have hh20 := h
  obtain ⟨p17, m18, c19, rfl⟩ := hf12.shape
  have h := hh20
  refine WL.box (O := (Lg.O0 A)) 11 [vi a0.Scale, vu a0.Zero, vi a0.Pos.Offset, (.slice p13 m14 c15), vi a0.Neg.Offset, (.slice p17 m18 c19)] rfl rfl rfl ?_
  intro p22 O23 wd24 hst25 hb21
  refine WL.alloc (O := O23) 12 [vi 0, vu 0, vi 0, .slice none 0 0, vi 0, .slice none 0 0] ty27 rfl rfl ?_
  intro p27 O28 wd29 hst30 hb26
  refine WL.y (Y.assign rfl) rfl ?_
  refine WL.nil ?_
  refine At.then ?_
  refine WC.seq ?_
  refine WC.seq ?_
  refine WC.region ?_
  have hf31 := hb21.st hst30 rfl
  refine WL.y (Y.loadAg ty27 rfl rfl (hf31.cells 0 [vi a0.Scale, vu a0.Zero, vi a0.Pos.Offset, (.slice p13 m14 c15), vi a0.Neg.Offset, (.slice p17 m18 c19)] rfl) rfl) rfl ?_
  have hf32 := hf11.mono (imm_st hst25 rfl rfl)
  have hf33 := hf32.mono (imm_st hst30 rfl rfl)
  have hf34 := hf12.mono (imm_st hst25 rfl rfl)
  have hf35 := hf34.mono (imm_st hst30 rfl rfl)
  obtain ⟨r36, hp37, h⟩ := bnd h
  refine WL.call (vals := [.agg [vi a0.Scale, vu a0.Zero, vi a0.Pos.Offset, (.slice p13 m14 c15), vi a0.Neg.Offset, (.slice p17 m18 c19)].toArray]) kok20 rfl rfl (c_ref08_Check (A := fun _ => True) (a0 := a0) (Sl.all hf33) (Sl.all hf35) hp37) ?_
  rintro vr40 wd39 ⟨rfl, hm38⟩
  obtain ⟨O41, hold42, hnew43, hst44⟩ := adoptE O28 (fun k => 1) hm38
  refine WL.y (Y.assign rfl) rfl ?_
  refine WL.nil ?_
  refine At.then ?_
  refine WC.seq ?_
  refine WC.region ?_
  refine WL.y (Y.move rfl) rfl ?_
  refine WL.y (Y.neq_i rfl rfl) rfl ?_
  refine WL.nil ?_
  refine At.then ?_
  rcases cnd h with ⟨hc45, h⟩ | ⟨hc45, h⟩
  · refine WC.condT' rfl hc45 ?_
    refine WC.seq ?_
    refine WC.region ?_
    refine WL.y (Y.build (vals := []) (cells := [vi 0, vu 0, vi 0, .slice none 0 0, vi 0, .slice none 0 0]) (Fits.evalp rfl) (by kernel_rfl)) rfl ?_
    refine WL.y (Y.move rfl) rfl ?_
    have hf46 := hb26.st hst44 rfl
    refine WL.store (v := .agg [vi 0, vu 0, vi 0, .slice none 0 0, vi 0, .slice none 0 0].toArray) (cells' := [vi 0, vu 0, vi 0, .slice none 0 0, vi 0, .slice none 0 0]) ty27 rfl rfl hf46 rfl (Nat.le_of_ble_eq_true rfl) rfl rfl ?_
    intro wd47 hst48 hb49
    refine WL.y (Y.assign rfl) rfl ?_
    refine WL.nil ?_
    refine At.then ?_
    refine WC.ret ?_
    refine At.thenR ?_
    obtain ⟨rfl, rfl⟩ := tup2 h
    have hs50 : Stp [12] (Lg.O0 A) w O41 wd47 := (Stp.trans (Stp.up hst25 rfl) (Stp.trans (Stp.up hst30 rfl) (Stp.trans (Stp.up hst44 rfl) (Stp.up hst48 rfl))))
    exact At.res (.inl rfl) rfl (.cell rfl (hb49.runAg 0 [vi 0, vu 0, vi 0, .slice none 0 0, vi 0, .slice none 0 0] ty27 rfl rfl rfl) (.tmp rfl .nil)) ⟨.slice none 0 0, .slice none 0 0, rfl, (Stp.ext hs50 rfl rfl), (Or.inl ⟨rfl, rfl⟩), (Or.inl ⟨rfl, rfl⟩)⟩
  · refine WC.condF' rfl hc45 ?_
    refine WC.skip ?_
    refine At.then ?_
    refine WC.seq ?_
    refine WC.seq ?_
    refine WC.region ?_
    refine WL.y (Y.move rfl) rfl ?_
    refine WL.y (Y.lss_i rfl rfl) rfl ?_
    refine WL.y (Y.move rfl) rfl ?_
    refine WL.cut 6 (σ := Unit) (fun _ w' => wd39 = w') (fun _ => [(1, vi a1), (2, .pointer (some ⟨p22, 0, none⟩)), (4, .pointer (some ⟨p27, 0, none⟩)), (23, .bool ((decide (a1 < 0)) || (decide (w64 (a0.Scale - (-10)) < a1))))]) ?_ ?_
    · refine WL.part 17 rfl (fun hE51 => ?_) (fun hE51 => ?_)
      · refine WL.gS rfl rfl rfl rfl ?_
        refine WL.gS rfl rfl rfl rfl ?_
        refine WL.gS rfl rfl rfl rfl ?_
        refine WL.gS rfl rfl rfl rfl ?_
        refine WL.gS rfl rfl rfl rfl ?_
        refine WL.y (Y.pick (b := true) rfl rfl) rfl ?_
        refine WL.ren (v' := .bool ((decide (a1 < 0)) || (decide (w64 (a0.Scale - (-10)) < a1)))) 23 rfl (congrArg Value.bool (orT hE51)) ?_
        exact WL.nil (At.join () rfl (.cons rfl (.cons rfl (.cons rfl (.cons rfl .nil)))))
      · refine WL.ung rfl rfl ?_
        refine WL.y (Y.move rfl) rfl ?_
        refine WL.ung rfl rfl ?_
        refine WL.y (Y.fieldAddr fo27_0 rfl) rfl ?_
        refine WL.ung rfl rfl ?_
        have hf52 := hf31.st hst44 rfl
        refine WL.y (Y.loadSc ty3 rfl rfl (hf52.cell 0 _ rfl)) rfl ?_
        refine WL.ung rfl rfl ?_
        refine WL.y (Y.sub_i rfl rfl) rfl ?_
        refine WL.ung rfl rfl ?_
        refine WL.y (Y.gtr_i rfl rfl) rfl ?_
        refine WL.y (Y.pick (b := false) rfl rfl) rfl ?_
        refine WL.ren (v' := .bool ((decide (a1 < 0)) || (decide (w64 (a0.Scale - (-10)) < a1)))) 23 rfl (congrArg Value.bool (orF hE51)) ?_
        exact WL.nil (At.join () rfl (.cons rfl (.cons rfl (.cons rfl (.cons rfl .nil)))))
    · rintro _ _ rfl
      refine (show WL _ _ _ _ _ [(1, vi a1), (2, .pointer (some ⟨p22, 0, none⟩)), (4, .pointer (some ⟨p27, 0, none⟩)), (23, .bool ((decide (a1 < 0)) || (decide (w64 (a0.Scale - (-10)) < a1))))] _ from ?_)
      refine WL.nil ?_
      refine At.then ?_
      rcases cnd h with ⟨hc53, h⟩ | ⟨hc53, h⟩
      · refine WC.condT' rfl hc53 ?_
        refine WC.seq ?_
        refine WC.region ?_
        refine WL.y (Y.build (vals := []) (cells := [vi 0, vu 0, vi 0, .slice none 0 0, vi 0, .slice none 0 0]) (Fits.evalp rfl) (by kernel_rfl)) rfl ?_
        have hf54 := hb26.st hst44 rfl
        refine WL.store (v := .agg [vi 0, vu 0, vi 0, .slice none 0 0, vi 0, .slice none 0 0].toArray) (cells' := [vi 0, vu 0, vi 0, .slice none 0 0, vi 0, .slice none 0 0]) ty27 rfl rfl hf54 rfl (Nat.le_of_ble_eq_true rfl) rfl rfl ?_
        intro wd55 hst56 hb57
        refine WL.y (Y.assign rfl) rfl ?_
        refine WL.nil ?_
        refine At.then ?_
        refine WC.ret ?_
        refine At.thenR ?_
        obtain ⟨rfl, rfl⟩ := tup2 h
        have hs58 : Stp [12] (Lg.O0 A) w O41 wd55 := (Stp.trans (Stp.up hst25 rfl) (Stp.trans (Stp.up hst30 rfl) (Stp.trans (Stp.up hst44 rfl) (Stp.up hst56 rfl))))
        exact At.res (.inl rfl) rfl (.cell rfl (hb57.runAg 0 [vi 0, vu 0, vi 0, .slice none 0 0, vi 0, .slice none 0 0] ty27 rfl rfl rfl) (.tmp rfl .nil)) ⟨.slice none 0 0, .slice none 0 0, rfl, (Stp.ext hs58 rfl rfl), (Or.inl ⟨rfl, rfl⟩), (Or.inl ⟨rfl, rfl⟩)⟩
      · refine WC.condF' rfl hc53 ?_
        refine WC.skip ?_
        refine At.then ?_
        refine WC.seq ?_
        refine WC.drawH [13, 14, 15, 1001] [0, 1, 2, 3, 4, 5, 6, 7, 8, 9, 10, 11] O41 13 fmix rfl (by kernel_rfl) ?_
        intro wd59 hst60
        refine WD.y 0 rfl (by kernel_rfl) (fun _ _ _ => Y.fieldAddr fo27_0 rfl) rfl ?_
        refine WD.y 1 rfl (by kernel_rfl) (fun wd65 O64 hst66 => have hf67 := hf31.st hst44 rfl; have hf68 := hf67.st hst60 rfl; have hf69 := hf68.st hst66 rfl; Y.loadSc ty3 rfl rfl (hf69.cell 0 _ rfl)) rfl ?_
        refine WD.y 2 rfl (by kernel_rfl) (fun _ _ _ => Y.fieldAddr fo27_1 rfl) rfl ?_
        refine WD.y 3 rfl (by kernel_rfl) (fun wd74 O73 hst75 => have hf76 := hf31.st hst44 rfl; have hf77 := hf76.st hst60 rfl; have hf78 := hf77.st hst75 rfl; Y.loadSc ty22 rfl rfl (hf78.cell 1 _ rfl)) rfl ?_
        refine WD.y 4 rfl (by kernel_rfl) (fun _ _ _ => Y.fieldAddr fo27_2 rfl) rfl ?_
        refine WD.y 5 rfl (by kernel_rfl) (fun wd83 O82 hst84 => have hf85 := hf31.st hst44 rfl; have hf86 := hf85.st hst60 rfl; have hf87 := hf86.st hst84 rfl; Y.loadAg ty25 rfl rfl (hf87.cells 2 [vi a0.Pos.Offset, (.slice p13 m14 c15)] rfl) rfl) rfl ?_
        refine WD.y 7 rfl (by kernel_rfl) (fun _ _ _ => Y.fieldAddr fo27_3 rfl) rfl ?_
        refine WD.y 8 rfl (by kernel_rfl) (fun wd92 O91 hst93 => have hf94 := hf31.st hst44 rfl; have hf95 := hf94.st hst60 rfl; have hf96 := hf95.st hst93 rfl; Y.loadAg ty25 rfl rfl (hf96.cells 4 [vi a0.Neg.Offset, (.slice p17 m18 c19)] rfl) rfl) rfl ?_
        obtain ⟨p110, h, hk111⟩ := bnd h
        refine WD.join (σ := (Int × List UInt64 × Int × List UInt64 × Own × Nat × Value × Value)) (f' := 1) [11, 10, 9, 8, 7, 6, 5, 4, 3, 2, 1, 0] (fun x O' w' => (x.1, x.2.1, x.2.2.1, x.2.2.2.1) = p110 ∧ Stp [13, 14, 15, 1001] O41 wd59 x.2.2.2.2.1 w' ∧ Blk 1002 x.2.2.2.2.1 w' x.2.2.2.2.2.1 27 [vi 0, vu 0, vi 0, .slice none 0 0, vi 0, .slice none 0 0] ∧ Sl Rep.u w' (frs x.2.2.2.2.1) x.2.2.2.2.2.2.1 x.2.1 ∧ Sl Rep.u w' (frs x.2.2.2.2.1) x.2.2.2.2.2.2.2 x.2.2.2.1 ∧ x.2.2.2.2.1 = O') (fun x => [(1, vi a1), (4, .pointer (some ⟨p27, 0, none⟩)), (7, .pointer (some ⟨x.2.2.2.2.2.1, 0, none⟩)), (35, .agg [vi a0.Scale, vu a0.Zero, vi x.1, x.2.2.2.2.2.2.1, vi x.2.2.1, x.2.2.2.2.2.2.2].toArray)]) (fun hJ112 => ?_) ?_
        · refine WD.heavy2 6 11 rfl rfl (by kernel_rfl) ?_ ?_
          · have hf113 := hf33.mono (imm_st hst44 rfl rfl)
            have hf114 := hf113.mono (imm_st hst60 rfl rfl)
            obtain ⟨r115, hp116, h⟩ := bnd h
            refine WL.call (vals := [.agg [vi a0.Pos.Offset, (.slice p13 m14 c15)].toArray]) kok29 rfl rfl (c_ref08_Trim (A := fun _ => True) (a0 := a0.Pos) (Sl.all hf114) hp116) ?_
            rintro vr121 wd120 ⟨u117, rfl, hm119, f118⟩
            obtain ⟨O122, hold123, hnew124, hst125⟩ := adoptE O41 (fun k => 1) hm119
            have hf126 : Sl Rep.u wd120 (frs O122) u117 r115.Counts := Sl.adoptF f118 (fun k hk => ⟨hk, rfl⟩) hnew124
            refine WL.nil ?_
            refine At.dq (Stp.up hst125 rfl) ?_
            obtain ⟨p139, h, hk140⟩ := bnd h
            refine WD.join (σ := (List UInt64 × Int × List UInt64 × Own × Nat × Value × Value)) (f' := 1) [11, 10, 9, 8, 7, 6, 5, 4, 3, 2, 1, 0] (fun x O' w' => (x.1, x.2.1, x.2.2.1) = p139 ∧ Stp [13, 14] O122 wd120 x.2.2.2.1 w' ∧ Blk 1001 x.2.2.2.1 w' x.2.2.2.2.1 27 [vi 0, vu 0, vi 0, .slice none 0 0, vi 0, .slice none 0 0] ∧ Sl Rep.u w' (frs x.2.2.2.1) x.2.2.2.2.2.1 x.1 ∧ Sl Rep.u w' (frs x.2.2.2.1) x.2.2.2.2.2.2 x.2.2.1 ∧ x.2.2.2.1 = O') (fun x => [(1, vi a1), (4, .pointer (some ⟨p27, 0, none⟩)), (7, .pointer (some ⟨x.2.2.2.2.1, 0, none⟩)), (35, .agg [vi a0.Scale, vu a0.Zero, vi r115.Offset, x.2.2.2.2.2.1, vi x.2.1, x.2.2.2.2.2.2].toArray)]) (fun hJ141 => ?_) ?_
            · refine WD.heavy2 9 11 rfl rfl (by kernel_rfl) ?_ ?_
              · have hf142 := hf35.mono (imm_st hst44 rfl rfl)
                have hf143 := hf142.mono (imm_st hst60 rfl rfl)
                have hf144 := hf143.mono (imm_st hst125 rfl rfl)
                obtain ⟨r145, hp146, h⟩ := bnd h
                refine WL.call (vals := [.agg [vi a0.Neg.Offset, (.slice p17 m18 c19)].toArray]) kok29 rfl rfl (c_ref08_Trim (A := fun _ => True) (a0 := a0.Neg) (Sl.all hf144) hp146) ?_
                rintro vr151 wd150 ⟨u147, rfl, hm149, f148⟩
                obtain ⟨O152, hold153, hnew154, hst155⟩ := adoptE O122 (fun k => 1) hm149
                have hf156 : Sl Rep.u wd150 (frs O152) u147 r145.Counts := Sl.adoptF f148 (fun k hk => ⟨hk, rfl⟩) hnew154
                refine WL.nil ?_
                refine At.dq (Stp.up hst155 rfl) ?_
                have hf157 := hf126.mono (frs_st hst155 rfl)
                have hh161 := h
                obtain ⟨p158, m159, c160, rfl⟩ := hf157.shape
                have h := hh161
                have hh165 := h
                obtain ⟨p162, m163, c164, rfl⟩ := hf156.shape
                have h := hh165
                refine WD.y 10 rfl (by kernel_rfl) (fun _ _ _ => Y.build (vals := [(0, vi a0.Scale), (1, vu a0.Zero), (2, .agg [vi r115.Offset, (.slice p158 m159 c160)].toArray), (3, .agg [vi r145.Offset, (.slice p162 m163 c164)].toArray)]) (cells := [vi a0.Scale, vu a0.Zero, vi r115.Offset, (.slice p158 m159 c160), vi r145.Offset, (.slice p162 m163 c164)]) (Fits.evalp rfl) (by kernel_rfl)) rfl ?_
                refine WD.heavy 11 rfl (by kernel_rfl) ?_
                refine WL.alloc (O := O152) 13 [vi 0, vu 0, vi 0, .slice none 0 0, vi 0, .slice none 0 0] ty27 rfl rfl ?_
                intro p170 O171 wd172 hst173 hb169
                refine WL.nil ?_
                refine At.dq (Stp.up hst173 rfl) ?_
                obtain ⟨O174, hst175, hb176⟩ := Blk.rlb 1001 rfl hb169
                have hf177 := hf157.mono (frs_st hst173 rfl)
                have hf178 := hf177.mono (frs_st hst175 rfl)
                have hf179 := hf156.mono (frs_st hst173 rfl)
                have hf180 := hf179.mono (frs_st hst175 rfl)
                refine WD.own (Stp.up hst175 rfl) ?_
                refine WD.perm _ [11, 10, 9, 8, 7, 6, 5, 4, 3, 2, 1, 0] (by kernel_rfl) ?_
                exact hJ141 (r115.Counts, r145.Offset, r145.Counts, O174, p170, (.slice p158 m159 c160), (.slice p162 m163 c164)) _ _ _ ⟨some1 h, (Stp.trans (Stp.up hst155 rfl) (Stp.trans (Stp.up hst173 rfl) (Stp.up hst175 rfl))), hb176, hf178, hf180, rfl⟩ (.cons rfl (.cons rfl (.cons rfl (.cons rfl .nil))))
              · try simp only [Option.bind_assoc, Option.bind_some] at h
                refine WL.alloc (O := O122) 14 [vi 0, vu 0, vi 0, .slice none 0 0, vi 0, .slice none 0 0] ty27 rfl rfl ?_
                intro p182 O183 wd184 hst185 hb181
                refine WL.nil ?_
                refine At.dq (Stp.up hst185 rfl) ?_
                refine WD.heavy 9 rfl (by kernel_rfl) ?_
                have hf186 := hf35.mono (imm_st hst44 rfl rfl)
                have hf187 := hf186.mono (imm_st hst60 rfl rfl)
                have hf188 := hf187.mono (imm_st hst125 rfl rfl)
                have hf189 := hf188.mono (imm_st hst185 rfl rfl)
                obtain ⟨r190, hp191, h⟩ := bnd h
                refine WL.call (vals := [.agg [vi a0.Neg.Offset, (.slice p17 m18 c19)].toArray]) kok29 rfl rfl (c_ref08_Trim (A := fun _ => True) (a0 := a0.Neg) (Sl.all hf189) hp191) ?_
                rintro vr196 wd195 ⟨u192, rfl, hm194, f193⟩
                obtain ⟨O197, hold198, hnew199, hst200⟩ := adoptE O183 (fun k => 1) hm194
                have hf201 : Sl Rep.u wd195 (frs O197) u192 r190.Counts := Sl.adoptF f193 (fun k hk => ⟨hk, rfl⟩) hnew199
                refine WL.nil ?_
                refine At.dq (Stp.up hst200 rfl) ?_
                have hf202 := hf126.mono (frs_st hst185 rfl)
                have hf203 := hf202.mono (frs_st hst200 rfl)
                have hh207 := h
                obtain ⟨p204, m205, c206, rfl⟩ := hf203.shape
                have h := hh207
                have hh211 := h
                obtain ⟨p208, m209, c210, rfl⟩ := hf201.shape
                have h := hh211
                refine WD.y 10 rfl (by kernel_rfl) (fun _ _ _ => Y.build (vals := [(0, vi a0.Scale), (1, vu a0.Zero), (2, .agg [vi r115.Offset, (.slice p204 m205 c206)].toArray), (3, .agg [vi r190.Offset, (.slice p208 m209 c210)].toArray)]) (cells := [vi a0.Scale, vu a0.Zero, vi r115.Offset, (.slice p204 m205 c206), vi r190.Offset, (.slice p208 m209 c210)]) (Fits.evalp rfl) (by kernel_rfl)) rfl ?_
                have hf215 := hb181.st hst200 rfl
                obtain ⟨O216, hst217, hb218⟩ := Blk.rlb 1001 rfl hf215
                have hf219 := hf203.mono (frs_st hst217 rfl)
                have hf220 := hf201.mono (frs_st hst217 rfl)
                refine WD.own (Stp.up hst217 rfl) ?_
                refine WD.perm _ [11, 10, 9, 8, 7, 6, 5, 4, 3, 2, 1, 0] (by kernel_rfl) ?_
                exact hJ141 (r115.Counts, r190.Offset, r190.Counts, O216, p182, (.slice p204 m205 c206), (.slice p208 m209 c210)) _ _ _ ⟨some1 h, (Stp.trans (Stp.up hst185 rfl) (Stp.trans (Stp.up hst200 rfl) (Stp.up hst217 rfl))), hb218, hf219, hf220, rfl⟩ (.cons rfl (.cons rfl (.cons rfl (.cons rfl .nil))))
            · rintro ⟨x129, x132, x133, O136, b127, v130, v134⟩ _ wd137 ⟨rfl, hst138, hb128, hf131, hf135, rfl⟩
              replace h := hk140
              try dsimp only at h hst138 hb128 hf131 hf135
              refine (show WD _ _ _ _ _ _ _ _ [(1, vi a1), (4, .pointer (some ⟨p27, 0, none⟩)), (7, .pointer (some ⟨b127, 0, none⟩)), (35, .agg [vi a0.Scale, vu a0.Zero, vi r115.Offset, v130, vi x132, v134].toArray)] _ _ from ?_)
              obtain ⟨O221, hst222, hb223⟩ := Blk.rlb 1002 rfl hb128
              have hf224 := hf131.mono (frs_st hst222 rfl)
              have hf225 := hf135.mono (frs_st hst222 rfl)
              refine WD.own (Stp.up hst222 rfl) ?_
              refine WD.perm _ [11, 10, 9, 8, 7, 6, 5, 4, 3, 2, 1, 0] (by kernel_rfl) ?_
              exact hJ112 (r115.Offset, x129, x132, x133, O221, b127, v130, v134) _ _ _ ⟨some1 h, (Stp.trans (Stp.up hst125 rfl) (Stp.trans (Stp.up hst138 rfl) (Stp.up hst222 rfl))), hb223, hf224, hf225, rfl⟩ (.cons rfl (.cons rfl (.cons rfl (.cons rfl .nil))))
          · try simp only [Option.bind_assoc, Option.bind_some] at h
            refine WL.alloc (O := O41) 15 [vi 0, vu 0, vi 0, .slice none 0 0, vi 0, .slice none 0 0] ty27 rfl rfl ?_
            intro p227 O228 wd229 hst230 hb226
            refine WL.nil ?_
            refine At.dq (Stp.up hst230 rfl) ?_
            refine WD.heavy 6 rfl (by kernel_rfl) ?_
            have hf231 := hf33.mono (imm_st hst44 rfl rfl)
            have hf232 := hf231.mono (imm_st hst60 rfl rfl)
            have hf233 := hf232.mono (imm_st hst230 rfl rfl)
            obtain ⟨r234, hp235, h⟩ := bnd h
            refine WL.call (vals := [.agg [vi a0.Pos.Offset, (.slice p13 m14 c15)].toArray]) kok29 rfl rfl (c_ref08_Trim (A := fun _ => True) (a0 := a0.Pos) (Sl.all hf233) hp235) ?_
            rintro vr240 wd239 ⟨u236, rfl, hm238, f237⟩
            obtain ⟨O241, hold242, hnew243, hst244⟩ := adoptE O228 (fun k => 1) hm238
            have hf245 : Sl Rep.u wd239 (frs O241) u236 r234.Counts := Sl.adoptF f237 (fun k hk => ⟨hk, rfl⟩) hnew243
            refine WL.nil ?_
            refine At.dq (Stp.up hst244 rfl) ?_
            refine WD.heavy 9 rfl (by kernel_rfl) ?_
            have hf246 := hf35.mono (imm_st hst44 rfl rfl)
            have hf247 := hf246.mono (imm_st hst60 rfl rfl)
            have hf248 := hf247.mono (imm_st hst230 rfl rfl)
            have hf249 := hf248.mono (imm_st hst244 rfl rfl)
            obtain ⟨r250, hp251, h⟩ := bnd h
            refine WL.call (vals := [.agg [vi a0.Neg.Offset, (.slice p17 m18 c19)].toArray]) kok29 rfl rfl (c_ref08_Trim (A := fun _ => True) (a0 := a0.Neg) (Sl.all hf249) hp251) ?_
            rintro vr256 wd255 ⟨u252, rfl, hm254, f253⟩
            obtain ⟨O257, hold258, hnew259, hst260⟩ := adoptE O241 (fun k => 1) hm254
            have hf261 : Sl Rep.u wd255 (frs O257) u252 r250.Counts := Sl.adoptF f253 (fun k hk => ⟨hk, rfl⟩) hnew259
            refine WL.nil ?_
            refine At.dq (Stp.up hst260 rfl) ?_
            have hf262 := hf245.mono (frs_st hst260 rfl)
            have hh266 := h
            obtain ⟨p263, m264, c265, rfl⟩ := hf262.shape
            have h := hh266
            have hh270 := h
            obtain ⟨p267, m268, c269, rfl⟩ := hf261.shape
            have h := hh270
            refine WD.y 10 rfl (by kernel_rfl) (fun _ _ _ => Y.build (vals := [(0, vi a0.Scale), (1, vu a0.Zero), (2, .agg [vi r234.Offset, (.slice p263 m264 c265)].toArray), (3, .agg [vi r250.Offset, (.slice p267 m268 c269)].toArray)]) (cells := [vi a0.Scale, vu a0.Zero, vi r234.Offset, (.slice p263 m264 c265), vi r250.Offset, (.slice p267 m268 c269)]) (Fits.evalp rfl) (by kernel_rfl)) rfl ?_
            have hf274 := hb226.st hst244 rfl
            have hf275 := hf274.st hst260 rfl
            obtain ⟨O276, hst277, hb278⟩ := Blk.rlb 1002 rfl hf275
            have hf279 := hf262.mono (frs_st hst277 rfl)
            have hf280 := hf261.mono (frs_st hst277 rfl)
            refine WD.own (Stp.up hst277 rfl) ?_
            refine WD.perm _ [11, 10, 9, 8, 7, 6, 5, 4, 3, 2, 1, 0] (by kernel_rfl) ?_
            exact hJ112 (r234.Offset, r234.Counts, r250.Offset, r250.Counts, O276, p227, (.slice p263 m264 c265), (.slice p267 m268 c269)) _ _ _ ⟨some1 h, (Stp.trans (Stp.up hst230 rfl) (Stp.trans (Stp.up hst244 rfl) (Stp.trans (Stp.up hst260 rfl) (Stp.up hst277 rfl)))), hb278, hf279, hf280, rfl⟩ (.cons rfl (.cons rfl (.cons rfl (.cons rfl .nil))))
        · rintro ⟨x99, x100, x103, x104, O107, b97, v101, v105⟩ _ wd108 ⟨rfl, hst109, hb98, hf102, hf106, rfl⟩
          replace h := hk111
          try dsimp only at h hst109 hb98 hf102 hf106
          refine (show WD _ _ _ _ _ _ _ _ [(1, vi a1), (4, .pointer (some ⟨p27, 0, none⟩)), (7, .pointer (some ⟨b97, 0, none⟩)), (35, .agg [vi a0.Scale, vu a0.Zero, vi x99, v101, vi x103, v105].toArray)] _ _ from ?_)
          refine WD.phase [1002] [0, 1, 2, 3, 4, 5, 6, 7, 8, 9, 10, 11, 12] (by kernel_rfl) (by kernel_rfl) ?_
          refine WD.heavy 12 rfl (by kernel_rfl) ?_
          have hh284 := h
          obtain ⟨p281, m282, c283, rfl⟩ := hf102.shape
          have h := hh284
          have hh288 := h
          obtain ⟨p285, m286, c287, rfl⟩ := hf106.shape
          have h := hh288
          refine WL.store (v := .agg [vi a0.Scale, vu a0.Zero, vi x99, (.slice p281 m282 c283), vi x103, (.slice p285 m286 c287)].toArray) (cells' := [vi a0.Scale, vu a0.Zero, vi x99, (.slice p281 m282 c283), vi x103, (.slice p285 m286 c287)]) ty27 rfl rfl hb98 rfl (Nat.le_of_ble_eq_true rfl) rfl rfl ?_
          intro wd289 hst290 hb291
          refine WL.nil ?_
          refine At.dq (Stp.up hst290 rfl) ?_
          refine WD.done_ (by kernel_rfl) ?_
          refine At.then ?_
          refine WC.seq ?_
          refine WC.seq ?_
          refine WC.region ?_
          refine WL.y (Y.assign rfl) rfl ?_
          refine WL.nil ?_
          refine At.then ?_
          refine WC.block ?_
          obtain ⟨p319, h, hk321⟩ := flow1 h
          obtain ⟨k320, h⟩ := loop_some h
          refine WC.joinB 0 (σ := (Int × Int × List UInt64 × Int × List UInt64 × Own × Value × Value)) (fun x w' => p319 = .go (x.1, x.2.1, x.2.2.1, x.2.2.2.1, x.2.2.2.2.1) ∧ Stp [1002] O107 wd289 x.2.2.2.2.2.1 w' ∧ Sl Rep.u w' (frs x.2.2.2.2.2.1) x.2.2.2.2.2.2.1 x.2.2.1 ∧ Sl Rep.u w' (frs x.2.2.2.2.2.1) x.2.2.2.2.2.2.2 x.2.2.2.2.1 ∧ Blk 1002 x.2.2.2.2.2.1 w' b97 27 [vi x.1, vu a0.Zero, vi x.2.1, x.2.2.2.2.2.2.1, vi x.2.2.2.1, x.2.2.2.2.2.2.2]) (fun x => [(4, .pointer (some ⟨p27, 0, none⟩)), (7, .pointer (some ⟨b97, 0, none⟩))]) ?_ ?_
          · have hf322 := hf102.mono (frs_st hst290 rfl)
            have hf323 := hf106.mono (frs_st hst290 rfl)
            refine WC.loop (σ := (Int × Int × List UInt64 × Int × List UInt64 × Int × Own × Value × Value)) (fun x k w' => loopN k (ref08_Down_lp1 a1) (x.1, x.2.1, x.2.2.1, x.2.2.2.1, x.2.2.2.2.1, x.2.2.2.2.2.1) = some p319 ∧ Stp [1002] O107 wd289 x.2.2.2.2.2.2.1 w' ∧ Sl Rep.u w' (frs x.2.2.2.2.2.2.1) x.2.2.2.2.2.2.2.1 x.2.2.1 ∧ Sl Rep.u w' (frs x.2.2.2.2.2.2.1) x.2.2.2.2.2.2.2.2 x.2.2.2.2.1 ∧ Blk 1002 x.2.2.2.2.2.2.1 w' b97 27 [vi x.1, vu a0.Zero, vi x.2.1, x.2.2.2.2.2.2.2.1, vi x.2.2.2.1, x.2.2.2.2.2.2.2.2]) (fun x => [(1, vi a1), (4, .pointer (some ⟨p27, 0, none⟩)), (7, .pointer (some ⟨b97, 0, none⟩)), (8, vi x.2.2.2.2.2.1)]) (a0.Scale, x99, x100, x103, x104, 0, O107, (.slice p281 m282 c283), (.slice p285 m286 c287)) k320 (.cons rfl (.cons rfl (.cons rfl (.cons rfl .nil)))) ⟨h, (Stp.refl _ _ _), hf322, hf323, hb291⟩ ?_
            rintro ⟨c293, c294, c295, c298, c299, i302, O303, v296, v300⟩ k320 wd304 ⟨h, hst305, hf297, hf301, hb292⟩
            obtain ⟨j324, q325, rfl, h, hn326⟩ := rnd1 h
            unfold ref08_Down_lp1 at h
            try dsimp only at h hst305 hf297 hf301 hb292
            refine (show WC _ _ _ _ [(1, vi a1), (4, .pointer (some ⟨p27, 0, none⟩)), (7, .pointer (some ⟨b97, 0, none⟩)), (8, vi i302)] _ from ?_)
            refine WC.seq ?_
            refine WC.seq ?_
            refine WC.region ?_
            refine WL.y (Y.move rfl) rfl ?_
            refine WL.y (Y.move rfl) rfl ?_
            refine WL.y (Y.lss_i rfl rfl) rfl ?_
            refine WL.nil ?_
            refine At.then ?_
            rcases cnd h with ⟨hc327, h⟩ | ⟨hc327, h⟩
            · refine WC.condT' rfl hc327 ?_
              refine WC.skip ?_
              refine At.then ?_
              refine WC.seq ?_
              refine WC.block ?_
              refine WC.drawH [] [0, 1, 2, 3, 4, 5, 6, 7, 8, 9, 10, 11] O303 13 fmix rfl (by kernel_rfl) ?_
              intro wd328 hst329
              refine WD.y 0 rfl (by kernel_rfl) (fun _ _ _ => Y.fieldAddr fo27_0 rfl) rfl ?_
              refine WD.y 1 rfl (by kernel_rfl) (fun wd334 O333 hst335 => have hf336 := hb292.st hst329 rfl; have hf337 := hf336.st hst335 rfl; Y.loadSc ty3 rfl rfl (hf337.cell 0 _ rfl)) rfl ?_
              refine WD.y 2 rfl (by kernel_rfl) (fun _ _ _ => Y.sub_i rfl rfl) rfl ?_
              refine WD.y 3 rfl (by kernel_rfl) (fun _ _ _ => Y.fieldAddr fo27_1 rfl) rfl ?_
              refine WD.y 4 rfl (by kernel_rfl) (fun wd345 O344 hst346 => have hf347 := hb292.st hst329 rfl; have hf348 := hf347.st hst346 rfl; Y.loadSc ty22 rfl rfl (hf348.cell 1 _ rfl)) rfl ?_
              refine WD.y 5 rfl (by kernel_rfl) (fun _ _ _ => Y.fieldAddr fo27_2 rfl) rfl ?_
              refine WD.y 6 rfl (by kernel_rfl) (fun wd353 O352 hst354 => have hf355 := hb292.st hst329 rfl; have hf356 := hf355.st hst354 rfl; Y.loadAg ty25 rfl rfl (hf356.cells 2 [vi c294, v296] rfl) rfl) rfl ?_
              refine WD.y 8 rfl (by kernel_rfl) (fun _ _ _ => Y.fieldAddr fo27_3 rfl) rfl ?_
              refine WD.y 9 rfl (by kernel_rfl) (fun wd361 O360 hst362 => have hf363 := hb292.st hst329 rfl; have hf364 := hf363.st hst362 rfl; Y.loadAg ty25 rfl rfl (hf364.cells 4 [vi c298, v300] rfl) rfl) rfl ?_
              refine WD.heavy 7 rfl (by kernel_rfl) ?_
              have hf365 := hf297.mono (frs_st hst329 rfl)
              obtain ⟨r366, hp367, h⟩ := bnd h
              refine WL.call (vals := [.agg [vi c294, v296].toArray]) kok63 rfl rfl (c_ref08_once (A := fun _ => True) (a0 := (api_Side.mk c294 c295)) (Sl.all hf365) hp367) ?_
              rintro vr372 wd371 ⟨u368, rfl, hm370, f369⟩
              obtain ⟨O373, hold374, hnew375, hst376⟩ := adoptE O303 (fun k => 1) hm370
              have hf377 : Sl Rep.u wd371 (frs O373) u368 r366.Counts := Sl.adoptF f369 (fun k hk => ⟨hk, rfl⟩) hnew375
              refine WL.nil ?_
              refine At.dq (Stp.up hst376 rfl) ?_
              refine WD.heavy 10 rfl (by kernel_rfl) ?_
              have hf378 := hf301.mono (frs_st hst329 rfl)
              have hf379 := hf378.mono (frs_st hst376 rfl)
              obtain ⟨r380, hp381, h⟩ := bnd h
              refine WL.call (vals := [.agg [vi c298, v300].toArray]) kok63 rfl rfl (c_ref08_once (A := fun _ => True) (a0 := (api_Side.mk c298 c299)) (Sl.all hf379) hp381) ?_
              rintro vr386 wd385 ⟨u382, rfl, hm384, f383⟩
              obtain ⟨O387, hold388, hnew389, hst390⟩ := adoptE O373 (fun k => 1) hm384
              have hf391 : Sl Rep.u wd385 (frs O387) u382 r380.Counts := Sl.adoptF f383 (fun k hk => ⟨hk, rfl⟩) hnew389
              refine WL.nil ?_
              refine At.dq (Stp.up hst390 rfl) ?_
              have hf392 := hf377.mono (frs_st hst390 rfl)
              have hh396 := h
              obtain ⟨p393, m394, c395, rfl⟩ := hf392.shape
              have h := hh396
              have hh400 := h
              obtain ⟨p397, m398, c399, rfl⟩ := hf391.shape
              have h := hh400
              refine WD.y 11 rfl (by kernel_rfl) (fun _ _ _ => Y.build (vals := [(0, vi (w64 (c293 - 1))), (1, vu a0.Zero), (2, .agg [vi r366.Offset, (.slice p393 m394 c395)].toArray), (3, .agg [vi r380.Offset, (.slice p397 m398 c399)].toArray)]) (cells := [vi (w64 (c293 - 1)), vu a0.Zero, vi r366.Offset, (.slice p393 m394 c395), vi r380.Offset, (.slice p397 m398 c399)]) (Fits.evalp rfl) (by kernel_rfl)) rfl ?_
              refine WD.phase [1002] [0, 1, 2, 3, 4, 5, 6, 7, 8, 9, 10, 11, 12] (by kernel_rfl) (by kernel_rfl) ?_
              refine WD.heavy 12 rfl (by kernel_rfl) ?_
              have hf404 := hb292.st hst329 rfl
              have hf405 := hf404.st hst376 rfl
              have hf406 := hf405.st hst390 rfl
              refine WL.store (v := .agg [vi (w64 (c293 - 1)), vu a0.Zero, vi r366.Offset, (.slice p393 m394 c395), vi r380.Offset, (.slice p397 m398 c399)].toArray) (cells' := [vi (w64 (c293 - 1)), vu a0.Zero, vi r366.Offset, (.slice p393 m394 c395), vi r380.Offset, (.slice p397 m398 c399)]) ty27 rfl rfl hf406 rfl (Nat.le_of_ble_eq_true rfl) rfl rfl ?_
              intro wd407 hst408 hb409
              refine WL.nil ?_
              refine At.dq (Stp.up hst408 rfl) ?_
              refine WD.done_ (by kernel_rfl) ?_
              refine At.inBlock ?_
              refine At.then ?_
              refine WC.region ?_
              refine WL.y (Y.move rfl) rfl ?_
              refine WL.y (Y.add_i rfl rfl) rfl ?_
              obtain ⟨i410, hi410, h⟩ := lt1 h
              refine WL.yE (Y.assign rfl) (congrArg vi hi410.symm) rfl ?_
              refine WL.nil ?_
              have hf411 := hf392.mono (frs_st hst408 rfl)
              have hf412 := hf391.mono (frs_st hst408 rfl)
              exact At.round (w64 (c293 - 1), r366.Offset, r366.Counts, r380.Offset, r380.Counts, i410, O387, (.slice p393 m394 c395), (.slice p397 m398 c399)) j324 (Nat.lt_succ_self _) ⟨next1 h hn326, (Stp.trans (Stp.up hst305 rfl) (Stp.trans (Stp.up hst329 rfl) (Stp.trans (Stp.up hst376 rfl) (Stp.trans (Stp.up hst390 rfl) (Stp.up hst408 rfl))))), hf411, hf412, hb409⟩ (.cons rfl (.cons rfl (.cons rfl (.cons rfl .nil))))
            · refine WC.condF' rfl hc327 ?_
              refine WC.exit ?_
              refine At.thenX ?_
              refine At.loopX ?_
              exact At.hitB (σ := (Int × Int × List UInt64 × Int × List UInt64 × Own × Value × Value)) (c293, c294, c295, c298, c299, O303, v296, v300) ⟨brk1 h hn326, (Stp.up hst305 rfl), hf297, hf301, hb292⟩ (.cons rfl (.cons rfl .nil))
          · rintro ⟨c307, c308, c309, c312, c313, O316, v310, v314⟩ wd317 ⟨rfl, hst318, hf311, hf315, hb306⟩
            replace h := flowK_go hk321
            try dsimp only at h hst318 hf311 hf315 hb306
            refine (show At _ _ _ [(4, .pointer (some ⟨p27, 0, none⟩)), (7, .pointer (some ⟨b97, 0, none⟩))] _ from ?_)
            refine At.inBlockHit ?_
            refine At.then ?_
            refine WC.seq ?_
            refine WC.region ?_
            refine WL.y (Y.loadAg ty27 rfl rfl (hb306.cells 0 [vi c307, vu a0.Zero, vi c308, v310, vi c312, v314] rfl) rfl) rfl ?_
            have hh416 := h
            obtain ⟨p413, m414, c415, rfl⟩ := hf311.shape
            have h := hh416
            have hh420 := h
            obtain ⟨p417, m418, c419, rfl⟩ := hf315.shape
            have h := hh420
            have hf421 := hb26.st hst44 rfl
            have hf422 := hf421.st hst60 rfl
            have hf423 := hf422.st hst109 rfl
            have hf424 := hf423.st hst290 rfl
            have hf425 := hf424.st hst318 rfl
            refine WL.store (v := .agg [vi c307, vu a0.Zero, vi c308, (.slice p413 m414 c415), vi c312, (.slice p417 m418 c419)].toArray) (cells' := [vi c307, vu a0.Zero, vi c308, (.slice p413 m414 c415), vi c312, (.slice p417 m418 c419)]) ty27 rfl rfl hf425 rfl (Nat.le_of_ble_eq_true rfl) rfl rfl ?_
            intro wd426 hst427 hb428
            refine WL.y (Y.assign rfl) rfl ?_
            refine WL.nil ?_
            refine At.then ?_
            refine WC.ret ?_
            obtain ⟨rfl, rfl⟩ := tup2 h
            have hs429 : Stp [12, 13, 14, 15, 1001, 1002] (Lg.O0 A) w O316 wd426 := (Stp.trans (Stp.up hst25 rfl) (Stp.trans (Stp.up hst30 rfl) (Stp.trans (Stp.up hst44 rfl) (Stp.trans (Stp.up hst60 rfl) (Stp.trans (Stp.up hst109 rfl) (Stp.trans (Stp.up hst290 rfl) (Stp.trans (Stp.up hst318 rfl) (Stp.up hst427 rfl))))))))
            have hf430 := hf311.mono (frs_st hst427 rfl)
            have hf431 := hf315.mono (frs_st hst427 rfl)
            exact At.res (.inl rfl) rfl (.cell rfl (hb428.runAg 0 [vi c307, vu a0.Zero, vi c308, (.slice p413 m414 c415), vi c312, (.slice p417 m418 c419)] ty27 rfl rfl rfl) (.tmp rfl .nil)) ⟨(.slice p413 m414 c415), (.slice p417 m418 c419), rfl, (Stp.ext hs429 rfl rfl), (Sl.outF hf430 hs429 low0), (Sl.outF hf431 hs429 low0)⟩

theorem c_hist_Fit {A : Nat → Prop} {v0_3 : Value} {v0_5 : Value} {a0 : api_Hist} {a1 : Int} {w : World} (hs0_3 : Sl Rep.u w A v0_3 a0.Pos.Counts) (hs0_5 : Sl Rep.u w A v0_5 a0.Neg.Counts) {r0 : api_Hist} {r1 : Int} (h : hist_Fit a0 a1 = some (r0, r1)) : Rets Try.prog 25 [.agg [vi a0.Scale, vu a0.Zero, vi a0.Pos.Offset, v0_3, vi a0.Neg.Offset, v0_5].toArray, vi a1] w (fun v w' => ∃ (u0_3 : Value) (u0_5 : Value), v = .tuple (List.toArray [.agg (List.toArray [vi r0.Scale, vu r0.Zero, vi r0.Pos.Offset, u0_3, vi r0.Neg.Offset, u0_5]), vi r1]) ∧ Ext w w' ∧ Sl Rep.u w' (fun k => w.heap.size ≤ k) u0_3 r0.Pos.Counts ∧ Sl Rep.u w' (fun k => w.heap.size ≤ k) u0_5 r0.Neg.Counts) := by
  unfold hist_Fit at h
  refine Rets.enter Try.func25 rfl rfl ?_
  have hf11 : Sl Rep.u w (imm (Lg.O0 A)) v0_3 a0.Pos.Counts := (Sl.start hs0_3)
  have hf12 : Sl Rep.u w (imm (Lg.O0 A)) v0_5 a0.Neg.Counts := (Sl.start hs0_5)
  refine (show WC _ _ _ _ [(0, .agg [vi a0.Scale, vu a0.Zero, vi a0.Pos.Offset, v0_3, vi a0.Neg.Offset, v0_5].toArray), (1, vi a1)] _ from ?_)
  refine WC.seq ?_
  refine WC.region ?_
  have hh16 := h
  obtain ⟨p13, m14, c15, rfl⟩ := hf11.shape
  have h := hh16
  have hh20 := h
  obtain ⟨p17, m18, c19, rfl⟩ := hf12.shape
  have h := hh20
  refine WL.box (O := (Lg.O0 A)) 11 [vi a0.Scale, vu a0.Zero, vi a0.Pos.Offset, (.slice p13 m14 c15), vi a0.Neg.Offset, (.slice p17 m18 c19)] rfl rfl rfl ?_
  intro p22 O23 wd24 hst25 hb21
  refine WL.alloc (O := O23) 12 [vi 0, vu 0, vi 0, .slice none 0 0, vi 0, .slice none 0 0] ty27 rfl rfl ?_
  intro p27 O28 wd29 hst30 hb26
  refine WL.y (Y.assign rfl) rfl ?_
  refine WL.nil ?_
  refine At.then ?_
  refine WC.seq ?_
  refine WC.seq ?_
  refine WC.region ?_
  have hf31 := hb21.st hst30 rfl
  refine WL.y (Y.loadAg ty27 rfl rfl (hf31.cells 0 [vi a0.Scale, vu a0.Zero, vi a0.Pos.Offset, (.slice p13 m14 c15), vi a0.Neg.Offset, (.slice p17 m18 c19)] rfl) rfl) rfl ?_
  have hf32 := hf11.mono (imm_st hst25 rfl rfl)
  have hf33 := hf32.mono (imm_st hst30 rfl rfl)
  have hf34 := hf12.mono (imm_st hst25 rfl rfl)
  have hf35 := hf34.mono (imm_st hst30 rfl rfl)
  obtain ⟨r36, hp37, h⟩ := bnd h
  refine WL.call (vals := [.agg [vi a0.Scale, vu a0.Zero, vi a0.Pos.Offset, (.slice p13 m14 c15), vi a0.Neg.Offset, (.slice p17 m18 c19)].toArray]) kok19 rfl rfl (c_hist_Check (A := fun _ => True) (a0 := a0) (Sl.all hf33) (Sl.all hf35) hp37) ?_
  rintro vr40 wd39 ⟨rfl, hm38⟩
  obtain ⟨O41, hold42, hnew43, hst44⟩ := adoptE O28 (fun k => 1) hm38
  refine WL.y (Y.assign rfl) rfl ?_
  refine WL.nil ?_
  refine At.then ?_
  refine WC.seq ?_
  refine WC.region ?_
  refine WL.y (Y.move rfl) rfl ?_
  refine WL.y (Y.neq_i rfl rfl) rfl ?_
  refine WL.nil ?_
  refine At.then ?_
  rcases cnd h with ⟨hc45, h⟩ | ⟨hc45, h⟩
  · refine WC.condT' rfl hc45 ?_
    refine WC.seq ?_
    refine WC.region ?_
    refine WL.y (Y.build (vals := []) (cells := [vi 0, vu 0, vi 0, .slice none 0 0, vi 0, .slice none 0 0]) (Fits.evalp rfl) (by kernel_rfl)) rfl ?_
    refine WL.y (Y.move rfl) rfl ?_
    have hf46 := hb26.st hst44 rfl
    refine WL.store (v := .agg [vi 0, vu 0, vi 0, .slice none 0 0, vi 0, .slice none 0 0].toArray) (cells' := [vi 0, vu 0, vi 0, .slice none 0 0, vi 0, .slice none 0 0]) ty27 rfl rfl hf46 rfl (Nat.le_of_ble_eq_true rfl) rfl rfl ?_
    intro wd47 hst48 hb49
    refine WL.y (Y.assign rfl) rfl ?_
    refine WL.nil ?_
    refine At.then ?_
    refine WC.ret ?_
    refine At.thenR ?_
    obtain ⟨rfl, rfl⟩ := tup2 h
    have hs50 : Stp [12] (Lg.O0 A) w O41 wd47 := (Stp.trans (Stp.up hst25 rfl) (Stp.trans (Stp.up hst30 rfl) (Stp.trans (Stp.up hst44 rfl) (Stp.up hst48 rfl))))
    exact At.res (.inl rfl) rfl (.cell rfl (hb49.runAg 0 [vi 0, vu 0, vi 0, .slice none 0 0, vi 0, .slice none 0 0] ty27 rfl rfl rfl) (.tmp rfl .nil)) ⟨.slice none 0 0, .slice none 0 0, rfl, (Stp.ext hs50 rfl rfl), (Or.inl ⟨rfl, rfl⟩), (Or.inl ⟨rfl, rfl⟩)⟩
  · refine WC.condF' rfl hc45 ?_
    refine WC.skip ?_
    refine At.then ?_
    refine WC.seq ?_
    refine WC.seq ?_
    refine WC.region ?_
    refine WL.y (Y.assign rfl) rfl ?_
    refine WL.nil ?_
    refine At.then ?_
    refine WC.block ?_
    obtain ⟨p58, h, hk60⟩ := flow1 h
    obtain ⟨k59, h⟩ := loop_some h
    refine WC.joinB 0 (σ := Own) (fun x w' => p58 = .go () ∧ Stp [] O41 wd39 x w') (fun x => [(4, .pointer (some ⟨p27, 0, none⟩))]) ?_ ?_
    · refine WC.loop (σ := (Int × Own)) (fun x k w' => loopN k (hist_Fit_lp1 a0 a1) x.1 = some p58 ∧ Stp [] O41 wd39 x.2 w') (fun x => [(1, vi a1), (2, .pointer (some ⟨p22, 0, none⟩)), (4, .pointer (some ⟨p27, 0, none⟩)), (7, vi x.1)]) (0, O41) k59 (.cons rfl (.cons rfl (.cons rfl (.cons rfl .nil)))) ⟨h, (Stp.refl _ _ _)⟩ ?_
      rintro ⟨by51, O52⟩ k59 wd53 ⟨h, hst54⟩
      obtain ⟨j61, q62, rfl, h, hn63⟩ := rnd1 h
      unfold hist_Fit_lp1 at h
      try dsimp only at h hst54
      refine (show WC _ _ _ _ [(1, vi a1), (2, .pointer (some ⟨p22, 0, none⟩)), (4, .pointer (some ⟨p27, 0, none⟩)), (7, vi by51)] _ from ?_)
      refine WC.seq ?_
      refine WC.seq ?_
      refine WC.region ?_
      refine WL.y (Y.move rfl) rfl ?_
      refine WL.y (Y.fieldAddr fo27_0 rfl) rfl ?_
      have hf64 := hf31.st hst44 rfl
      have hf65 := hf64.st hst54 rfl
      refine WL.y (Y.loadSc ty3 rfl rfl (hf65.cell 0 _ rfl)) rfl ?_
      refine WL.y (Y.sub_i rfl rfl) rfl ?_
      refine WL.y (Y.leq_i rfl rfl) rfl ?_
      refine WL.nil ?_
      refine At.then ?_
      rcases cnd h with ⟨hc66, h⟩ | ⟨hc66, h⟩
      · refine WC.condT' rfl hc66 ?_
        refine WC.skip ?_
        refine At.then ?_
        refine WC.seq ?_
        refine WC.block ?_
        refine WC.seq ?_
        refine WC.drawH [] [0, 1, 2, 3, 4, 5, 6, 7, 8, 9, 10, 11, 12] O52 13 fmix rfl (by kernel_rfl) ?_
        intro wd67 hst68
        refine WD.y 0 rfl (by kernel_rfl) (fun _ _ _ => Y.fieldAddr fo27_2 rfl) rfl ?_
        refine WD.y 1 rfl (by kernel_rfl) (fun wd73 O72 hst74 => have hf75 := hf65.st hst68 rfl; have hf76 := hf75.st hst74 rfl; Y.loadAg ty25 rfl rfl (hf76.cells 2 [vi a0.Pos.Offset, (.slice p13 m14 c15)] rfl) rfl) rfl ?_
        refine WD.y 2 rfl (by kernel_rfl) (fun _ _ _ => Y.move rfl) rfl ?_
        refine WD.y 3 rfl (by kernel_rfl) (fun _ _ _ => Y.conv_iu ty3.u ty82.u rfl) rfl ?_
        refine WD.y 5 rfl (by kernel_rfl) (fun _ _ _ => Y.fieldAddr fo27_3 rfl) rfl ?_
        refine WD.y 6 rfl (by kernel_rfl) (fun wd87 O86 hst88 => have hf89 := hf65.st hst68 rfl; have hf90 := hf89.st hst88 rfl; Y.loadAg ty25 rfl rfl (hf90.cells 4 [vi a0.Neg.Offset, (.slice p17 m18 c19)] rfl) rfl) rfl ?_
        refine WD.y 7 rfl (by kernel_rfl) (fun _ _ _ => Y.move rfl) rfl ?_
        refine WD.y 8 rfl (by kernel_rfl) (fun _ _ _ => Y.conv_iu ty3.u ty82.u rfl) rfl ?_
        refine WD.y 11 rfl (by kernel_rfl) (fun _ _ _ => Y.move rfl) rfl ?_
        refine WD.heavy 4 rfl (by kernel_rfl) ?_
        have hf100 := hf33.mono (imm_st hst44 rfl rfl)
        have hf101 := hf100.mono (imm_st hst54 rfl rfl)
        have hf102 := hf101.mono (imm_st hst68 rfl rfl)
        obtain ⟨r103, hp104, h⟩ := bnd h
        refine WL.call (vals := [.agg [vi a0.Pos.Offset, (.slice p13 m14 c15)].toArray, vu (toU64 by51)]) kok64 rfl rfl (c_hist_span (A := fun _ => True) (a0 := a0.Pos) (Sl.all hf102) hp104) ?_
        rintro vr107 wd106 ⟨rfl, hm105⟩
        obtain ⟨O108, hold109, hnew110, hst111⟩ := adoptE O52 (fun k => 1) hm105
        refine WL.nil ?_
        refine At.dq (Stp.up hst111 rfl) ?_
        refine WD.heavy 9 rfl (by kernel_rfl) ?_
        have hf112 := hf35.mono (imm_st hst44 rfl rfl)
        have hf113 := hf112.mono (imm_st hst54 rfl rfl)
        have hf114 := hf113.mono (imm_st hst68 rfl rfl)
        have hf115 := hf114.mono (imm_st hst111 rfl rfl)
        obtain ⟨r116, hp117, h⟩ := bnd h
        refine WL.call (vals := [.agg [vi a0.Neg.Offset, (.slice p17 m18 c19)].toArray, vu (toU64 by51)]) kok64 rfl rfl (c_hist_span (A := fun _ => True) (a0 := a0.Neg) (Sl.all hf115) hp117) ?_
        rintro vr120 wd119 ⟨rfl, hm118⟩
        obtain ⟨O121, hold122, hnew123, hst124⟩ := adoptE O108 (fun k => 1) hm118
        refine WL.nil ?_
        refine At.dq (Stp.up hst124 rfl) ?_
        refine WD.y 10 rfl (by kernel_rfl) (fun _ _ _ => Y.max_i rfl rfl) rfl ?_
        refine WD.y 12 rfl (by kernel_rfl) (fun _ _ _ => Y.leq_i rfl rfl) rfl ?_
        refine WD.done_ (by kernel_rfl) ?_
        refine At.then ?_
        rcases cnd h with ⟨hc131, h⟩ | ⟨hc131, h⟩
        · refine WC.condT' rfl hc131 ?_
          refine WC.seq ?_
          refine WC.region ?_
          have hf132 := hf65.st hst68 rfl
          have hf133 := hf132.st hst111 rfl
          have hf134 := hf133.st hst124 rfl
          refine WL.y (Y.loadAg ty27 rfl rfl (hf134.cells 0 [vi a0.Scale, vu a0.Zero, vi a0.Pos.Offset, (.slice p13 m14 c15), vi a0.Neg.Offset, (.slice p17 m18 c19)] rfl) rfl) rfl ?_
          refine WL.y (Y.move rfl) rfl ?_
          have hf135 := hf102.mono (imm_st hst111 rfl rfl)
          have hf136 := hf135.mono (imm_st hst124 rfl rfl)
          have hf137 := hf115.mono (imm_st hst124 rfl rfl)
          obtain ⟨⟨r138, r139⟩, hp140, h⟩ := bnd h
          refine WL.call (vals := [.agg [vi a0.Scale, vu a0.Zero, vi a0.Pos.Offset, (.slice p13 m14 c15), vi a0.Neg.Offset, (.slice p17 m18 c19)].toArray, vi by51]) kok21 rfl rfl (c_hist_Down (A := fun _ => True) (a0 := a0) (Sl.all hf136) (Sl.all hf137) hp140) ?_
          rintro vr147 wd146 ⟨u141, u142, rfl, hm145, f143, f144⟩
          obtain ⟨O148, hold149, hnew150, hst151⟩ := adoptE O121 (fun k => 1) hm145
          have hf152 : Sl Rep.u wd146 (frs O148) u141 r138.Pos.Counts := Sl.adoptF f143 (fun k hk => ⟨hk, rfl⟩) hnew150
          have hf153 : Sl Rep.u wd146 (frs O148) u142 r138.Neg.Counts := Sl.adoptF f144 (fun k hk => ⟨hk, rfl⟩) hnew150
          refine WL.y (Y.extract rfl rfl) rfl ?_
          refine WL.y (Y.extract rfl rfl) rfl ?_
          have hh157 := h
          obtain ⟨p154, m155, c156, rfl⟩ := hf152.shape
          have h := hh157
          have hh161 := h
          obtain ⟨p158, m159, c160, rfl⟩ := hf153.shape
          have h := hh161
          have hf162 := hb26.st hst44 rfl
          have hf163 := hf162.st hst54 rfl
          have hf164 := hf163.st hst68 rfl
          have hf165 := hf164.st hst111 rfl
          have hf166 := hf165.st hst124 rfl
          have hf167 := hf166.st hst151 rfl
          refine WL.store (v := .agg [vi r138.Scale, vu r138.Zero, vi r138.Pos.Offset, (.slice p154 m155 c156), vi r138.Neg.Offset, (.slice p158 m159 c160)].toArray) (cells' := [vi r138.Scale, vu r138.Zero, vi r138.Pos.Offset, (.slice p154 m155 c156), vi r138.Neg.Offset, (.slice p158 m159 c160)]) ty27 rfl rfl hf167 rfl (Nat.le_of_ble_eq_true rfl) rfl rfl ?_
          intro wd168 hst169 hb170
          refine WL.y (Y.assign rfl) rfl ?_
          refine WL.nil ?_
          refine At.then ?_
          refine WC.ret ?_
          refine At.inBlockR ?_
          refine At.thenR ?_
          refine At.loopR ?_
          have h := outr1 h hn63 hk60
          refine At.joinBR ?_
          refine At.inBlockR ?_
          refine At.thenR ?_
          obtain ⟨rfl, rfl⟩ := tup2 h
          have hs171 : Stp [12] (Lg.O0 A) w O148 wd168 := (Stp.trans (Stp.up hst25 rfl) (Stp.trans (Stp.up hst30 rfl) (Stp.trans (Stp.up hst44 rfl) (Stp.trans (Stp.up hst54 rfl) (Stp.trans (Stp.up hst68 rfl) (Stp.trans (Stp.up hst111 rfl) (Stp.trans (Stp.up hst124 rfl) (Stp.trans (Stp.up hst151 rfl) (Stp.up hst169 rfl)))))))))
          have hf172 := hf152.mono (frs_st hst169 rfl)
          have hf173 := hf153.mono (frs_st hst169 rfl)
          exact At.res (.inl rfl) rfl (.cell rfl (hb170.runAg 0 [vi r138.Scale, vu r138.Zero, vi r138.Pos.Offset, (.slice p154 m155 c156), vi r138.Neg.Offset, (.slice p158 m159 c160)] ty27 rfl rfl rfl) (.tmp rfl .nil)) ⟨(.slice p154 m155 c156), (.slice p158 m159 c160), rfl, (Stp.ext hs171 rfl rfl), (Sl.outF hf172 hs171 low0), (Sl.outF hf173 hs171 low0)⟩
        · refine WC.condF' rfl hc131 ?_
          refine WC.skip ?_
          refine At.inBlock ?_
          refine At.then ?_
          refine WC.region ?_
          refine WL.y (Y.move rfl) rfl ?_
          refine WL.y (Y.add_i rfl rfl) rfl ?_
          obtain ⟨by174, hby174, h⟩ := lt1 h
          refine WL.yE (Y.assign rfl) (congrArg vi hby174.symm) rfl ?_
          refine WL.nil ?_
          exact At.round (by174, O121) j61 (Nat.lt_succ_self _) ⟨next1 h hn63, (Stp.trans (Stp.up hst54 rfl) (Stp.trans (Stp.up hst68 rfl) (Stp.trans (Stp.up hst111 rfl) (Stp.up hst124 rfl))))⟩ (.cons rfl (.cons rfl (.cons rfl (.cons rfl .nil))))
      · refine WC.condF' rfl hc66 ?_
        refine WC.exit ?_
        refine At.thenX ?_
        refine At.loopX ?_
        exact At.hitB (σ := Own) O52 ⟨brk1 h hn63, (Stp.up hst54 rfl)⟩ (.cons rfl .nil)
    · rintro O55 wd56 ⟨rfl, hst57⟩
      replace h := flowK_go hk60
      refine (show At _ _ _ [(4, .pointer (some ⟨p27, 0, none⟩))] _ from ?_)
      refine At.inBlockHit ?_
      refine At.then ?_
      refine WC.seq ?_
      refine WC.region ?_
      refine WL.y (Y.build (vals := []) (cells := [vi 0, vu 0, vi 0, .slice none 0 0, vi 0, .slice none 0 0]) (Fits.evalp rfl) (by kernel_rfl)) rfl ?_
      have hf175 := hb26.st hst44 rfl
      have hf176 := hf175.st hst57 rfl
      refine WL.store (v := .agg [vi 0, vu 0, vi 0, .slice none 0 0, vi 0, .slice none 0 0].toArray) (cells' := [vi 0, vu 0, vi 0, .slice none 0 0, vi 0, .slice none 0 0]) ty27 rfl rfl hf176 rfl (Nat.le_of_ble_eq_true rfl) rfl rfl ?_
      intro wd177 hst178 hb179
      refine WL.y (Y.assign rfl) rfl ?_
      refine WL.nil ?_
      refine At.then ?_
      refine WC.ret ?_
      obtain ⟨rfl, rfl⟩ := tup2 h
      have hs180 : Stp [12] (Lg.O0 A) w O55 wd177 := (Stp.trans (Stp.up hst25 rfl) (Stp.trans (Stp.up hst30 rfl) (Stp.trans (Stp.up hst44 rfl) (Stp.trans (Stp.up hst57 rfl) (Stp.up hst178 rfl)))))
      exact At.res (.inl rfl) rfl (.cell rfl (hb179.runAg 0 [vi 0, vu 0, vi 0, .slice none 0 0, vi 0, .slice none 0 0] ty27 rfl rfl rfl) (.tmp rfl .nil)) ⟨.slice none 0 0, .slice none 0 0, rfl, (Stp.ext hs180 rfl rfl), (Or.inl ⟨rfl, rfl⟩), (Or.inl ⟨rfl, rfl⟩)⟩

theorem c_ref08_Fit {A : Nat → Prop} {v0_3 : Value} {v0_5 : Value} {a0 : api_Hist} {a1 : Int} {w : World} (hs0_3 : Sl Rep.u w A v0_3 a0.Pos.Counts) (hs0_5 : Sl Rep.u w A v0_5 a0.Neg.Counts) {r0 : api_Hist} {r1 : Int} (h : ref08_Fit a0 a1 = some (r0, r1)) : Rets Try.prog 26 [.agg [vi a0.Scale, vu a0.Zero, vi a0.Pos.Offset, v0_3, vi a0.Neg.Offset, v0_5].toArray, vi a1] w (fun v w' => ∃ (u0_3 : Value) (u0_5 : Value), v = .tuple (List.toArray [.agg (List.toArray [vi r0.Scale, vu r0.Zero, vi r0.Pos.Offset, u0_3, vi r0.Neg.Offset, u0_5]), vi r1]) ∧ Ext w w' ∧ Sl Rep.u w' (fun k => w.heap.size ≤ k) u0_3 r0.Pos.Counts ∧ Sl Rep.u w' (fun k => w.heap.size ≤ k) u0_5 r0.Neg.Counts) := by
  unfold ref08_Fit at h
  refine Rets.enter Try.func26 rfl rfl ?_
  have hf11 : Sl Rep.u w (imm (Lg.O0 A)) v0_3 a0.Pos.Counts := (Sl.start hs0_3)
  have hf12 : Sl Rep.u w (imm (Lg.O0 A)) v0_5 a0.Neg.Counts := (Sl.start hs0_5)
  refine (show WC _ _ _ _ [(0, .agg [vi a0.Scale, vu a0.Zero, vi a0.Pos.Offset, v0_3, vi a0.Neg.Offset, v0_5].toArray), (1, vi a1)] _ from ?_)
  refine WC.seq ?_
  refine WC.region ?_
  have hh16 := h
  obtain ⟨p13, m14, c15, rfl⟩ := hf11.shape
  have h := hh16
  have hh20 := h
  obtain ⟨p17, m18, c19, rfl⟩ := hf12.shape
  have h := hh20
  refine WL.box (O := (Lg.O0 A)) 11 [vi a0.Scale, vu a0.Zero, vi a0.Pos.Offset, (.slice p13 m14 c15), vi a0.Neg.Offset, (.slice p17 m18 c19)] rfl rfl rfl ?_
  intro p22 O23 wd24 hst25 hb21
  refine WL.alloc (O := O23) 12 [vi 0, vu 0, vi 0, .slice none 0 0, vi 0, .slice none 0 0] ty27 rfl rfl ?_
  intro p27 O28 wd29 hst30 hb26
  refine WL.y (Y.assign rfl) rfl ?_
  refine WL.nil ?_
  refine At.then ?_
  refine WC.seq ?_
  refine WC.seq ?_
  refine WC.region ?_
  have hf31 := hb21.st hst30 rfl
  refine WL.y (Y.loadAg ty27 rfl rfl (hf31.cells 0 [vi a0.Scale, vu a0.Zero, vi a0.Pos.Offset, (.slice p13 m14 c15), vi a0.Neg.Offset, (.slice p17 m18 c19)] rfl) rfl) rfl ?_
  have hf32 := hf11.mono (imm_st hst25 rfl rfl)
  have hf33 := hf32.mono (imm_st hst30 rfl rfl)
  have hf34 := hf12.mono (imm_st hst25 rfl rfl)
  have hf35 := hf34.mono (imm_st hst30 rfl rfl)
  obtain ⟨r36, hp37, h⟩ := bnd h
  refine WL.call (vals := [.agg [vi a0.Scale, vu a0.Zero, vi a0.Pos.Offset, (.slice p13 m14 c15), vi a0.Neg.Offset, (.slice p17 m18 c19)].toArray]) kok20 rfl rfl (c_ref08_Check (A := fun _ => True) (a0 := a0) (Sl.all hf33) (Sl.all hf35) hp37) ?_
  rintro vr40 wd39 ⟨rfl, hm38⟩
  obtain ⟨O41, hold42, hnew43, hst44⟩ := adoptE O28 (fun k => 1) hm38
  refine WL.y (Y.assign rfl) rfl ?_
  refine WL.nil ?_
  refine At.then ?_
  refine WC.seq ?_
  refine WC.region ?_
  refine WL.y (Y.move rfl) rfl ?_
  refine WL.y (Y.neq_i rfl rfl) rfl ?_
  refine WL.nil ?_
  refine At.then ?_
  rcases cnd h with ⟨hc45, h⟩ | ⟨hc45, h⟩
  · refine WC.condT' rfl hc45 ?_
    refine WC.seq ?_
    refine WC.region ?_
    refine WL.y (Y.build (vals := []) (cells := [vi 0, vu 0, vi 0, .slice none 0 0, vi 0, .slice none 0 0]) (Fits.evalp rfl) (by kernel_rfl)) rfl ?_
    refine WL.y (Y.move rfl) rfl ?_
    have hf46 := hb26.st hst44 rfl
    refine WL.store (v := .agg [vi 0, vu 0, vi 0, .slice none 0 0, vi 0, .slice none 0 0].toArray) (cells' := [vi 0, vu 0, vi 0, .slice none 0 0, vi 0, .slice none 0 0]) ty27 rfl rfl hf46 rfl (Nat.le_of_ble_eq_true rfl) rfl rfl ?_
    intro wd47 hst48 hb49
    refine WL.y (Y.assign rfl) rfl ?_
    refine WL.nil ?_
    refine At.then ?_
    refine WC.ret ?_
    refine At.thenR ?_
    obtain ⟨rfl, rfl⟩ := tup2 h
    have hs50 : Stp [12] (Lg.O0 A) w O41 wd47 := (Stp.trans (Stp.up hst25 rfl) (Stp.trans (Stp.up hst30 rfl) (Stp.trans (Stp.up hst44 rfl) (Stp.up hst48 rfl))))
    exact At.res (.inl rfl) rfl (.cell rfl (hb49.runAg 0 [vi 0, vu 0, vi 0, .slice none 0 0, vi 0, .slice none 0 0] ty27 rfl rfl rfl) (.tmp rfl .nil)) ⟨.slice none 0 0, .slice none 0 0, rfl, (Stp.ext hs50 rfl rfl), (Or.inl ⟨rfl, rfl⟩), (Or.inl ⟨rfl, rfl⟩)⟩
  · refine WC.condF' rfl hc45 ?_
    refine WC.skip ?_
    refine At.then ?_
    refine WC.seq ?_
    refine WC.seq ?_
    refine WC.region ?_
    refine WL.y (Y.assign rfl) rfl ?_
    refine WL.nil ?_
    refine At.then ?_
    refine WC.block ?_
    obtain ⟨p58, h, hk60⟩ := flow1 h
    obtain ⟨k59, h⟩ := loop_some h
    refine WC.joinB 0 (σ := Own) (fun x w' => p58 = .go () ∧ Stp [13] O41 wd39 x w') (fun x => [(4, .pointer (some ⟨p27, 0, none⟩))]) ?_ ?_
    · refine WC.loop (σ := (Int × Own)) (fun x k w' => loopN k (ref08_Fit_lp1 a0 a1) x.1 = some p58 ∧ Stp [13] O41 wd39 x.2 w') (fun x => [(1, vi a1), (2, .pointer (some ⟨p22, 0, none⟩)), (4, .pointer (some ⟨p27, 0, none⟩)), (7, vi x.1)]) (0, O41) k59 (.cons rfl (.cons rfl (.cons rfl (.cons rfl .nil)))) ⟨h, (Stp.refl _ _ _)⟩ ?_
      rintro ⟨by51, O52⟩ k59 wd53 ⟨h, hst54⟩
      obtain ⟨j61, q62, rfl, h, hn63⟩ := rnd1 h
      unfold ref08_Fit_lp1 at h
      try dsimp only at h hst54
      refine (show WC _ _ _ _ [(1, vi a1), (2, .pointer (some ⟨p22, 0, none⟩)), (4, .pointer (some ⟨p27, 0, none⟩)), (7, vi by51)] _ from ?_)
      refine WC.seq ?_
      refine WC.seq ?_
      refine WC.region ?_
      refine WL.y (Y.move rfl) rfl ?_
      refine WL.y (Y.fieldAddr fo27_0 rfl) rfl ?_
      have hf64 := hf31.st hst44 rfl
      have hf65 := hf64.st hst54 rfl
      refine WL.y (Y.loadSc ty3 rfl rfl (hf65.cell 0 _ rfl)) rfl ?_
      refine WL.y (Y.sub_i rfl rfl) rfl ?_
      refine WL.y (Y.leq_i rfl rfl) rfl ?_
      refine WL.nil ?_
      refine At.then ?_
      rcases cnd h with ⟨hc66, h⟩ | ⟨hc66, h⟩
      · refine WC.condT' rfl hc66 ?_
        refine WC.skip ?_
        refine At.then ?_
        refine WC.seq ?_
        refine WC.block ?_
        refine WC.seq ?_
        refine WC.region ?_
        refine WL.y (Y.loadAg ty27 rfl rfl (hf65.cells 0 [vi a0.Scale, vu a0.Zero, vi a0.Pos.Offset, (.slice p13 m14 c15), vi a0.Neg.Offset, (.slice p17 m18 c19)] rfl) rfl) rfl ?_
        refine WL.y (Y.move rfl) rfl ?_
        have hf67 := hf33.mono (imm_st hst44 rfl rfl)
        have hf68 := hf67.mono (imm_st hst54 rfl rfl)
        have hf69 := hf35.mono (imm_st hst44 rfl rfl)
        have hf70 := hf69.mono (imm_st hst54 rfl rfl)
        obtain ⟨⟨r71, r72⟩, hp73, h⟩ := bnd h
        refine WL.call (vals := [.agg [vi a0.Scale, vu a0.Zero, vi a0.Pos.Offset, (.slice p13 m14 c15), vi a0.Neg.Offset, (.slice p17 m18 c19)].toArray, vi by51]) kok24 rfl rfl (c_ref08_Down (A := fun _ => True) (a0 := a0) (Sl.all hf68) (Sl.all hf70) hp73) ?_
        rintro vr80 wd79 ⟨u74, u75, rfl, hm78, f76, f77⟩
        obtain ⟨O81, hold82, hnew83, hst84⟩ := adoptE O52 (fun k => 1) hm78
        have hf85 : Sl Rep.u wd79 (frs O81) u74 r71.Pos.Counts := Sl.adoptF f76 (fun k hk => ⟨hk, rfl⟩) hnew83
        have hf86 : Sl Rep.u wd79 (frs O81) u75 r71.Neg.Counts := Sl.adoptF f77 (fun k hk => ⟨hk, rfl⟩) hnew83
        refine WL.y (Y.move rfl) rfl ?_
        refine WL.y (Y.extract rfl rfl) rfl ?_
        refine WL.y (Y.extract rfl rfl) rfl ?_
        refine WL.alloc (O := O81) 13 [vi 0, vu 0, vi 0, .slice none 0 0, vi 0, .slice none 0 0] ty27 rfl rfl ?_
        intro p88 O89 wd90 hst91 hb87
        have hf92 := hf85.mono (frs_st hst91 rfl)
        have hh96 := h
        obtain ⟨p93, m94, c95, rfl⟩ := hf92.shape
        have h := hh96
        have hf97 := hf86.mono (frs_st hst91 rfl)
        have hh101 := h
        obtain ⟨p98, m99, c100, rfl⟩ := hf97.shape
        have h := hh101
        refine WL.store (v := .agg [vi r71.Scale, vu r71.Zero, vi r71.Pos.Offset, (.slice p93 m94 c95), vi r71.Neg.Offset, (.slice p98 m99 c100)].toArray) (cells' := [vi r71.Scale, vu r71.Zero, vi r71.Pos.Offset, (.slice p93 m94 c95), vi r71.Neg.Offset, (.slice p98 m99 c100)]) ty27 rfl rfl hb87 rfl (Nat.le_of_ble_eq_true rfl) rfl rfl ?_
        intro wd102 hst103 hb104
        refine WL.y (Y.assign rfl) rfl ?_
        refine WL.nil ?_
        refine At.then ?_
        refine WC.seq ?_
        refine WC.region ?_
        refine WL.y (Y.fieldAddr fo27_2 rfl) rfl ?_
        refine WL.y (Y.fieldAddr fo25_1 rfl) rfl ?_
        refine WL.y (Y.loadSc ty23 rfl rfl (hb104.cell 3 _ rfl)) rfl ?_
        have hf105 := hf92.mono (frs_st hst103 rfl)
        refine WL.y (Y.len ty23 rfl hf105) rfl ?_
        refine WL.y (Y.move rfl) rfl ?_
        refine WL.y (Y.leq_i rfl rfl) rfl ?_
        refine WL.y (Y.move rfl) rfl ?_
        refine WL.cut 7 (σ := Unit) (fun _ w' => wd102 = w') (fun _ => [(1, vi a1), (2, .pointer (some ⟨p22, 0, none⟩)), (4, .pointer (some ⟨p27, 0, none⟩)), (7, vi by51), (8, .pointer (some ⟨p88, 0, none⟩)), (42, .bool ((decide ((r71.Pos.Counts.length : Int) ≤ a1)) && (decide ((r71.Neg.Counts.length : Int) ≤ a1))))]) ?_ ?_
        · refine WL.part 35 rfl (fun hE106 => ?_) (fun hE106 => ?_)
          · refine WL.ung rfl rfl ?_
            refine WL.y (Y.fieldAddr fo27_3 rfl) rfl ?_
            refine WL.ung rfl rfl ?_
            refine WL.y (Y.fieldAddr fo25_1 rfl) rfl ?_
            refine WL.ung rfl rfl ?_
            refine WL.y (Y.loadSc ty23 rfl rfl (hb104.cell 5 _ rfl)) rfl ?_
            refine WL.ung rfl rfl ?_
            have hf107 := hf97.mono (frs_st hst103 rfl)
            refine WL.y (Y.len ty23 rfl hf107) rfl ?_
            refine WL.ung rfl rfl ?_
            refine WL.y (Y.move rfl) rfl ?_
            refine WL.ung rfl rfl ?_
            refine WL.y (Y.leq_i rfl rfl) rfl ?_
            refine WL.y (Y.pick (b := true) rfl rfl) rfl ?_
            refine WL.ren (v' := .bool ((decide ((r71.Pos.Counts.length : Int) ≤ a1)) && (decide ((r71.Neg.Counts.length : Int) ≤ a1)))) 42 rfl (congrArg Value.bool (andT hE106)) ?_
            exact WL.nil (At.join () rfl (.cons rfl (.cons rfl (.cons rfl (.cons rfl (.cons rfl (.cons rfl .nil)))))))
          · refine WL.gS rfl rfl rfl rfl ?_
            refine WL.gS rfl rfl rfl rfl ?_
            refine WL.gS rfl rfl rfl rfl ?_
            refine WL.gS rfl rfl rfl rfl ?_
            refine WL.gS rfl rfl rfl rfl ?_
            refine WL.gS rfl rfl rfl rfl ?_
            refine WL.y (Y.pick (b := false) rfl rfl) rfl ?_
            refine WL.ren (v' := .bool ((decide ((r71.Pos.Counts.length : Int) ≤ a1)) && (decide ((r71.Neg.Counts.length : Int) ≤ a1)))) 42 rfl (congrArg Value.bool (andF hE106)) ?_
            exact WL.nil (At.join () rfl (.cons rfl (.cons rfl (.cons rfl (.cons rfl (.cons rfl (.cons rfl .nil)))))))
        · rintro _ _ rfl
          refine (show WL _ _ _ _ _ [(1, vi a1), (2, .pointer (some ⟨p22, 0, none⟩)), (4, .pointer (some ⟨p27, 0, none⟩)), (7, vi by51), (8, .pointer (some ⟨p88, 0, none⟩)), (42, .bool ((decide ((r71.Pos.Counts.length : Int) ≤ a1)) && (decide ((r71.Neg.Counts.length : Int) ≤ a1))))] _ from ?_)
          refine WL.nil ?_
          refine At.then ?_
          rcases cnd h with ⟨hc108, h⟩ | ⟨hc108, h⟩
          · refine WC.condT' rfl hc108 ?_
            refine WC.seq ?_
            refine WC.region ?_
            refine WL.y (Y.loadAg ty27 rfl rfl (hb104.cells 0 [vi r71.Scale, vu r71.Zero, vi r71.Pos.Offset, (.slice p93 m94 c95), vi r71.Neg.Offset, (.slice p98 m99 c100)] rfl) rfl) rfl ?_
            have hf109 := hb26.st hst44 rfl
            have hf110 := hf109.st hst54 rfl
            have hf111 := hf110.st hst84 rfl
            have hf112 := hf111.st hst91 rfl
            have hf113 := hf112.st hst103 rfl
            refine WL.store (v := .agg [vi r71.Scale, vu r71.Zero, vi r71.Pos.Offset, (.slice p93 m94 c95), vi r71.Neg.Offset, (.slice p98 m99 c100)].toArray) (cells' := [vi r71.Scale, vu r71.Zero, vi r71.Pos.Offset, (.slice p93 m94 c95), vi r71.Neg.Offset, (.slice p98 m99 c100)]) ty27 rfl rfl hf113 rfl (Nat.le_of_ble_eq_true rfl) rfl rfl ?_
            intro wd114 hst115 hb116
            refine WL.y (Y.assign rfl) rfl ?_
            refine WL.nil ?_
            refine At.then ?_
            refine WC.ret ?_
            refine At.inBlockR ?_
            refine At.thenR ?_
            refine At.loopR ?_
            have h := outr1 h hn63 hk60
            refine At.joinBR ?_
            refine At.inBlockR ?_
            refine At.thenR ?_
            obtain ⟨rfl, rfl⟩ := tup2 h
            have hs117 : Stp [12, 13] (Lg.O0 A) w O89 wd114 := (Stp.trans (Stp.up hst25 rfl) (Stp.trans (Stp.up hst30 rfl) (Stp.trans (Stp.up hst44 rfl) (Stp.trans (Stp.up hst54 rfl) (Stp.trans (Stp.up hst84 rfl) (Stp.trans (Stp.up hst91 rfl) (Stp.trans (Stp.up hst103 rfl) (Stp.up hst115 rfl))))))))
            have hf118 := hf105.mono (frs_st hst115 rfl)
            have hf119 := hf97.mono (frs_st hst103 rfl)
            have hf120 := hf119.mono (frs_st hst115 rfl)
            exact At.res (.inl rfl) rfl (.cell rfl (hb116.runAg 0 [vi r71.Scale, vu r71.Zero, vi r71.Pos.Offset, (.slice p93 m94 c95), vi r71.Neg.Offset, (.slice p98 m99 c100)] ty27 rfl rfl rfl) (.tmp rfl .nil)) ⟨(.slice p93 m94 c95), (.slice p98 m99 c100), rfl, (Stp.ext hs117 rfl rfl), (Sl.outF hf118 hs117 low0), (Sl.outF hf120 hs117 low0)⟩
          · refine WC.condF' rfl hc108 ?_
            refine WC.skip ?_
            refine At.inBlock ?_
            refine At.then ?_
            refine WC.region ?_
            refine WL.y (Y.move rfl) rfl ?_
            refine WL.y (Y.add_i rfl rfl) rfl ?_
            obtain ⟨by121, hby121, h⟩ := lt1 h
            refine WL.yE (Y.assign rfl) (congrArg vi hby121.symm) rfl ?_
            refine WL.nil ?_
            exact At.round (by121, O89) j61 (Nat.lt_succ_self _) ⟨next1 h hn63, (Stp.trans (Stp.up hst54 rfl) (Stp.trans (Stp.up hst84 rfl) (Stp.trans (Stp.up hst91 rfl) (Stp.up hst103 rfl))))⟩ (.cons rfl (.cons rfl (.cons rfl (.cons rfl .nil))))
      · refine WC.condF' rfl hc66 ?_
        refine WC.exit ?_
        refine At.thenX ?_
        refine At.loopX ?_
        exact At.hitB (σ := Own) O52 ⟨brk1 h hn63, (Stp.up hst54 rfl)⟩ (.cons rfl .nil)
    · rintro O55 wd56 ⟨rfl, hst57⟩
      replace h := flowK_go hk60
      refine (show At _ _ _ [(4, .pointer (some ⟨p27, 0, none⟩))] _ from ?_)
      refine At.inBlockHit ?_
      refine At.then ?_
      refine WC.seq ?_
      refine WC.region ?_
      refine WL.y (Y.build (vals := []) (cells := [vi 0, vu 0, vi 0, .slice none 0 0, vi 0, .slice none 0 0]) (Fits.evalp rfl) (by kernel_rfl)) rfl ?_
      have hf122 := hb26.st hst44 rfl
      have hf123 := hf122.st hst57 rfl
      refine WL.store (v := .agg [vi 0, vu 0, vi 0, .slice none 0 0, vi 0, .slice none 0 0].toArray) (cells' := [vi 0, vu 0, vi 0, .slice none 0 0, vi 0, .slice none 0 0]) ty27 rfl rfl hf123 rfl (Nat.le_of_ble_eq_true rfl) rfl rfl ?_
      intro wd124 hst125 hb126
      refine WL.y (Y.assign rfl) rfl ?_
      refine WL.nil ?_
      refine At.then ?_
      refine WC.ret ?_
      obtain ⟨rfl, rfl⟩ := tup2 h
      have hs127 : Stp [12, 13] (Lg.O0 A) w O55 wd124 := (Stp.trans (Stp.up hst25 rfl) (Stp.trans (Stp.up hst30 rfl) (Stp.trans (Stp.up hst44 rfl) (Stp.trans (Stp.up hst57 rfl) (Stp.up hst125 rfl)))))
      exact At.res (.inl rfl) rfl (.cell rfl (hb126.runAg 0 [vi 0, vu 0, vi 0, .slice none 0 0, vi 0, .slice none 0 0] ty27 rfl rfl rfl) (.tmp rfl .nil)) ⟨.slice none 0 0, .slice none 0 0, rfl, (Stp.ext hs127 rfl rfl), (Or.inl ⟨rfl, rfl⟩), (Or.inl ⟨rfl, rfl⟩)⟩

end Go.Lg
