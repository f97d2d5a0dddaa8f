/- The walks of HistSides and of what it calls, printed by gen.py. -/
import Derived.Test.YtdpokdaeekanjaaLgHistP
import Derived.Test.YtdpokdaeekanjaaProg
set_option linter.unusedVariables false
namespace Go.Lg
open Go Go.Proofs
set_option maxRecDepth 100000
theorem fmix : Try.prog.follows .mixedOrders = true := by kernel_rfl
theorem ty3 : TyOk Try.prog 3 (.int .i64) 1 8 (.int .i64 0) := tyOk Try.underlying3 (by kernel_rfl)
theorem ty22 : TyOk Try.prog 22 (.int .u64) 1 8 (.int .u64 0) := tyOk Try.underlying22 (by kernel_rfl)
theorem ty23 : TyOk Try.prog 23 (.slice 22) 1 24 (.slice none 0 0) := tyOk Try.underlying23 (by kernel_rfl)
theorem ty25 : TyOk Try.prog 25 (.struct #[(Field.mk "Offset" 3 0 false "" "" 0), (Field.mk "Counts" 23 1 false "" "" 8)]) 2 32 (.agg #[(.int .i64 0), (.slice none 0 0)]) := tyOk Try.underlying25 (by kernel_rfl)
theorem ty27 : TyOk Try.prog 27 (.struct #[(Field.mk "Scale" 3 0 false "" "" 0), (Field.mk "Zero" 22 1 false "" "" 8), (Field.mk "Pos" 25 2 false "" "" 16), (Field.mk "Neg" 25 4 false "" "" 48)]) 6 80 (.agg #[(.int .i64 0), (.int .u64 0), (.int .i64 0), (.slice none 0 0), (.int .i64 0), (.slice none 0 0)]) := tyOk Try.underlying27 (by kernel_rfl)
theorem ty75 : TyOk Try.prog 75 (.array 2 25) 4 64 (.agg #[(.int .i64 0), (.slice none 0 0), (.int .i64 0), (.slice none 0 0)]) := tyOk Try.underlying75 (by kernel_rfl)
theorem ty82 : TyOk Try.prog 82 (.int .u64) 1 8 (.int .u64 0) := tyOk Try.underlying82 (by kernel_rfl)
theorem fo25_0 : FieldOk Try.prog 25 0 0 := fieldOk Try.underlying25 rfl rfl (by kernel_rfl)
theorem fo25_1 : FieldOk Try.prog 25 1 1 := fieldOk Try.underlying25 rfl rfl (by kernel_rfl)
theorem fo27_0 : FieldOk Try.prog 27 0 0 := fieldOk Try.underlying27 rfl rfl (by kernel_rfl)
theorem fo27_1 : FieldOk Try.prog 27 1 1 := fieldOk Try.underlying27 rfl rfl (by kernel_rfl)
theorem fo27_2 : FieldOk Try.prog 27 2 2 := fieldOk Try.underlying27 rfl rfl (by kernel_rfl)
theorem fo27_3 : FieldOk Try.prog 27 3 4 := fieldOk Try.underlying27 rfl rfl (by kernel_rfl)
theorem x64_58 : X64 Try.prog 58 := x64 Try.func58 (by kernel_rfl) rfl (by kernel_rfl) (by kernel_rfl)
theorem kok15 : CallOk Try.prog 15 := callOk Try.func15 (by kernel_rfl) rfl
theorem kok17 : CallOk Try.prog 17 := callOk Try.func17 (by kernel_rfl) rfl
theorem kok19 : CallOk Try.prog 19 := callOk Try.func19 (by kernel_rfl) rfl
theorem kok21 : CallOk Try.prog 21 := callOk Try.func21 (by kernel_rfl) rfl
theorem kok23 : CallOk Try.prog 23 := callOk Try.func23 (by kernel_rfl) rfl
theorem kok27 : CallOk Try.prog 27 := callOk Try.func27 (by kernel_rfl) rfl
theorem kok28 : CallOk Try.prog 28 := callOk Try.func28 (by kernel_rfl) rfl
theorem kok29 : CallOk Try.prog 29 := callOk Try.func29 (by kernel_rfl) rfl
theorem kok57 : CallOk Try.prog 57 := callOk Try.func57 (by kernel_rfl) rfl
theorem kok60 : CallOk Try.prog 60 := callOk Try.func60 (by kernel_rfl) rfl
theorem kok62 : CallOk Try.prog 62 := callOk Try.func62 (by kernel_rfl) rfl
theorem kok64 : CallOk Try.prog 64 := callOk Try.func64 (by kernel_rfl) rfl
theorem kok65 : CallOk Try.prog 65 := callOk Try.func65 (by kernel_rfl) rfl

theorem c_hist_sides {A : Nat → Prop} {v0_3 : Value} {v0_5 : Value} {a0 : api_Hist} {w : World} (hs0_3 : Sl Rep.u w A v0_3 a0.Pos.Counts) (hs0_5 : Sl Rep.u w A v0_5 a0.Neg.Counts) {r0 : List api_Side} (h : hist_sides a0 = some r0) : Rets Try.prog 57 [.agg [vi a0.Scale, vu a0.Zero, vi a0.Pos.Offset, v0_3, vi a0.Neg.Offset, v0_5].toArray] w (fun v w' => ∃ (cs0 : List Value), v = .agg (List.toArray cs0) ∧ Ext w w' ∧ Rows' rep_api_Side w' (fun k => A k ∨ w.heap.size ≤ k) cs0 r0 ∧ r0.length = 2) := by
  unfold hist_sides at h
  refine Rets.enter Try.func57 rfl rfl ?_
  have hf11 : Sl Rep.u w (imm (Lg.O0 A)) v0_3 a0.Pos.Counts := (Sl.start hs0_3)
  have hf12 : Sl Rep.u w (imm (Lg.O0 A)) v0_5 a0.Neg.Counts := (Sl.start hs0_5)
  refine (show WC _ _ _ _ [(0, .agg [vi a0.Scale, vu a0.Zero, vi a0.Pos.Offset, v0_3, vi a0.Neg.Offset, v0_5].toArray)] _ from ?_)
  refine WC.seq ?_
  refine WC.region ?_
  have hh16 := h
  obtain ⟨p13, m14, c15, rfl⟩ := hf11.shape
  have h := hh16
  have hh20 := h
  obtain ⟨p17, m18, c19, rfl⟩ := hf12.shape
  have h := hh20
  refine WL.box (O := (Lg.O0 A)) 11 [vi a0.Scale, vu a0.Zero, vi a0.Pos.Offset, (.slice p13 m14 c15), vi a0.Neg.Offset, (.slice p17 m18 c19)] rfl rfl rfl ?_
  intro p22 O23 wd24 hst25 hb21
  refine WL.alloc (O := O23) 12 [vi 0, .slice none 0 0, vi 0, .slice none 0 0] ty75 rfl rfl ?_
  intro p27 O28 wd29 hst30 hb26
  refine WL.nil ?_
  refine At.then ?_
  refine WC.seq ?_
  refine WC.region ?_
  refine WL.y (Y.fieldAddr fo27_2 rfl) rfl ?_
  have hf31 := hb21.st hst30 rfl
  refine WL.y (Y.loadAg ty25 rfl rfl (hf31.cells 2 [vi a0.Pos.Offset, (.slice p13 m14 c15)] rfl) rfl) rfl ?_
  refine WL.y (Y.fieldAddr fo27_3 rfl) rfl ?_
  refine WL.y (Y.loadAg ty25 rfl rfl (hf31.cells 4 [vi a0.Neg.Offset, (.slice p17 m18 c19)] rfl) rfl) rfl ?_
  refine WL.y (Y.build (vals := [(0, .agg [vi a0.Pos.Offset, (.slice p13 m14 c15)].toArray), (1, .agg [vi a0.Neg.Offset, (.slice p17 m18 c19)].toArray)]) (cells := [vi a0.Pos.Offset, (.slice p13 m14 c15), vi a0.Neg.Offset, (.slice p17 m18 c19)]) (Fits.evalp rfl) (by kernel_rfl)) rfl ?_
  refine WL.store (v := .agg [vi a0.Pos.Offset, (.slice p13 m14 c15), vi a0.Neg.Offset, (.slice p17 m18 c19)].toArray) (cells' := [vi a0.Pos.Offset, (.slice p13 m14 c15), vi a0.Neg.Offset, (.slice p17 m18 c19)]) ty75 rfl rfl hb26 rfl (Nat.le_of_ble_eq_true rfl) rfl rfl ?_
  intro wd32 hst33 hb34
  refine WL.nil ?_
  refine At.then ?_
  refine WC.ret ?_
  obtain rfl := some1 h
  have hs35 : Stp [12] (Lg.O0 A) w O28 wd32 := (Stp.trans (Stp.up hst25 rfl) (Stp.trans (Stp.up hst30 rfl) (Stp.up hst33 rfl)))
  have hf36 := hf11.mono (imm_st hst25 rfl rfl)
  have hf37 := hf36.mono (imm_st hst30 rfl rfl)
  have hf38 := hf37.mono (imm_st hst33 rfl rfl)
  have hf39 := hf12.mono (imm_st hst25 rfl rfl)
  have hf40 := hf39.mono (imm_st hst30 rfl rfl)
  have hf41 := hf40.mono (imm_st hst33 rfl rfl)
  exact At.res (.inl rfl) rfl (.cell rfl (hb34.runAg 0 [vi a0.Pos.Offset, (.slice p13 m14 c15), vi a0.Neg.Offset, (.slice p17 m18 c19)] ty75 rfl rfl rfl) .nil) ⟨[vi a0.Pos.Offset, (.slice p13 m14 c15), vi a0.Neg.Offset, (.slice p17 m18 c19)], rfl, (Stp.ext hs35 rfl rfl), (Rows'.outI (O' := O28) (R := rep_api_Side) ⟨[vi a0.Pos.Offset, (.slice p13 m14 c15)], [vi a0.Neg.Offset, (.slice p17 m18 c19)], rfl, ⟨[vi a0.Pos.Offset], [(.slice p13 m14 c15)], rfl, rfl, ⟨_, rfl, hf38⟩⟩, ⟨[vi a0.Neg.Offset, (.slice p17 m18 c19)], [], rfl, ⟨[vi a0.Neg.Offset], [(.slice p17 m18 c19)], rfl, rfl, ⟨_, rfl, hf41⟩⟩, rfl⟩⟩ hs35 low0 O0_A), rfl⟩

theorem c_hist_Total {A : Nat → Prop} {v0_3 : Value} {v0_5 : Value} {a0 : api_Hist} {w : World} (hs0_3 : Sl Rep.u w A v0_3 a0.Pos.Counts) (hs0_5 : Sl Rep.u w A v0_5 a0.Neg.Counts) {r0 : UInt64} {r1 : Bool} (h : hist_Total a0 = some (r0, r1)) : Rets Try.prog 17 [.agg [vi a0.Scale, vu a0.Zero, vi a0.Pos.Offset, v0_3, vi a0.Neg.Offset, v0_5].toArray] w (fun v w' => v = .tuple (List.toArray [vu r0, .bool r1]) ∧ Ext w w') := by
  unfold hist_Total at h
  refine Rets.enter Try.func17 rfl rfl ?_
  have hf11 : Sl Rep.u w (imm (Lg.O0 A)) v0_3 a0.Pos.Counts := (Sl.start hs0_3)
  have hf12 : Sl Rep.u w (imm (Lg.O0 A)) v0_5 a0.Neg.Counts := (Sl.start hs0_5)
  refine (show WC _ _ _ _ [(0, .agg [vi a0.Scale, vu a0.Zero, vi a0.Pos.Offset, v0_3, vi a0.Neg.Offset, v0_5].toArray)] _ from ?_)
  refine WC.seq ?_
  refine WC.region ?_
  have hh16 := h
  obtain ⟨p13, m14, c15, rfl⟩ := hf11.shape
  have h := hh16
  have hh20 := h
  obtain ⟨p17, m18, c19, rfl⟩ := hf12.shape
  have h := hh20
  refine WL.box (O := (Lg.O0 A)) 11 [vi a0.Scale, vu a0.Zero, vi a0.Pos.Offset, (.slice p13 m14 c15), vi a0.Neg.Offset, (.slice p17 m18 c19)] rfl rfl rfl ?_
  intro p22 O23 wd24 hst25 hb21
  refine WL.y (Y.assign (v := vu 0) rfl) rfl ?_
  refine WL.y (Y.assign rfl) rfl ?_
  refine WL.nil ?_
  refine At.then ?_
  refine WC.seq ?_
  refine WC.region ?_
  refine WL.y (Y.fieldAddr fo27_1 rfl) rfl ?_
  refine WL.y (Y.loadSc ty22 rfl rfl (hb21.cell 1 _ rfl)) rfl ?_
  refine WL.y (Y.assign rfl) rfl ?_
  refine WL.y (Y.assign (v := vu 0) rfl) rfl ?_
  refine WL.nil ?_
  refine At.then ?_
  refine WC.seq ?_
  refine WC.seq ?_
  refine WC.region ?_
  refine WL.y (Y.loadAg ty27 rfl rfl (hb21.cells 0 [vi a0.Scale, vu a0.Zero, vi a0.Pos.Offset, (.slice p13 m14 c15), vi a0.Neg.Offset, (.slice p17 m18 c19)] rfl) rfl) rfl ?_
  have hf26 := hf11.mono (imm_st hst25 rfl rfl)
  have hf27 := hf12.mono (imm_st hst25 rfl rfl)
  obtain ⟨r28, hp29, h⟩ := bnd h
  refine WL.call (vals := [.agg [vi a0.Scale, vu a0.Zero, vi a0.Pos.Offset, (.slice p13 m14 c15), vi a0.Neg.Offset, (.slice p17 m18 c19)].toArray]) kok57 rfl rfl (c_hist_sides (A := imm O23) (a0 := a0) hf26 hf27 hp29) ?_
  rintro vr35 wd34 ⟨cs30, rfl, hm33, f31, f32⟩
  obtain ⟨O36, hold37, hnew38, hst39⟩ := adoptE O23 (fun k => 1) hm33
  have hf40 := Rows'.adoptI (O := O23) f31 (fun _ hk => hk) (fun _ _ => Nat.le_refl _) hold37 hnew38
  refine WL.y (Y.move rfl) rfl ?_
  refine WL.nil ?_
  refine At.then ?_
  obtain ⟨p46, h, hk47⟩ := bnd h
  refine WC.join (σ := (UInt64 × UInt64 × Own)) (fun x w' => (x.1, x.2.1) = p46 ∧ Stp [12] O36 wd34 x.2.2 w') (fun x => [(4, vu x.1), (5, vu x.2.1)]) ?_ ?_
  · refine WC.block ?_
    obtain ⟨p59, h, hk61⟩ := flow1 h
    obtain ⟨k60, h⟩ := loop_some h
    refine WC.joinB 0 (σ := (UInt64 × UInt64 × Own)) (fun x w' => p59 = .go (x.1, x.2.1) ∧ Stp [12] O36 wd34 x.2.2 w') (fun x => [(4, vu x.1), (5, vu x.2.1)]) ?_ ?_
    · refine WC.loop (σ := (UInt64 × UInt64 × Int × Own)) (fun x k w' => loopN k (hist_Total_lp1 r28) (x.1, x.2.1, x.2.2.1) = some p59 ∧ Stp [12] O36 wd34 x.2.2.2 w') (fun x => [(4, vu x.1), (5, vu x.2.1), (14, .agg cs30.toArray), (15, vi x.2.2.1)]) (a0.Zero, 0, 0, O36) k60 (.cons rfl (.cons rfl (.cons rfl (.cons rfl .nil)))) ⟨h, (Stp.refl _ _ _)⟩ ?_
      rintro ⟨sum48, over49, x50, O51⟩ k60 wd52 ⟨h, hst53⟩
      obtain ⟨j62, q63, rfl, h, hn64⟩ := rnd1 h
      unfold hist_Total_lp1 at h
      try dsimp only at h hst53
      refine (show WC _ _ _ _ [(4, vu sum48), (5, vu over49), (14, .agg cs30.toArray), (15, vi x50)] _ from ?_)
      refine WC.seq ?_
      refine WC.region ?_
      refine WL.y (Y.lss_i rfl rfl) rfl ?_
      refine WL.nil ?_
      refine At.then ?_
      refine WC.seq ?_
      rcases cnd h with ⟨hc65, h⟩ | ⟨hc65, h⟩
      · refine WC.condT' rfl hc65 ?_
        refine WC.skip ?_
        refine At.then ?_
        refine WC.seq ?_
        refine WC.block ?_
        refine WC.seq ?_
        refine WC.region ?_
        have hf66 := Rows'.mono (imm_st hst53 rfl rfl) hf40
        obtain ⟨e67, he67, h⟩ := bnd h
        obtain ⟨cs68, hcs69, hok70⟩ := arrAt (R := rep_api_Side) (w := wd52) (A := imm O51) (cells := cs30) hf66 he67
        obtain ⟨_, _, rfl, rfl, ⟨v71, rfl, hf72⟩⟩ := hok70
        replace hcs69 : _ = [vi e67.Offset, v71] := hcs69
        refine WL.y (Y.indexArrAg ty75 ty25 rfl rfl hcs69 he67 f32) rfl ?_
        refine WL.alloc (O := O51) 12 [vi 0, .slice none 0 0] ty25 rfl rfl ?_
        intro p74 O75 wd76 hst77 hb73
        have hf78 := hf72.mono (imm_st hst77 rfl rfl)
        have hh82 := h
        obtain ⟨p79, m80, c81, rfl⟩ := hf78.shape
        have h := hh82
        refine WL.store (v := .agg [vi e67.Offset, (.slice p79 m80 c81)].toArray) (cells' := [vi e67.Offset, (.slice p79 m80 c81)]) ty25 rfl rfl hb73 rfl (Nat.le_of_ble_eq_true rfl) rfl rfl ?_
        intro wd83 hst84 hb85
        refine WL.nil ?_
        refine At.then ?_
        refine WC.seq ?_
        refine WC.region ?_
        refine WL.y (Y.fieldAddr fo25_1 rfl) rfl ?_
        refine WL.y (Y.loadSc ty23 rfl rfl (hb85.cell 1 _ rfl)) rfl ?_
        have hf86 := hf78.mono (imm_st hst84 rfl rfl)
        refine WL.y (Y.len ty23 rfl hf86) rfl ?_
        refine WL.y (Y.move rfl) rfl ?_
        refine WL.nil ?_
        refine At.then ?_
        obtain ⟨p89, h, hk90⟩ := bnd h
        refine WC.join (σ := (UInt64 × UInt64)) (fun x w' => (x.1, x.2) = p89 ∧ wd83 = w') (fun x => [(4, vu x.1), (5, vu x.2), (14, .agg cs30.toArray), (15, vi x50)]) ?_ ?_
        · refine WC.block ?_
          obtain ⟨p96, h, hk98⟩ := flow1 h
          obtain ⟨k97, h⟩ := loop_some h
          refine WC.joinB 2 (σ := (UInt64 × UInt64)) (fun x w' => p96 = .go (x.1, x.2) ∧ wd83 = w') (fun x => [(4, vu x.1), (5, vu x.2), (14, .agg cs30.toArray), (15, vi x50)]) ?_ ?_
          · refine WC.loop (σ := (UInt64 × UInt64 × Int)) (fun x k w' => loopN k (hist_Total_lp2 e67) (x.1, x.2.1, x.2.2) = some p96 ∧ wd83 = w') (fun x => [(4, vu x.1), (5, vu x.2.1), (14, .agg cs30.toArray), (15, vi x50), (19, (.slice p79 m80 c81)), (20, vi (e67.Counts.length : Int)), (21, vi x.2.2)]) (sum48, over49, 0) k97 (.cons rfl (.cons rfl (.cons rfl (.cons rfl (.cons rfl (.cons rfl (.cons rfl .nil))))))) ⟨h, rfl⟩ ?_
            rintro ⟨sum91, over92, x93⟩ k97 _ ⟨h, rfl⟩
            obtain ⟨j99, q100, rfl, h, hn101⟩ := rnd1 h
            unfold hist_Total_lp2 at h
            try dsimp only at h
            refine (show WC _ _ _ _ [(4, vu sum91), (5, vu over92), (14, .agg cs30.toArray), (15, vi x50), (19, (.slice p79 m80 c81)), (20, vi (e67.Counts.length : Int)), (21, vi x93)] _ from ?_)
            refine WC.seq ?_
            refine WC.region ?_
            refine WL.y (Y.lss_i rfl rfl) rfl ?_
            refine WL.nil ?_
            refine At.then ?_
            refine WC.seq ?_
            rcases cnd h with ⟨hc102, h⟩ | ⟨hc102, h⟩
            · refine WC.condT' rfl hc102 ?_
              refine WC.skip ?_
              refine At.then ?_
              refine WC.seq ?_
              refine WC.block ?_
              refine WC.seq ?_
              refine WC.region ?_
              obtain ⟨e103, he103, h⟩ := bnd h
              obtain ⟨b104, off112, cap111, cs110, hv105, hi106, hl107, hc108, hok109, hA113⟩ := Sl.at2 hf86 he103
              obtain rfl := hok109
              replace hc108 : CellsAt _ _ _ [vu e103] := hc108
              have hca114 := CAt.imm hc108 hA113
              refine WL.y (Y.indexAddr ty23 ty22 rfl hv105 rfl hi106 hl107) rfl ?_
              refine WL.y (Y.loadSc ty22 rfl rfl hca114.at_) rfl ?_
              refine WL.y (Y.assign rfl) rfl ?_
              refine WL.nil ?_
              refine At.then ?_
              refine WC.seq ?_
              refine WC.region ?_
              refine WL.y (Y.assign (v := vu 0) rfl) rfl ?_
              refine WL.nil ?_
              refine At.then ?_
              refine WC.seq ?_
              refine WC.region ?_
              refine WL.y (Y.move rfl) rfl ?_
              refine WL.y (Y.move rfl) rfl ?_
              refine WL.y (Y.add64 (c := 0) x64_58 (by decide) rfl rfl rfl) rfl ?_
              refine WL.y (Y.move rfl) rfl ?_
              refine WL.y (Y.extract rfl rfl) rfl ?_
              refine WL.y (Y.extract rfl rfl) rfl ?_
              obtain ⟨sum115, hsum115, h⟩ := lt1 h
              refine WL.yE (Y.assign rfl) (congrArg vu hsum115.symm) rfl ?_
              obtain ⟨carry116, hcarry116, h⟩ := lt1 h
              refine WL.yE (Y.assign rfl) (congrArg vu hcarry116.symm) rfl ?_
              refine WL.nil ?_
              refine At.then ?_
              refine WC.region ?_
              refine WL.y (Y.move rfl) rfl ?_
              refine WL.y (Y.move rfl) rfl ?_
              refine WL.y (Y.or_u rfl rfl) rfl ?_
              obtain ⟨over117, hover117, h⟩ := lt1 h
              refine WL.yE (Y.assign rfl) (congrArg vu hover117.symm) rfl ?_
              refine WL.nil ?_
              refine At.inBlock ?_
              refine At.then ?_
              refine WC.region ?_
              refine WL.y (Y.add_i rfl rfl) rfl ?_
              refine WL.y (Y.move rfl) rfl ?_
              refine WL.nil ?_
              exact At.round (sum115, over117, w64 (x93 + 1)) j99 (Nat.lt_succ_self _) ⟨next1 h hn101, rfl⟩ (.cons rfl (.cons rfl (.cons rfl (.cons rfl (.cons rfl (.cons rfl (.cons rfl .nil)))))))
            · refine WC.condF' rfl hc102 ?_
              refine WC.exit ?_
              refine At.thenX ?_
              refine At.loopX ?_
              exact At.hitB (σ := (UInt64 × UInt64)) (sum91, over92) ⟨brk1 h hn101, rfl⟩ (.cons rfl (.cons rfl (.cons rfl (.cons rfl .nil))))
          · rintro ⟨sum94, over95⟩ _ ⟨rfl, rfl⟩
            replace h := flowK_go hk98
            try dsimp only at h
            refine (show At _ _ _ [(4, vu sum94), (5, vu over95), (14, .agg cs30.toArray), (15, vi x50)] _ from ?_)
            refine At.inBlockHit ?_
            exact At.join (σ := (UInt64 × UInt64)) (sum94, over95) ⟨some1 h, rfl⟩ (.cons rfl (.cons rfl (.cons rfl (.cons rfl .nil))))
        · rintro ⟨sum87, over88⟩ _ ⟨rfl, rfl⟩
          replace h := hk90
          try dsimp only at h
          refine (show At _ _ _ [(4, vu sum87), (5, vu over88), (14, .agg cs30.toArray), (15, vi x50)] _ from ?_)
          refine At.inBlock ?_
          refine At.then ?_
          refine WC.region ?_
          refine WL.y (Y.add_i rfl rfl) rfl ?_
          refine WL.y (Y.move rfl) rfl ?_
          refine WL.nil ?_
          exact At.round (sum87, over88, w64 (x50 + 1), O75) j62 (Nat.lt_succ_self _) ⟨next1 h hn64, (Stp.trans (Stp.up hst53 rfl) (Stp.trans (Stp.up hst77 rfl) (Stp.up hst84 rfl)))⟩ (.cons rfl (.cons rfl (.cons rfl (.cons rfl .nil))))
      · refine WC.condF' rfl hc65 ?_
        refine WC.exit ?_
        refine At.thenX ?_
        refine At.loopX ?_
        exact At.hitB (σ := (UInt64 × UInt64 × Own)) (sum48, over49, O51) ⟨brk1 h hn64, (Stp.up hst53 rfl)⟩ (.cons rfl (.cons rfl .nil))
    · rintro ⟨sum54, over55, O56⟩ wd57 ⟨rfl, hst58⟩
      replace h := flowK_go hk61
      try dsimp only at h hst58
      refine (show At _ _ _ [(4, vu sum54), (5, vu over55)] _ from ?_)
      refine At.inBlockHit ?_
      exact At.join (σ := (UInt64 × UInt64 × Own)) (sum54, over55, O56) ⟨some1 h, (Stp.up hst58 rfl)⟩ (.cons rfl (.cons rfl .nil))
  · rintro ⟨sum41, over42, O43⟩ wd44 ⟨rfl, hst45⟩
    replace h := hk47
    try dsimp only at h hst45
    refine (show At _ _ _ [(4, vu sum41), (5, vu over42)] _ from ?_)
    refine At.then ?_
    refine WC.seq ?_
    refine WC.seq ?_
    refine WC.region ?_
    refine WL.y (Y.move rfl) rfl ?_
    refine WL.y (Y.neq_u (b := 0) rfl rfl) rfl ?_
    refine WL.nil ?_
    refine At.then ?_
    rcases cnd h with ⟨hc118, h⟩ | ⟨hc118, h⟩
    · refine WC.condT' rfl hc118 ?_
      refine WC.seq ?_
      refine WC.region ?_
      refine WL.y (Y.assign (v := vu 0) rfl) rfl ?_
      refine WL.y (Y.assign rfl) rfl ?_
      refine WL.nil ?_
      refine At.then ?_
      refine WC.ret ?_
      refine At.thenR ?_
      obtain ⟨rfl, rfl⟩ := tup2 h
      have hs119 : Stp [12] (Lg.O0 A) w O43 wd44 := (Stp.trans (Stp.up hst25 rfl) (Stp.trans (Stp.up hst39 rfl) (Stp.up hst45 rfl)))
      exact At.res (.inl rfl) rfl (.tmp rfl (.tmp rfl .nil)) ⟨rfl, (Stp.ext hs119 rfl rfl)⟩
    · refine WC.condF' rfl hc118 ?_
      refine WC.skip ?_
      refine At.then ?_
      refine WC.seq ?_
      refine WC.region ?_
      refine WL.y (Y.move rfl) rfl ?_
      refine WL.y (Y.assign rfl) rfl ?_
      refine WL.y (Y.assign rfl) rfl ?_
      refine WL.nil ?_
      refine At.then ?_
      refine WC.ret ?_
      obtain ⟨rfl, rfl⟩ := tup2 h
      have hs120 : Stp [12] (Lg.O0 A) w O43 wd44 := (Stp.trans (Stp.up hst25 rfl) (Stp.trans (Stp.up hst39 rfl) (Stp.up hst45 rfl)))
      exact At.res (.inl rfl) rfl (.tmp rfl (.tmp rfl .nil)) ⟨rfl, (Stp.ext hs120 rfl rfl)⟩

theorem c_hist_check {A : Nat → Prop} {v0_1 : Value} {a0 : api_Side} {w : World} (hs0_1 : Sl Rep.u w A v0_1 a0.Counts) {r0 : Int} (h : hist_check a0 = some r0) : Rets Try.prog 60 [.agg [vi a0.Offset, v0_1].toArray] w (fun v w' => v = vi r0 ∧ Ext w w') := by
  unfold hist_check at h
  refine Rets.enter Try.func60 rfl rfl ?_
  have hf11 : Sl Rep.u w (imm (Lg.O0 A)) v0_1 a0.Counts := (Sl.start hs0_1)
  refine (show WC _ _ _ _ [(0, .agg [vi a0.Offset, v0_1].toArray)] _ from ?_)
  refine WC.seq ?_
  refine WC.region ?_
  have hh15 := h
  obtain ⟨p12, m13, c14, rfl⟩ := hf11.shape
  have h := hh15
  refine WL.box (O := (Lg.O0 A)) 11 [vi a0.Offset, (.slice p12 m13 c14)] rfl rfl rfl ?_
  intro p17 O18 wd19 hst20 hb16
  refine WL.y (Y.assign rfl) rfl ?_
  refine WL.nil ?_
  refine At.then ?_
  refine WC.seq ?_
  refine WC.region ?_
  refine WL.y (Y.fieldAddr fo25_1 rfl) rfl ?_
  refine WL.y (Y.loadSc ty23 rfl rfl (hb16.cell 1 _ rfl)) rfl ?_
  have hf21 := hf11.mono (imm_st hst20 rfl rfl)
  refine WL.y (Y.len ty23 rfl hf21) rfl ?_
  obtain ⟨nv22, hnv22, h⟩ := lt1 h
  refine WL.yE (Y.assign rfl) (congrArg vi hnv22.symm) rfl ?_
  refine WL.nil ?_
  refine At.then ?_
  refine WC.seq ?_
  refine WC.block ?_
  refine WC.seq ?_
  refine WC.region ?_
  refine WL.y (Y.move rfl) rfl ?_
  refine WL.y (Y.gtr_i rfl rfl) rfl ?_
  obtain ⟨t23, ht23, h⟩ := lt1 h
  refine WL.yE (Y.assign rfl) (congrArg Value.bool ht23.symm) rfl ?_
  refine WL.nil ?_
  refine At.then ?_
  rcases cnd h with ⟨hc24, h⟩ | ⟨hc24, h⟩
  · refine WC.condT' rfl hc24 ?_
    refine WC.seq ?_
    refine WC.region ?_
    refine WL.y (Y.assign rfl) rfl ?_
    refine WL.nil ?_
    refine At.then ?_
    refine WC.ret ?_
    refine At.inBlockR ?_
    refine At.thenR ?_
    obtain rfl := some1 h
    have hs25 : Stp [] (Lg.O0 A) w O18 wd19 := (Stp.up hst20 rfl)
    exact At.res (.inl rfl) rfl (.tmp rfl .nil) ⟨rfl, (Stp.ext hs25 rfl rfl)⟩
  · refine WC.condF' rfl hc24 ?_
    refine WC.seq ?_
    refine WC.region ?_
    refine WL.y (Y.move rfl) rfl ?_
    refine WL.y (Y.eql_i rfl rfl) rfl ?_
    refine WL.y (Y.move rfl) rfl ?_
    refine WL.cut 4 (σ := Unit) (fun _ w' => wd19 = w') (fun _ => [(1, .pointer (some ⟨p17, 0, none⟩)), (3, vi nv22), (17, .bool ((decide (nv22 = 0)) && (!decide (a0.Offset = 0))))]) ?_ ?_
    · refine WL.part 13 rfl (fun hE26 => ?_) (fun hE26 => ?_)
      · refine WL.ung rfl rfl ?_
        refine WL.y (Y.fieldAddr fo25_0 rfl) rfl ?_
        refine WL.ung rfl rfl ?_
        refine WL.y (Y.loadSc ty3 rfl rfl (hb16.cell 0 _ rfl)) rfl ?_
        refine WL.ung rfl rfl ?_
        refine WL.y (Y.neq_i rfl rfl) rfl ?_
        refine WL.y (Y.pick (b := true) rfl rfl) rfl ?_
        refine WL.ren (v' := .bool ((decide (nv22 = 0)) && (!decide (a0.Offset = 0)))) 17 rfl (congrArg Value.bool (andT hE26)) ?_
        exact WL.nil (At.join () rfl (.cons rfl (.cons rfl (.cons rfl .nil))))
      · refine WL.gS rfl rfl rfl rfl ?_
        refine WL.gS rfl rfl rfl rfl ?_
        refine WL.gS rfl rfl rfl rfl ?_
        refine WL.y (Y.pick (b := false) rfl rfl) rfl ?_
        refine WL.ren (v' := .bool ((decide (nv22 = 0)) && (!decide (a0.Offset = 0)))) 17 rfl (congrArg Value.bool (andF hE26)) ?_
        exact WL.nil (At.join () rfl (.cons rfl (.cons rfl (.cons rfl .nil))))
    · rintro _ _ rfl
      refine (show WL _ _ _ _ _ [(1, .pointer (some ⟨p17, 0, none⟩)), (3, vi nv22), (17, .bool ((decide (nv22 = 0)) && (!decide (a0.Offset = 0))))] _ from ?_)
      obtain ⟨t27, ht27, h⟩ := lt1 h
      refine WL.yE (Y.assign rfl) (congrArg Value.bool ht27.symm) rfl ?_
      refine WL.nil ?_
      refine At.then ?_
      rcases cnd h with ⟨hc28, h⟩ | ⟨hc28, h⟩
      · refine WC.condT' rfl hc28 ?_
        refine WC.seq ?_
        refine WC.region ?_
        refine WL.y (Y.assign rfl) rfl ?_
        refine WL.nil ?_
        refine At.then ?_
        refine WC.ret ?_
        refine At.inBlockR ?_
        refine At.thenR ?_
        obtain rfl := some1 h
        have hs29 : Stp [] (Lg.O0 A) w O18 wd19 := (Stp.up hst20 rfl)
        exact At.res (.inl rfl) rfl (.tmp rfl .nil) ⟨rfl, (Stp.ext hs29 rfl rfl)⟩
      · refine WC.condF' rfl hc28 ?_
        refine WC.seq ?_
        refine WC.region ?_
        refine WL.y (Y.move rfl) rfl ?_
        refine WL.y (Y.eql_i rfl rfl) rfl ?_
        obtain ⟨t30, ht30, h⟩ := lt1 h
        refine WL.yE (Y.assign rfl) (congrArg Value.bool ht30.symm) rfl ?_
        refine WL.nil ?_
        refine At.then ?_
        rcases cnd h with ⟨hc31, h⟩ | ⟨hc31, h⟩
        · refine WC.condT' rfl hc31 ?_
          refine WC.seq ?_
          refine WC.region ?_
          refine WL.y (Y.assign rfl) rfl ?_
          refine WL.nil ?_
          refine At.then ?_
          refine WC.ret ?_
          refine At.inBlockR ?_
          refine At.thenR ?_
          obtain rfl := some1 h
          have hs32 : Stp [] (Lg.O0 A) w O18 wd19 := (Stp.up hst20 rfl)
          exact At.res (.inl rfl) rfl (.tmp rfl .nil) ⟨rfl, (Stp.ext hs32 rfl rfl)⟩
        · refine WC.condF' rfl hc31 ?_
          refine WC.seq ?_
          refine WC.region ?_
          refine WL.y (Y.fieldAddr fo25_1 rfl) rfl ?_
          refine WL.y (Y.loadSc ty23 rfl rfl (hb16.cell 1 _ rfl)) rfl ?_
          obtain ⟨e33, he33, h⟩ := bnd h
          obtain ⟨b34, off42, cap41, cs40, hv35, hi36, hl37, hc38, hok39, hA43⟩ := Sl.at2 hf21 he33
          obtain rfl := hok39
          replace hc38 : CellsAt _ _ _ [vu e33] := hc38
          have hca44 := CAt.imm hc38 hA43
          refine WL.y (Y.indexAddr ty23 ty22 rfl hv35 rfl hi36 hl37) rfl ?_
          refine WL.y (Y.loadSc ty22 rfl rfl hca44.at_) rfl ?_
          refine WL.y (Y.eql_u (b := 0) rfl rfl) rfl ?_
          refine WL.y (Y.move rfl) rfl ?_
          obtain ⟨p46, h, hk47⟩ := bnd h
          refine WL.cut 8 (σ := Bool) (fun x w' => x = p46 ∧ wd19 = w') (fun x => [(1, .pointer (some ⟨p17, 0, none⟩)), (3, vi nv22), (35, .bool x)]) ?_ ?_
          · rcases cnd h with ⟨hE48, h⟩ | ⟨hE48, h⟩
            · refine WL.ren 27 rfl (congrArg Value.bool hE48) ?_
              refine WL.gS rfl rfl rfl rfl ?_
              refine WL.gS rfl rfl rfl rfl ?_
              refine WL.gS rfl rfl rfl rfl ?_
              refine WL.gS rfl rfl rfl rfl ?_
              refine WL.gS rfl rfl rfl rfl ?_
              refine WL.gS rfl rfl rfl rfl ?_
              refine WL.gS rfl rfl rfl rfl ?_
              refine WL.y (Y.pick (b := true) rfl rfl) rfl ?_
              exact WL.nil (At.join (σ := Bool) true ⟨some1 h, rfl⟩ (.cons rfl (.cons rfl (.cons rfl .nil))))
            · refine WL.ren 27 rfl (congrArg Value.bool hE48) ?_
              refine WL.ung rfl rfl ?_
              refine WL.y (Y.fieldAddr fo25_1 rfl) rfl ?_
              refine WL.ung rfl rfl ?_
              refine WL.y (Y.loadSc ty23 rfl rfl (hb16.cell 1 _ rfl)) rfl ?_
              refine WL.ung rfl rfl ?_
              refine WL.y (Y.move rfl) rfl ?_
              refine WL.ung rfl rfl ?_
              refine WL.y (Y.sub_i rfl rfl) rfl ?_
              refine WL.ung rfl rfl ?_
              obtain ⟨e49, he49, h⟩ := bnd h
              obtain ⟨b50, off58, cap57, cs56, hv51, hi52, hl53, hc54, hok55, hA59⟩ := Sl.at2 hf21 he49
              obtain rfl := hok55
              replace hc54 : CellsAt _ _ _ [vu e49] := hc54
              have hca60 := CAt.imm hc54 hA59
              refine WL.y (Y.indexAddr ty23 ty22 rfl hv51 rfl hi52 hl53) rfl ?_
              refine WL.ung rfl rfl ?_
              refine WL.y (Y.loadSc ty22 rfl rfl hca60.at_) rfl ?_
              refine WL.ung rfl rfl ?_
              refine WL.y (Y.eql_u (b := 0) rfl rfl) rfl ?_
              refine WL.y (Y.pick (b := false) rfl rfl) rfl ?_
              exact WL.nil (At.join (σ := Bool) (decide (e49 = 0)) ⟨some1 h, rfl⟩ (.cons rfl (.cons rfl (.cons rfl .nil))))
          · rintro x45 _ ⟨rfl, rfl⟩
            replace h := hk47
            try dsimp only at h
            refine (show WL _ _ _ _ _ [(1, .pointer (some ⟨p17, 0, none⟩)), (3, vi nv22), (35, .bool x45)] _ from ?_)
            refine WL.y (Y.assign rfl) rfl ?_
            refine WL.nil ?_
            refine At.then ?_
            rcases cnd h with ⟨hc61, h⟩ | ⟨hc61, h⟩
            · refine WC.condT' rfl hc61 ?_
              refine WC.seq ?_
              refine WC.region ?_
              refine WL.y (Y.assign rfl) rfl ?_
              refine WL.nil ?_
              refine At.then ?_
              refine WC.ret ?_
              refine At.inBlockR ?_
              refine At.thenR ?_
              obtain rfl := some1 h
              have hs62 : Stp [] (Lg.O0 A) w O18 wd19 := (Stp.up hst20 rfl)
              exact At.res (.inl rfl) rfl (.tmp rfl .nil) ⟨rfl, (Stp.ext hs62 rfl rfl)⟩
            · refine WC.condF' rfl hc61 ?_
              refine WC.seq ?_
              refine WC.region ?_
              refine WL.y (Y.fieldAddr fo25_0 rfl) rfl ?_
              refine WL.y (Y.loadSc ty3 rfl rfl (hb16.cell 0 _ rfl)) rfl ?_
              refine WL.y (Y.lss_i rfl rfl) rfl ?_
              refine WL.y (Y.move rfl) rfl ?_
              refine WL.cut 7 (σ := Unit) (fun _ w' => wd19 = w') (fun _ => [(47, .bool ((decide (a0.Offset < (-1073741824))) || (decide (w64 (1073741824 - (w64 (nv22 - 1))) < a0.Offset))))]) ?_ ?_
              · refine WL.part 40 rfl (fun hE63 => ?_) (fun hE63 => ?_)
                · refine WL.gS rfl rfl rfl rfl ?_
                  refine WL.gS rfl rfl rfl rfl ?_
                  refine WL.gS rfl rfl rfl rfl ?_
                  refine WL.gS rfl rfl rfl rfl ?_
                  refine WL.gS rfl rfl rfl rfl ?_
                  refine WL.gS rfl rfl rfl rfl ?_
                  refine WL.y (Y.pick (b := true) rfl rfl) rfl ?_
                  refine WL.ren (v' := .bool ((decide (a0.Offset < (-1073741824))) || (decide (w64 (1073741824 - (w64 (nv22 - 1))) < a0.Offset)))) 47 rfl (congrArg Value.bool (orT hE63)) ?_
                  exact WL.nil (At.join () rfl (.cons rfl .nil))
                · refine WL.ung rfl rfl ?_
                  refine WL.y (Y.fieldAddr fo25_0 rfl) rfl ?_
                  refine WL.ung rfl rfl ?_
                  refine WL.y (Y.loadSc ty3 rfl rfl (hb16.cell 0 _ rfl)) rfl ?_
                  refine WL.ung rfl rfl ?_
                  refine WL.y (Y.move rfl) rfl ?_
                  refine WL.ung rfl rfl ?_
                  refine WL.y (Y.sub_i rfl rfl) rfl ?_
                  refine WL.ung rfl rfl ?_
                  refine WL.y (Y.sub_i rfl rfl) rfl ?_
                  refine WL.ung rfl rfl ?_
                  refine WL.y (Y.gtr_i rfl rfl) rfl ?_
                  refine WL.y (Y.pick (b := false) rfl rfl) rfl ?_
                  refine WL.ren (v' := .bool ((decide (a0.Offset < (-1073741824))) || (decide (w64 (1073741824 - (w64 (nv22 - 1))) < a0.Offset)))) 47 rfl (congrArg Value.bool (orF hE63)) ?_
                  exact WL.nil (At.join () rfl (.cons rfl .nil))
              · rintro _ _ rfl
                refine (show WL _ _ _ _ _ [(47, .bool ((decide (a0.Offset < (-1073741824))) || (decide (w64 (1073741824 - (w64 (nv22 - 1))) < a0.Offset))))] _ from ?_)
                obtain ⟨t64, ht64, h⟩ := lt1 h
                refine WL.yE (Y.assign rfl) (congrArg Value.bool ht64.symm) rfl ?_
                refine WL.nil ?_
                refine At.then ?_
                rcases cnd h with ⟨hc65, h⟩ | ⟨hc65, h⟩
                · refine WC.condT' rfl hc65 ?_
                  refine WC.seq ?_
                  refine WC.region ?_
                  refine WL.y (Y.assign rfl) rfl ?_
                  refine WL.nil ?_
                  refine At.then ?_
                  refine WC.ret ?_
                  refine At.inBlockR ?_
                  refine At.thenR ?_
                  obtain rfl := some1 h
                  have hs66 : Stp [] (Lg.O0 A) w O18 wd19 := (Stp.up hst20 rfl)
                  exact At.res (.inl rfl) rfl (.tmp rfl .nil) ⟨rfl, (Stp.ext hs66 rfl rfl)⟩
                · refine WC.condF' rfl hc65 ?_
                  refine WC.skip ?_
                  refine At.inBlock ?_
                  refine At.then ?_
                  refine WC.seq ?_
                  refine WC.region ?_
                  refine WL.y (Y.assign rfl) rfl ?_
                  refine WL.nil ?_
                  refine At.then ?_
                  refine WC.ret ?_
                  obtain rfl := some1 h
                  have hs67 : Stp [] (Lg.O0 A) w O18 wd19 := (Stp.up hst20 rfl)
                  exact At.res (.inl rfl) rfl (.tmp rfl .nil) ⟨rfl, (Stp.ext hs67 rfl rfl)⟩

theorem c_hist_Check {A : Nat → Prop} {v0_3 : Value} {v0_5 : Value} {a0 : api_Hist} {w : World} (hs0_3 : Sl Rep.u w A v0_3 a0.Pos.Counts) (hs0_5 : Sl Rep.u w A v0_5 a0.Neg.Counts) {r0 : Int} (h : hist_Check a0 = some r0) : Rets Try.prog 19 [.agg [vi a0.Scale, vu a0.Zero, vi a0.Pos.Offset, v0_3, vi a0.Neg.Offset, v0_5].toArray] w (fun v w' => v = vi r0 ∧ Ext w w') := by
  unfold hist_Check at h
  refine Rets.enter Try.func19 rfl rfl ?_
  have hf11 : Sl Rep.u w (imm (Lg.O0 A)) v0_3 a0.Pos.Counts := (Sl.start hs0_3)
  have hf12 : Sl Rep.u w (imm (Lg.O0 A)) v0_5 a0.Neg.Counts := (Sl.start hs0_5)
  refine (show WC _ _ _ _ [(0, .agg [vi a0.Scale, vu a0.Zero, vi a0.Pos.Offset, v0_3, vi a0.Neg.Offset, v0_5].toArray)] _ from ?_)
  refine WC.seq ?_
  refine WC.region ?_
  have hh16 := h
  obtain ⟨p13, m14, c15, rfl⟩ := hf11.shape
  have h := hh16
  have hh20 := h
  obtain ⟨p17, m18, c19, rfl⟩ := hf12.shape
  have h := hh20
  refine WL.box (O := (Lg.O0 A)) 11 [vi a0.Scale, vu a0.Zero, vi a0.Pos.Offset, (.slice p13 m14 c15), vi a0.Neg.Offset, (.slice p17 m18 c19)] rfl rfl rfl ?_
  intro p22 O23 wd24 hst25 hb21
  refine WL.y (Y.assign rfl) rfl ?_
  refine WL.nil ?_
  refine At.then ?_
  refine WC.seq ?_
  refine WC.seq ?_
  refine WC.region ?_
  refine WL.y (Y.fieldAddr fo27_0 rfl) rfl ?_
  refine WL.y (Y.loadSc ty3 rfl rfl (hb21.cell 0 _ rfl)) rfl ?_
  refine WL.y (Y.lss_i rfl rfl) rfl ?_
  refine WL.y (Y.move rfl) rfl ?_
  refine WL.cut 4 (σ := Unit) (fun _ w' => wd24 = w') (fun _ => [(1, .pointer (some ⟨p22, 0, none⟩)), (15, .bool ((decide (a0.Scale < (-10))) || (decide (20 < a0.Scale))))]) ?_ ?_
  · refine WL.part 11 rfl (fun hE26 => ?_) (fun hE26 => ?_)
    · refine WL.gS rfl rfl rfl rfl ?_
      refine WL.gS rfl rfl rfl rfl ?_
      refine WL.gS rfl rfl rfl rfl ?_
      refine WL.y (Y.pick (b := true) rfl rfl) rfl ?_
      refine WL.ren (v' := .bool ((decide (a0.Scale < (-10))) || (decide (20 < a0.Scale)))) 15 rfl (congrArg Value.bool (orT hE26)) ?_
      exact WL.nil (At.join () rfl (.cons rfl (.cons rfl .nil)))
    · refine WL.ung rfl rfl ?_
      refine WL.y (Y.fieldAddr fo27_0 rfl) rfl ?_
      refine WL.ung rfl rfl ?_
      refine WL.y (Y.loadSc ty3 rfl rfl (hb21.cell 0 _ rfl)) rfl ?_
      refine WL.ung rfl rfl ?_
      refine WL.y (Y.gtr_i rfl rfl) rfl ?_
      refine WL.y (Y.pick (b := false) rfl rfl) rfl ?_
      refine WL.ren (v' := .bool ((decide (a0.Scale < (-10))) || (decide (20 < a0.Scale)))) 15 rfl (congrArg Value.bool (orF hE26)) ?_
      exact WL.nil (At.join () rfl (.cons rfl (.cons rfl .nil)))
  · rintro _ _ rfl
    refine (show WL _ _ _ _ _ [(1, .pointer (some ⟨p22, 0, none⟩)), (15, .bool ((decide (a0.Scale < (-10))) || (decide (20 < a0.Scale))))] _ from ?_)
    refine WL.nil ?_
    refine At.then ?_
    rcases cnd h with ⟨hc27, h⟩ | ⟨hc27, h⟩
    · refine WC.condT' rfl hc27 ?_
      refine WC.seq ?_
      refine WC.region ?_
      refine WL.y (Y.assign rfl) rfl ?_
      refine WL.nil ?_
      refine At.then ?_
      refine WC.ret ?_
      refine At.thenR ?_
      obtain rfl := some1 h
      have hs28 : Stp [] (Lg.O0 A) w O23 wd24 := (Stp.up hst25 rfl)
      exact At.res (.inl rfl) rfl (.tmp rfl .nil) ⟨rfl, (Stp.ext hs28 rfl rfl)⟩
    · refine WC.condF' rfl hc27 ?_
      refine WC.skip ?_
      refine At.then ?_
      refine WC.seq ?_
      refine WC.seq ?_
      refine WC.region ?_
      refine WL.y (Y.loadAg ty27 rfl rfl (hb21.cells 0 [vi a0.Scale, vu a0.Zero, vi a0.Pos.Offset, (.slice p13 m14 c15), vi a0.Neg.Offset, (.slice p17 m18 c19)] rfl) rfl) rfl ?_
      have hf29 := hf11.mono (imm_st hst25 rfl rfl)
      have hf30 := hf12.mono (imm_st hst25 rfl rfl)
      obtain ⟨r31, hp32, h⟩ := bnd h
      refine WL.call (vals := [.agg [vi a0.Scale, vu a0.Zero, vi a0.Pos.Offset, (.slice p13 m14 c15), vi a0.Neg.Offset, (.slice p17 m18 c19)].toArray]) kok57 rfl rfl (c_hist_sides (A := imm O23) (a0 := a0) hf29 hf30 hp32) ?_
      rintro vr38 wd37 ⟨cs33, rfl, hm36, f34, f35⟩
      obtain ⟨O39, hold40, hnew41, hst42⟩ := adoptE O23 (fun k => 1) hm36
      have hf43 := Rows'.adoptI (O := O23) f34 (fun _ hk => hk) (fun _ _ => Nat.le_refl _) hold40 hnew41
      refine WL.y (Y.move rfl) rfl ?_
      refine WL.nil ?_
      refine At.then ?_
      obtain ⟨p47, h, hk48⟩ := flow1 h
      refine WC.join (σ := Own) (fun x w' => p47 = .go () ∧ Stp [12] O39 wd37 x w') (fun x => [(1, .pointer (some ⟨p22, 0, none⟩))]) ?_ ?_
      · refine WC.block ?_
        obtain ⟨p56, h, hk58⟩ := flow1 h
        obtain ⟨k57, h⟩ := loop_some h
        refine WC.joinB 0 (σ := Own) (fun x w' => p56 = .go () ∧ Stp [12] O39 wd37 x w') (fun x => [(1, .pointer (some ⟨p22, 0, none⟩))]) ?_ ?_
        · refine WC.loop (σ := (Int × Own)) (fun x k w' => loopN k (hist_Check_lp1 r31) x.1 = some p56 ∧ Stp [12] O39 wd37 x.2 w') (fun x => [(1, .pointer (some ⟨p22, 0, none⟩)), (17, .agg cs33.toArray), (18, vi x.1)]) (0, O39) k57 (.cons rfl (.cons rfl (.cons rfl .nil))) ⟨h, (Stp.refl _ _ _)⟩ ?_
          rintro ⟨x49, O50⟩ k57 wd51 ⟨h, hst52⟩
          obtain ⟨j59, q60, rfl, h, hn61⟩ := rnd1 h
          unfold hist_Check_lp1 at h
          try dsimp only at h hst52
          refine (show WC _ _ _ _ [(1, .pointer (some ⟨p22, 0, none⟩)), (17, .agg cs33.toArray), (18, vi x49)] _ from ?_)
          refine WC.seq ?_
          refine WC.region ?_
          refine WL.y (Y.lss_i rfl rfl) rfl ?_
          refine WL.nil ?_
          refine At.then ?_
          refine WC.seq ?_
          rcases cnd h with ⟨hc62, h⟩ | ⟨hc62, h⟩
          · refine WC.condT' rfl hc62 ?_
            refine WC.skip ?_
            refine At.then ?_
            refine WC.seq ?_
            refine WC.block ?_
            refine WC.seq ?_
            refine WC.region ?_
            have hf63 := Rows'.mono (imm_st hst52 rfl rfl) hf43
            obtain ⟨e64, he64, h⟩ := bnd h
            obtain ⟨cs65, hcs66, hok67⟩ := arrAt (R := rep_api_Side) (w := wd51) (A := imm O50) (cells := cs33) hf63 he64
            obtain ⟨_, _, rfl, rfl, ⟨v68, rfl, hf69⟩⟩ := hok67
            replace hcs66 : _ = [vi e64.Offset, v68] := hcs66
            refine WL.y (Y.indexArrAg ty75 ty25 rfl rfl hcs66 he64 f35) rfl ?_
            refine WL.alloc (O := O50) 12 [vi 0, .slice none 0 0] ty25 rfl rfl ?_
            intro p71 O72 wd73 hst74 hb70
            have hf75 := hf69.mono (imm_st hst74 rfl rfl)
            have hh79 := h
            obtain ⟨p76, m77, c78, rfl⟩ := hf75.shape
            have h := hh79
            refine WL.store (v := .agg [vi e64.Offset, (.slice p76 m77 c78)].toArray) (cells' := [vi e64.Offset, (.slice p76 m77 c78)]) ty25 rfl rfl hb70 rfl (Nat.le_of_ble_eq_true rfl) rfl rfl ?_
            intro wd80 hst81 hb82
            refine WL.nil ?_
            refine At.then ?_
            refine WC.seq ?_
            refine WC.region ?_
            refine WL.y (Y.loadAg ty25 rfl rfl (hb82.cells 0 [vi e64.Offset, (.slice p76 m77 c78)] rfl) rfl) rfl ?_
            have hf83 := hf75.mono (imm_st hst81 rfl rfl)
            obtain ⟨r84, hp85, h⟩ := bnd h
            refine WL.call (vals := [.agg [vi e64.Offset, (.slice p76 m77 c78)].toArray]) kok60 rfl rfl (c_hist_check (A := fun _ => True) (a0 := e64) (Sl.all hf83) hp85) ?_
            rintro vr88 wd87 ⟨rfl, hm86⟩
            obtain ⟨O89, hold90, hnew91, hst92⟩ := adoptE O72 (fun k => 1) hm86
            refine WL.y (Y.assign rfl) rfl ?_
            refine WL.nil ?_
            refine At.then ?_
            refine WC.seq ?_
            refine WC.region ?_
            refine WL.y (Y.move rfl) rfl ?_
            refine WL.y (Y.neq_i rfl rfl) rfl ?_
            refine WL.nil ?_
            refine At.then ?_
            rcases cnd h with ⟨hc93, h⟩ | ⟨hc93, h⟩
            · refine WC.condT' rfl hc93 ?_
              refine WC.seq ?_
              refine WC.region ?_
              refine WL.y (Y.move rfl) rfl ?_
              refine WL.y (Y.assign rfl) rfl ?_
              refine WL.nil ?_
              refine At.then ?_
              refine WC.ret ?_
              refine At.inBlockR ?_
              refine At.thenR ?_
              refine At.loopR ?_
              have h := outr1 h hn61 hk58
              refine At.joinBR ?_
              refine At.inBlockR ?_
              have h := outs1 h hk48
              refine At.joinR ?_
              refine At.thenR ?_
              obtain rfl := some1 h
              have hs94 : Stp [12] (Lg.O0 A) w O89 wd87 := (Stp.trans (Stp.up hst25 rfl) (Stp.trans (Stp.up hst42 rfl) (Stp.trans (Stp.up hst52 rfl) (Stp.trans (Stp.up hst74 rfl) (Stp.trans (Stp.up hst81 rfl) (Stp.up hst92 rfl))))))
              exact At.res (.inl rfl) rfl (.tmp rfl .nil) ⟨rfl, (Stp.ext hs94 rfl rfl)⟩
            · refine WC.condF' rfl hc93 ?_
              refine WC.skip ?_
              refine At.inBlock ?_
              refine At.then ?_
              refine WC.region ?_
              refine WL.y (Y.add_i rfl rfl) rfl ?_
              refine WL.y (Y.move rfl) rfl ?_
              refine WL.nil ?_
              exact At.round (w64 (x49 + 1), O89) j59 (Nat.lt_succ_self _) ⟨next1 h hn61, (Stp.trans (Stp.up hst52 rfl) (Stp.trans (Stp.up hst74 rfl) (Stp.trans (Stp.up hst81 rfl) (Stp.up hst92 rfl))))⟩ (.cons rfl (.cons rfl (.cons rfl .nil)))
          · refine WC.condF' rfl hc62 ?_
            refine WC.exit ?_
            refine At.thenX ?_
            refine At.loopX ?_
            exact At.hitB (σ := Own) O50 ⟨brk1 h hn61, (Stp.up hst52 rfl)⟩ (.cons rfl .nil)
        · rintro O53 wd54 ⟨rfl, hst55⟩
          replace h := flowK_go hk58
          refine (show At _ _ _ [(1, .pointer (some ⟨p22, 0, none⟩))] _ from ?_)
          refine At.inBlockHit ?_
          exact At.join (σ := Own) O53 ⟨go2 h, (Stp.up hst55 rfl)⟩ (.cons rfl .nil)
      · rintro O44 wd45 ⟨rfl, hst46⟩
        replace h := flowK_go hk48
        refine (show At _ _ _ [(1, .pointer (some ⟨p22, 0, none⟩))] _ from ?_)
        refine At.then ?_
        refine WC.seq ?_
        refine WC.seq ?_
        refine WC.region ?_
        have hf95 := hb21.st hst42 rfl
        have hf96 := hf95.st hst46 rfl
        refine WL.y (Y.loadAg ty27 rfl rfl (hf96.cells 0 [vi a0.Scale, vu a0.Zero, vi a0.Pos.Offset, (.slice p13 m14 c15), vi a0.Neg.Offset, (.slice p17 m18 c19)] rfl) rfl) rfl ?_
        have hf97 := hf29.mono (imm_st hst42 rfl rfl)
        have hf98 := hf97.mono (imm_st hst46 rfl rfl)
        have hf99 := hf30.mono (imm_st hst42 rfl rfl)
        have hf100 := hf99.mono (imm_st hst46 rfl rfl)
        obtain ⟨⟨r101, r102⟩, hp103, h⟩ := bnd h
        refine WL.call (vals := [.agg [vi a0.Scale, vu a0.Zero, vi a0.Pos.Offset, (.slice p13 m14 c15), vi a0.Neg.Offset, (.slice p17 m18 c19)].toArray]) kok17 rfl rfl (c_hist_Total (A := fun _ => True) (a0 := a0) (Sl.all hf98) (Sl.all hf100) hp103) ?_
        rintro vr106 wd105 ⟨rfl, hm104⟩
        obtain ⟨O107, hold108, hnew109, hst110⟩ := adoptE O44 (fun k => 1) hm104
        refine WL.y (Y.move rfl) rfl ?_
        refine WL.y (Y.extract rfl rfl) rfl ?_
        refine WL.y (Y.extract rfl rfl) rfl ?_
        refine WL.y (Y.assign rfl) rfl ?_
        refine WL.y (Y.assign rfl) rfl ?_
        refine WL.nil ?_
        refine At.then ?_
        refine WC.seq ?_
        refine WC.region ?_
        refine WL.y (Y.move rfl) rfl ?_
        refine WL.y (Y.not rfl) rfl ?_
        refine WL.nil ?_
        refine At.then ?_
        rcases cnd h with ⟨hc111, h⟩ | ⟨hc111, h⟩
        · refine WC.condT' rfl hc111 ?_
          refine WC.seq ?_
          refine WC.region ?_
          refine WL.y (Y.assign rfl) rfl ?_
          refine WL.nil ?_
          refine At.then ?_
          refine WC.ret ?_
          refine At.thenR ?_
          obtain rfl := some1 h
          have hs112 : Stp [12] (Lg.O0 A) w O107 wd105 := (Stp.trans (Stp.up hst25 rfl) (Stp.trans (Stp.up hst42 rfl) (Stp.trans (Stp.up hst46 rfl) (Stp.up hst110 rfl))))
          exact At.res (.inl rfl) rfl (.tmp rfl .nil) ⟨rfl, (Stp.ext hs112 rfl rfl)⟩
        · refine WC.condF' rfl hc111 ?_
          refine WC.skip ?_
          refine At.then ?_
          refine WC.seq ?_
          refine WC.region ?_
          refine WL.y (Y.assign rfl) rfl ?_
          refine WL.nil ?_
          refine At.then ?_
          refine WC.ret ?_
          obtain rfl := some1 h
          have hs113 : Stp [12] (Lg.O0 A) w O107 wd105 := (Stp.trans (Stp.up hst25 rfl) (Stp.trans (Stp.up hst42 rfl) (Stp.trans (Stp.up hst46 rfl) (Stp.up hst110 rfl))))
          exact At.res (.inl rfl) rfl (.tmp rfl .nil) ⟨rfl, (Stp.ext hs113 rfl rfl)⟩

theorem c_hist_span {A : Nat → Prop} {v0_1 : Value} {a0 : api_Side} {a1 : UInt64} {w : World} (hs0_1 : Sl Rep.u w A v0_1 a0.Counts) {r0 : Int} (h : hist_span a0 a1 = some r0) : Rets Try.prog 64 [.agg [vi a0.Offset, v0_1].toArray, vu a1] w (fun v w' => v = vi r0 ∧ Ext w w') := by
  unfold hist_span at h
  refine Rets.enter Try.func64 rfl rfl ?_
  have hf11 : Sl Rep.u w (imm (Lg.O0 A)) v0_1 a0.Counts := (Sl.start hs0_1)
  refine (show WC _ _ _ _ [(0, .agg [vi a0.Offset, v0_1].toArray), (1, vu a1)] _ from ?_)
  refine WC.seq ?_
  refine WC.region ?_
  have hh15 := h
  obtain ⟨p12, m13, c14, rfl⟩ := hf11.shape
  have h := hh15
  refine WL.box (O := (Lg.O0 A)) 11 [vi a0.Offset, (.slice p12 m13 c14)] rfl rfl rfl ?_
  intro p17 O18 wd19 hst20 hb16
  refine WL.y (Y.assign rfl) rfl ?_
  refine WL.nil ?_
  refine At.then ?_
  refine WC.seq ?_
  refine WC.region ?_
  refine WL.y (Y.fieldAddr fo25_1 rfl) rfl ?_
  refine WL.y (Y.loadSc ty23 rfl rfl (hb16.cell 1 _ rfl)) rfl ?_
  have hf21 := hf11.mono (imm_st hst20 rfl rfl)
  refine WL.y (Y.len ty23 rfl hf21) rfl ?_
  obtain ⟨nv22, hnv22, h⟩ := lt1 h
  refine WL.yE (Y.assign rfl) (congrArg vi hnv22.symm) rfl ?_
  refine WL.nil ?_
  refine At.then ?_
  refine WC.seq ?_
  refine WC.seq ?_
  refine WC.region ?_
  refine WL.y (Y.move rfl) rfl ?_
  refine WL.y (Y.eql_i rfl rfl) rfl ?_
  refine WL.nil ?_
  refine At.then ?_
  rcases cnd h with ⟨hc23, h⟩ | ⟨hc23, h⟩
  · refine WC.condT' rfl hc23 ?_
    refine WC.seq ?_
    refine WC.region ?_
    refine WL.y (Y.assign rfl) rfl ?_
    refine WL.nil ?_
    refine At.then ?_
    refine WC.ret ?_
    refine At.thenR ?_
    obtain rfl := some1 h
    have hs24 : Stp [] (Lg.O0 A) w O18 wd19 := (Stp.up hst20 rfl)
    exact At.res (.inl rfl) rfl (.tmp rfl .nil) ⟨rfl, (Stp.ext hs24 rfl rfl)⟩
  · refine WC.condF' rfl hc23 ?_
    refine WC.skip ?_
    refine At.then ?_
    refine WC.seq ?_
    refine WC.region ?_
    refine WL.y (Y.fieldAddr fo25_0 rfl) rfl ?_
    refine WL.y (Y.loadSc ty3 rfl rfl (hb16.cell 0 _ rfl)) rfl ?_
    refine WL.y (Y.move rfl) rfl ?_
    refine WL.y (Y.add_i rfl rfl) rfl ?_
    refine WL.y (Y.sub_i rfl rfl) rfl ?_
    refine WL.y (Y.move rfl) rfl ?_
    refine WL.y (Y.shr_iu rfl rfl) rfl ?_
    refine WL.y (Y.fieldAddr fo25_0 rfl) rfl ?_
    refine WL.y (Y.loadSc ty3 rfl rfl (hb16.cell 0 _ rfl)) rfl ?_
    refine WL.y (Y.move rfl) rfl ?_
    refine WL.y (Y.shr_iu rfl rfl) rfl ?_
    refine WL.y (Y.sub_i rfl rfl) rfl ?_
    refine WL.y (Y.add_i rfl rfl) rfl ?_
    obtain ⟨t25, ht25, h⟩ := lt1 h
    refine WL.yE (Y.assign rfl) (congrArg vi ht25.symm) rfl ?_
    refine WL.nil ?_
    refine At.then ?_
    refine WC.ret ?_
    obtain rfl := some1 h
    have hs26 : Stp [] (Lg.O0 A) w O18 wd19 := (Stp.up hst20 rfl)
    exact At.res (.inl rfl) rfl (.tmp rfl .nil) ⟨rfl, (Stp.ext hs26 rfl rfl)⟩

theorem c_hist_down {A : Nat → Prop} {v0_1 : Value} {a0 : api_Side} {a1 : UInt64} {w : World} (hs0_1 : Sl Rep.u w A v0_1 a0.Counts) {r0 : api_Side} (h : hist_down a0 a1 = some r0) : Rets Try.prog 62 [.agg [vi a0.Offset, v0_1].toArray, vu a1] w (fun v w' => ∃ (u0_1 : Value), v = .agg (List.toArray [vi r0.Offset, u0_1]) ∧ Ext w w' ∧ Sl Rep.u w' (fun k => w.heap.size ≤ k) u0_1 r0.Counts) := by
  unfold hist_down at h
  refine Rets.enter Try.func62 rfl rfl ?_
  have hf11 : Sl Rep.u w (imm (Lg.O0 A)) v0_1 a0.Counts := (Sl.start hs0_1)
  refine (show WC _ _ _ _ [(0, .agg [vi a0.Offset, v0_1].toArray), (1, vu a1)] _ from ?_)
  refine WC.seq ?_
  refine WC.region ?_
  have hh15 := h
  obtain ⟨p12, m13, c14, rfl⟩ := hf11.shape
  have h := hh15
  refine WL.box (O := (Lg.O0 A)) 11 [vi a0.Offset, (.slice p12 m13 c14)] rfl rfl rfl ?_
  intro p17 O18 wd19 hst20 hb16
  refine WL.alloc (O := O18) 12 [vi 0, .slice none 0 0] ty25 rfl rfl ?_
  intro p22 O23 wd24 hst25 hb21
  refine WL.nil ?_
  refine At.then ?_
  refine WC.seq ?_
  refine WC.seq ?_
  refine WC.region ?_
  refine WL.y (Y.fieldAddr fo25_1 rfl) rfl ?_
  have hf26 := hb16.st hst25 rfl
  refine WL.y (Y.loadSc ty23 rfl rfl (hf26.cell 1 _ rfl)) rfl ?_
  have hf27 := hf11.mono (imm_st hst20 rfl rfl)
  have hf28 := hf27.mono (imm_st hst25 rfl rfl)
  refine WL.y (Y.len ty23 rfl hf28) rfl ?_
  refine WL.y (Y.eql_i rfl rfl) rfl ?_
  refine WL.nil ?_
  refine At.then ?_
  rcases cnd h with ⟨hc29, h⟩ | ⟨hc29, h⟩
  · refine WC.condT' rfl hc29 ?_
    refine WC.seq ?_
    refine WC.region ?_
    refine WL.y (Y.build (vals := []) (cells := [vi 0, .slice none 0 0]) (Fits.evalp rfl) (by kernel_rfl)) rfl ?_
    refine WL.store (v := .agg [vi 0, .slice none 0 0].toArray) (cells' := [vi 0, .slice none 0 0]) ty25 rfl rfl hb21 rfl (Nat.le_of_ble_eq_true rfl) rfl rfl ?_
    intro wd30 hst31 hb32
    refine WL.nil ?_
    refine At.then ?_
    refine WC.ret ?_
    refine At.thenR ?_
    obtain rfl := some1 h
    have hs33 : Stp [12] (Lg.O0 A) w O23 wd30 := (Stp.trans (Stp.up hst20 rfl) (Stp.trans (Stp.up hst25 rfl) (Stp.up hst31 rfl)))
    exact At.res (.inl rfl) rfl (.cell rfl (hb32.runAg 0 [vi 0, .slice none 0 0] ty25 rfl rfl rfl) .nil) ⟨.slice none 0 0, rfl, (Stp.ext hs33 rfl rfl), (Or.inl ⟨rfl, rfl⟩)⟩
  · refine WC.condF' rfl hc29 ?_
    refine WC.skip ?_
    refine At.then ?_
    refine WC.seq ?_
    refine WC.drawH [13, 14, 15, 16, 17, 18, 1001, 1002] [0, 1, 2, 3, 4, 5, 6, 7, 8, 9] O23 11 fmix rfl (by kernel_rfl) ?_
    intro wd34 hst35
    refine WD.y 0 rfl (by kernel_rfl) (fun _ _ _ => Y.fieldAddr fo25_0 rfl) rfl ?_
    refine WD.y 1 rfl (by kernel_rfl) (fun wd40 O39 hst41 => have hf42 := hf26.st hst35 rfl; have hf43 := hf42.st hst41 rfl; Y.loadSc ty3 rfl rfl (hf43.cell 0 _ rfl)) rfl ?_
    refine WD.y 2 rfl (by kernel_rfl) (fun _ _ _ => Y.move rfl) rfl ?_
    refine WD.y 3 rfl (by kernel_rfl) (fun _ _ _ => Y.shr_iu rfl rfl) rfl ?_
    refine WD.y 4 rfl (by kernel_rfl) (fun wd51 O50 hst52 => have hf53 := hf26.st hst35 rfl; have hf54 := hf53.st hst52 rfl; Y.loadAg ty25 rfl rfl (hf54.cells 0 [vi a0.Offset, (.slice p12 m13 c14)] rfl) rfl) rfl ?_
    refine WD.y 5 rfl (by kernel_rfl) (fun _ _ _ => Y.move rfl) rfl ?_
    obtain ⟨p66, h, hk67⟩ := bnd h
    refine WD.join (σ := (List UInt64 × Own × Nat × Value)) (f' := 1) [9, 8, 7, 6, 5, 4, 3, 2, 1, 0] (fun x O' w' => x.1 = p66 ∧ Stp [13, 14, 15, 16, 17, 18, 1001, 1002] O23 wd34 x.2.1 w' ∧ Blk 1003 x.2.1 w' x.2.2.1 25 [vi 0, .slice none 0 0] ∧ OwnSl 1004 Rep.u 22 x.2.1 w' x.2.2.2 x.1 ∧ x.2.1 = O') (fun x => [(1, vu a1), (2, .pointer (some ⟨p17, 0, none⟩)), (4, .pointer (some ⟨p22, 0, none⟩)), (5, .pointer (some ⟨x.2.2.1, 0, none⟩)), (21, .agg [vi (shrI a0.Offset a1.toNat), x.2.2.2].toArray)]) (fun hJ68 => ?_) ?_
    · refine WD.heavy2 6 9 rfl rfl (by kernel_rfl) ?_ ?_
      · have hf69 := hf28.mono (imm_st hst35 rfl rfl)
        obtain ⟨r70, hp71, h⟩ := bnd h
        refine WL.call (vals := [.agg [vi a0.Offset, (.slice p12 m13 c14)].toArray, vu a1]) kok64 rfl rfl (c_hist_span (A := fun _ => True) (a0 := a0) (Sl.all hf69) hp71) ?_
        rintro vr74 wd73 ⟨rfl, hm72⟩
        obtain ⟨O75, hold76, hnew77, hst78⟩ := adoptE O23 (fun k => 1) hm72
        refine WL.nil ?_
        refine At.dq (Stp.up hst78 rfl) ?_
        obtain ⟨p87, h, hk88⟩ := bnd h
        refine WD.join (σ := (List UInt64 × Own × Nat × Value)) (f' := 1) [9, 8, 7, 6, 5, 4, 3, 2, 1, 0] (fun x O' w' => x.1 = p87 ∧ Stp [13, 14, 15, 16] O75 wd73 x.2.1 w' ∧ Blk 1001 x.2.1 w' x.2.2.1 25 [vi 0, .slice none 0 0] ∧ OwnSl 1002 Rep.u 22 x.2.1 w' x.2.2.2 x.1 ∧ x.2.1 = O') (fun x => [(1, vu a1), (2, .pointer (some ⟨p17, 0, none⟩)), (4, .pointer (some ⟨p22, 0, none⟩)), (5, .pointer (some ⟨x.2.2.1, 0, none⟩)), (21, .agg [vi (shrI a0.Offset a1.toNat), x.2.2.2].toArray)]) (fun hJ89 => ?_) ?_
        · refine WD.heavy2 7 9 rfl rfl (by kernel_rfl) ?_ ?_
          · obtain ⟨t90, ht90, h⟩ := bnd h
            refine WL.make (O := O75) (R := Rep.u) (zx := (0 : UInt64)) 13 (by decide) ty23 ty22 rfl (by decide) (by decide) rfl rfl (fun _ _ => rfl) ht90 rfl ?_
            intro v91 O93 wd94 hst95 ho92
            refine WL.nil ?_
            refine At.dq (Stp.up hst95 rfl) ?_
            have hh99 := h
            obtain ⟨p96, m97, c98, rfl⟩ := ho92.shape
            have h := hh99
            refine WD.y 8 rfl (by kernel_rfl) (fun _ _ _ => Y.build (vals := [(0, vi (shrI a0.Offset a1.toNat)), (1, (.slice p96 m97 c98))]) (cells := [vi (shrI a0.Offset a1.toNat), (.slice p96 m97 c98)]) (Fits.evalp rfl) (by kernel_rfl)) rfl ?_
            refine WD.heavy 9 rfl (by kernel_rfl) ?_
            refine WL.alloc (O := O93) 14 [vi 0, .slice none 0 0] ty25 rfl rfl ?_
            intro p104 O105 wd106 hst107 hb103
            refine WL.nil ?_
            refine At.dq (Stp.up hst107 rfl) ?_
            obtain ⟨O108, hst109, hb110⟩ := Blk.rlb 1001 rfl hb103
            have hf111 := ho92.st hst107 rfl rfl rfl
            have hf112 := hf111.st hst109 rfl rfl rfl
            obtain ⟨O113, hst114, ho115⟩ := OwnSl.rlb 1002 rfl hf112
            have hf116 := hb110.st hst114 rfl
            refine WD.own (Stp.trans (Stp.up hst109 rfl) (Stp.up hst114 rfl)) ?_
            refine WD.perm _ [9, 8, 7, 6, 5, 4, 3, 2, 1, 0] (by kernel_rfl) ?_
            exact hJ89 (t90, O113, p104, (.slice p96 m97 c98)) _ _ _ ⟨some1 h, (Stp.trans (Stp.up hst95 rfl) (Stp.trans (Stp.up hst107 rfl) (Stp.trans (Stp.up hst109 rfl) (Stp.up hst114 rfl)))), hf116, ho115, rfl⟩ (.cons rfl (.cons rfl (.cons rfl (.cons rfl (.cons rfl .nil)))))
          · try simp only [Option.bind_assoc, Option.bind_some] at h
            refine WL.alloc (O := O75) 15 [vi 0, .slice none 0 0] ty25 rfl rfl ?_
            intro p118 O119 wd120 hst121 hb117
            refine WL.nil ?_
            refine At.dq (Stp.up hst121 rfl) ?_
            refine WD.heavy 7 rfl (by kernel_rfl) ?_
            obtain ⟨t122, ht122, h⟩ := bnd h
            refine WL.make (O := O119) (R := Rep.u) (zx := (0 : UInt64)) 16 (by decide) ty23 ty22 rfl (by decide) (by decide) rfl rfl (fun _ _ => rfl) ht122 rfl ?_
            intro v123 O125 wd126 hst127 ho124
            refine WL.nil ?_
            refine At.dq (Stp.up hst127 rfl) ?_
            have hh131 := h
            obtain ⟨p128, m129, c130, rfl⟩ := ho124.shape
            have h := hh131
            refine WD.y 8 rfl (by kernel_rfl) (fun _ _ _ => Y.build (vals := [(0, vi (shrI a0.Offset a1.toNat)), (1, (.slice p128 m129 c130))]) (cells := [vi (shrI a0.Offset a1.toNat), (.slice p128 m129 c130)]) (Fits.evalp rfl) (by kernel_rfl)) rfl ?_
            have hf135 := hb117.st hst127 rfl
            obtain ⟨O136, hst137, hb138⟩ := Blk.rlb 1001 rfl hf135
            have hf139 := ho124.st hst137 rfl rfl rfl
            obtain ⟨O140, hst141, ho142⟩ := OwnSl.rlb 1002 rfl hf139
            have hf143 := hb138.st hst141 rfl
            refine WD.own (Stp.trans (Stp.up hst137 rfl) (Stp.up hst141 rfl)) ?_
            refine WD.perm _ [9, 8, 7, 6, 5, 4, 3, 2, 1, 0] (by kernel_rfl) ?_
            exact hJ89 (t122, O140, p118, (.slice p128 m129 c130)) _ _ _ ⟨some1 h, (Stp.trans (Stp.up hst121 rfl) (Stp.trans (Stp.up hst127 rfl) (Stp.trans (Stp.up hst137 rfl) (Stp.up hst141 rfl)))), hf143, ho142, rfl⟩ (.cons rfl (.cons rfl (.cons rfl (.cons rfl (.cons rfl .nil)))))
        · rintro ⟨x81, O84, b79, v82⟩ _ wd85 ⟨rfl, hst86, hb80, hf83, rfl⟩
          replace h := hk88
          try dsimp only at h hst86 hb80 hf83
          refine (show WD _ _ _ _ _ _ _ _ [(1, vu a1), (2, .pointer (some ⟨p17, 0, none⟩)), (4, .pointer (some ⟨p22, 0, none⟩)), (5, .pointer (some ⟨b79, 0, none⟩)), (21, .agg [vi (shrI a0.Offset a1.toNat), v82].toArray)] _ _ from ?_)
          obtain ⟨O144, hst145, hb146⟩ := Blk.rlb 1003 rfl hb80
          have hf147 := hf83.st hst145 rfl rfl rfl
          obtain ⟨O148, hst149, ho150⟩ := OwnSl.rlb 1004 rfl hf147
          have hf151 := hb146.st hst149 rfl
          refine WD.own (Stp.trans (Stp.up hst145 rfl) (Stp.up hst149 rfl)) ?_
          refine WD.perm _ [9, 8, 7, 6, 5, 4, 3, 2, 1, 0] (by kernel_rfl) ?_
          exact hJ68 (x81, O148, b79, v82) _ _ _ ⟨some1 h, (Stp.trans (Stp.up hst78 rfl) (Stp.trans (Stp.up hst86 rfl) (Stp.trans (Stp.up hst145 rfl) (Stp.up hst149 rfl)))), hf151, ho150, rfl⟩ (.cons rfl (.cons rfl (.cons rfl (.cons rfl (.cons rfl .nil)))))
      · try simp only [Option.bind_assoc, Option.bind_some] at h
        refine WL.alloc (O := O23) 17 [vi 0, .slice none 0 0] ty25 rfl rfl ?_
        intro p153 O154 wd155 hst156 hb152
        refine WL.nil ?_
        refine At.dq (Stp.up hst156 rfl) ?_
        refine WD.heavy 6 rfl (by kernel_rfl) ?_
        have hf157 := hf28.mono (imm_st hst35 rfl rfl)
        have hf158 := hf157.mono (imm_st hst156 rfl rfl)
        obtain ⟨r159, hp160, h⟩ := bnd h
        refine WL.call (vals := [.agg [vi a0.Offset, (.slice p12 m13 c14)].toArray, vu a1]) kok64 rfl rfl (c_hist_span (A := fun _ => True) (a0 := a0) (Sl.all hf158) hp160) ?_
        rintro vr163 wd162 ⟨rfl, hm161⟩
        obtain ⟨O164, hold165, hnew166, hst167⟩ := adoptE O154 (fun k => 1) hm161
        refine WL.nil ?_
        refine At.dq (Stp.up hst167 rfl) ?_
        refine WD.heavy 7 rfl (by kernel_rfl) ?_
        obtain ⟨t168, ht168, h⟩ := bnd h
        refine WL.make (O := O164) (R := Rep.u) (zx := (0 : UInt64)) 18 (by decide) ty23 ty22 rfl (by decide) (by decide) rfl rfl (fun _ _ => rfl) ht168 rfl ?_
        intro v169 O171 wd172 hst173 ho170
        refine WL.nil ?_
        refine At.dq (Stp.up hst173 rfl) ?_
        have hh177 := h
        obtain ⟨p174, m175, c176, rfl⟩ := ho170.shape
        have h := hh177
        refine WD.y 8 rfl (by kernel_rfl) (fun _ _ _ => Y.build (vals := [(0, vi (shrI a0.Offset a1.toNat)), (1, (.slice p174 m175 c176))]) (cells := [vi (shrI a0.Offset a1.toNat), (.slice p174 m175 c176)]) (Fits.evalp rfl) (by kernel_rfl)) rfl ?_
        have hf181 := hb152.st hst167 rfl
        have hf182 := hf181.st hst173 rfl
        obtain ⟨O183, hst184, hb185⟩ := Blk.rlb 1003 rfl hf182
        have hf186 := ho170.st hst184 rfl rfl rfl
        obtain ⟨O187, hst188, ho189⟩ := OwnSl.rlb 1004 rfl hf186
        have hf190 := hb185.st hst188 rfl
        refine WD.own (Stp.trans (Stp.up hst184 rfl) (Stp.up hst188 rfl)) ?_
        refine WD.perm _ [9, 8, 7, 6, 5, 4, 3, 2, 1, 0] (by kernel_rfl) ?_
        exact hJ68 (t168, O187, p153, (.slice p174 m175 c176)) _ _ _ ⟨some1 h, (Stp.trans (Stp.up hst156 rfl) (Stp.trans (Stp.up hst167 rfl) (Stp.trans (Stp.up hst173 rfl) (Stp.trans (Stp.up hst184 rfl) (Stp.up hst188 rfl))))), hf190, ho189, rfl⟩ (.cons rfl (.cons rfl (.cons rfl (.cons rfl (.cons rfl .nil)))))
    · rintro ⟨x60, O63, b58, v61⟩ _ wd64 ⟨rfl, hst65, hb59, hf62, rfl⟩
      replace h := hk67
      try dsimp only at h hst65 hb59 hf62
      refine (show WD _ _ _ _ _ _ _ _ [(1, vu a1), (2, .pointer (some ⟨p17, 0, none⟩)), (4, .pointer (some ⟨p22, 0, none⟩)), (5, .pointer (some ⟨b58, 0, none⟩)), (21, .agg [vi (shrI a0.Offset a1.toNat), v61].toArray)] _ _ from ?_)
      refine WD.phase [1003] [0, 1, 2, 3, 4, 5, 6, 7, 8, 9, 10] (by kernel_rfl) (by kernel_rfl) ?_
      refine WD.heavy 10 rfl (by kernel_rfl) ?_
      have hh194 := h
      obtain ⟨p191, m192, c193, rfl⟩ := hf62.shape
      have h := hh194
      refine WL.store (v := .agg [vi (shrI a0.Offset a1.toNat), (.slice p191 m192 c193)].toArray) (cells' := [vi (shrI a0.Offset a1.toNat), (.slice p191 m192 c193)]) ty25 rfl rfl hb59 rfl (Nat.le_of_ble_eq_true rfl) rfl rfl ?_
      intro wd195 hst196 hb197
      refine WL.nil ?_
      refine At.dq (Stp.up hst196 rfl) ?_
      refine WD.done_ (by kernel_rfl) ?_
      refine At.then ?_
      refine WC.seq ?_
      refine WC.seq ?_
      refine WC.region ?_
      refine WL.y (Y.fieldAddr fo25_1 rfl) rfl ?_
      have hf198 := hf26.st hst35 rfl
      have hf199 := hf198.st hst65 rfl
      have hf200 := hf199.st hst196 rfl
      refine WL.y (Y.loadSc ty23 rfl rfl (hf200.cell 1 _ rfl)) rfl ?_
      have hf201 := hf28.mono (imm_st hst35 rfl rfl)
      have hf202 := hf201.mono (imm_st hst65 rfl rfl)
      have hf203 := hf202.mono (imm_st hst196 rfl rfl)
      refine WL.y (Y.len ty23 rfl hf203) rfl ?_
      refine WL.y (Y.move rfl) rfl ?_
      refine WL.nil ?_
      refine At.then ?_
      refine WC.block ?_
      obtain ⟨p217, h, hk219⟩ := flow1 h
      obtain ⟨k218, h⟩ := loop_some h
      refine WC.joinB 0 (σ := (List UInt64 × Own)) (fun x w' => p217 = .go x.1 ∧ Stp [1004, 1005] O63 wd195 x.2 w' ∧ OwnSl 1006 Rep.u 22 x.2 w' (.slice p191 m192 c193) x.1) (fun x => [(4, .pointer (some ⟨p22, 0, none⟩)), (5, .pointer (some ⟨b58, 0, none⟩))]) ?_ ?_
      · have hf220 := hf62.st hst196 rfl rfl rfl
        obtain ⟨O221, hst222, ho223⟩ := OwnSl.rlb 1005 rfl hf220
        refine WC.loop (σ := (List UInt64 × Int × Own)) (fun x k w' => loopN k (hist_down_lp1 a0 a1) (x.1, x.2.1) = some p217 ∧ Stp [1004, 1005] O63 wd195 x.2.2 w' ∧ OwnSl 1005 Rep.u 22 x.2.2 w' (.slice p191 m192 c193) x.1) (fun x => [(1, vu a1), (2, .pointer (some ⟨p17, 0, none⟩)), (4, .pointer (some ⟨p22, 0, none⟩)), (5, .pointer (some ⟨b58, 0, none⟩)), (23, (.slice p12 m13 c14)), (24, vi (a0.Counts.length : Int)), (25, vi x.2.1)]) (x60, 0, O221) k218 (.cons rfl (.cons rfl (.cons rfl (.cons rfl (.cons rfl (.cons rfl (.cons rfl .nil))))))) ⟨h, (Stp.up hst222 rfl), ho223⟩ ?_
        rintro ⟨c204, x207, O208⟩ k218 wd209 ⟨h, hst210, hf206⟩
        obtain ⟨j224, q225, rfl, h, hn226⟩ := rnd1 h
        unfold hist_down_lp1 at h
        try dsimp only at h hst210 hf206
        refine (show WC _ _ _ _ [(1, vu a1), (2, .pointer (some ⟨p17, 0, none⟩)), (4, .pointer (some ⟨p22, 0, none⟩)), (5, .pointer (some ⟨b58, 0, none⟩)), (23, (.slice p12 m13 c14)), (24, vi (a0.Counts.length : Int)), (25, vi x207)] _ from ?_)
        refine WC.seq ?_
        refine WC.region ?_
        refine WL.y (Y.lss_i rfl rfl) rfl ?_
        refine WL.nil ?_
        refine At.then ?_
        refine WC.seq ?_
        rcases cnd h with ⟨hc227, h⟩ | ⟨hc227, h⟩
        · refine WC.condT' rfl hc227 ?_
          refine WC.skip ?_
          refine At.then ?_
          refine WC.seq ?_
          refine WC.block ?_
          refine WC.seq ?_
          refine WC.region ?_
          refine WL.y (Y.move rfl) rfl ?_
          obtain ⟨e228, he228, h⟩ := bnd h
          have hf237 := hf203.mono (imm_st hst210 rfl rfl)
          obtain ⟨b229, off238, cap236, cs235, hv230, hi231, hl232, hc233, hok234, hA239⟩ := Sl.at2 hf237 he228
          obtain rfl := hok234
          replace hc233 : CellsAt _ _ _ [vu e228] := hc233
          have hca240 := CAt.imm hc233 hA239
          refine WL.y (Y.indexAddr ty23 ty22 rfl hv230 rfl hi231 hl232) rfl ?_
          refine WL.y (Y.loadSc ty22 rfl rfl hca240.at_) rfl ?_
          refine WL.y (Y.assign rfl) rfl ?_
          refine WL.y (Y.assign rfl) rfl ?_
          refine WL.nil ?_
          refine At.then ?_
          refine WC.region ?_
          refine WL.y (Y.fieldAddr fo25_1 rfl) rfl ?_
          have hf241 := hb197.st hst210 rfl
          refine WL.y (Y.loadSc ty23 rfl rfl (hf241.cell 1 _ rfl)) rfl ?_
          refine WL.y (Y.fieldAddr fo25_0 rfl) rfl ?_
          have hf242 := hf200.st hst210 rfl
          refine WL.y (Y.loadSc ty3 rfl rfl (hf242.cell 0 _ rfl)) rfl ?_
          refine WL.y (Y.move rfl) rfl ?_
          refine WL.y (Y.add_i rfl rfl) rfl ?_
          refine WL.y (Y.move rfl) rfl ?_
          refine WL.y (Y.shr_iu rfl rfl) rfl ?_
          refine WL.y (Y.fieldAddr fo25_0 rfl) rfl ?_
          refine WL.y (Y.loadSc ty3 rfl rfl (hf241.cell 0 _ rfl)) rfl ?_
          refine WL.y (Y.sub_i rfl rfl) rfl ?_
          obtain ⟨e243, he243, h⟩ := bnd h
          obtain ⟨b244, cap251, cs250, hv245, hi246, hl247, hc248, hok249⟩ := OwnSl.at hf206 he243
          obtain rfl := hok249
          replace hc248 : CellsAt _ _ _ [vu e243] := hc248
          have hca252 := CAt.own hf206 hv245 hc248
          refine WL.y (Y.indexAddr ty23 ty22 rfl hv245 rfl hi246 hl247) rfl ?_
          refine WL.y (Y.loadSc ty22 rfl rfl hca252.at_) rfl ?_
          refine WL.y (Y.move rfl) rfl ?_
          refine WL.y (Y.add_u rfl rfl) rfl ?_
          obtain ⟨e253, he253, h⟩ := bnd h
          obtain ⟨b254, cap261, cs260, hv255, hi256, hl257, hc258, hok259⟩ := OwnSl.at hf206 he253
          obtain rfl := hok259
          replace hc258 : CellsAt _ _ _ [vu e253] := hc258
          have hca262 := CAt.own hf206 hv255 hc258
          refine WL.y (Y.indexAddr ty23 ty22 rfl hv255 rfl hi256 hl257) rfl ?_
          obtain ⟨t263, ht263, h⟩ := lt1 h
          refine WL.ren 44 rfl (congrArg vu ht263.symm) ?_
          obtain ⟨xs264, hxs264, h⟩ := bnd h
          refine WL.storeOwn (by decide) ty22 rfl rfl rfl hf206 hv255 hxs264 ?_
          intro wd265 hst266 ho267
          refine WL.nil ?_
          refine At.inBlock ?_
          refine At.then ?_
          refine WC.region ?_
          refine WL.y (Y.add_i rfl rfl) rfl ?_
          refine WL.y (Y.move rfl) rfl ?_
          refine WL.nil ?_
          exact At.round (xs264, w64 (x207 + 1), O208) j224 (Nat.lt_succ_self _) ⟨next1 h hn226, (Stp.trans (Stp.up hst210 rfl) (Stp.up hst266 rfl)), ho267⟩ (.cons rfl (.cons rfl (.cons rfl (.cons rfl (.cons rfl (.cons rfl (.cons rfl .nil)))))))
        · refine WC.condF' rfl hc227 ?_
          refine WC.exit ?_
          refine At.thenX ?_
          refine At.loopX ?_
          obtain ⟨O268, hst269, ho270⟩ := OwnSl.rlb 1006 rfl hf206
          exact At.hitB (σ := (List UInt64 × Own)) (c204, O268) ⟨brk1 h hn226, (Stp.trans (Stp.up hst210 rfl) (Stp.up hst269 rfl)), ho270⟩ (.cons rfl (.cons rfl .nil))
      · rintro ⟨c211, O214⟩ wd215 ⟨rfl, hst216, hf213⟩
        replace h := flowK_go hk219
        try dsimp only at h hst216 hf213
        refine (show At _ _ _ [(4, .pointer (some ⟨p22, 0, none⟩)), (5, .pointer (some ⟨b58, 0, none⟩))] _ from ?_)
        refine At.inBlockHit ?_
        refine At.then ?_
        refine WC.seq ?_
        refine WC.region ?_
        have hf271 := hb197.st hst216 rfl
        refine WL.y (Y.loadAg ty25 rfl rfl (hf271.cells 0 [vi (shrI a0.Offset a1.toNat), (.slice p191 m192 c193)] rfl) rfl) rfl ?_
        have hf272 := hb21.st hst35 rfl
        have hf273 := hf272.st hst65 rfl
        have hf274 := hf273.st hst196 rfl
        have hf275 := hf274.st hst216 rfl
        refine WL.store (v := .agg [vi (shrI a0.Offset a1.toNat), (.slice p191 m192 c193)].toArray) (cells' := [vi (shrI a0.Offset a1.toNat), (.slice p191 m192 c193)]) ty25 rfl rfl hf275 rfl (Nat.le_of_ble_eq_true rfl) rfl rfl ?_
        intro wd276 hst277 hb278
        refine WL.nil ?_
        refine At.then ?_
        refine WC.ret ?_
        obtain rfl := some1 h
        have hf279 := hf213.st hst277 rfl rfl rfl
        obtain ⟨O280, hst281, hf282⟩ := OwnSl.giveF rfl Flat.u hf279
        have hs283 : Stp [12, 13, 14, 15, 16, 17, 18, 1001, 1002, 1003, 1004, 1005, 1006] (Lg.O0 A) w O280 wd276 := (Stp.trans (Stp.up hst20 rfl) (Stp.trans (Stp.up hst25 rfl) (Stp.trans (Stp.up hst35 rfl) (Stp.trans (Stp.up hst65 rfl) (Stp.trans (Stp.up hst196 rfl) (Stp.trans (Stp.up hst216 rfl) (Stp.trans (Stp.up hst277 rfl) (Stp.up hst281 rfl))))))))
        have hf284 := hb278.st hst281 rfl
        exact At.res (.inl rfl) rfl (.cell rfl (hf284.runAg 0 [vi (shrI a0.Offset a1.toNat), (.slice p191 m192 c193)] ty25 rfl rfl rfl) .nil) ⟨(.slice p191 m192 c193), rfl, (Stp.ext hs283 rfl rfl), (Sl.outF hf282 hs283 low0)⟩

theorem c_hist_Down {A : Nat → Prop} {v0_3 : Value} {v0_5 : Value} {a0 : api_Hist} {a1 : Int} {w : World} (hs0_3 : Sl Rep.u w A v0_3 a0.Pos.Counts) (hs0_5 : Sl Rep.u w A v0_5 a0.Neg.Counts) {r0 : api_Hist} {r1 : Int} (h : hist_Down a0 a1 = some (r0, r1)) : Rets Try.prog 21 [.agg [vi a0.Scale, vu a0.Zero, vi a0.Pos.Offset, v0_3, vi a0.Neg.Offset, v0_5].toArray, vi a1] w (fun v w' => ∃ (u0_3 : Value) (u0_5 : Value), v = .tuple (List.toArray [.agg (List.toArray [vi r0.Scale, vu r0.Zero, vi r0.Pos.Offset, u0_3, vi r0.Neg.Offset, u0_5]), vi r1]) ∧ Ext w w' ∧ Sl Rep.u w' (fun k => w.heap.size ≤ k) u0_3 r0.Pos.Counts ∧ Sl Rep.u w' (fun k => w.heap.size ≤ k) u0_5 r0.Neg.Counts) := by
  unfold hist_Down at h
  refine Rets.enter Try.func21 rfl rfl ?_
  have hf11 : Sl Rep.u w (imm (Lg.O0 A)) v0_3 a0.Pos.Counts := (Sl.start hs0_3)
  have hf12 : Sl Rep.u w (imm (Lg.O0 A)) v0_5 a0.Neg.Counts := (Sl.start hs0_5)
  refine (show WC _ _ _ _ [(0, .agg [vi a0.Scale, vu a0.Zero, vi a0.Pos.Offset, v0_3, vi a0.Neg.Offset, v0_5].toArray), (1, vi a1)] _ from ?_)
  refine WC.seq ?_
  refine WC.region ?_
  have hh16 := h
  obtain ⟨p13, m14, c15, rfl⟩ := hf11.shape
  have h := hh16
  have hh20 := h
  obtain ⟨p17, m18, c19, rfl⟩ := hf12.shape
  have h := hh20
  refine WL.box (O := (Lg.O0 A)) 11 [vi a0.Scale, vu a0.Zero, vi a0.Pos.Offset, (.slice p13 m14 c15), vi a0.Neg.Offset, (.slice p17 m18 c19)] rfl rfl rfl ?_
  intro p22 O23 wd24 hst25 hb21
  refine WL.alloc (O := O23) 12 [vi 0, vu 0, vi 0, .slice none 0 0, vi 0, .slice none 0 0] ty27 rfl rfl ?_
  intro p27 O28 wd29 hst30 hb26
  refine WL.y (Y.assign rfl) rfl ?_
  refine WL.nil ?_
  refine At.then ?_
  refine WC.seq ?_
  refine WC.seq ?_
  refine WC.region ?_
  have hf31 := hb21.st hst30 rfl
  refine WL.y (Y.loadAg ty27 rfl rfl (hf31.cells 0 [vi a0.Scale, vu a0.Zero, vi a0.Pos.Offset, (.slice p13 m14 c15), vi a0.Neg.Offset, (.slice p17 m18 c19)] rfl) rfl) rfl ?_
  have hf32 := hf11.mono (imm_st hst25 rfl rfl)
  have hf33 := hf32.mono (imm_st hst30 rfl rfl)
  have hf34 := hf12.mono (imm_st hst25 rfl rfl)
  have hf35 := hf34.mono (imm_st hst30 rfl rfl)
  obtain ⟨r36, hp37, h⟩ := bnd h
  refine WL.call (vals := [.agg [vi a0.Scale, vu a0.Zero, vi a0.Pos.Offset, (.slice p13 m14 c15), vi a0.Neg.Offset, (.slice p17 m18 c19)].toArray]) kok19 rfl rfl (c_hist_Check (A := fun _ => True) (a0 := a0) (Sl.all hf33) (Sl.all hf35) hp37) ?_
  rintro vr40 wd39 ⟨rfl, hm38⟩
  obtain ⟨O41, hold42, hnew43, hst44⟩ := adoptE O28 (fun k => 1) hm38
  refine WL.y (Y.assign rfl) rfl ?_
  refine WL.nil ?_
  refine At.then ?_
  refine WC.seq ?_
  refine WC.region ?_
  refine WL.y (Y.move rfl) rfl ?_
  refine WL.y (Y.neq_i rfl rfl) rfl ?_
  refine WL.nil ?_
  refine At.then ?_
  rcases cnd h with ⟨hc45, h⟩ | ⟨hc45, h⟩
  · refine WC.condT' rfl hc45 ?_
    refine WC.seq ?_
    refine WC.region ?_
    refine WL.y (Y.build (vals := []) (cells := [vi 0, vu 0, vi 0, .slice none 0 0, vi 0, .slice none 0 0]) (Fits.evalp rfl) (by kernel_rfl)) rfl ?_
    refine WL.y (Y.move rfl) rfl ?_
    have hf46 := hb26.st hst44 rfl
    refine WL.store (v := .agg [vi 0, vu 0, vi 0, .slice none 0 0, vi 0, .slice none 0 0].toArray) (cells' := [vi 0, vu 0, vi 0, .slice none 0 0, vi 0, .slice none 0 0]) ty27 rfl rfl hf46 rfl (Nat.le_of_ble_eq_true rfl) rfl rfl ?_
    intro wd47 hst48 hb49
    refine WL.y (Y.assign rfl) rfl ?_
    refine WL.nil ?_
    refine At.then ?_
    refine WC.ret ?_
    refine At.thenR ?_
    obtain ⟨rfl, rfl⟩ := tup2 h
    have hs50 : Stp [12] (Lg.O0 A) w O41 wd47 := (Stp.trans (Stp.up hst25 rfl) (Stp.trans (Stp.up hst30 rfl) (Stp.trans (Stp.up hst44 rfl) (Stp.up hst48 rfl))))
    exact At.res (.inl rfl) rfl (.cell rfl (hb49.runAg 0 [vi 0, vu 0, vi 0, .slice none 0 0, vi 0, .slice none 0 0] ty27 rfl rfl rfl) (.tmp rfl .nil)) ⟨.slice none 0 0, .slice none 0 0, rfl, (Stp.ext hs50 rfl rfl), (Or.inl ⟨rfl, rfl⟩), (Or.inl ⟨rfl, rfl⟩)⟩
  · refine WC.condF' rfl hc45 ?_
    refine WC.skip ?_
    refine At.then ?_
    refine WC.seq ?_
    refine WC.seq ?_
    refine WC.region ?_
    refine WL.y (Y.move rfl) rfl ?_
    refine WL.y (Y.lss_i rfl rfl) rfl ?_
    refine WL.y (Y.move rfl) rfl ?_
    refine WL.cut 6 (σ := Unit) (fun _ w' => wd39 = w') (fun _ => [(1, vi a1), (2, .pointer (some ⟨p22, 0, none⟩)), (4, .pointer (some ⟨p27, 0, none⟩)), (21, .bool ((decide (a1 < 0)) || (decide (w64 (a0.Scale - (-10)) < a1))))]) ?_ ?_
    · refine WL.part 15 rfl (fun hE51 => ?_) (fun hE51 => ?_)
      · refine WL.gS rfl rfl rfl rfl ?_
        refine WL.gS rfl rfl rfl rfl ?_
        refine WL.gS rfl rfl rfl rfl ?_
        refine WL.gS rfl rfl rfl rfl ?_
        refine WL.gS rfl rfl rfl rfl ?_
        refine WL.y (Y.pick (b := true) rfl rfl) rfl ?_
        refine WL.ren (v' := .bool ((decide (a1 < 0)) || (decide (w64 (a0.Scale - (-10)) < a1)))) 21 rfl (congrArg Value.bool (orT hE51)) ?_
        exact WL.nil (At.join () rfl (.cons rfl (.cons rfl (.cons rfl (.cons rfl .nil)))))
      · refine WL.ung rfl rfl ?_
        refine WL.y (Y.move rfl) rfl ?_
        refine WL.ung rfl rfl ?_
        refine WL.y (Y.fieldAddr fo27_0 rfl) rfl ?_
        refine WL.ung rfl rfl ?_
        have hf52 := hf31.st hst44 rfl
        refine WL.y (Y.loadSc ty3 rfl rfl (hf52.cell 0 _ rfl)) rfl ?_
        refine WL.ung rfl rfl ?_
        refine WL.y (Y.sub_i rfl rfl) rfl ?_
        refine WL.ung rfl rfl ?_
        refine WL.y (Y.gtr_i rfl rfl) rfl ?_
        refine WL.y (Y.pick (b := false) rfl rfl) rfl ?_
        refine WL.ren (v' := .bool ((decide (a1 < 0)) || (decide (w64 (a0.Scale - (-10)) < a1)))) 21 rfl (congrArg Value.bool (orF hE51)) ?_
        exact WL.nil (At.join () rfl (.cons rfl (.cons rfl (.cons rfl (.cons rfl .nil)))))
    · rintro _ _ rfl
      refine (show WL _ _ _ _ _ [(1, vi a1), (2, .pointer (some ⟨p22, 0, none⟩)), (4, .pointer (some ⟨p27, 0, none⟩)), (21, .bool ((decide (a1 < 0)) || (decide (w64 (a0.Scale - (-10)) < a1))))] _ from ?_)
      refine WL.nil ?_
      refine At.then ?_
      rcases cnd h with ⟨hc53, h⟩ | ⟨hc53, h⟩
      · refine WC.condT' rfl hc53 ?_
        refine WC.seq ?_
        refine WC.region ?_
        refine WL.y (Y.build (vals := []) (cells := [vi 0, vu 0, vi 0, .slice none 0 0, vi 0, .slice none 0 0]) (Fits.evalp rfl) (by kernel_rfl)) rfl ?_
        have hf54 := hb26.st hst44 rfl
        refine WL.store (v := .agg [vi 0, vu 0, vi 0, .slice none 0 0, vi 0, .slice none 0 0].toArray) (cells' := [vi 0, vu 0, vi 0, .slice none 0 0, vi 0, .slice none 0 0]) ty27 rfl rfl hf54 rfl (Nat.le_of_ble_eq_true rfl) rfl rfl ?_
        intro wd55 hst56 hb57
        refine WL.y (Y.assign rfl) rfl ?_
        refine WL.nil ?_
        refine At.then ?_
        refine WC.ret ?_
        refine At.thenR ?_
        obtain ⟨rfl, rfl⟩ := tup2 h
        have hs58 : Stp [12] (Lg.O0 A) w O41 wd55 := (Stp.trans (Stp.up hst25 rfl) (Stp.trans (Stp.up hst30 rfl) (Stp.trans (Stp.up hst44 rfl) (Stp.up hst56 rfl))))
        exact At.res (.inl rfl) rfl (.cell rfl (hb57.runAg 0 [vi 0, vu 0, vi 0, .slice none 0 0, vi 0, .slice none 0 0] ty27 rfl rfl rfl) (.tmp rfl .nil)) ⟨.slice none 0 0, .slice none 0 0, rfl, (Stp.ext hs58 rfl rfl), (Or.inl ⟨rfl, rfl⟩), (Or.inl ⟨rfl, rfl⟩)⟩
      · refine WC.condF' rfl hc53 ?_
        refine WC.skip ?_
        refine At.then ?_
        refine WC.seq ?_
        refine WC.drawH [] [0, 1, 2, 3, 4, 5, 6, 7, 8, 9, 10, 11, 12, 13, 14, 15, 16] O41 19 fmix rfl (by kernel_rfl) ?_
        intro wd59 hst60
        refine WD.y 0 rfl (by kernel_rfl) (fun _ _ _ => Y.fieldAddr fo27_0 rfl) rfl ?_
        refine WD.y 1 rfl (by kernel_rfl) (fun wd65 O64 hst66 => have hf67 := hf31.st hst44 rfl; have hf68 := hf67.st hst60 rfl; have hf69 := hf68.st hst66 rfl; Y.loadSc ty3 rfl rfl (hf69.cell 0 _ rfl)) rfl ?_
        refine WD.y 2 rfl (by kernel_rfl) (fun _ _ _ => Y.move rfl) rfl ?_
        refine WD.y 3 rfl (by kernel_rfl) (fun _ _ _ => Y.sub_i rfl rfl) rfl ?_
        refine WD.y 4 rfl (by kernel_rfl) (fun _ _ _ => Y.fieldAddr fo27_1 rfl) rfl ?_
        refine WD.y 5 rfl (by kernel_rfl) (fun wd80 O79 hst81 => have hf82 := hf31.st hst44 rfl; have hf83 := hf82.st hst60 rfl; have hf84 := hf83.st hst81 rfl; Y.loadSc ty22 rfl rfl (hf84.cell 1 _ rfl)) rfl ?_
        refine WD.y 6 rfl (by kernel_rfl) (fun _ _ _ => Y.fieldAddr fo27_2 rfl) rfl ?_
        refine WD.y 7 rfl (by kernel_rfl) (fun wd89 O88 hst90 => have hf91 := hf31.st hst44 rfl; have hf92 := hf91.st hst60 rfl; have hf93 := hf92.st hst90 rfl; Y.loadAg ty25 rfl rfl (hf93.cells 2 [vi a0.Pos.Offset, (.slice p13 m14 c15)] rfl) rfl) rfl ?_
        refine WD.y 8 rfl (by kernel_rfl) (fun _ _ _ => Y.move rfl) rfl ?_
        refine WD.y 9 rfl (by kernel_rfl) (fun _ _ _ => Y.conv_iu ty3.u ty82.u rfl) rfl ?_
        refine WD.y 11 rfl (by kernel_rfl) (fun _ _ _ => Y.fieldAddr fo27_3 rfl) rfl ?_
        refine WD.y 12 rfl (by kernel_rfl) (fun wd104 O103 hst105 => have hf106 := hf31.st hst44 rfl; have hf107 := hf106.st hst60 rfl; have hf108 := hf107.st hst105 rfl; Y.loadAg ty25 rfl rfl (hf108.cells 4 [vi a0.Neg.Offset, (.slice p17 m18 c19)] rfl) rfl) rfl ?_
        refine WD.y 13 rfl (by kernel_rfl) (fun _ _ _ => Y.move rfl) rfl ?_
        refine WD.y 14 rfl (by kernel_rfl) (fun _ _ _ => Y.conv_iu ty3.u ty82.u rfl) rfl ?_
        refine WD.heavy 10 rfl (by kernel_rfl) ?_
        have hf115 := hf33.mono (imm_st hst44 rfl rfl)
        have hf116 := hf115.mono (imm_st hst60 rfl rfl)
        obtain ⟨r117, hp118, h⟩ := bnd h
        refine WL.call (vals := [.agg [vi a0.Pos.Offset, (.slice p13 m14 c15)].toArray, vu (toU64 a1)]) kok62 rfl rfl (c_hist_down (A := fun _ => True) (a0 := a0.Pos) (Sl.all hf116) hp118) ?_
        rintro vr123 wd122 ⟨u119, rfl, hm121, f120⟩
        obtain ⟨O124, hold125, hnew126, hst127⟩ := adoptE O41 (fun k => 1) hm121
        have hf128 : Sl Rep.u wd122 (frs O124) u119 r117.Counts := Sl.adoptF f120 (fun k hk => ⟨hk, rfl⟩) hnew126
        refine WL.nil ?_
        refine At.dq (Stp.up hst127 rfl) ?_
        refine WD.heavy 15 rfl (by kernel_rfl) ?_
        have hf129 := hf35.mono (imm_st hst44 rfl rfl)
        have hf130 := hf129.mono (imm_st hst60 rfl rfl)
        have hf131 := hf130.mono (imm_st hst127 rfl rfl)
        obtain ⟨r132, hp133, h⟩ := bnd h
        refine WL.call (vals := [.agg [vi a0.Neg.Offset, (.slice p17 m18 c19)].toArray, vu (toU64 a1)]) kok62 rfl rfl (c_hist_down (A := fun _ => True) (a0 := a0.Neg) (Sl.all hf131) hp133) ?_
        rintro vr138 wd137 ⟨u134, rfl, hm136, f135⟩
        obtain ⟨O139, hold140, hnew141, hst142⟩ := adoptE O124 (fun k => 1) hm136
        have hf143 : Sl Rep.u wd137 (frs O139) u134 r132.Counts := Sl.adoptF f135 (fun k hk => ⟨hk, rfl⟩) hnew141
        refine WL.nil ?_
        refine At.dq (Stp.up hst142 rfl) ?_
        have hf144 := hf128.mono (frs_st hst142 rfl)
        have hh148 := h
        obtain ⟨p145, m146, c147, rfl⟩ := hf144.shape
        have h := hh148
        have hh152 := h
        obtain ⟨p149, m150, c151, rfl⟩ := hf143.shape
        have h := hh152
        refine WD.y 16 rfl (by kernel_rfl) (fun _ _ _ => Y.build (vals := [(0, vi (w64 (a0.Scale - a1))), (1, vu a0.Zero), (2, .agg [vi r117.Offset, (.slice p145 m146 c147)].toArray), (3, .agg [vi r132.Offset, (.slice p149 m150 c151)].toArray)]) (cells := [vi (w64 (a0.Scale - a1)), vu a0.Zero, vi r117.Offset, (.slice p145 m146 c147), vi r132.Offset, (.slice p149 m150 c151)]) (Fits.evalp rfl) (by kernel_rfl)) rfl ?_
        refine WD.phase [12] [0, 1, 2, 3, 4, 5, 6, 7, 8, 9, 10, 11, 12, 13, 14, 15, 16, 17, 18] (by kernel_rfl) (by kernel_rfl) ?_
        refine WD.heavy 17 rfl (by kernel_rfl) ?_
        have hf156 := hb26.st hst44 rfl
        have hf157 := hf156.st hst60 rfl
        have hf158 := hf157.st hst127 rfl
        have hf159 := hf158.st hst142 rfl
        refine WL.store (v := .agg [vi (w64 (a0.Scale - a1)), vu a0.Zero, vi r117.Offset, (.slice p145 m146 c147), vi r132.Offset, (.slice p149 m150 c151)].toArray) (cells' := [vi (w64 (a0.Scale - a1)), vu a0.Zero, vi r117.Offset, (.slice p145 m146 c147), vi r132.Offset, (.slice p149 m150 c151)]) ty27 rfl rfl hf159 rfl (Nat.le_of_ble_eq_true rfl) rfl rfl ?_
        intro wd160 hst161 hb162
        refine WL.nil ?_
        refine At.dq (Stp.up hst161 rfl) ?_
        refine WD.y 18 rfl (by kernel_rfl) (fun _ _ _ => Y.assign rfl) rfl ?_
        refine WD.done_ (by kernel_rfl) ?_
        refine At.then ?_
        refine WC.ret ?_
        obtain ⟨rfl, rfl⟩ := tup2 h
        have hs166 : Stp [12] (Lg.O0 A) w O139 wd160 := (Stp.trans (Stp.up hst25 rfl) (Stp.trans (Stp.up hst30 rfl) (Stp.trans (Stp.up hst44 rfl) (Stp.trans (Stp.up hst60 rfl) (Stp.trans (Stp.up hst127 rfl) (Stp.trans (Stp.up hst142 rfl) (Stp.up hst161 rfl)))))))
        have hf167 := hf144.mono (frs_st hst161 rfl)
        have hf168 := hf143.mono (frs_st hst161 rfl)
        exact At.res (.inl rfl) rfl (.cell rfl (hb162.runAg 0 [vi (w64 (a0.Scale - a1)), vu a0.Zero, vi r117.Offset, (.slice p145 m146 c147), vi r132.Offset, (.slice p149 m150 c151)] ty27 rfl rfl rfl) (.tmp rfl .nil)) ⟨(.slice p145 m146 c147), (.slice p149 m150 c151), rfl, (Stp.ext hs166 rfl rfl), (Sl.outF hf167 hs166 low0), (Sl.outF hf168 hs166 low0)⟩

theorem c_hist_At {A : Nat → Prop} {v0_1 : Value} {a0 : api_Side} {a1 : Int} {w : World} (hs0_1 : Sl Rep.u w A v0_1 a0.Counts) {r0 : UInt64} (h : hist_At a0 a1 = some r0) : Rets Try.prog 23 [.agg [vi a0.Offset, v0_1].toArray, vi a1] w (fun v w' => v = vu r0 ∧ Ext w w') := by
  unfold hist_At at h
  refine Rets.enter Try.func23 rfl rfl ?_
  have hf11 : Sl Rep.u w (imm (Lg.O0 A)) v0_1 a0.Counts := (Sl.start hs0_1)
  refine (show WC _ _ _ _ [(0, .agg [vi a0.Offset, v0_1].toArray), (1, vi a1)] _ from ?_)
  refine WC.seq ?_
  refine WC.region ?_
  have hh15 := h
  obtain ⟨p12, m13, c14, rfl⟩ := hf11.shape
  have h := hh15
  refine WL.box (O := (Lg.O0 A)) 11 [vi a0.Offset, (.slice p12 m13 c14)] rfl rfl rfl ?_
  intro p17 O18 wd19 hst20 hb16
  refine WL.y (Y.assign (v := vu 0) rfl) rfl ?_
  refine WL.nil ?_
  refine At.then ?_
  refine WC.seq ?_
  refine WC.seq ?_
  refine WC.region ?_
  refine WL.y (Y.move rfl) rfl ?_
  refine WL.y (Y.fieldAddr fo25_0 rfl) rfl ?_
  refine WL.y (Y.loadSc ty3 rfl rfl (hb16.cell 0 _ rfl)) rfl ?_
  refine WL.y (Y.lss_i rfl rfl) rfl ?_
  refine WL.y (Y.move rfl) rfl ?_
  refine WL.cut 12 (σ := Unit) (fun _ w' => wd19 = w') (fun _ => [(1, vi a1), (2, .pointer (some ⟨p17, 0, none⟩)), (21, .bool ((decide (a1 < a0.Offset)) || (decide (toU64 (a0.Counts.length : Int) ≤ ((toU64 a1) - (toU64 a0.Offset))))))]) ?_ ?_
  · refine WL.part 9 rfl (fun hE21 => ?_) (fun hE21 => ?_)
    · refine WL.gS rfl rfl rfl rfl ?_
      refine WL.gS rfl rfl rfl rfl ?_
      refine WL.gS rfl rfl rfl rfl ?_
      refine WL.gS rfl rfl rfl rfl ?_
      refine WL.gS rfl rfl rfl rfl ?_
      refine WL.gS rfl rfl rfl rfl ?_
      refine WL.gS rfl rfl rfl rfl ?_
      refine WL.gS rfl rfl rfl rfl ?_
      refine WL.gS rfl rfl rfl rfl ?_
      refine WL.gS rfl rfl rfl rfl ?_
      refine WL.gS rfl rfl rfl rfl ?_
      refine WL.y (Y.pick (b := true) rfl rfl) rfl ?_
      refine WL.ren (v' := .bool ((decide (a1 < a0.Offset)) || (decide (toU64 (a0.Counts.length : Int) ≤ ((toU64 a1) - (toU64 a0.Offset)))))) 21 rfl (congrArg Value.bool (orT hE21)) ?_
      exact WL.nil (At.join () rfl (.cons rfl (.cons rfl (.cons rfl .nil))))
    · refine WL.ung rfl rfl ?_
      refine WL.y (Y.move rfl) rfl ?_
      refine WL.ung rfl rfl ?_
      refine WL.y (Y.conv_iu ty3.u ty22.u rfl) rfl ?_
      refine WL.ung rfl rfl ?_
      refine WL.y (Y.fieldAddr fo25_0 rfl) rfl ?_
      refine WL.ung rfl rfl ?_
      refine WL.y (Y.loadSc ty3 rfl rfl (hb16.cell 0 _ rfl)) rfl ?_
      refine WL.ung rfl rfl ?_
      refine WL.y (Y.conv_iu ty3.u ty22.u rfl) rfl ?_
      refine WL.ung rfl rfl ?_
      refine WL.y (Y.sub_u rfl rfl) rfl ?_
      refine WL.ung rfl rfl ?_
      refine WL.y (Y.fieldAddr fo25_1 rfl) rfl ?_
      refine WL.ung rfl rfl ?_
      refine WL.y (Y.loadSc ty23 rfl rfl (hb16.cell 1 _ rfl)) rfl ?_
      refine WL.ung rfl rfl ?_
      have hf22 := hf11.mono (imm_st hst20 rfl rfl)
      refine WL.y (Y.len ty23 rfl hf22) rfl ?_
      refine WL.ung rfl rfl ?_
      refine WL.y (Y.conv_iu ty3.u ty22.u rfl) rfl ?_
      refine WL.ung rfl rfl ?_
      refine WL.y (Y.geq_u rfl rfl) rfl ?_
      refine WL.y (Y.pick (b := false) rfl rfl) rfl ?_
      refine WL.ren (v' := .bool ((decide (a1 < a0.Offset)) || (decide (toU64 (a0.Counts.length : Int) ≤ ((toU64 a1) - (toU64 a0.Offset)))))) 21 rfl (congrArg Value.bool (orF hE21)) ?_
      exact WL.nil (At.join () rfl (.cons rfl (.cons rfl (.cons rfl .nil))))
  · rintro _ _ rfl
    refine (show WL _ _ _ _ _ [(1, vi a1), (2, .pointer (some ⟨p17, 0, none⟩)), (21, .bool ((decide (a1 < a0.Offset)) || (decide (toU64 (a0.Counts.length : Int) ≤ ((toU64 a1) - (toU64 a0.Offset))))))] _ from ?_)
    refine WL.nil ?_
    refine At.then ?_
    rcases cnd h with ⟨hc23, h⟩ | ⟨hc23, h⟩
    · refine WC.condT' rfl hc23 ?_
      refine WC.seq ?_
      refine WC.region ?_
      refine WL.y (Y.assign (v := vu 0) rfl) rfl ?_
      refine WL.nil ?_
      refine At.then ?_
      refine WC.ret ?_
      refine At.thenR ?_
      obtain rfl := some1 h
      have hs24 : Stp [] (Lg.O0 A) w O18 wd19 := (Stp.up hst20 rfl)
      exact At.res (.inl rfl) rfl (.tmp rfl .nil) ⟨rfl, (Stp.ext hs24 rfl rfl)⟩
    · refine WC.condF' rfl hc23 ?_
      refine WC.skip ?_
      refine At.then ?_
      refine WC.seq ?_
      refine WC.region ?_
      refine WL.y (Y.fieldAddr fo25_1 rfl) rfl ?_
      refine WL.y (Y.loadSc ty23 rfl rfl (hb16.cell 1 _ rfl)) rfl ?_
      refine WL.y (Y.move rfl) rfl ?_
      refine WL.y (Y.fieldAddr fo25_0 rfl) rfl ?_
      refine WL.y (Y.loadSc ty3 rfl rfl (hb16.cell 0 _ rfl)) rfl ?_
      refine WL.y (Y.sub_i rfl rfl) rfl ?_
      obtain ⟨e25, he25, h⟩ := bnd h
      have hf34 := hf11.mono (imm_st hst20 rfl rfl)
      obtain ⟨b26, off35, cap33, cs32, hv27, hi28, hl29, hc30, hok31, hA36⟩ := Sl.at2 hf34 he25
      obtain rfl := hok31
      replace hc30 : CellsAt _ _ _ [vu e25] := hc30
      have hca37 := CAt.imm hc30 hA36
      refine WL.y (Y.indexAddr ty23 ty22 rfl hv27 rfl hi28 hl29) rfl ?_
      refine WL.y (Y.loadSc ty22 rfl rfl hca37.at_) rfl ?_
      refine WL.y (Y.assign rfl) rfl ?_
      refine WL.nil ?_
      refine At.then ?_
      refine WC.ret ?_
      obtain rfl := some1 h
      have hs38 : Stp [] (Lg.O0 A) w O18 wd19 := (Stp.up hst20 rfl)
      exact At.res (.inl rfl) rfl (.tmp rfl .nil) ⟨rfl, (Stp.ext hs38 rfl rfl)⟩

theorem c_law08_awake {w : World} {r0 : Bool} (h : law08_awake = some r0) : Rets Try.prog 15 [] w (fun v w' => v = .bool r0 ∧ Ext w w') := by
  unfold law08_awake at h
  refine Rets.enter Try.func15 rfl rfl ?_
  refine (show WC _ _ _ _ [] _ from ?_)
  refine WC.seq ?_
  refine WC.region ?_
  refine WL.y (Y.assign rfl) rfl ?_
  refine WL.nil ?_
  refine At.then ?_
  refine WC.seq ?_
  refine WC.region ?_
  refine WL.buildSlice (O := (Lg.O0 (fun _ => False))) (R := Rep.u) (vals := [(0, vu 1), (1, vu 2), (2, vu 3)]) 11 [vu 1, vu 2, vu 3] (xs := [1, 2, 3]) (by decide) ty23 ty22 (by decide) (by decide) (Fits.evalp rfl) (by kernel_rfl) rfl ⟨[vu 1], [vu 2, vu 3], rfl, rfl, ⟨[vu 2], [vu 3], rfl, rfl, ⟨[vu 3], [], rfl, rfl, rfl⟩⟩⟩ rfl ?_
  intro v11 O13 wd14 hst15 ho12
  have hh19 := h
  obtain ⟨p16, m17, c18, rfl⟩ := ho12.shape
  have h := hh19
  refine WL.y (Y.build (vals := [(0, vi (-3)), (1, (.slice p16 m17 c18))]) (cells := [vi (-3), (.slice p16 m17 c18)]) (Fits.evalp rfl) (by kernel_rfl)) rfl ?_
  refine WL.y (Y.build (vals := [(0, vi 3), (2, .agg [vi (-3), (.slice p16 m17 c18)].toArray)]) (cells := [vi 3, vu 0, vi (-3), (.slice p16 m17 c18), vi 0, .slice none 0 0]) (Fits.evalp rfl) (by kernel_rfl)) rfl ?_
  refine WL.alloc (O := O13) 12 [vi 0, vu 0, vi 0, .slice none 0 0, vi 0, .slice none 0 0] ty27 rfl rfl ?_
  intro p21 O22 wd23 hst24 hb20
  refine WL.store (v := .agg [vi 3, vu 0, vi (-3), (.slice p16 m17 c18), vi 0, .slice none 0 0].toArray) (cells' := [vi 3, vu 0, vi (-3), (.slice p16 m17 c18), vi 0, .slice none 0 0]) ty27 rfl rfl hb20 rfl (Nat.le_of_ble_eq_true rfl) rfl rfl ?_
  intro wd25 hst26 hb27
  refine WL.nil ?_
  refine At.then ?_
  refine WC.seq ?_
  refine WC.region ?_
  refine WL.y (Y.loadAg ty27 rfl rfl (hb27.cells 0 [vi 3, vu 0, vi (-3), (.slice p16 m17 c18), vi 0, .slice none 0 0] rfl) rfl) rfl ?_
  have hf28 := ho12.st hst24 rfl rfl rfl
  have hf29 := hf28.st hst26 rfl rfl rfl
  obtain ⟨⟨r30, r31⟩, hp32, h⟩ := bnd h
  refine WL.call (vals := [.agg [vi 3, vu 0, vi (-3), (.slice p16 m17 c18), vi 0, .slice none 0 0].toArray, vi 1]) kok21 rfl rfl (c_hist_Down (A := fun _ => True) (a0 := (api_Hist.mk 3 0 (api_Side.mk (-3) [1, 2, 3]) (api_Side.mk 0 []))) (hf29.src.sl) (Or.inl ⟨rfl, rfl⟩) hp32) ?_
  rintro vr39 wd38 ⟨u33, u34, rfl, hm37, f35, f36⟩
  obtain ⟨O40, hold41, hnew42, hst43⟩ := adoptE O22 (fun k => 1) hm37
  have hf44 : Sl Rep.u wd38 (frs O40) u33 r30.Pos.Counts := Sl.adoptF f35 (fun k hk => ⟨hk, rfl⟩) hnew42
  have hf45 : Sl Rep.u wd38 (frs O40) u34 r30.Neg.Counts := Sl.adoptF f36 (fun k hk => ⟨hk, rfl⟩) hnew42
  refine WL.y (Y.move rfl) rfl ?_
  refine WL.y (Y.extract rfl rfl) rfl ?_
  refine WL.y (Y.extract rfl rfl) rfl ?_
  refine WL.alloc (O := O40) 13 [vi 0, vu 0, vi 0, .slice none 0 0, vi 0, .slice none 0 0] ty27 rfl rfl ?_
  intro p47 O48 wd49 hst50 hb46
  have hf51 := hf44.mono (frs_st hst50 rfl)
  have hh55 := h
  obtain ⟨p52, m53, c54, rfl⟩ := hf51.shape
  have h := hh55
  have hf56 := hf45.mono (frs_st hst50 rfl)
  have hh60 := h
  obtain ⟨p57, m58, c59, rfl⟩ := hf56.shape
  have h := hh60
  refine WL.store (v := .agg [vi r30.Scale, vu r30.Zero, vi r30.Pos.Offset, (.slice p52 m53 c54), vi r30.Neg.Offset, (.slice p57 m58 c59)].toArray) (cells' := [vi r30.Scale, vu r30.Zero, vi r30.Pos.Offset, (.slice p52 m53 c54), vi r30.Neg.Offset, (.slice p57 m58 c59)]) ty27 rfl rfl hb46 rfl (Nat.le_of_ble_eq_true rfl) rfl rfl ?_
  intro wd61 hst62 hb63
  refine WL.y (Y.assign rfl) rfl ?_
  refine WL.nil ?_
  refine At.then ?_
  refine WC.seq ?_
  refine WC.region ?_
  refine WL.y (Y.move rfl) rfl ?_
  refine WL.y (Y.eql_i rfl rfl) rfl ?_
  refine WL.y (Y.move rfl) rfl ?_
  refine WL.cut 4 (σ := Unit) (fun _ w' => wd61 = w') (fun _ => [(2, .pointer (some ⟨p47, 0, none⟩)), (18, .bool ((decide (r31 = 0)) && (decide (r30.Scale = 2))))]) ?_ ?_
  · refine WL.part 14 rfl (fun hE64 => ?_) (fun hE64 => ?_)
    · refine WL.ung rfl rfl ?_
      refine WL.y (Y.fieldAddr fo27_0 rfl) rfl ?_
      refine WL.ung rfl rfl ?_
      refine WL.y (Y.loadSc ty3 rfl rfl (hb63.cell 0 _ rfl)) rfl ?_
      refine WL.ung rfl rfl ?_
      refine WL.y (Y.eql_i rfl rfl) rfl ?_
      refine WL.y (Y.pick (b := true) rfl rfl) rfl ?_
      refine WL.ren (v' := .bool ((decide (r31 = 0)) && (decide (r30.Scale = 2)))) 18 rfl (congrArg Value.bool (andT hE64)) ?_
      exact WL.nil (At.join () rfl (.cons rfl (.cons rfl .nil)))
    · refine WL.gS rfl rfl rfl rfl ?_
      refine WL.gS rfl rfl rfl rfl ?_
      refine WL.gS rfl rfl rfl rfl ?_
      refine WL.y (Y.pick (b := false) rfl rfl) rfl ?_
      refine WL.ren (v' := .bool ((decide (r31 = 0)) && (decide (r30.Scale = 2)))) 18 rfl (congrArg Value.bool (andF hE64)) ?_
      exact WL.nil (At.join () rfl (.cons rfl (.cons rfl .nil)))
  · rintro _ _ rfl
    refine (show WL _ _ _ _ _ [(2, .pointer (some ⟨p47, 0, none⟩)), (18, .bool ((decide (r31 = 0)) && (decide (r30.Scale = 2))))] _ from ?_)
    refine WL.y (Y.move rfl) rfl ?_
    obtain ⟨p69, h, hk70⟩ := bnd h
    refine WL.cut 5 (σ := (Bool × Own)) (fun x w' => x.1 = p69 ∧ Stp [] O48 wd61 x.2 w') (fun x => [(2, .pointer (some ⟨p47, 0, none⟩)), (24, .bool x.1)]) ?_ ?_
    · rcases cnd h with ⟨hE71, h⟩ | ⟨hE71, h⟩
      · refine WL.ren 19 rfl (congrArg Value.bool hE71) ?_
        refine WL.ung rfl rfl ?_
        refine WL.y (Y.fieldAddr fo27_2 rfl) rfl ?_
        refine WL.ung rfl rfl ?_
        refine WL.y (Y.loadAg ty25 rfl rfl (hb63.cells 2 [vi r30.Pos.Offset, (.slice p52 m53 c54)] rfl) rfl) rfl ?_
        refine WL.ung rfl rfl ?_
        have hf72 := hf51.mono (frs_st hst62 rfl)
        obtain ⟨r73, hp74, h⟩ := bnd h
        refine WL.call (vals := [.agg [vi r30.Pos.Offset, (.slice p52 m53 c54)].toArray, vi (-2)]) kok23 rfl rfl (c_hist_At (A := fun _ => True) (a0 := r30.Pos) (Sl.all hf72) hp74) ?_
        rintro vr77 wd76 ⟨rfl, hm75⟩
        obtain ⟨O78, hold79, hnew80, hst81⟩ := adoptE O48 (fun k => 1) hm75
        refine WL.ung rfl rfl ?_
        refine WL.y (Y.eql_u (b := 1) rfl rfl) rfl ?_
        refine WL.y (Y.pick (b := true) rfl rfl) rfl ?_
        exact WL.nil (At.join (σ := (Bool × Own)) (decide (r73 = 1), O78) ⟨some1 h, (Stp.up hst81 rfl)⟩ (.cons rfl (.cons rfl .nil)))
      · refine WL.ren 19 rfl (congrArg Value.bool hE71) ?_
        refine WL.gS rfl rfl rfl rfl ?_
        refine WL.gS rfl rfl rfl rfl ?_
        refine WL.gS rfl rfl rfl rfl ?_
        refine WL.gS rfl rfl rfl rfl ?_
        refine WL.y (Y.pick (b := false) rfl rfl) rfl ?_
        exact WL.nil (At.join (σ := (Bool × Own)) (false, O48) ⟨some1 h, (Stp.refl _ _ _)⟩ (.cons rfl (.cons rfl .nil)))
    · rintro ⟨x65, O66⟩ wd67 ⟨rfl, hst68⟩
      replace h := hk70
      try dsimp only at h hst68
      refine (show WL _ _ _ _ _ [(2, .pointer (some ⟨p47, 0, none⟩)), (24, .bool x65)] _ from ?_)
      refine WL.y (Y.move rfl) rfl ?_
      obtain ⟨p86, h, hk87⟩ := bnd h
      refine WL.cut 5 (σ := (Bool × Own)) (fun x w' => x.1 = p86 ∧ Stp [] O66 wd67 x.2 w') (fun x => [(2, .pointer (some ⟨p47, 0, none⟩)), (30, .bool x.1)]) ?_ ?_
      · rcases cnd h with ⟨hE88, h⟩ | ⟨hE88, h⟩
        · refine WL.ren 25 rfl (congrArg Value.bool hE88) ?_
          refine WL.ung rfl rfl ?_
          refine WL.y (Y.fieldAddr fo27_2 rfl) rfl ?_
          refine WL.ung rfl rfl ?_
          have hf89 := hb63.st hst68 rfl
          refine WL.y (Y.loadAg ty25 rfl rfl (hf89.cells 2 [vi r30.Pos.Offset, (.slice p52 m53 c54)] rfl) rfl) rfl ?_
          refine WL.ung rfl rfl ?_
          have hf90 := hf51.mono (frs_st hst62 rfl)
          have hf91 := hf90.mono (frs_st hst68 rfl)
          obtain ⟨r92, hp93, h⟩ := bnd h
          refine WL.call (vals := [.agg [vi r30.Pos.Offset, (.slice p52 m53 c54)].toArray, vi (-1)]) kok23 rfl rfl (c_hist_At (A := fun _ => True) (a0 := r30.Pos) (Sl.all hf91) hp93) ?_
          rintro vr96 wd95 ⟨rfl, hm94⟩
          obtain ⟨O97, hold98, hnew99, hst100⟩ := adoptE O66 (fun k => 1) hm94
          refine WL.ung rfl rfl ?_
          refine WL.y (Y.eql_u (b := 5) rfl rfl) rfl ?_
          refine WL.y (Y.pick (b := true) rfl rfl) rfl ?_
          exact WL.nil (At.join (σ := (Bool × Own)) (decide (r92 = 5), O97) ⟨some1 h, (Stp.up hst100 rfl)⟩ (.cons rfl (.cons rfl .nil)))
        · refine WL.ren 25 rfl (congrArg Value.bool hE88) ?_
          refine WL.gS rfl rfl rfl rfl ?_
          refine WL.gS rfl rfl rfl rfl ?_
          refine WL.gS rfl rfl rfl rfl ?_
          refine WL.gS rfl rfl rfl rfl ?_
          refine WL.y (Y.pick (b := false) rfl rfl) rfl ?_
          exact WL.nil (At.join (σ := (Bool × Own)) (false, O66) ⟨some1 h, (Stp.refl _ _ _)⟩ (.cons rfl (.cons rfl .nil)))
      · rintro ⟨x82, O83⟩ wd84 ⟨rfl, hst85⟩
        replace h := hk87
        try dsimp only at h hst85
        refine (show WL _ _ _ _ _ [(2, .pointer (some ⟨p47, 0, none⟩)), (30, .bool x82)] _ from ?_)
        refine WL.y (Y.move rfl) rfl ?_
        refine WL.cut 6 (σ := Unit) (fun _ w' => wd84 = w') (fun _ => [(37, .bool (x82 && (decide ((r30.Pos.Counts.length : Int) = 2))))]) ?_ ?_
        · refine WL.part 31 rfl (fun hE101 => ?_) (fun hE101 => ?_)
          · refine WL.ung rfl rfl ?_
            refine WL.y (Y.fieldAddr fo27_2 rfl) rfl ?_
            refine WL.ung rfl rfl ?_
            refine WL.y (Y.fieldAddr fo25_1 rfl) rfl ?_
            refine WL.ung rfl rfl ?_
            have hf102 := hb63.st hst68 rfl
            have hf103 := hf102.st hst85 rfl
            refine WL.y (Y.loadSc ty23 rfl rfl (hf103.cell 3 _ rfl)) rfl ?_
            refine WL.ung rfl rfl ?_
            have hf104 := hf51.mono (frs_st hst62 rfl)
            have hf105 := hf104.mono (frs_st hst68 rfl)
            have hf106 := hf105.mono (frs_st hst85 rfl)
            refine WL.y (Y.len ty23 rfl hf106) rfl ?_
            refine WL.ung rfl rfl ?_
            refine WL.y (Y.eql_i rfl rfl) rfl ?_
            refine WL.y (Y.pick (b := true) rfl rfl) rfl ?_
            refine WL.ren (v' := .bool (x82 && (decide ((r30.Pos.Counts.length : Int) = 2)))) 37 rfl (congrArg Value.bool (andT hE101)) ?_
            exact WL.nil (At.join () rfl (.cons rfl .nil))
          · refine WL.gS rfl rfl rfl rfl ?_
            refine WL.gS rfl rfl rfl rfl ?_
            refine WL.gS rfl rfl rfl rfl ?_
            refine WL.gS rfl rfl rfl rfl ?_
            refine WL.gS rfl rfl rfl rfl ?_
            refine WL.y (Y.pick (b := false) rfl rfl) rfl ?_
            refine WL.ren (v' := .bool (x82 && (decide ((r30.Pos.Counts.length : Int) = 2)))) 37 rfl (congrArg Value.bool (andF hE101)) ?_
            exact WL.nil (At.join () rfl (.cons rfl .nil))
        · rintro _ _ rfl
          refine (show WL _ _ _ _ _ [(37, .bool (x82 && (decide ((r30.Pos.Counts.length : Int) = 2))))] _ from ?_)
          refine WL.y (Y.move rfl) rfl ?_
          obtain ⟨p111, h, hk112⟩ := bnd h
          refine WL.cut 6 (σ := (Bool × Own)) (fun x w' => x.1 = p111 ∧ Stp [] O83 wd84 x.2 w') (fun x => [(44, .bool x.1)]) ?_ ?_
          · rcases cnd h with ⟨hE113, h⟩ | ⟨hE113, h⟩
            · refine WL.ren 38 rfl (congrArg Value.bool hE113) ?_
              refine WL.ung rfl rfl ?_
              refine WL.buildSlice (O := O83) (R := Rep.u) (vals := [(0, vu 0), (1, vu 1)]) 14 [vu 0, vu 1] (xs := [0, 1]) (by decide) ty23 ty22 (by decide) (by decide) (Fits.evalp rfl) (by kernel_rfl) rfl ⟨[vu 0], [vu 1], rfl, rfl, ⟨[vu 1], [], rfl, rfl, rfl⟩⟩ rfl ?_
              intro v114 O116 wd117 hst118 ho115
              refine WL.ung rfl rfl ?_
              have hh122 := h
              obtain ⟨p119, m120, c121, rfl⟩ := ho115.shape
              have h := hh122
              refine WL.y (Y.build (vals := [(1, (.slice p119 m120 c121))]) (cells := [vi 0, (.slice p119 m120 c121)]) (Fits.evalp rfl) (by kernel_rfl)) rfl ?_
              refine WL.ung rfl rfl ?_
              refine WL.y (Y.build (vals := [(2, .agg [vi 0, (.slice p119 m120 c121)].toArray)]) (cells := [vi 0, vu 0, vi 0, (.slice p119 m120 c121), vi 0, .slice none 0 0]) (Fits.evalp rfl) (by kernel_rfl)) rfl ?_
              refine WL.ung rfl rfl ?_
              obtain ⟨r123, hp124, h⟩ := bnd h
              refine WL.call (vals := [.agg [vi 0, vu 0, vi 0, (.slice p119 m120 c121), vi 0, .slice none 0 0].toArray]) kok19 rfl rfl (c_hist_Check (A := fun _ => True) (a0 := (api_Hist.mk 0 0 (api_Side.mk 0 [0, 1]) (api_Side.mk 0 []))) (ho115.src.sl) (Or.inl ⟨rfl, rfl⟩) hp124) ?_
              rintro vr127 wd126 ⟨rfl, hm125⟩
              obtain ⟨O128, hold129, hnew130, hst131⟩ := adoptE O116 (fun k => 1) hm125
              refine WL.ung rfl rfl ?_
              refine WL.y (Y.eql_i rfl rfl) rfl ?_
              refine WL.y (Y.pick (b := true) rfl rfl) rfl ?_
              exact WL.nil (At.join (σ := (Bool × Own)) (decide (r123 = 3), O128) ⟨some1 h, (Stp.trans (Stp.up hst118 rfl) (Stp.up hst131 rfl))⟩ (.cons rfl .nil))
            · refine WL.ren 38 rfl (congrArg Value.bool hE113) ?_
              refine WL.gS rfl rfl rfl rfl ?_
              refine WL.gS rfl rfl rfl rfl ?_
              refine WL.gS rfl rfl rfl rfl ?_
              refine WL.gS rfl rfl rfl rfl ?_
              refine WL.gS rfl rfl rfl rfl ?_
              refine WL.y (Y.pick (b := false) rfl rfl) rfl ?_
              exact WL.nil (At.join (σ := (Bool × Own)) (false, O83) ⟨some1 h, (Stp.refl _ _ _)⟩ (.cons rfl .nil))
          · rintro ⟨x107, O108⟩ wd109 ⟨rfl, hst110⟩
            replace h := hk112
            try dsimp only at h hst110
            refine (show WL _ _ _ _ _ [(44, .bool x107)] _ from ?_)
            refine WL.y (Y.assign rfl) rfl ?_
            refine WL.nil ?_
            refine At.then ?_
            refine WC.ret ?_
            obtain rfl := some1 h
            have hs132 : Stp [12, 13] (Lg.O0 (fun _ => False)) w O108 wd109 := (Stp.trans (Stp.up hst15 rfl) (Stp.trans (Stp.up hst24 rfl) (Stp.trans (Stp.up hst26 rfl) (Stp.trans (Stp.up hst43 rfl) (Stp.trans (Stp.up hst50 rfl) (Stp.trans (Stp.up hst62 rfl) (Stp.trans (Stp.up hst68 rfl) (Stp.trans (Stp.up hst85 rfl) (Stp.up hst110 rfl)))))))))
            exact At.res (.inl rfl) rfl (.tmp rfl .nil) ⟨rfl, (Stp.ext hs132 rfl rfl)⟩

theorem c_ref08_SameSide {A : Nat → Prop} {v0_1 : Value} {a0 : api_Side} {v1_1 : Value} {a1 : api_Side} {w : World} (hs0_1 : Sl Rep.u w A v0_1 a0.Counts) (hs1_1 : Sl Rep.u w A v1_1 a1.Counts) {r0 : Bool} (h : ref08_SameSide a0 a1 = some r0) : Rets Try.prog 27 [.agg [vi a0.Offset, v0_1].toArray, .agg [vi a1.Offset, v1_1].toArray] w (fun v w' => v = .bool r0 ∧ Ext w w') := by
  unfold ref08_SameSide at h
  refine Rets.enter Try.func27 rfl rfl ?_
  have hf11 : Sl Rep.u w (imm (Lg.O0 A)) v0_1 a0.Counts := (Sl.start hs0_1)
  have hf12 : Sl Rep.u w (imm (Lg.O0 A)) v1_1 a1.Counts := (Sl.start hs1_1)
  refine (show WC _ _ _ _ [(0, .agg [vi a0.Offset, v0_1].toArray), (1, .agg [vi a1.Offset, v1_1].toArray)] _ from ?_)
  refine WC.seq ?_
  refine WC.region ?_
  have hh16 := h
  obtain ⟨p13, m14, c15, rfl⟩ := hf11.shape
  have h := hh16
  refine WL.box (O := (Lg.O0 A)) 11 [vi a0.Offset, (.slice p13 m14 c15)] rfl rfl rfl ?_
  intro p18 O19 wd20 hst21 hb17
  have hf22 := hf12.mono (imm_st hst21 rfl rfl)
  have hh26 := h
  obtain ⟨p23, m24, c25, rfl⟩ := hf22.shape
  have h := hh26
  refine WL.box (O := O19) 12 [vi a1.Offset, (.slice p23 m24 c25)] rfl rfl rfl ?_
  intro p28 O29 wd30 hst31 hb27
  refine WL.y (Y.assign rfl) rfl ?_
  refine WL.nil ?_
  refine At.then ?_
  refine WC.seq ?_
  refine WC.seq ?_
  refine WC.region ?_
  refine WL.y (Y.fieldAddr fo25_0 rfl) rfl ?_
  have hf32 := hb17.st hst31 rfl
  refine WL.y (Y.loadSc ty3 rfl rfl (hf32.cell 0 _ rfl)) rfl ?_
  refine WL.y (Y.fieldAddr fo25_0 rfl) rfl ?_
  refine WL.y (Y.loadSc ty3 rfl rfl (hb27.cell 0 _ rfl)) rfl ?_
  refine WL.y (Y.neq_i rfl rfl) rfl ?_
  refine WL.y (Y.move rfl) rfl ?_
  refine WL.cut 8 (σ := Unit) (fun _ w' => wd30 = w') (fun _ => [(2, .pointer (some ⟨p18, 0, none⟩)), (3, .pointer (some ⟨p28, 0, none⟩)), (19, .bool ((!decide (a0.Offset = a1.Offset)) || (!decide ((a0.Counts.length : Int) = (a1.Counts.length : Int)))))]) ?_ ?_
  · refine WL.part 11 rfl (fun hE33 => ?_) (fun hE33 => ?_)
    · refine WL.gS rfl rfl rfl rfl ?_
      refine WL.gS rfl rfl rfl rfl ?_
      refine WL.gS rfl rfl rfl rfl ?_
      refine WL.gS rfl rfl rfl rfl ?_
      refine WL.gS rfl rfl rfl rfl ?_
      refine WL.gS rfl rfl rfl rfl ?_
      refine WL.gS rfl rfl rfl rfl ?_
      refine WL.y (Y.pick (b := true) rfl rfl) rfl ?_
      refine WL.ren (v' := .bool ((!decide (a0.Offset = a1.Offset)) || (!decide ((a0.Counts.length : Int) = (a1.Counts.length : Int))))) 19 rfl (congrArg Value.bool (orT hE33)) ?_
      exact WL.nil (At.join () rfl (.cons rfl (.cons rfl (.cons rfl .nil))))
    · refine WL.ung rfl rfl ?_
      refine WL.y (Y.fieldAddr fo25_1 rfl) rfl ?_
      refine WL.ung rfl rfl ?_
      refine WL.y (Y.loadSc ty23 rfl rfl (hf32.cell 1 _ rfl)) rfl ?_
      refine WL.ung rfl rfl ?_
      have hf34 := hf11.mono (imm_st hst21 rfl rfl)
      have hf35 := hf34.mono (imm_st hst31 rfl rfl)
      refine WL.y (Y.len ty23 rfl hf35) rfl ?_
      refine WL.ung rfl rfl ?_
      refine WL.y (Y.fieldAddr fo25_1 rfl) rfl ?_
      refine WL.ung rfl rfl ?_
      refine WL.y (Y.loadSc ty23 rfl rfl (hb27.cell 1 _ rfl)) rfl ?_
      refine WL.ung rfl rfl ?_
      have hf36 := hf22.mono (imm_st hst31 rfl rfl)
      refine WL.y (Y.len ty23 rfl hf36) rfl ?_
      refine WL.ung rfl rfl ?_
      refine WL.y (Y.neq_i rfl rfl) rfl ?_
      refine WL.y (Y.pick (b := false) rfl rfl) rfl ?_
      refine WL.ren (v' := .bool ((!decide (a0.Offset = a1.Offset)) || (!decide ((a0.Counts.length : Int) = (a1.Counts.length : Int))))) 19 rfl (congrArg Value.bool (orF hE33)) ?_
      exact WL.nil (At.join () rfl (.cons rfl (.cons rfl (.cons rfl .nil))))
  · rintro _ _ rfl
    refine (show WL _ _ _ _ _ [(2, .pointer (some ⟨p18, 0, none⟩)), (3, .pointer (some ⟨p28, 0, none⟩)), (19, .bool ((!decide (a0.Offset = a1.Offset)) || (!decide ((a0.Counts.length : Int) = (a1.Counts.length : Int)))))] _ from ?_)
    refine WL.nil ?_
    refine At.then ?_
    rcases cnd h with ⟨hc37, h⟩ | ⟨hc37, h⟩
    · refine WC.condT' rfl hc37 ?_
      refine WC.seq ?_
      refine WC.region ?_
      refine WL.y (Y.assign rfl) rfl ?_
      refine WL.nil ?_
      refine At.then ?_
      refine WC.ret ?_
      refine At.thenR ?_
      obtain rfl := some1 h
      have hs38 : Stp [] (Lg.O0 A) w O29 wd30 := (Stp.trans (Stp.up hst21 rfl) (Stp.up hst31 rfl))
      exact At.res (.inl rfl) rfl (.tmp rfl .nil) ⟨rfl, (Stp.ext hs38 rfl rfl)⟩
    · refine WC.condF' rfl hc37 ?_
      refine WC.skip ?_
      refine At.then ?_
      refine WC.seq ?_
      refine WC.seq ?_
      refine WC.region ?_
      refine WL.y (Y.assign rfl) rfl ?_
      refine WL.nil ?_
      refine At.then ?_
      refine WC.block ?_
      obtain ⟨p46, h, hk48⟩ := flow1 h
      obtain ⟨k47, h⟩ := loop_some h
      refine WC.joinB 0 (σ := Own) (fun x w' => p46 = .go () ∧ Stp [] O29 wd30 x w') (fun x => []) ?_ ?_
      · refine WC.loop (σ := (Int × Own)) (fun x k w' => loopN k (ref08_SameSide_lp1 a0 a1) x.1 = some p46 ∧ Stp [] O29 wd30 x.2 w') (fun x => [(2, .pointer (some ⟨p18, 0, none⟩)), (3, .pointer (some ⟨p28, 0, none⟩)), (5, vi x.1)]) (0, O29) k47 (.cons rfl (.cons rfl (.cons rfl .nil))) ⟨h, (Stp.refl _ _ _)⟩ ?_
        rintro ⟨i39, O40⟩ k47 wd41 ⟨h, hst42⟩
        obtain ⟨j49, q50, rfl, h, hn51⟩ := rnd1 h
        unfold ref08_SameSide_lp1 at h
        try dsimp only at h hst42
        refine (show WC _ _ _ _ [(2, .pointer (some ⟨p18, 0, none⟩)), (3, .pointer (some ⟨p28, 0, none⟩)), (5, vi i39)] _ from ?_)
        refine WC.seq ?_
        refine WC.seq ?_
        refine WC.region ?_
        refine WL.y (Y.move rfl) rfl ?_
        refine WL.y (Y.fieldAddr fo25_1 rfl) rfl ?_
        have hf52 := hf32.st hst42 rfl
        refine WL.y (Y.loadSc ty23 rfl rfl (hf52.cell 1 _ rfl)) rfl ?_
        have hf53 := hf11.mono (imm_st hst21 rfl rfl)
        have hf54 := hf53.mono (imm_st hst31 rfl rfl)
        have hf55 := hf54.mono (imm_st hst42 rfl rfl)
        refine WL.y (Y.len ty23 rfl hf55) rfl ?_
        refine WL.y (Y.lss_i rfl rfl) rfl ?_
        refine WL.nil ?_
        refine At.then ?_
        rcases cnd h with ⟨hc56, h⟩ | ⟨hc56, h⟩
        · refine WC.condT' rfl hc56 ?_
          refine WC.skip ?_
          refine At.then ?_
          refine WC.seq ?_
          refine WC.block ?_
          refine WC.seq ?_
          refine WC.draw 10 O40 fmix (by kernel_rfl) ?_
          intro wd57 hst58
          refine WS.y (Y.fieldAddr fo25_1 rfl) rfl ?_
          have hf59 := hf52.st hst58 rfl
          refine WS.y (Y.loadSc ty23 rfl rfl (hf59.cell 1 _ rfl)) rfl ?_
          refine WS.y (Y.move rfl) rfl ?_
          obtain ⟨e60, he60, h⟩ := bnd h
          have hf69 := hf55.mono (imm_st hst58 rfl rfl)
          obtain ⟨b61, off70, cap68, cs67, hv62, hi63, hl64, hc65, hok66, hA71⟩ := Sl.at2 hf69 he60
          obtain rfl := hok66
          replace hc65 : CellsAt _ _ _ [vu e60] := hc65
          have hca72 := CAt.imm hc65 hA71
          refine WS.y (Y.indexAddr ty23 ty22 rfl hv62 rfl hi63 hl64) rfl ?_
          refine WS.y (Y.loadSc ty22 rfl rfl hca72.at_) rfl ?_
          refine WS.y (Y.fieldAddr fo25_1 rfl) rfl ?_
          have hf73 := hb27.st hst42 rfl
          have hf74 := hf73.st hst58 rfl
          refine WS.y (Y.loadSc ty23 rfl rfl (hf74.cell 1 _ rfl)) rfl ?_
          refine WS.y (Y.move rfl) rfl ?_
          obtain ⟨e75, he75, h⟩ := bnd h
          have hf84 := hf22.mono (imm_st hst31 rfl rfl)
          have hf85 := hf84.mono (imm_st hst42 rfl rfl)
          have hf86 := hf85.mono (imm_st hst58 rfl rfl)
          obtain ⟨b76, off87, cap83, cs82, hv77, hi78, hl79, hc80, hok81, hA88⟩ := Sl.at2 hf86 he75
          obtain rfl := hok81
          replace hc80 : CellsAt _ _ _ [vu e75] := hc80
          have hca89 := CAt.imm hc80 hA88
          refine WS.y (Y.indexAddr ty23 ty22 rfl hv77 rfl hi78 hl79) rfl ?_
          refine WS.y (Y.loadSc ty22 rfl rfl hca89.at_) rfl ?_
          refine WS.tail ?_
          refine WL.y (Y.neq_u rfl rfl) rfl ?_
          refine WL.nil ?_
          refine At.then ?_
          rcases cnd h with ⟨hc90, h⟩ | ⟨hc90, h⟩
          · refine WC.condT' rfl hc90 ?_
            refine WC.seq ?_
            refine WC.region ?_
            refine WL.y (Y.assign rfl) rfl ?_
            refine WL.nil ?_
            refine At.then ?_
            refine WC.ret ?_
            refine At.inBlockR ?_
            refine At.thenR ?_
            refine At.loopR ?_
            have h := outr1 h hn51 hk48
            refine At.joinBR ?_
            refine At.inBlockR ?_
            refine At.thenR ?_
            obtain rfl := some1 h
            have hs91 : Stp [] (Lg.O0 A) w O40 wd57 := (Stp.trans (Stp.up hst21 rfl) (Stp.trans (Stp.up hst31 rfl) (Stp.trans (Stp.up hst42 rfl) (Stp.up hst58 rfl))))
            exact At.res (.inl rfl) rfl (.tmp rfl .nil) ⟨rfl, (Stp.ext hs91 rfl rfl)⟩
          · refine WC.condF' rfl hc90 ?_
            refine WC.skip ?_
            refine At.inBlock ?_
            refine At.then ?_
            refine WC.region ?_
            refine WL.y (Y.move rfl) rfl ?_
            refine WL.y (Y.add_i rfl rfl) rfl ?_
            obtain ⟨i92, hi92, h⟩ := lt1 h
            refine WL.yE (Y.assign rfl) (congrArg vi hi92.symm) rfl ?_
            refine WL.nil ?_
            exact At.round (i92, O40) j49 (Nat.lt_succ_self _) ⟨next1 h hn51, (Stp.trans (Stp.up hst42 rfl) (Stp.up hst58 rfl))⟩ (.cons rfl (.cons rfl (.cons rfl .nil)))
        · refine WC.condF' rfl hc56 ?_
          refine WC.exit ?_
          refine At.thenX ?_
          refine At.loopX ?_
          exact At.hitB (σ := Own) O40 ⟨brk1 h hn51, (Stp.up hst42 rfl)⟩ .nil
      · rintro O43 wd44 ⟨rfl, hst45⟩
        replace h := flowK_go hk48
        refine (show At _ _ _ [] _ from ?_)
        refine At.inBlockHit ?_
        refine At.then ?_
        refine WC.seq ?_
        refine WC.region ?_
        refine WL.y (Y.assign rfl) rfl ?_
        refine WL.nil ?_
        refine At.then ?_
        refine WC.ret ?_
        obtain rfl := some1 h
        have hs93 : Stp [] (Lg.O0 A) w O43 wd44 := (Stp.trans (Stp.up hst21 rfl) (Stp.trans (Stp.up hst31 rfl) (Stp.up hst45 rfl)))
        exact At.res (.inl rfl) rfl (.tmp rfl .nil) ⟨rfl, (Stp.ext hs93 rfl rfl)⟩

theorem c_slices_Clone_uint64_uint64 {A : Nat → Prop} {a0 : List UInt64} {v0 : Value} {w : World} (hs0 : Sl Rep.u w A v0 a0) {r0 : List UInt64} (h : slices_Clone_uint64_uint64 a0 = some r0) : Rets Try.prog 65 [v0] w (fun v w' => ∃ (u0 : Value), v = u0 ∧ Ext w w' ∧ RowF Rep.u 22 w w' u0 r0) := by
  unfold slices_Clone_uint64_uint64 at h
  refine Rets.enter Try.func65 rfl rfl ?_
  refine (show WC _ _ _ _ [(0, v0)] _ from ?_)
  refine WC.seq (WC.region (WL.y (Y.assign rfl) rfl (WL.nil (At.then ?_))))
  refine WC.seq (WC.seq (WC.region ?_))
  refine WL.y (Y.move rfl) rfl ?_
  rcases hs0.nilOr with ⟨rfl, rfl⟩ | ⟨q, n, c, rfl⟩
  · refine WL.y (Y.slnil (p := none) (n := 0) (c := 0) ty23.u rfl rfl) rfl (WL.nil (At.then ?_))
    refine WC.condT rfl (WC.seq (WC.region (WL.y (Y.assign rfl) rfl (WL.nil (At.then (WC.ret (At.thenR ?_)))))))
    have : r0 = [] := by simpa [app] using h.symm
    subst this
    exact At.res (.inl rfl) rfl (.tmp rfl .nil) ⟨_, rfl, Ext.refl w, RowF.nil⟩
  · refine WL.y (Y.slnil (p := some _) ty23.u rfl rfl) rfl (WL.nil (At.then ?_))
    refine WC.condF rfl (WC.skip (At.then ?_))
    refine WC.seq (WC.region ?_)
    have hs := hs0
    refine WL.buildSlice (O := Lg.O0 A) (R := Rep.u) (vals := []) 11 [] (xs := []) (by decide) ty23 ty22 (by decide) (by decide) (Fits.evalp rfl) (by kernel_rfl) rfl rfl rfl ?_
    intro v O1 w1 hst1 ho1
    refine WL.y (Y.move rfl) rfl ?_
    have hs1 := (Sl.start hs).mono (imm_st hst1 rfl rfl)
    refine WL.append (by decide) ty23 ty22 rfl (by decide) rfl rfl ho1 hs1.src h rfl ?_
    intro v2 O2 w2 hst2 ho2
    refine WL.y (Y.assign rfl) rfl (WL.nil (At.then (WC.ret ?_)))
    have hs9 : Stp [11] (Lg.O0 A) w O2 w2 := (Stp.trans (Stp.up hst1 rfl) hst2)
    exact At.res (.inl rfl) rfl (.tmp rfl .nil) ⟨_, rfl, Stp.ext hs9 rfl rfl, OwnSl.outF ho2 hs9 low0 rfl⟩

theorem c_hist_Trim {A : Nat → Prop} {v0_1 : Value} {a0 : api_Side} {w : World} (hs0_1 : Sl Rep.u w A v0_1 a0.Counts) {r0 : api_Side} (h : hist_Trim a0 = some r0) : Rets Try.prog 28 [.agg [vi a0.Offset, v0_1].toArray] w (fun v w' => ∃ (u0_1 : Value), v = .agg (List.toArray [vi r0.Offset, u0_1]) ∧ Ext w w' ∧ Sl Rep.u w' (fun k => w.heap.size ≤ k) u0_1 r0.Counts) := by
  unfold hist_Trim at h
  refine Rets.enter Try.func28 rfl rfl ?_
  have hf11 : Sl Rep.u w (imm (Lg.O0 A)) v0_1 a0.Counts := (Sl.start hs0_1)
  refine (show WC _ _ _ _ [(0, .agg [vi a0.Offset, v0_1].toArray)] _ from ?_)
  refine WC.seq ?_
  refine WC.region ?_
  have hh15 := h
  obtain ⟨p12, m13, c14, rfl⟩ := hf11.shape
  have h := hh15
  refine WL.box (O := (Lg.O0 A)) 11 [vi a0.Offset, (.slice p12 m13 c14)] rfl rfl rfl ?_
  intro p17 O18 wd19 hst20 hb16
  refine WL.alloc (O := O18) 12 [vi 0, .slice none 0 0] ty25 rfl rfl ?_
  intro p22 O23 wd24 hst25 hb21
  refine WL.nil ?_
  refine At.then ?_
  refine WC.seq ?_
  refine WC.draw 4 O23 fmix (by kernel_rfl) ?_
  intro wd26 hst27
  refine WS.y (Y.fieldAddr fo25_1 rfl) rfl ?_
  have hf28 := hb16.st hst25 rfl
  have hf29 := hf28.st hst27 rfl
  refine WS.y (Y.loadSc ty23 rfl rfl (hf29.cell 1 _ rfl)) rfl ?_
  have hf30 := hf11.mono (imm_st hst20 rfl rfl)
  have hf31 := hf30.mono (imm_st hst25 rfl rfl)
  have hf32 := hf31.mono (imm_st hst27 rfl rfl)
  refine WS.y (Y.len ty23 rfl hf32) rfl ?_
  refine WS.y (Y.assign rfl) rfl ?_
  refine WS.tail ?_
  obtain ⟨to33, hto33, h⟩ := lt1 h
  refine WL.yE (Y.assign rfl) (congrArg vi hto33.symm) rfl ?_
  refine WL.nil ?_
  refine At.then ?_
  refine WC.seq ?_
  obtain ⟨p35, h, hk36⟩ := bnd h
  refine WC.join (σ := Int) (fun x w' => x = p35 ∧ wd26 = w') (fun x => [(1, .pointer (some ⟨p17, 0, none⟩)), (2, .pointer (some ⟨p22, 0, none⟩)), (3, vi x), (4, vi to33)]) ?_ ?_
  · refine WC.block ?_
    obtain ⟨p39, h, hk41⟩ := flow1 h
    obtain ⟨k40, h⟩ := loop_some h
    refine WC.joinB 0 (σ := Int) (fun x w' => p39 = .go x ∧ wd26 = w') (fun x => [(1, .pointer (some ⟨p17, 0, none⟩)), (2, .pointer (some ⟨p22, 0, none⟩)), (3, vi x), (4, vi to33)]) ?_ ?_
    · refine WC.loop (σ := Int) (fun x k w' => loopN k (hist_Trim_lp1 a0 to33) x = some p39 ∧ wd26 = w') (fun x => [(1, .pointer (some ⟨p17, 0, none⟩)), (2, .pointer (some ⟨p22, 0, none⟩)), (3, vi x), (4, vi to33)]) 0 k40 (.cons rfl (.cons rfl (.cons rfl (.cons rfl .nil)))) ⟨h, rfl⟩ ?_
      rintro from37 k40 _ ⟨h, rfl⟩
      obtain ⟨j42, q43, rfl, h, hn44⟩ := rnd1 h
      unfold hist_Trim_lp1 at h
      try dsimp only at h
      refine (show WC _ _ _ _ [(1, .pointer (some ⟨p17, 0, none⟩)), (2, .pointer (some ⟨p22, 0, none⟩)), (3, vi from37), (4, vi to33)] _ from ?_)
      refine WC.seq ?_
      refine WC.seq ?_
      refine WC.region ?_
      refine WL.y (Y.move rfl) rfl ?_
      refine WL.y (Y.move rfl) rfl ?_
      refine WL.y (Y.lss_i rfl rfl) rfl ?_
      refine WL.y (Y.move rfl) rfl ?_
      obtain ⟨p46, h, hk47⟩ := bnd h
      refine WL.cut 7 (σ := Bool) (fun x w' => x = p46 ∧ wd26 = w') (fun x => [(1, .pointer (some ⟨p17, 0, none⟩)), (2, .pointer (some ⟨p22, 0, none⟩)), (3, vi from37), (4, vi to33), (18, .bool x)]) ?_ ?_
      · rcases cnd h with ⟨hE48, h⟩ | ⟨hE48, h⟩
        · refine WL.ren 11 rfl (congrArg Value.bool hE48) ?_
          refine WL.ung rfl rfl ?_
          refine WL.y (Y.fieldAddr fo25_1 rfl) rfl ?_
          refine WL.ung rfl rfl ?_
          refine WL.y (Y.loadSc ty23 rfl rfl (hf29.cell 1 _ rfl)) rfl ?_
          refine WL.ung rfl rfl ?_
          refine WL.y (Y.move rfl) rfl ?_
          refine WL.ung rfl rfl ?_
          obtain ⟨e49, he49, h⟩ := bnd h
          obtain ⟨b50, off58, cap57, cs56, hv51, hi52, hl53, hc54, hok55, hA59⟩ := Sl.at2 hf32 he49
          obtain rfl := hok55
          replace hc54 : CellsAt _ _ _ [vu e49] := hc54
          have hca60 := CAt.imm hc54 hA59
          refine WL.y (Y.indexAddr ty23 ty22 rfl hv51 rfl hi52 hl53) rfl ?_
          refine WL.ung rfl rfl ?_
          refine WL.y (Y.loadSc ty22 rfl rfl hca60.at_) rfl ?_
          refine WL.ung rfl rfl ?_
          refine WL.y (Y.eql_u (b := 0) rfl rfl) rfl ?_
          refine WL.y (Y.pick (b := true) rfl rfl) rfl ?_
          exact WL.nil (At.join (σ := Bool) (decide (e49 = 0)) ⟨some1 h, rfl⟩ (.cons rfl (.cons rfl (.cons rfl (.cons rfl (.cons rfl .nil))))))
        · refine WL.ren 11 rfl (congrArg Value.bool hE48) ?_
          refine WL.gS rfl rfl rfl rfl ?_
          refine WL.gS rfl rfl rfl rfl ?_
          refine WL.gS rfl rfl rfl rfl ?_
          refine WL.gS rfl rfl rfl rfl ?_
          refine WL.gS rfl rfl rfl rfl ?_
          refine WL.gS rfl rfl rfl rfl ?_
          refine WL.y (Y.pick (b := false) rfl rfl) rfl ?_
          exact WL.nil (At.join (σ := Bool) false ⟨some1 h, rfl⟩ (.cons rfl (.cons rfl (.cons rfl (.cons rfl (.cons rfl .nil))))))
      · rintro x45 _ ⟨rfl, rfl⟩
        replace h := hk47
        try dsimp only at h
        refine (show WL _ _ _ _ _ [(1, .pointer (some ⟨p17, 0, none⟩)), (2, .pointer (some ⟨p22, 0, none⟩)), (3, vi from37), (4, vi to33), (18, .bool x45)] _ from ?_)
        refine WL.nil ?_
        refine At.then ?_
        rcases cnd h with ⟨hc61, h⟩ | ⟨hc61, h⟩
        · refine WC.condT' rfl hc61 ?_
          refine WC.skip ?_
          refine At.then ?_
          refine WC.block ?_
          refine WC.region ?_
          refine WL.y (Y.move rfl) rfl ?_
          refine WL.y (Y.add_i rfl rfl) rfl ?_
          obtain ⟨from62, hfrom62, h⟩ := lt1 h
          refine WL.yE (Y.assign rfl) (congrArg vi hfrom62.symm) rfl ?_
          refine WL.nil ?_
          refine At.inBlock ?_
          exact At.round from62 j42 (Nat.lt_succ_self _) ⟨next1 h hn44, rfl⟩ (.cons rfl (.cons rfl (.cons rfl (.cons rfl .nil))))
        · refine WC.condF' rfl hc61 ?_
          refine WC.exit ?_
          refine At.thenX ?_
          refine At.loopX ?_
          exact At.hitB (σ := Int) from37 ⟨brk1 h hn44, rfl⟩ (.cons rfl (.cons rfl (.cons rfl (.cons rfl .nil))))
    · rintro from38 _ ⟨rfl, rfl⟩
      replace h := flowK_go hk41
      try dsimp only at h
      refine (show At _ _ _ [(1, .pointer (some ⟨p17, 0, none⟩)), (2, .pointer (some ⟨p22, 0, none⟩)), (3, vi from38), (4, vi to33)] _ from ?_)
      refine At.inBlockHit ?_
      exact At.join (σ := Int) from38 ⟨some1 h, rfl⟩ (.cons rfl (.cons rfl (.cons rfl (.cons rfl .nil))))
  · rintro from34 _ ⟨rfl, rfl⟩
    replace h := hk36
    try dsimp only at h
    refine (show At _ _ _ [(1, .pointer (some ⟨p17, 0, none⟩)), (2, .pointer (some ⟨p22, 0, none⟩)), (3, vi from34), (4, vi to33)] _ from ?_)
    refine At.then ?_
    refine WC.seq ?_
    obtain ⟨p64, h, hk65⟩ := bnd h
    refine WC.join (σ := Int) (fun x w' => x = p64 ∧ wd26 = w') (fun x => [(1, .pointer (some ⟨p17, 0, none⟩)), (2, .pointer (some ⟨p22, 0, none⟩)), (3, vi from34), (4, vi x)]) ?_ ?_
    · refine WC.block ?_
      obtain ⟨p68, h, hk70⟩ := flow1 h
      obtain ⟨k69, h⟩ := loop_some h
      refine WC.joinB 2 (σ := Int) (fun x w' => p68 = .go x ∧ wd26 = w') (fun x => [(1, .pointer (some ⟨p17, 0, none⟩)), (2, .pointer (some ⟨p22, 0, none⟩)), (3, vi from34), (4, vi x)]) ?_ ?_
      · refine WC.loop (σ := Int) (fun x k w' => loopN k (hist_Trim_lp2 a0 from34) x = some p68 ∧ wd26 = w') (fun x => [(1, .pointer (some ⟨p17, 0, none⟩)), (2, .pointer (some ⟨p22, 0, none⟩)), (3, vi from34), (4, vi x)]) to33 k69 (.cons rfl (.cons rfl (.cons rfl (.cons rfl .nil)))) ⟨h, rfl⟩ ?_
        rintro to66 k69 _ ⟨h, rfl⟩
        obtain ⟨j71, q72, rfl, h, hn73⟩ := rnd1 h
        unfold hist_Trim_lp2 at h
        try dsimp only at h
        refine (show WC _ _ _ _ [(1, .pointer (some ⟨p17, 0, none⟩)), (2, .pointer (some ⟨p22, 0, none⟩)), (3, vi from34), (4, vi to66)] _ from ?_)
        refine WC.seq ?_
        refine WC.seq ?_
        refine WC.region ?_
        refine WL.y (Y.move rfl) rfl ?_
        refine WL.y (Y.move rfl) rfl ?_
        refine WL.y (Y.gtr_i rfl rfl) rfl ?_
        refine WL.y (Y.move rfl) rfl ?_
        obtain ⟨p75, h, hk76⟩ := bnd h
        refine WL.cut 8 (σ := Bool) (fun x w' => x = p75 ∧ wd26 = w') (fun x => [(1, .pointer (some ⟨p17, 0, none⟩)), (2, .pointer (some ⟨p22, 0, none⟩)), (3, vi from34), (4, vi to66), (32, .bool x)]) ?_ ?_
        · rcases cnd h with ⟨hE77, h⟩ | ⟨hE77, h⟩
          · refine WL.ren 24 rfl (congrArg Value.bool hE77) ?_
            refine WL.ung rfl rfl ?_
            refine WL.y (Y.fieldAddr fo25_1 rfl) rfl ?_
            refine WL.ung rfl rfl ?_
            refine WL.y (Y.loadSc ty23 rfl rfl (hf29.cell 1 _ rfl)) rfl ?_
            refine WL.ung rfl rfl ?_
            refine WL.y (Y.move rfl) rfl ?_
            refine WL.ung rfl rfl ?_
            refine WL.y (Y.sub_i rfl rfl) rfl ?_
            refine WL.ung rfl rfl ?_
            obtain ⟨e78, he78, h⟩ := bnd h
            obtain ⟨b79, off87, cap86, cs85, hv80, hi81, hl82, hc83, hok84, hA88⟩ := Sl.at2 hf32 he78
            obtain rfl := hok84
            replace hc83 : CellsAt _ _ _ [vu e78] := hc83
            have hca89 := CAt.imm hc83 hA88
            refine WL.y (Y.indexAddr ty23 ty22 rfl hv80 rfl hi81 hl82) rfl ?_
            refine WL.ung rfl rfl ?_
            refine WL.y (Y.loadSc ty22 rfl rfl hca89.at_) rfl ?_
            refine WL.ung rfl rfl ?_
            refine WL.y (Y.eql_u (b := 0) rfl rfl) rfl ?_
            refine WL.y (Y.pick (b := true) rfl rfl) rfl ?_
            exact WL.nil (At.join (σ := Bool) (decide (e78 = 0)) ⟨some1 h, rfl⟩ (.cons rfl (.cons rfl (.cons rfl (.cons rfl (.cons rfl .nil))))))
          · refine WL.ren 24 rfl (congrArg Value.bool hE77) ?_
            refine WL.gS rfl rfl rfl rfl ?_
            refine WL.gS rfl rfl rfl rfl ?_
            refine WL.gS rfl rfl rfl rfl ?_
            refine WL.gS rfl rfl rfl rfl ?_
            refine WL.gS rfl rfl rfl rfl ?_
            refine WL.gS rfl rfl rfl rfl ?_
            refine WL.gS rfl rfl rfl rfl ?_
            refine WL.y (Y.pick (b := false) rfl rfl) rfl ?_
            exact WL.nil (At.join (σ := Bool) false ⟨some1 h, rfl⟩ (.cons rfl (.cons rfl (.cons rfl (.cons rfl (.cons rfl .nil))))))
        · rintro x74 _ ⟨rfl, rfl⟩
          replace h := hk76
          try dsimp only at h
          refine (show WL _ _ _ _ _ [(1, .pointer (some ⟨p17, 0, none⟩)), (2, .pointer (some ⟨p22, 0, none⟩)), (3, vi from34), (4, vi to66), (32, .bool x74)] _ from ?_)
          refine WL.nil ?_
          refine At.then ?_
          rcases cnd h with ⟨hc90, h⟩ | ⟨hc90, h⟩
          · refine WC.condT' rfl hc90 ?_
            refine WC.skip ?_
            refine At.then ?_
            refine WC.block ?_
            refine WC.region ?_
            refine WL.y (Y.move rfl) rfl ?_
            refine WL.y (Y.sub_i rfl rfl) rfl ?_
            obtain ⟨to91, hto91, h⟩ := lt1 h
            refine WL.yE (Y.assign rfl) (congrArg vi hto91.symm) rfl ?_
            refine WL.nil ?_
            refine At.inBlock ?_
            exact At.round to91 j71 (Nat.lt_succ_self _) ⟨next1 h hn73, rfl⟩ (.cons rfl (.cons rfl (.cons rfl (.cons rfl .nil))))
          · refine WC.condF' rfl hc90 ?_
            refine WC.exit ?_
            refine At.thenX ?_
            refine At.loopX ?_
            exact At.hitB (σ := Int) to66 ⟨brk1 h hn73, rfl⟩ (.cons rfl (.cons rfl (.cons rfl (.cons rfl .nil))))
      · rintro to67 _ ⟨rfl, rfl⟩
        replace h := flowK_go hk70
        try dsimp only at h
        refine (show At _ _ _ [(1, .pointer (some ⟨p17, 0, none⟩)), (2, .pointer (some ⟨p22, 0, none⟩)), (3, vi from34), (4, vi to67)] _ from ?_)
        refine At.inBlockHit ?_
        exact At.join (σ := Int) to67 ⟨some1 h, rfl⟩ (.cons rfl (.cons rfl (.cons rfl (.cons rfl .nil))))
    · rintro to63 _ ⟨rfl, rfl⟩
      replace h := hk65
      try dsimp only at h
      refine (show At _ _ _ [(1, .pointer (some ⟨p17, 0, none⟩)), (2, .pointer (some ⟨p22, 0, none⟩)), (3, vi from34), (4, vi to63)] _ from ?_)
      refine At.then ?_
      refine WC.seq ?_
      refine WC.seq ?_
      refine WC.region ?_
      refine WL.y (Y.move rfl) rfl ?_
      refine WL.y (Y.move rfl) rfl ?_
      refine WL.y (Y.eql_i rfl rfl) rfl ?_
      refine WL.nil ?_
      refine At.then ?_
      rcases cnd h with ⟨hc92, h⟩ | ⟨hc92, h⟩
      · refine WC.condT' rfl hc92 ?_
        refine WC.seq ?_
        refine WC.region ?_
        refine WL.y (Y.build (vals := []) (cells := [vi 0, .slice none 0 0]) (Fits.evalp rfl) (by kernel_rfl)) rfl ?_
        have hf93 := hb21.st hst27 rfl
        refine WL.store (v := .agg [vi 0, .slice none 0 0].toArray) (cells' := [vi 0, .slice none 0 0]) ty25 rfl rfl hf93 rfl (Nat.le_of_ble_eq_true rfl) rfl rfl ?_
        intro wd94 hst95 hb96
        refine WL.nil ?_
        refine At.then ?_
        refine WC.ret ?_
        refine At.thenR ?_
        obtain rfl := some1 h
        have hs97 : Stp [12] (Lg.O0 A) w O23 wd94 := (Stp.trans (Stp.up hst20 rfl) (Stp.trans (Stp.up hst25 rfl) (Stp.trans (Stp.up hst27 rfl) (Stp.up hst95 rfl))))
        exact At.res (.inl rfl) rfl (.cell rfl (hb96.runAg 0 [vi 0, .slice none 0 0] ty25 rfl rfl rfl) .nil) ⟨.slice none 0 0, rfl, (Stp.ext hs97 rfl rfl), (Or.inl ⟨rfl, rfl⟩)⟩
      · refine WC.condF' rfl hc92 ?_
        refine WC.skip ?_
        refine At.then ?_
        refine WC.seq ?_
        refine WC.drawH [] [0, 1, 2, 3, 4, 5, 6, 7, 8, 9, 10] O23 12 fmix rfl (by kernel_rfl) ?_
        intro wd98 hst99
        refine WD.y 0 rfl (by kernel_rfl) (fun _ _ _ => Y.fieldAddr fo25_0 rfl) rfl ?_
        refine WD.y 1 rfl (by kernel_rfl) (fun wd104 O103 hst105 => have hf106 := hf29.st hst99 rfl; have hf107 := hf106.st hst105 rfl; Y.loadSc ty3 rfl rfl (hf107.cell 0 _ rfl)) rfl ?_
        refine WD.y 2 rfl (by kernel_rfl) (fun _ _ _ => Y.move rfl) rfl ?_
        refine WD.y 3 rfl (by kernel_rfl) (fun _ _ _ => Y.add_i rfl rfl) rfl ?_
        refine WD.y 4 rfl (by kernel_rfl) (fun _ _ _ => Y.fieldAddr fo25_1 rfl) rfl ?_
        refine WD.y 5 rfl (by kernel_rfl) (fun wd118 O117 hst119 => have hf120 := hf29.st hst99 rfl; have hf121 := hf120.st hst119 rfl; Y.loadSc ty23 rfl rfl (hf121.cell 1 _ rfl)) rfl ?_
        refine WD.y 6 rfl (by kernel_rfl) (fun _ _ _ => Y.move rfl) rfl ?_
        refine WD.y 7 rfl (by kernel_rfl) (fun _ _ _ => Y.move rfl) rfl ?_
        obtain ⟨t128, ht128, h⟩ := bnd h
        have hf131 := hf32.mono (imm_st hst99 rfl rfl)
        obtain ⟨v129, hY132, hf130⟩ := Sl.slice (ρ := [(44, (.slice p12 m13 c14)), (45, vi from34), (46, vi to63)]) (x := (.tmp 44)) (lo := (some (.tmp 45))) (hi := (some (.tmp 46))) ty23 ty22 rfl rfl rfl hf131 ht128
        refine WD.y 8 rfl (by kernel_rfl) (fun _ _ _ => Y.sub (.cons rfl (.cons rfl (.cons rfl .nil))) (hY132 _ _)) rfl ?_
        refine WD.heavy 9 rfl (by kernel_rfl) ?_
        obtain ⟨r136, hp137, h⟩ := bnd h
        refine WL.call (vals := [v129]) kok65 rfl rfl (c_slices_Clone_uint64_uint64 (A := fun _ => True) (Sl.all hf130) hp137) ?_
        rintro vr142 wd141 ⟨_, rfl, hm140, f139⟩
        obtain ⟨O143, hold144, hnew145, hst146⟩ := adoptE O23 (fun k => if Value.ownBlock vr142 = some k then 13 else 1) hm140
        have hf147 : OwnSl 13 Rep.u 22 O143 wd141 vr142 r136 := RowF.adopt 13 Flat.u f139 hnew145 (fun k hk => if_pos hk)
        refine WL.nil ?_
        refine At.dq (Stp.up hst146 rfl) ?_
        have hh151 := h
        obtain ⟨p148, m149, c150, rfl⟩ := hf147.shape
        have h := hh151
        refine WD.y 10 rfl (by kernel_rfl) (fun _ _ _ => Y.build (vals := [(0, vi (w64 (a0.Offset + from34))), (1, (.slice p148 m149 c150))]) (cells := [vi (w64 (a0.Offset + from34)), (.slice p148 m149 c150)]) (Fits.evalp rfl) (by kernel_rfl)) rfl ?_
        refine WD.phase [12] [0, 1, 2, 3, 4, 5, 6, 7, 8, 9, 10, 11] (by kernel_rfl) (by kernel_rfl) ?_
        refine WD.heavy 11 rfl (by kernel_rfl) ?_
        have hf155 := hb21.st hst27 rfl
        have hf156 := hf155.st hst99 rfl
        have hf157 := hf156.st hst146 rfl
        refine WL.store (v := .agg [vi (w64 (a0.Offset + from34)), (.slice p148 m149 c150)].toArray) (cells' := [vi (w64 (a0.Offset + from34)), (.slice p148 m149 c150)]) ty25 rfl rfl hf157 rfl (Nat.le_of_ble_eq_true rfl) rfl rfl ?_
        intro wd158 hst159 hb160
        refine WL.nil ?_
        refine At.dq (Stp.up hst159 rfl) ?_
        refine WD.done_ (by kernel_rfl) ?_
        refine At.then ?_
        refine WC.ret ?_
        obtain rfl := some1 h
        have hf161 := hf147.st hst159 rfl rfl rfl
        obtain ⟨O162, hst163, hf164⟩ := OwnSl.giveF rfl Flat.u hf161
        have hs165 : Stp [12, 13] (Lg.O0 A) w O162 wd158 := (Stp.trans (Stp.up hst20 rfl) (Stp.trans (Stp.up hst25 rfl) (Stp.trans (Stp.up hst27 rfl) (Stp.trans (Stp.up hst99 rfl) (Stp.trans (Stp.up hst146 rfl) (Stp.trans (Stp.up hst159 rfl) (Stp.up hst163 rfl)))))))
        have hf166 := hb160.st hst163 rfl
        exact At.res (.inl rfl) rfl (.cell rfl (hf166.runAg 0 [vi (w64 (a0.Offset + from34)), (.slice p148 m149 c150)] ty25 rfl rfl rfl) .nil) ⟨(.slice p148 m149 c150), rfl, (Stp.ext hs165 rfl rfl), (Sl.outF hf164 hs165 low0)⟩

theorem c_ref08_Trim {A : Nat → Prop} {v0_1 : Value} {a0 : api_Side} {w : World} (hs0_1 : Sl Rep.u w A v0_1 a0.Counts) {r0 : api_Side} (h : ref08_Trim a0 = some r0) : Rets Try.prog 29 [.agg [vi a0.Offset, v0_1].toArray] w (fun v w' => ∃ (u0_1 : Value), v = .agg (List.toArray [vi r0.Offset, u0_1]) ∧ Ext w w' ∧ Sl Rep.u w' (fun k => w.heap.size ≤ k) u0_1 r0.Counts) := by
  unfold ref08_Trim at h
  refine Rets.enter Try.func29 rfl rfl ?_
  have hf11 : Sl Rep.u w (imm (Lg.O0 A)) v0_1 a0.Counts := (Sl.start hs0_1)
  refine (show WC _ _ _ _ [(0, .agg [vi a0.Offset, v0_1].toArray)] _ from ?_)
  refine WC.seq ?_
  refine WC.region ?_
  have hh15 := h
  obtain ⟨p12, m13, c14, rfl⟩ := hf11.shape
  have h := hh15
  refine WL.box (O := (Lg.O0 A)) 11 [vi a0.Offset, (.slice p12 m13 c14)] rfl rfl rfl ?_
  intro p17 O18 wd19 hst20 hb16
  refine WL.alloc (O := O18) 12 [vi 0, .slice none 0 0] ty25 rfl rfl ?_
  intro p22 O23 wd24 hst25 hb21
  refine WL.nil ?_
  refine At.then ?_
  refine WC.seq ?_
  refine WC.region ?_
  refine WL.y (Y.fieldAddr fo25_1 rfl) rfl ?_
  have hf26 := hb16.st hst25 rfl
  refine WL.y (Y.loadSc ty23 rfl rfl (hf26.cell 1 _ rfl)) rfl ?_
  refine WL.y (Y.assign rfl) rfl ?_
  refine WL.nil ?_
  refine At.then ?_
  refine WC.seq ?_
  refine WC.region ?_
  refine WL.y (Y.fieldAddr fo25_0 rfl) rfl ?_
  refine WL.y (Y.loadSc ty3 rfl rfl (hf26.cell 0 _ rfl)) rfl ?_
  refine WL.y (Y.assign rfl) rfl ?_
  refine WL.nil ?_
  refine At.then ?_
  refine WC.seq ?_
  obtain ⟨p34, h, hk35⟩ := bnd h
  refine WC.join (σ := (List UInt64 × Int × Own × Value)) (fun x w' => (x.1, x.2.1) = p34 ∧ Stp [] O23 wd24 x.2.2.1 w' ∧ Sl Rep.u w' (imm x.2.2.1) x.2.2.2 x.1) (fun x => [(2, .pointer (some ⟨p22, 0, none⟩)), (3, x.2.2.2), (4, vi x.2.1)]) ?_ ?_
  · refine WC.block ?_
    obtain ⟨p50, h, hk52⟩ := flow1 h
    obtain ⟨k51, h⟩ := loop_some h
    refine WC.joinB 0 (σ := (List UInt64 × Int × Own × Value)) (fun x w' => p50 = .go (x.1, x.2.1) ∧ Stp [] O23 wd24 x.2.2.1 w' ∧ Sl Rep.u w' (imm x.2.2.1) x.2.2.2 x.1) (fun x => [(2, .pointer (some ⟨p22, 0, none⟩)), (3, x.2.2.2), (4, vi x.2.1)]) ?_ ?_
    · have hf53 := hf11.mono (imm_st hst20 rfl rfl)
      have hf54 := hf53.mono (imm_st hst25 rfl rfl)
      refine WC.loop (σ := (List UInt64 × Int × Own × Value)) (fun x k w' => loopN k (ref08_Trim_lp1) (x.1, x.2.1) = some p50 ∧ Stp [] O23 wd24 x.2.2.1 w' ∧ Sl Rep.u w' (imm x.2.2.1) x.2.2.2 x.1) (fun x => [(2, .pointer (some ⟨p22, 0, none⟩)), (3, x.2.2.2), (4, vi x.2.1)]) (a0.Counts, a0.Offset, O23, (.slice p12 m13 c14)) k51 (.cons rfl (.cons rfl (.cons rfl .nil))) ⟨h, (Stp.refl _ _ _), hf54⟩ ?_
      rintro ⟨l36, at39, O40, v37⟩ k51 wd41 ⟨h, hst42, hf38⟩
      obtain ⟨j55, q56, rfl, h, hn57⟩ := rnd1 h
      unfold ref08_Trim_lp1 at h
      try dsimp only at h hst42 hf38
      refine (show WC _ _ _ _ [(2, .pointer (some ⟨p22, 0, none⟩)), (3, v37), (4, vi at39)] _ from ?_)
      refine WC.seq ?_
      refine WC.seq ?_
      refine WC.region ?_
      refine WL.y (Y.move rfl) rfl ?_
      refine WL.y (Y.len ty23 rfl hf38) rfl ?_
      refine WL.y (Y.gtr_i rfl rfl) rfl ?_
      refine WL.y (Y.move rfl) rfl ?_
      obtain ⟨p59, h, hk60⟩ := bnd h
      refine WL.cut 5 (σ := Bool) (fun x w' => x = p59 ∧ wd41 = w') (fun x => [(2, .pointer (some ⟨p22, 0, none⟩)), (3, v37), (4, vi at39), (18, .bool x)]) ?_ ?_
      · rcases cnd h with ⟨hE61, h⟩ | ⟨hE61, h⟩
        · refine WL.ren 13 rfl (congrArg Value.bool hE61) ?_
          refine WL.ung rfl rfl ?_
          refine WL.y (Y.move rfl) rfl ?_
          refine WL.ung rfl rfl ?_
          obtain ⟨e62, he62, h⟩ := bnd h
          obtain ⟨b63, off71, cap70, cs69, hv64, hi65, hl66, hc67, hok68, hA72⟩ := Sl.at2 hf38 he62
          obtain rfl := hok68
          replace hc67 : CellsAt _ _ _ [vu e62] := hc67
          have hca73 := CAt.imm hc67 hA72
          refine WL.y (Y.indexAddr ty23 ty22 rfl hv64 rfl hi65 hl66) rfl ?_
          refine WL.ung rfl rfl ?_
          refine WL.y (Y.loadSc ty22 rfl rfl hca73.at_) rfl ?_
          refine WL.ung rfl rfl ?_
          refine WL.y (Y.eql_u (b := 0) rfl rfl) rfl ?_
          refine WL.y (Y.pick (b := true) rfl rfl) rfl ?_
          exact WL.nil (At.join (σ := Bool) (decide (e62 = 0)) ⟨some1 h, rfl⟩ (.cons rfl (.cons rfl (.cons rfl (.cons rfl .nil)))))
        · refine WL.ren 13 rfl (congrArg Value.bool hE61) ?_
          refine WL.gS rfl rfl rfl rfl ?_
          refine WL.gS rfl rfl rfl rfl ?_
          refine WL.gS rfl rfl rfl rfl ?_
          refine WL.gS rfl rfl rfl rfl ?_
          refine WL.y (Y.pick (b := false) rfl rfl) rfl ?_
          exact WL.nil (At.join (σ := Bool) false ⟨some1 h, rfl⟩ (.cons rfl (.cons rfl (.cons rfl (.cons rfl .nil)))))
      · rintro x58 _ ⟨rfl, rfl⟩
        replace h := hk60
        try dsimp only at h
        refine (show WL _ _ _ _ _ [(2, .pointer (some ⟨p22, 0, none⟩)), (3, v37), (4, vi at39), (18, .bool x58)] _ from ?_)
        refine WL.nil ?_
        refine At.then ?_
        rcases cnd h with ⟨hc74, h⟩ | ⟨hc74, h⟩
        · refine WC.condT' rfl hc74 ?_
          refine WC.skip ?_
          refine At.then ?_
          refine WC.block ?_
          refine WC.seq ?_
          refine WC.region ?_
          refine WL.y (Y.move rfl) rfl ?_
          obtain ⟨t75, ht75, h⟩ := bnd h
          obtain ⟨v76, hY78, hf77⟩ := Sl.slice (ρ := [(19, v37)]) (x := (.tmp 19)) (lo := (some (.const (.int .i64 1)))) (hi := none) ty23 ty22 rfl rfl rfl hf38 ht75
          refine WL.y (Y.sub (.cons rfl .nil) (hY78 _ _)) rfl ?_
          refine WL.y (Y.assign rfl) rfl ?_
          refine WL.nil ?_
          refine At.then ?_
          refine WC.region ?_
          refine WL.y (Y.move rfl) rfl ?_
          refine WL.y (Y.add_i rfl rfl) rfl ?_
          obtain ⟨at79, hat79, h⟩ := lt1 h
          refine WL.yE (Y.assign rfl) (congrArg vi hat79.symm) rfl ?_
          refine WL.nil ?_
          refine At.inBlock ?_
          exact At.round (t75, at79, O40, v76) j55 (Nat.lt_succ_self _) ⟨next1 h hn57, (Stp.up hst42 rfl), hf77⟩ (.cons rfl (.cons rfl (.cons rfl .nil)))
        · refine WC.condF' rfl hc74 ?_
          refine WC.exit ?_
          refine At.thenX ?_
          refine At.loopX ?_
          exact At.hitB (σ := (List UInt64 × Int × Own × Value)) (l36, at39, O40, v37) ⟨brk1 h hn57, (Stp.up hst42 rfl), hf38⟩ (.cons rfl (.cons rfl (.cons rfl .nil)))
    · rintro ⟨l43, at46, O47, v44⟩ wd48 ⟨rfl, hst49, hf45⟩
      replace h := flowK_go hk52
      try dsimp only at h hst49 hf45
      refine (show At _ _ _ [(2, .pointer (some ⟨p22, 0, none⟩)), (3, v44), (4, vi at46)] _ from ?_)
      refine At.inBlockHit ?_
      exact At.join (σ := (List UInt64 × Int × Own × Value)) (l43, at46, O47, v44) ⟨some1 h, (Stp.up hst49 rfl), hf45⟩ (.cons rfl (.cons rfl (.cons rfl .nil)))
  · rintro ⟨l27, at30, O31, v28⟩ wd32 ⟨rfl, hst33, hf29⟩
    replace h := hk35
    try dsimp only at h hst33 hf29
    refine (show At _ _ _ [(2, .pointer (some ⟨p22, 0, none⟩)), (3, v28), (4, vi at30)] _ from ?_)
    refine At.then ?_
    refine WC.seq ?_
    obtain ⟨p86, h, hk87⟩ := bnd h
    refine WC.join (σ := (List UInt64 × Own × Value)) (fun x w' => x.1 = p86 ∧ Stp [] O31 wd32 x.2.1 w' ∧ Sl Rep.u w' (imm x.2.1) x.2.2 x.1) (fun x => [(2, .pointer (some ⟨p22, 0, none⟩)), (3, x.2.2), (4, vi at30)]) ?_ ?_
    · refine WC.block ?_
      obtain ⟨p100, h, hk102⟩ := flow1 h
      obtain ⟨k101, h⟩ := loop_some h
      refine WC.joinB 2 (σ := (List UInt64 × Own × Value)) (fun x w' => p100 = .go x.1 ∧ Stp [] O31 wd32 x.2.1 w' ∧ Sl Rep.u w' (imm x.2.1) x.2.2 x.1) (fun x => [(2, .pointer (some ⟨p22, 0, none⟩)), (3, x.2.2), (4, vi at30)]) ?_ ?_
      · refine WC.loop (σ := (List UInt64 × Own × Value)) (fun x k w' => loopN k (ref08_Trim_lp2) x.1 = some p100 ∧ Stp [] O31 wd32 x.2.1 w' ∧ Sl Rep.u w' (imm x.2.1) x.2.2 x.1) (fun x => [(2, .pointer (some ⟨p22, 0, none⟩)), (3, x.2.2), (4, vi at30)]) (l27, O31, v28) k101 (.cons rfl (.cons rfl (.cons rfl .nil))) ⟨h, (Stp.refl _ _ _), hf29⟩ ?_
        rintro ⟨l88, O91, v89⟩ k101 wd92 ⟨h, hst93, hf90⟩
        obtain ⟨j103, q104, rfl, h, hn105⟩ := rnd1 h
        unfold ref08_Trim_lp2 at h
        try dsimp only at h hst93 hf90
        refine (show WC _ _ _ _ [(2, .pointer (some ⟨p22, 0, none⟩)), (3, v89), (4, vi at30)] _ from ?_)
        refine WC.seq ?_
        refine WC.seq ?_
        refine WC.region ?_
        refine WL.y (Y.move rfl) rfl ?_
        refine WL.y (Y.len ty23 rfl hf90) rfl ?_
        refine WL.y (Y.gtr_i rfl rfl) rfl ?_
        refine WL.y (Y.move rfl) rfl ?_
        obtain ⟨p107, h, hk108⟩ := bnd h
        refine WL.cut 8 (σ := Bool) (fun x w' => x = p107 ∧ wd92 = w') (fun x => [(2, .pointer (some ⟨p22, 0, none⟩)), (3, v89), (4, vi at30), (34, .bool x)]) ?_ ?_
        · rcases cnd h with ⟨hE109, h⟩ | ⟨hE109, h⟩
          · refine WL.ren 26 rfl (congrArg Value.bool hE109) ?_
            refine WL.ung rfl rfl ?_
            refine WL.y (Y.move rfl) rfl ?_
            refine WL.ung rfl rfl ?_
            refine WL.y (Y.move rfl) rfl ?_
            refine WL.ung rfl rfl ?_
            refine WL.y (Y.len ty23 rfl hf90) rfl ?_
            refine WL.ung rfl rfl ?_
            refine WL.y (Y.sub_i rfl rfl) rfl ?_
            refine WL.ung rfl rfl ?_
            obtain ⟨e110, he110, h⟩ := bnd h
            obtain ⟨b111, off119, cap118, cs117, hv112, hi113, hl114, hc115, hok116, hA120⟩ := Sl.at2 hf90 he110
            obtain rfl := hok116
            replace hc115 : CellsAt _ _ _ [vu e110] := hc115
            have hca121 := CAt.imm hc115 hA120
            refine WL.y (Y.indexAddr ty23 ty22 rfl hv112 rfl hi113 hl114) rfl ?_
            refine WL.ung rfl rfl ?_
            refine WL.y (Y.loadSc ty22 rfl rfl hca121.at_) rfl ?_
            refine WL.ung rfl rfl ?_
            refine WL.y (Y.eql_u (b := 0) rfl rfl) rfl ?_
            refine WL.y (Y.pick (b := true) rfl rfl) rfl ?_
            exact WL.nil (At.join (σ := Bool) (decide (e110 = 0)) ⟨some1 h, rfl⟩ (.cons rfl (.cons rfl (.cons rfl (.cons rfl .nil)))))
          · refine WL.ren 26 rfl (congrArg Value.bool hE109) ?_
            refine WL.gS rfl rfl rfl rfl ?_
            refine WL.gS rfl rfl rfl rfl ?_
            refine WL.gS rfl rfl rfl rfl ?_
            refine WL.gS rfl rfl rfl rfl ?_
            refine WL.gS rfl rfl rfl rfl ?_
            refine WL.gS rfl rfl rfl rfl ?_
            refine WL.gS rfl rfl rfl rfl ?_
            refine WL.y (Y.pick (b := false) rfl rfl) rfl ?_
            exact WL.nil (At.join (σ := Bool) false ⟨some1 h, rfl⟩ (.cons rfl (.cons rfl (.cons rfl (.cons rfl .nil)))))
        · rintro x106 _ ⟨rfl, rfl⟩
          replace h := hk108
          try dsimp only at h
          refine (show WL _ _ _ _ _ [(2, .pointer (some ⟨p22, 0, none⟩)), (3, v89), (4, vi at30), (34, .bool x106)] _ from ?_)
          refine WL.nil ?_
          refine At.then ?_
          rcases cnd h with ⟨hc122, h⟩ | ⟨hc122, h⟩
          · refine WC.condT' rfl hc122 ?_
            refine WC.skip ?_
            refine At.then ?_
            refine WC.block ?_
            refine WC.region ?_
            refine WL.y (Y.move rfl) rfl ?_
            refine WL.y (Y.move rfl) rfl ?_
            refine WL.y (Y.len ty23 rfl hf90) rfl ?_
            refine WL.y (Y.sub_i rfl rfl) rfl ?_
            obtain ⟨t123, ht123, h⟩ := bnd h
            obtain ⟨v124, hY126, hf125⟩ := Sl.slice (ρ := [(35, v89), (38, vi (w64 ((l88.length : Int) - 1)))]) (x := (.tmp 35)) (lo := none) (hi := (some (.tmp 38))) ty23 ty22 rfl rfl rfl hf90 ht123
            refine WL.y (Y.sub (.cons rfl (.cons rfl .nil)) (hY126 _ _)) rfl ?_
            refine WL.y (Y.assign rfl) rfl ?_
            refine WL.nil ?_
            refine At.inBlock ?_
            exact At.round (t123, O91, v124) j103 (Nat.lt_succ_self _) ⟨next1 h hn105, (Stp.up hst93 rfl), hf125⟩ (.cons rfl (.cons rfl (.cons rfl .nil)))
          · refine WC.condF' rfl hc122 ?_
            refine WC.exit ?_
            refine At.thenX ?_
            refine At.loopX ?_
            exact At.hitB (σ := (List UInt64 × Own × Value)) (l88, O91, v89) ⟨brk1 h hn105, (Stp.up hst93 rfl), hf90⟩ (.cons rfl (.cons rfl (.cons rfl .nil)))
      · rintro ⟨l94, O97, v95⟩ wd98 ⟨rfl, hst99, hf96⟩
        replace h := flowK_go hk102
        try dsimp only at h hst99 hf96
        refine (show At _ _ _ [(2, .pointer (some ⟨p22, 0, none⟩)), (3, v95), (4, vi at30)] _ from ?_)
        refine At.inBlockHit ?_
        exact At.join (σ := (List UInt64 × Own × Value)) (l94, O97, v95) ⟨some1 h, (Stp.up hst99 rfl), hf96⟩ (.cons rfl (.cons rfl (.cons rfl .nil)))
    · rintro ⟨l80, O83, v81⟩ wd84 ⟨rfl, hst85, hf82⟩
      replace h := hk87
      try dsimp only at h hst85 hf82
      refine (show At _ _ _ [(2, .pointer (some ⟨p22, 0, none⟩)), (3, v81), (4, vi at30)] _ from ?_)
      refine At.then ?_
      refine WC.seq ?_
      refine WC.seq ?_
      refine WC.region ?_
      refine WL.y (Y.move rfl) rfl ?_
      refine WL.y (Y.len ty23 rfl hf82) rfl ?_
      refine WL.y (Y.eql_i rfl rfl) rfl ?_
      refine WL.nil ?_
      refine At.then ?_
      rcases cnd h with ⟨hc127, h⟩ | ⟨hc127, h⟩
      · refine WC.condT' rfl hc127 ?_
        refine WC.seq ?_
        refine WC.region ?_
        refine WL.y (Y.build (vals := []) (cells := [vi 0, .slice none 0 0]) (Fits.evalp rfl) (by kernel_rfl)) rfl ?_
        have hf128 := hb21.st hst33 rfl
        have hf129 := hf128.st hst85 rfl
        refine WL.store (v := .agg [vi 0, .slice none 0 0].toArray) (cells' := [vi 0, .slice none 0 0]) ty25 rfl rfl hf129 rfl (Nat.le_of_ble_eq_true rfl) rfl rfl ?_
        intro wd130 hst131 hb132
        refine WL.nil ?_
        refine At.then ?_
        refine WC.ret ?_
        refine At.thenR ?_
        obtain rfl := some1 h
        have hs133 : Stp [12] (Lg.O0 A) w O83 wd130 := (Stp.trans (Stp.up hst20 rfl) (Stp.trans (Stp.up hst25 rfl) (Stp.trans (Stp.up hst33 rfl) (Stp.trans (Stp.up hst85 rfl) (Stp.up hst131 rfl)))))
        exact At.res (.inl rfl) rfl (.cell rfl (hb132.runAg 0 [vi 0, .slice none 0 0] ty25 rfl rfl rfl) .nil) ⟨.slice none 0 0, rfl, (Stp.ext hs133 rfl rfl), (Or.inl ⟨rfl, rfl⟩)⟩
      · refine WC.condF' rfl hc127 ?_
        refine WC.skip ?_
        refine At.then ?_
        refine WC.seq ?_
        refine WC.region ?_
        refine WL.y (Y.assign rfl) rfl ?_
        refine WL.nil ?_
        refine At.then ?_
        refine WC.seq ?_
        refine WC.region ?_
        refine WL.y (Y.move rfl) rfl ?_
        refine WL.y (Y.move rfl) rfl ?_
        obtain ⟨xs134, hxs134, h⟩ := bnd h
        have ho135 := OwnSl.nil (O := O83) (w := wd84) 13 Rep.u 22
        refine WL.append (by decide) ty23 ty22 rfl (by decide) rfl rfl ho135 (Sl.src hf82) hxs134 rfl ?_
        intro v139 O136 wd137 hst138 ho140
        refine WL.y (Y.assign rfl) rfl ?_
        refine WL.nil ?_
        refine At.then ?_
        refine WC.seq ?_
        refine WC.region ?_
        refine WL.y (Y.move rfl) rfl ?_
        refine WL.y (Y.move rfl) rfl ?_
        have hh144 := h
        obtain ⟨p141, m142, c143, rfl⟩ := ho140.shape
        have h := hh144
        refine WL.y (Y.build (vals := [(0, vi at30), (1, (.slice p141 m142 c143))]) (cells := [vi at30, (.slice p141 m142 c143)]) (Fits.evalp rfl) (by kernel_rfl)) rfl ?_
        have hf145 := hb21.st hst33 rfl
        have hf146 := hf145.st hst85 rfl
        have hf147 := hf146.st hst138 rfl
        refine WL.store (v := .agg [vi at30, (.slice p141 m142 c143)].toArray) (cells' := [vi at30, (.slice p141 m142 c143)]) ty25 rfl rfl hf147 rfl (Nat.le_of_ble_eq_true rfl) rfl rfl ?_
        intro wd148 hst149 hb150
        refine WL.nil ?_
        refine At.then ?_
        refine WC.ret ?_
        obtain rfl := some1 h
        have hf151 := ho140.st hst149 rfl rfl rfl
        obtain ⟨O152, hst153, hf154⟩ := OwnSl.giveF rfl Flat.u hf151
        have hs155 : Stp [12, 13] (Lg.O0 A) w O152 wd148 := (Stp.trans (Stp.up hst20 rfl) (Stp.trans (Stp.up hst25 rfl) (Stp.trans (Stp.up hst33 rfl) (Stp.trans (Stp.up hst85 rfl) (Stp.trans (Stp.up hst138 rfl) (Stp.trans (Stp.up hst149 rfl) (Stp.up hst153 rfl)))))))
        have hf156 := hb150.st hst153 rfl
        exact At.res (.inl rfl) rfl (.cell rfl (hf156.runAg 0 [vi at30, (.slice p141 m142 c143)] ty25 rfl rfl rfl) .nil) ⟨(.slice p141 m142 c143), rfl, (Stp.ext hs155 rfl rfl), (Sl.outF hf154 hs155 low0)⟩

theorem c_law08_HistSides {A : Nat → Prop} {v0_1 : Value} {a0 : api_Side} {a1 : Int} {w : World} (hs0_1 : Sl Rep.u w A v0_1 a0.Counts) {r0 : Bool} (h : law08_HistSides a0 a1 = some r0) : Rets Try.prog 7 [.agg [vi a0.Offset, v0_1].toArray, vi a1] w (fun v w' => v = .bool r0 ∧ Ext w w') := by
  unfold law08_HistSides at h
  refine Rets.enter Try.func7 rfl rfl ?_
  have hf11 : Sl Rep.u w (imm (Lg.O0 A)) v0_1 a0.Counts := (Sl.start hs0_1)
  refine (show WC _ _ _ _ [(0, .agg [vi a0.Offset, v0_1].toArray), (1, vi a1)] _ from ?_)
  refine WC.seq ?_
  refine WC.region ?_
  have hh15 := h
  obtain ⟨p12, m13, c14, rfl⟩ := hf11.shape
  have h := hh15
  refine WL.box (O := (Lg.O0 A)) 11 [vi a0.Offset, (.slice p12 m13 c14)] rfl rfl rfl ?_
  intro p17 O18 wd19 hst20 hb16
  refine WL.y (Y.assign rfl) rfl ?_
  refine WL.nil ?_
  refine At.then ?_
  refine WC.seq ?_
  refine WC.seq ?_
  refine WC.region ?_
  obtain ⟨r21, hp22, h⟩ := bnd h
  refine WL.call (vals := []) kok15 rfl rfl (c_law08_awake hp22) ?_
  rintro vr25 wd24 ⟨rfl, hm23⟩
  obtain ⟨O26, hold27, hnew28, hst29⟩ := adoptE O18 (fun k => 1) hm23
  refine WL.y (Y.not rfl) rfl ?_
  refine WL.nil ?_
  refine At.then ?_
  rcases cnd h with ⟨hc30, h⟩ | ⟨hc30, h⟩
  · refine WC.condT' rfl hc30 ?_
    refine WC.seq ?_
    refine WC.region ?_
    refine WL.y (Y.assign rfl) rfl ?_
    refine WL.nil ?_
    refine At.then ?_
    refine WC.ret ?_
    refine At.thenR ?_
    obtain rfl := some1 h
    have hs31 : Stp [] (Lg.O0 A) w O26 wd24 := (Stp.trans (Stp.up hst20 rfl) (Stp.up hst29 rfl))
    exact At.res (.inl rfl) rfl (.tmp rfl .nil) ⟨rfl, (Stp.ext hs31 rfl rfl)⟩
  · refine WC.condF' rfl hc30 ?_
    refine WC.skip ?_
    refine At.then ?_
    refine WC.seq ?_
    refine WC.seq ?_
    refine WC.region ?_
    refine WL.y (Y.fieldAddr fo25_1 rfl) rfl ?_
    have hf32 := hb16.st hst29 rfl
    refine WL.y (Y.loadSc ty23 rfl rfl (hf32.cell 1 _ rfl)) rfl ?_
    have hf33 := hf11.mono (imm_st hst20 rfl rfl)
    have hf34 := hf33.mono (imm_st hst29 rfl rfl)
    refine WL.y (Y.len ty23 rfl hf34) rfl ?_
    refine WL.y (Y.gtr_i rfl rfl) rfl ?_
    refine WL.y (Y.move rfl) rfl ?_
    refine WL.cut 4 (σ := Unit) (fun _ w' => wd24 = w') (fun _ => [(1, vi a1), (2, .pointer (some ⟨p17, 0, none⟩)), (17, .bool ((decide (300 < (a0.Counts.length : Int))) || (decide (1099511627776 < a0.Offset))))]) ?_ ?_
    · refine WL.part 13 rfl (fun hE35 => ?_) (fun hE35 => ?_)
      · refine WL.gS rfl rfl rfl rfl ?_
        refine WL.gS rfl rfl rfl rfl ?_
        refine WL.gS rfl rfl rfl rfl ?_
        refine WL.y (Y.pick (b := true) rfl rfl) rfl ?_
        refine WL.ren (v' := .bool ((decide (300 < (a0.Counts.length : Int))) || (decide (1099511627776 < a0.Offset)))) 17 rfl (congrArg Value.bool (orT hE35)) ?_
        exact WL.nil (At.join () rfl (.cons rfl (.cons rfl (.cons rfl .nil))))
      · refine WL.ung rfl rfl ?_
        refine WL.y (Y.fieldAddr fo25_0 rfl) rfl ?_
        refine WL.ung rfl rfl ?_
        refine WL.y (Y.loadSc ty3 rfl rfl (hf32.cell 0 _ rfl)) rfl ?_
        refine WL.ung rfl rfl ?_
        refine WL.y (Y.gtr_i rfl rfl) rfl ?_
        refine WL.y (Y.pick (b := false) rfl rfl) rfl ?_
        refine WL.ren (v' := .bool ((decide (300 < (a0.Counts.length : Int))) || (decide (1099511627776 < a0.Offset)))) 17 rfl (congrArg Value.bool (orF hE35)) ?_
        exact WL.nil (At.join () rfl (.cons rfl (.cons rfl (.cons rfl .nil))))
    · rintro _ _ rfl
      refine (show WL _ _ _ _ _ [(1, vi a1), (2, .pointer (some ⟨p17, 0, none⟩)), (17, .bool ((decide (300 < (a0.Counts.length : Int))) || (decide (1099511627776 < a0.Offset))))] _ from ?_)
      refine WL.y (Y.move rfl) rfl ?_
      refine WL.cut 4 (σ := Unit) (fun _ w' => wd24 = w') (fun _ => [(1, vi a1), (2, .pointer (some ⟨p17, 0, none⟩)), (22, .bool (((decide (300 < (a0.Counts.length : Int))) || (decide (1099511627776 < a0.Offset))) || (decide (a0.Offset < (-1099511627776)))))]) ?_ ?_
      · refine WL.part 18 rfl (fun hE36 => ?_) (fun hE36 => ?_)
        · refine WL.gS rfl rfl rfl rfl ?_
          refine WL.gS rfl rfl rfl rfl ?_
          refine WL.gS rfl rfl rfl rfl ?_
          refine WL.y (Y.pick (b := true) rfl rfl) rfl ?_
          refine WL.ren (v' := .bool (((decide (300 < (a0.Counts.length : Int))) || (decide (1099511627776 < a0.Offset))) || (decide (a0.Offset < (-1099511627776))))) 22 rfl (congrArg Value.bool (orT hE36)) ?_
          exact WL.nil (At.join () rfl (.cons rfl (.cons rfl (.cons rfl .nil))))
        · refine WL.ung rfl rfl ?_
          refine WL.y (Y.fieldAddr fo25_0 rfl) rfl ?_
          refine WL.ung rfl rfl ?_
          refine WL.y (Y.loadSc ty3 rfl rfl (hf32.cell 0 _ rfl)) rfl ?_
          refine WL.ung rfl rfl ?_
          refine WL.y (Y.lss_i rfl rfl) rfl ?_
          refine WL.y (Y.pick (b := false) rfl rfl) rfl ?_
          refine WL.ren (v' := .bool (((decide (300 < (a0.Counts.length : Int))) || (decide (1099511627776 < a0.Offset))) || (decide (a0.Offset < (-1099511627776))))) 22 rfl (congrArg Value.bool (orF hE36)) ?_
          exact WL.nil (At.join () rfl (.cons rfl (.cons rfl (.cons rfl .nil))))
      · rintro _ _ rfl
        refine (show WL _ _ _ _ _ [(1, vi a1), (2, .pointer (some ⟨p17, 0, none⟩)), (22, .bool (((decide (300 < (a0.Counts.length : Int))) || (decide (1099511627776 < a0.Offset))) || (decide (a0.Offset < (-1099511627776)))))] _ from ?_)
        refine WL.nil ?_
        refine At.then ?_
        rcases cnd h with ⟨hc37, h⟩ | ⟨hc37, h⟩
        · refine WC.condT' rfl hc37 ?_
          refine WC.seq ?_
          refine WC.region ?_
          refine WL.y (Y.assign rfl) rfl ?_
          refine WL.nil ?_
          refine At.then ?_
          refine WC.ret ?_
          refine At.thenR ?_
          obtain rfl := some1 h
          have hs38 : Stp [] (Lg.O0 A) w O26 wd24 := (Stp.trans (Stp.up hst20 rfl) (Stp.up hst29 rfl))
          exact At.res (.inl rfl) rfl (.tmp rfl .nil) ⟨rfl, (Stp.ext hs38 rfl rfl)⟩
        · refine WC.condF' rfl hc37 ?_
          refine WC.skip ?_
          refine At.then ?_
          refine WC.seq ?_
          refine WC.region ?_
          refine WL.y (Y.assign (v := vu 0) rfl) rfl ?_
          refine WL.nil ?_
          refine At.then ?_
          refine WC.seq ?_
          refine WC.seq ?_
          refine WC.region ?_
          refine WL.y (Y.assign rfl) rfl ?_
          refine WL.nil ?_
          refine At.then ?_
          obtain ⟨p40, h, hk41⟩ := bnd h
          refine WC.join (σ := UInt64) (fun x w' => x = p40 ∧ wd24 = w') (fun x => [(1, vi a1), (2, .pointer (some ⟨p17, 0, none⟩)), (5, vu x)]) ?_ ?_
          · refine WC.block ?_
            obtain ⟨p45, h, hk47⟩ := flow1 h
            obtain ⟨k46, h⟩ := loop_some h
            refine WC.joinB 0 (σ := UInt64) (fun x w' => p45 = .go x ∧ wd24 = w') (fun x => [(1, vi a1), (2, .pointer (some ⟨p17, 0, none⟩)), (5, vu x)]) ?_ ?_
            · refine WC.loop (σ := (UInt64 × Int)) (fun x k w' => loopN k (law08_HistSides_lp1 a0 a1) (x.1, x.2) = some p45 ∧ wd24 = w') (fun x => [(1, vi a1), (2, .pointer (some ⟨p17, 0, none⟩)), (5, vu x.1), (6, vi x.2)]) (0, 0) k46 (.cons rfl (.cons rfl (.cons rfl (.cons rfl .nil)))) ⟨h, rfl⟩ ?_
              rintro ⟨want42, i43⟩ k46 _ ⟨h, rfl⟩
              obtain ⟨j48, q49, rfl, h, hn50⟩ := rnd1 h
              unfold law08_HistSides_lp1 at h
              try dsimp only at h
              refine (show WC _ _ _ _ [(1, vi a1), (2, .pointer (some ⟨p17, 0, none⟩)), (5, vu want42), (6, vi i43)] _ from ?_)
              refine WC.seq ?_
              refine WC.seq ?_
              refine WC.region ?_
              refine WL.y (Y.move rfl) rfl ?_
              refine WL.y (Y.fieldAddr fo25_1 rfl) rfl ?_
              refine WL.y (Y.loadSc ty23 rfl rfl (hf32.cell 1 _ rfl)) rfl ?_
              refine WL.y (Y.len ty23 rfl hf34) rfl ?_
              refine WL.y (Y.lss_i rfl rfl) rfl ?_
              refine WL.nil ?_
              refine At.then ?_
              rcases cnd h with ⟨hc51, h⟩ | ⟨hc51, h⟩
              · refine WC.condT' rfl hc51 ?_
                refine WC.skip ?_
                refine At.then ?_
                refine WC.seq ?_
                obtain ⟨p53, h, hk54⟩ := bnd h
                refine WC.join (σ := UInt64) (fun x w' => x = p53 ∧ wd24 = w') (fun x => [(1, vi a1), (2, .pointer (some ⟨p17, 0, none⟩)), (5, vu x), (6, vi i43)]) ?_ ?_
                · refine WC.block ?_
                  refine WC.seq ?_
                  refine WC.region ?_
                  refine WL.y (Y.fieldAddr fo25_0 rfl) rfl ?_
                  refine WL.y (Y.loadSc ty3 rfl rfl (hf32.cell 0 _ rfl)) rfl ?_
                  refine WL.y (Y.move rfl) rfl ?_
                  refine WL.y (Y.add_i rfl rfl) rfl ?_
                  refine WL.y (Y.move rfl) rfl ?_
                  refine WL.y (Y.eql_i rfl rfl) rfl ?_
                  refine WL.nil ?_
                  refine At.then ?_
                  rcases cnd h with ⟨hc55, h⟩ | ⟨hc55, h⟩
                  · refine WC.condT' rfl hc55 ?_
                    refine WC.region ?_
                    refine WL.y (Y.fieldAddr fo25_1 rfl) rfl ?_
                    refine WL.y (Y.loadSc ty23 rfl rfl (hf32.cell 1 _ rfl)) rfl ?_
                    refine WL.y (Y.move rfl) rfl ?_
                    obtain ⟨e56, he56, h⟩ := bnd h
                    obtain ⟨b57, off65, cap64, cs63, hv58, hi59, hl60, hc61, hok62, hA66⟩ := Sl.at2 hf34 he56
                    obtain rfl := hok62
                    replace hc61 : CellsAt _ _ _ [vu e56] := hc61
                    have hca67 := CAt.imm hc61 hA66
                    refine WL.y (Y.indexAddr ty23 ty22 rfl hv58 rfl hi59 hl60) rfl ?_
                    refine WL.y (Y.loadSc ty22 rfl rfl hca67.at_) rfl ?_
                    refine WL.y (Y.assign rfl) rfl ?_
                    refine WL.nil ?_
                    refine At.inBlock ?_
                    exact At.join (σ := UInt64) e56 ⟨some1 h, rfl⟩ (.cons rfl (.cons rfl (.cons rfl (.cons rfl .nil))))
                  · refine WC.condF' rfl hc55 ?_
                    refine WC.skip ?_
                    refine At.inBlock ?_
                    exact At.join (σ := UInt64) want42 ⟨some1 h, rfl⟩ (.cons rfl (.cons rfl (.cons rfl (.cons rfl .nil))))
                · rintro want52 _ ⟨rfl, rfl⟩
                  replace h := hk54
                  try dsimp only at h
                  refine (show At _ _ _ [(1, vi a1), (2, .pointer (some ⟨p17, 0, none⟩)), (5, vu want52), (6, vi i43)] _ from ?_)
                  refine At.then ?_
                  refine WC.region ?_
                  refine WL.y (Y.move rfl) rfl ?_
                  refine WL.y (Y.add_i rfl rfl) rfl ?_
                  obtain ⟨i68, hi68, h⟩ := lt1 h
                  refine WL.yE (Y.assign rfl) (congrArg vi hi68.symm) rfl ?_
                  refine WL.nil ?_
                  exact At.round (want52, i68) j48 (Nat.lt_succ_self _) ⟨next1 h hn50, rfl⟩ (.cons rfl (.cons rfl (.cons rfl (.cons rfl .nil))))
              · refine WC.condF' rfl hc51 ?_
                refine WC.exit ?_
                refine At.thenX ?_
                refine At.loopX ?_
                exact At.hitB (σ := UInt64) want42 ⟨brk1 h hn50, rfl⟩ (.cons rfl (.cons rfl (.cons rfl .nil)))
            · rintro want44 _ ⟨rfl, rfl⟩
              replace h := flowK_go hk47
              try dsimp only at h
              refine (show At _ _ _ [(1, vi a1), (2, .pointer (some ⟨p17, 0, none⟩)), (5, vu want44)] _ from ?_)
              refine At.inBlockHit ?_
              exact At.join (σ := UInt64) want44 ⟨some1 h, rfl⟩ (.cons rfl (.cons rfl (.cons rfl .nil)))
          · rintro want39 _ ⟨rfl, rfl⟩
            replace h := hk41
            try dsimp only at h
            refine (show At _ _ _ [(1, vi a1), (2, .pointer (some ⟨p17, 0, none⟩)), (5, vu want39)] _ from ?_)
            refine At.then ?_
            refine WC.seq ?_
            refine WC.drawH [] [0, 1, 2, 3, 4, 5, 6, 7, 8, 9, 10, 11, 12] O26 13 fmix rfl (by kernel_rfl) ?_
            intro wd69 hst70
            refine WD.y 0 rfl (by kernel_rfl) (fun wd72 O71 hst73 => have hf74 := hf32.st hst70 rfl; have hf75 := hf74.st hst73 rfl; Y.loadAg ty25 rfl rfl (hf75.cells 0 [vi a0.Offset, (.slice p12 m13 c14)] rfl) rfl) rfl ?_
            refine WD.y 1 rfl (by kernel_rfl) (fun _ _ _ => Y.move rfl) rfl ?_
            refine WD.y 3 rfl (by kernel_rfl) (fun _ _ _ => Y.move rfl) rfl ?_
            refine WD.heavy 2 rfl (by kernel_rfl) ?_
            have hf82 := hf34.mono (imm_st hst70 rfl rfl)
            obtain ⟨r83, hp84, h⟩ := bnd h
            refine WL.call (vals := [.agg [vi a0.Offset, (.slice p12 m13 c14)].toArray, vi a1]) kok23 rfl rfl (c_hist_At (A := fun _ => True) (a0 := a0) (Sl.all hf82) hp84) ?_
            rintro vr87 wd86 ⟨rfl, hm85⟩
            obtain ⟨O88, hold89, hnew90, hst91⟩ := adoptE O26 (fun k => 1) hm85
            refine WL.nil ?_
            refine At.dq (Stp.up hst91 rfl) ?_
            refine WD.y 4 rfl (by kernel_rfl) (fun _ _ _ => Y.eql_u rfl rfl) rfl ?_
            refine WD.y 5 rfl (by kernel_rfl) (fun _ _ _ => Y.move rfl) rfl ?_
            obtain ⟨p102, h, hk103⟩ := bnd h
            refine WD.join (σ := (Bool × Own)) (f' := 1) [11, 10, 9, 7, 8, 6, 5, 4, 2, 3, 1, 0] (fun x O' w' => x.1 = p102 ∧ Stp [] O88 wd86 x.2 w' ∧ x.2 = O') (fun x => [(52, .bool x.1)]) (fun hJ104 => ?_) ?_
            · rcases cnd h with ⟨hE105, h⟩ | ⟨hE105, h⟩
              · refine WD.ren 46 rfl (congrArg Value.bool hE105) ?_
                refine WD.gT 6 rfl (by kernel_rfl) rfl rfl (fun wd107 O106 hst108 => have hf109 := hf32.st hst70 rfl; have hf110 := hf109.st hst91 rfl; have hf111 := hf110.st hst108 rfl; Y.loadAg ty25 rfl rfl (hf111.cells 0 [vi a0.Offset, (.slice p12 m13 c14)] rfl) rfl) rfl ?_
                refine WD.gT 8 rfl (by kernel_rfl) rfl rfl (fun wd113 O112 hst114 => have hf115 := hf32.st hst70 rfl; have hf116 := hf115.st hst91 rfl; have hf117 := hf116.st hst114 rfl; Y.loadAg ty25 rfl rfl (hf117.cells 0 [vi a0.Offset, (.slice p12 m13 c14)] rfl) rfl) rfl ?_
                refine WD.heavy 7 rfl (by kernel_rfl) ?_
                refine WL.ung rfl rfl ?_
                have hf118 := hf82.mono (imm_st hst91 rfl rfl)
                obtain ⟨r119, hp120, h⟩ := bnd h
                refine WL.call (vals := [.agg [vi a0.Offset, (.slice p12 m13 c14)].toArray]) kok28 rfl rfl (c_hist_Trim (A := fun _ => True) (a0 := a0) (Sl.all hf118) hp120) ?_
                rintro vr125 wd124 ⟨u121, rfl, hm123, f122⟩
                obtain ⟨O126, hold127, hnew128, hst129⟩ := adoptE O88 (fun k => 1) hm123
                have hf130 : Sl Rep.u wd124 (frs O126) u121 r119.Counts := Sl.adoptF f122 (fun k hk => ⟨hk, rfl⟩) hnew128
                refine WL.nil ?_
                refine At.dq (Stp.up hst129 rfl) ?_
                refine WD.heavy 9 rfl (by kernel_rfl) ?_
                refine WL.ung rfl rfl ?_
                have hf131 := hf118.mono (imm_st hst129 rfl rfl)
                obtain ⟨r132, hp133, h⟩ := bnd h
                refine WL.call (vals := [.agg [vi a0.Offset, (.slice p12 m13 c14)].toArray]) kok29 rfl rfl (c_ref08_Trim (A := fun _ => True) (a0 := a0) (Sl.all hf131) hp133) ?_
                rintro vr138 wd137 ⟨u134, rfl, hm136, f135⟩
                obtain ⟨O139, hold140, hnew141, hst142⟩ := adoptE O126 (fun k => 1) hm136
                have hf143 : Sl Rep.u wd137 (frs O139) u134 r132.Counts := Sl.adoptF f135 (fun k hk => ⟨hk, rfl⟩) hnew141
                refine WL.nil ?_
                refine At.dq (Stp.up hst142 rfl) ?_
                refine WD.heavy 10 rfl (by kernel_rfl) ?_
                refine WL.ung rfl rfl ?_
                have hf144 := hf130.mono (frs_st hst142 rfl)
                obtain ⟨r145, hp146, h⟩ := bnd h
                refine WL.call (vals := [.agg [vi r119.Offset, u121].toArray, .agg [vi r132.Offset, u134].toArray]) kok27 rfl rfl (c_ref08_SameSide (A := fun _ => True) (a0 := r119) (a1 := r132) (Sl.all hf144) (Sl.all hf143) hp146) ?_
                rintro vr149 wd148 ⟨rfl, hm147⟩
                obtain ⟨O150, hold151, hnew152, hst153⟩ := adoptE O139 (fun k => 1) hm147
                refine WL.nil ?_
                refine At.dq (Stp.up hst153 rfl) ?_
                refine WD.y 11 rfl (by kernel_rfl) (fun _ _ _ => Y.pick (b := true) rfl rfl) rfl ?_
                refine WD.ren 46 rfl (congrArg Value.bool hE105.symm) ?_
                exact hJ104 (r145, O150) _ _ _ ⟨some1 h, (Stp.trans (Stp.up hst129 rfl) (Stp.trans (Stp.up hst142 rfl) (Stp.up hst153 rfl))), rfl⟩ (.cons rfl .nil)
              · refine WD.ren 46 rfl (congrArg Value.bool hE105) ?_
                refine WD.gS 6 rfl (by kernel_rfl) rfl rfl rfl rfl ?_
                refine WD.gS 8 rfl (by kernel_rfl) rfl rfl rfl rfl ?_
                refine WD.heavy 7 rfl (by kernel_rfl) ?_
                refine WL.gS rfl rfl rfl rfl ?_
                refine WL.nil ?_
                refine At.dq (Stp.refl _ _ _) ?_
                refine WD.heavy 9 rfl (by kernel_rfl) ?_
                refine WL.gS rfl rfl rfl rfl ?_
                refine WL.nil ?_
                refine At.dq (Stp.refl _ _ _) ?_
                refine WD.heavy 10 rfl (by kernel_rfl) ?_
                refine WL.gS rfl rfl rfl rfl ?_
                refine WL.nil ?_
                refine At.dq (Stp.refl _ _ _) ?_
                refine WD.y 11 rfl (by kernel_rfl) (fun _ _ _ => Y.pick (b := false) rfl rfl) rfl ?_
                refine WD.ren 46 rfl (congrArg Value.bool hE105.symm) ?_
                exact hJ104 (false, O88) _ _ _ ⟨some1 h, (Stp.refl _ _ _), rfl⟩ (.cons rfl .nil)
            · rintro ⟨x98, O99⟩ _ wd100 ⟨rfl, hst101, rfl⟩
              replace h := hk103
              try dsimp only at h hst101
              refine (show WD _ _ _ _ _ _ _ _ [(52, .bool x98)] _ _ from ?_)
              refine WD.y 12 rfl (by kernel_rfl) (fun _ _ _ => Y.assign rfl) rfl ?_
              refine WD.done_ (by kernel_rfl) ?_
              refine At.then ?_
              refine WC.ret ?_
              obtain rfl := some1 h
              have hs163 : Stp [] (Lg.O0 A) w O99 wd100 := (Stp.trans (Stp.up hst20 rfl) (Stp.trans (Stp.up hst29 rfl) (Stp.trans (Stp.up hst70 rfl) (Stp.trans (Stp.up hst91 rfl) (Stp.up hst101 rfl)))))
              exact At.res (.inl rfl) rfl (.tmp rfl .nil) ⟨rfl, (Stp.ext hs163 rfl rfl)⟩

end Go.Lg
