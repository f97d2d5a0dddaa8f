/- The walks of HistFits and of what it calls, printed by gen.py. -/
import Derived.Test.YtdpokdaeekanjaaLgHistP
import Derived.Test.YtdpokdaeekanjaaProg
set_option linter.unusedVariables false
namespace Go.Lg
open Go Go.Proofs
set_option maxRecDepth 100000
theorem fmix : Try.prog.follows .mixedOrders = true := by kernel_rfl
theorem ty3 : TyOk Try.prog 3 (.int .i64) 1 8 (.int .i64 0) := tyOk Try.underlying3 (by kernel_rfl)
theorem ty22 : TyOk Try.prog 22 (.int .u64) 1 8 (.int .u64 0) := tyOk Try.underlying22 (by kernel_rfl)
theorem ty23 : TyOk Try.prog 23 (.slice 22) 1 24 (.slice none 0 0) := tyOk Try.underlying23 (by kernel_rfl)
theorem ty25 : TyOk Try.prog 25 (.struct #[(Field.mk "Offset" 3 0 false "" "" 0), (Field.mk "Counts" 23 1 false "" "" 8)]) 2 32 (.agg #[(.int .i64 0), (.slice none 0 0)]) := tyOk Try.underlying25 (by kernel_rfl)
theorem ty27 : TyOk Try.prog 27 (.struct #[(Field.mk "Scale" 3 0 false "" "" 0), (Field.mk "Zero" 22 1 false "" "" 8), (Field.mk "Pos" 25 2 false "" "" 16), (Field.mk "Neg" 25 4 false "" "" 48)]) 6 80 (.agg #[(.int .i64 0), (.int .u64 0), (.int .i64 0), (.slice none 0 0), (.int .i64 0), (.slice none 0 0)]) := tyOk Try.underlying27 (by kernel_rfl)
theorem ty75 : TyOk Try.prog 75 (.array 2 25) 4 64 (.agg #[(.int .i64 0), (.slice none 0 0), (.int .i64 0), (.slice none 0 0)]) := tyOk Try.underlying75 (by kernel_rfl)
theorem ty82 : TyOk Try.prog 82 (.int .u64) 1 8 (.int .u64 0) := tyOk Try.underlying82 (by kernel_rfl)
theorem fo25_0 : FieldOk Try.prog 25 0 0 := fieldOk Try.underlying25 rfl rfl (by kernel_rfl)
theorem fo25_1 : FieldOk Try.prog 25 1 1 := fieldOk Try.underlying25 rfl rfl (by kernel_rfl)
theorem fo27_0 : FieldOk Try.prog 27 0 0 := fieldOk Try.underlying27 rfl rfl (by kernel_rfl)
theorem fo27_1 : FieldOk Try.prog 27 1 1 := fieldOk Try.underlying27 rfl rfl (by kernel_rfl)
theorem fo27_2 : FieldOk Try.prog 27 2 2 := fieldOk Try.underlying27 rfl rfl (by kernel_rfl)
theorem fo27_3 : FieldOk Try.prog 27 3 4 := fieldOk Try.underlying27 rfl rfl (by kernel_rfl)
theorem x64_58 : X64 Try.prog 58 := x64 Try.func58 (by kernel_rfl) rfl (by kernel_rfl) (by kernel_rfl)
theorem kok15 : CallOk Try.prog 15 := callOk Try.func15 (by kernel_rfl) rfl
theorem kok16 : CallOk Try.prog 16 := callOk Try.func16 (by kernel_rfl) rfl
theorem kok17 : CallOk Try.prog 17 := callOk Try.func17 (by kernel_rfl) rfl
theorem kok19 : CallOk Try.prog 19 := callOk Try.func19 (by kernel_rfl) rfl
theorem kok21 : CallOk Try.prog 21 := callOk Try.func21 (by kernel_rfl) rfl
theorem kok22 : CallOk Try.prog 22 := callOk Try.func22 (by kernel_rfl) rfl
theorem kok23 : CallOk Try.prog 23 := callOk Try.func23 (by kernel_rfl) rfl
theorem kok25 : CallOk Try.prog 25 := callOk Try.func25 (by kernel_rfl) rfl
theorem kok27 : CallOk Try.prog 27 := callOk Try.func27 (by kernel_rfl) rfl
theorem kok57 : CallOk Try.prog 57 := callOk Try.func57 (by kernel_rfl) rfl
theorem kok60 : CallOk Try.prog 60 := callOk Try.func60 (by kernel_rfl) rfl
theorem kok62 : CallOk Try.prog 62 := callOk Try.func62 (by kernel_rfl) rfl
theorem kok64 : CallOk Try.prog 64 := callOk Try.func64 (by kernel_rfl) rfl

theorem c_hist_sides {A : Nat → Prop} {v0_3 : Value} {v0_5 : Value} {a0 : api_Hist} {w : World} (hs0_3 : Sl Rep.u w A v0_3 a0.Pos.Counts) (hs0_5 : Sl Rep.u w A v0_5 a0.Neg.Counts) {r0 : List api_Side} (h : hist_sides a0 = some r0) : Rets Try.prog 57 [.agg [vi a0.Scale, vu a0.Zero, vi a0.Pos.Offset, v0_3, vi a0.Neg.Offset, v0_5].toArray] w (fun v w' => ∃ (cs0 : List Value), v = .agg (List.toArray cs0) ∧ Ext w w' ∧ Rows' rep_api_Side w' (fun k => A k ∨ w.heap.size ≤ k) cs0 r0 ∧ r0.length = 2) := by
  unfold hist_sides at h
  refine Rets.enter Try.func57 rfl rfl ?_
  have hf11 : Sl Rep.u w (imm (Lg.O0 A)) v0_3 a0.Pos.Counts := (Sl.start hs0_3)
  have hf12 : Sl Rep.u w (imm (Lg.O0 A)) v0_5 a0.Neg.Counts := (Sl.start hs0_5)
  refine (show WC _ _ _ _ [(0, .agg [vi a0.Scale, vu a0.Zero, vi a0.Pos.Offset, v0_3, vi a0.Neg.Offset, v0_5].toArray)] _ from ?_)
  refine WC.seq ?_
  refine WC.region ?_
  have hh16 := h
  obtain ⟨p13, m14, c15, rfl⟩ := hf11.shape
  have h := hh16
  have hh20 := h
  obtain ⟨p17, m18, c19, rfl⟩ := hf12.shape
  have h := hh20
  refine WL.box (O := (Lg.O0 A)) 11 [vi a0.Scale, vu a0.Zero, vi a0.Pos.Offset, (.slice p13 m14 c15), vi a0.Neg.Offset, (.slice p17 m18 c19)] rfl rfl rfl ?_
  intro p22 O23 wd24 hst25 hb21
  refine WL.alloc (O := O23) 12 [vi 0, .slice none 0 0, vi 0, .slice none 0 0] ty75 rfl rfl ?_
  intro p27 O28 wd29 hst30 hb26
  refine WL.nil ?_
  refine At.then ?_
  refine WC.seq ?_
  refine WC.region ?_
  refine WL.y (Y.fieldAddr fo27_2 rfl) rfl ?_
  have hf31 := hb21.st hst30 rfl
  refine WL.y (Y.loadAg ty25 rfl rfl (hf31.cells 2 [vi a0.Pos.Offset, (.slice p13 m14 c15)] rfl) rfl) rfl ?_
  refine WL.y (Y.fieldAddr fo27_3 rfl) rfl ?_
  refine WL.y (Y.loadAg ty25 rfl rfl (hf31.cells 4 [vi a0.Neg.Offset, (.slice p17 m18 c19)] rfl) rfl) rfl ?_
  refine WL.y (Y.build (vals := [(0, .agg [vi a0.Pos.Offset, (.slice p13 m14 c15)].toArray), (1, .agg [vi a0.Neg.Offset, (.slice p17 m18 c19)].toArray)]) (cells := [vi a0.Pos.Offset, (.slice p13 m14 c15), vi a0.Neg.Offset, (.slice p17 m18 c19)]) (Fits.evalp rfl) (by kernel_rfl)) rfl ?_
  refine WL.store (v := .agg [vi a0.Pos.Offset, (.slice p13 m14 c15), vi a0.Neg.Offset, (.slice p17 m18 c19)].toArray) (cells' := [vi a0.Pos.Offset, (.slice p13 m14 c15), vi a0.Neg.Offset, (.slice p17 m18 c19)]) ty75 rfl rfl hb26 rfl (Nat.le_of_ble_eq_true rfl) rfl rfl ?_
  intro wd32 hst33 hb34
  refine WL.nil ?_
  refine At.then ?_
  refine WC.ret ?_
  obtain rfl := some1 h
  have hs35 : Stp [12] (Lg.O0 A) w O28 wd32 := (Stp.trans (Stp.up hst25 rfl) (Stp.trans (Stp.up hst30 rfl) (Stp.up hst33 rfl)))
  have hf36 := hf11.mono (imm_st hst25 rfl rfl)
  have hf37 := hf36.mono (imm_st hst30 rfl rfl)
  have hf38 := hf37.mono (imm_st hst33 rfl rfl)
  have hf39 := hf12.mono (imm_st hst25 rfl rfl)
  have hf40 := hf39.mono (imm_st hst30 rfl rfl)
  have hf41 := hf40.mono (imm_st hst33 rfl rfl)
  exact At.res (.inl rfl) rfl (.cell rfl (hb34.runAg 0 [vi a0.Pos.Offset, (.slice p13 m14 c15), vi a0.Neg.Offset, (.slice p17 m18 c19)] ty75 rfl rfl rfl) .nil) ⟨[vi a0.Pos.Offset, (.slice p13 m14 c15), vi a0.Neg.Offset, (.slice p17 m18 c19)], rfl, (Stp.ext hs35 rfl rfl), (Rows'.outI (O' := O28) (R := rep_api_Side) ⟨[vi a0.Pos.Offset, (.slice p13 m14 c15)], [vi a0.Neg.Offset, (.slice p17 m18 c19)], rfl, ⟨[vi a0.Pos.Offset], [(.slice p13 m14 c15)], rfl, rfl, ⟨_, rfl, hf38⟩⟩, ⟨[vi a0.Neg.Offset, (.slice p17 m18 c19)], [], rfl, ⟨[vi a0.Neg.Offset], [(.slice p17 m18 c19)], rfl, rfl, ⟨_, rfl, hf41⟩⟩, rfl⟩⟩ hs35 low0 O0_A), rfl⟩

theorem c_hist_Total {A : Nat → Prop} {v0_3 : Value} {v0_5 : Value} {a0 : api_Hist} {w : World} (hs0_3 : Sl Rep.u w A v0_3 a0.Pos.Counts) (hs0_5 : Sl Rep.u w A v0_5 a0.Neg.Counts) {r0 : UInt64} {r1 : Bool} (h : hist_Total a0 = some (r0, r1)) : Rets Try.prog 17 [.agg [vi a0.Scale, vu a0.Zero, vi a0.Pos.Offset, v0_3, vi a0.Neg.Offset, v0_5].toArray] w (fun v w' => v = .tuple (List.toArray [vu r0, .bool r1]) ∧ Ext w w') := by
  unfold hist_Total at h
  refine Rets.enter Try.func17 rfl rfl ?_
  have hf11 : Sl Rep.u w (imm (Lg.O0 A)) v0_3 a0.Pos.Counts := (Sl.start hs0_3)
  have hf12 : Sl Rep.u w (imm (Lg.O0 A)) v0_5 a0.Neg.Counts := (Sl.start hs0_5)
  refine (show WC _ _ _ _ [(0, .agg [vi a0.Scale, vu a0.Zero, vi a0.Pos.Offset, v0_3, vi a0.Neg.Offset, v0_5].toArray)] _ from ?_)
  refine WC.seq ?_
  refine WC.region ?_
  have hh16 := h
  obtain ⟨p13, m14, c15, rfl⟩ := hf11.shape
  have h := hh16
  have hh20 := h
  obtain ⟨p17, m18, c19, rfl⟩ := hf12.shape
  have h := hh20
  refine WL.box (O := (Lg.O0 A)) 11 [vi a0.Scale, vu a0.Zero, vi a0.Pos.Offset, (.slice p13 m14 c15), vi a0.Neg.Offset, (.slice p17 m18 c19)] rfl rfl rfl ?_
  intro p22 O23 wd24 hst25 hb21
  refine WL.y (Y.assign (v := vu 0) rfl) rfl ?_
  refine WL.y (Y.assign rfl) rfl ?_
  refine WL.nil ?_
  refine At.then ?_
  refine WC.seq ?_
  refine WC.region ?_
  refine WL.y (Y.fieldAddr fo27_1 rfl) rfl ?_
  refine WL.y (Y.loadSc ty22 rfl rfl (hb21.cell 1 _ rfl)) rfl ?_
  refine WL.y (Y.assign rfl) rfl ?_
  refine WL.y (Y.assign (v := vu 0) rfl) rfl ?_
  refine WL.nil ?_
  refine At.then ?_
  refine WC.seq ?_
  refine WC.seq ?_
  refine WC.region ?_
  refine WL.y (Y.loadAg ty27 rfl rfl (hb21.cells 0 [vi a0.Scale, vu a0.Zero, vi a0.Pos.Offset, (.slice p13 m14 c15), vi a0.Neg.Offset, (.slice p17 m18 c19)] rfl) rfl) rfl ?_
  have hf26 := hf11.mono (imm_st hst25 rfl rfl)
  have hf27 := hf12.mono (imm_st hst25 rfl rfl)
  obtain ⟨r28, hp29, h⟩ := bnd h
  refine WL.call (vals := [.agg [vi a0.Scale, vu a0.Zero, vi a0.Pos.Offset, (.slice p13 m14 c15), vi a0.Neg.Offset, (.slice p17 m18 c19)].toArray]) kok57 rfl rfl (c_hist_sides (A := imm O23) (a0 := a0) hf26 hf27 hp29) ?_
  rintro vr35 wd34 ⟨cs30, rfl, hm33, f31, f32⟩
  obtain ⟨O36, hold37, hnew38, hst39⟩ := adoptE O23 (fun k => 1) hm33
  have hf40 := Rows'.adoptI (O := O23) f31 (fun _ hk => hk) (fun _ _ => Nat.le_refl _) hold37 hnew38
  refine WL.y (Y.move rfl) rfl ?_
  refine WL.nil ?_
  refine At.then ?_
  obtain ⟨p46, h, hk47⟩ := bnd h
  refine WC.join (σ := (UInt64 × UInt64 × Own)) (fun x w' => (x.1, x.2.1) = p46 ∧ Stp [12] O36 wd34 x.2.2 w') (fun x => [(4, vu x.1), (5, vu x.2.1)]) ?_ ?_
  · refine WC.block ?_
    obtain ⟨p59, h, hk61⟩ := flow1 h
    obtain ⟨k60, h⟩ := loop_some h
    refine WC.joinB 0 (σ := (UInt64 × UInt64 × Own)) (fun x w' => p59 = .go (x.1, x.2.1) ∧ Stp [12] O36 wd34 x.2.2 w') (fun x => [(4, vu x.1), (5, vu x.2.1)]) ?_ ?_
    · refine WC.loop (σ := (UInt64 × UInt64 × Int × Own)) (fun x k w' => loopN k (hist_Total_lp1 r28) (x.1, x.2.1, x.2.2.1) = some p59 ∧ Stp [12] O36 wd34 x.2.2.2 w') (fun x => [(4, vu x.1), (5, vu x.2.1), (14, .agg cs30.toArray), (15, vi x.2.2.1)]) (a0.Zero, 0, 0, O36) k60 (.cons rfl (.cons rfl (.cons rfl (.cons rfl .nil)))) ⟨h, (Stp.refl _ _ _)⟩ ?_
      rintro ⟨sum48, over49, x50, O51⟩ k60 wd52 ⟨h, hst53⟩
      obtain ⟨j62, q63, rfl, h, hn64⟩ := rnd1 h
      unfold hist_Total_lp1 at h
      try dsimp only at h hst53
      refine (show WC _ _ _ _ [(4, vu sum48), (5, vu over49), (14, .agg cs30.toArray), (15, vi x50)] _ from ?_)
      refine WC.seq ?_
      refine WC.region ?_
      refine WL.y (Y.lss_i rfl rfl) rfl ?_
      refine WL.nil ?_
      refine At.then ?_
      refine WC.seq ?_
      rcases cnd h with ⟨hc65, h⟩ | ⟨hc65, h⟩
      · refine WC.condT' rfl hc65 ?_
        refine WC.skip ?_
        refine At.then ?_
        refine WC.seq ?_
        refine WC.block ?_
        refine WC.seq ?_
        refine WC.region ?_
        have hf66 := Rows'.mono (imm_st hst53 rfl rfl) hf40
        obtain ⟨e67, he67, h⟩ := bnd h
        obtain ⟨cs68, hcs69, hok70⟩ := arrAt (R := rep_api_Side) (w := wd52) (A := imm O51) (cells := cs30) hf66 he67
        obtain ⟨_, _, rfl, rfl, ⟨v71, rfl, hf72⟩⟩ := hok70
        replace hcs69 : _ = [vi e67.Offset, v71] := hcs69
        refine WL.y (Y.indexArrAg ty75 ty25 rfl rfl hcs69 he67 f32) rfl ?_
        refine WL.alloc (O := O51) 12 [vi 0, .slice none 0 0] ty25 rfl rfl ?_
        intro p74 O75 wd76 hst77 hb73
        have hf78 := hf72.mono (imm_st hst77 rfl rfl)
        have hh82 := h
        obtain ⟨p79, m80, c81, rfl⟩ := hf78.shape
        have h := hh82
        refine WL.store (v := .agg [vi e67.Offset, (.slice p79 m80 c81)].toArray) (cells' := [vi e67.Offset, (.slice p79 m80 c81)]) ty25 rfl rfl hb73 rfl (Nat.le_of_ble_eq_true rfl) rfl rfl ?_
        intro wd83 hst84 hb85
        refine WL.nil ?_
        refine At.then ?_
        refine WC.seq ?_
        refine WC.region ?_
        refine WL.y (Y.fieldAddr fo25_1 rfl) rfl ?_
        refine WL.y (Y.loadSc ty23 rfl rfl (hb85.cell 1 _ rfl)) rfl ?_
        have hf86 := hf78.mono (imm_st hst84 rfl rfl)
        refine WL.y (Y.len ty23 rfl hf86) rfl ?_
        refine WL.y (Y.move rfl) rfl ?_
        refine WL.nil ?_
        refine At.then ?_
        obtain ⟨p89, h, hk90⟩ := bnd h
        refine WC.join (σ := (UInt64 × UInt64)) (fun x w' => (x.1, x.2) = p89 ∧ wd83 = w') (fun x => [(4, vu x.1), (5, vu x.2), (14, .agg cs30.toArray), (15, vi x50)]) ?_ ?_
        · refine WC.block ?_
          obtain ⟨p96, h, hk98⟩ := flow1 h
          obtain ⟨k97, h⟩ := loop_some h
          refine WC.joinB 2 (σ := (UInt64 × UInt64)) (fun x w' => p96 = .go (x.1, x.2) ∧ wd83 = w') (fun x => [(4, vu x.1), (5, vu x.2), (14, .agg cs30.toArray), (15, vi x50)]) ?_ ?_
          · refine WC.loop (σ := (UInt64 × UInt64 × Int)) (fun x k w' => loopN k (hist_Total_lp2 e67) (x.1, x.2.1, x.2.2) = some p96 ∧ wd83 = w') (fun x => [(4, vu x.1), (5, vu x.2.1), (14, .agg cs30.toArray), (15, vi x50), (19, (.slice p79 m80 c81)), (20, vi (e67.Counts.length : Int)), (21, vi x.2.2)]) (sum48, over49, 0) k97 (.cons rfl (.cons rfl (.cons rfl (.cons rfl (.cons rfl (.cons rfl (.cons rfl .nil))))))) ⟨h, rfl⟩ ?_
            rintro ⟨sum91, over92, x93⟩ k97 _ ⟨h, rfl⟩
            obtain ⟨j99, q100, rfl, h, hn101⟩ := rnd1 h
            unfold hist_Total_lp2 at h
            try dsimp only at h
            refine (show WC _ _ _ _ [(4, vu sum91), (5, vu over92), (14, .agg cs30.toArray), (15, vi x50), (19, (.slice p79 m80 c81)), (20, vi (e67.Counts.length : Int)), (21, vi x93)] _ from ?_)
            refine WC.seq ?_
            refine WC.region ?_
            refine WL.y (Y.lss_i rfl rfl) rfl ?_
            refine WL.nil ?_
            refine At.then ?_
            refine WC.seq ?_
            rcases cnd h with ⟨hc102, h⟩ | ⟨hc102, h⟩
            · refine WC.condT' rfl hc102 ?_
              refine WC.skip ?_
              refine At.then ?_
              refine WC.seq ?_
              refine WC.block ?_
              refine WC.seq ?_
              refine WC.region ?_
              obtain ⟨e103, he103, h⟩ := bnd h
              obtain ⟨b104, off112, cap111, cs110, hv105, hi106, hl107, hc108, hok109, hA113⟩ := Sl.at2 hf86 he103
              obtain rfl := hok109
              replace hc108 : CellsAt _ _ _ [vu e103] := hc108
              have hca114 := CAt.imm hc108 hA113
              refine WL.y (Y.indexAddr ty23 ty22 rfl hv105 rfl hi106 hl107) rfl ?_
              refine WL.y (Y.loadSc ty22 rfl rfl hca114.at_) rfl ?_
              refine WL.y (Y.assign rfl) rfl ?_
              refine WL.nil ?_
              refine At.then ?_
              refine WC.seq ?_
              refine WC.region ?_
              refine WL.y (Y.assign (v := vu 0) rfl) rfl ?_
              refine WL.nil ?_
              refine At.then ?_
              refine WC.seq ?_
              refine WC.region ?_
              refine WL.y (Y.move rfl) rfl ?_
              refine WL.y (Y.move rfl) rfl ?_
              refine WL.y (Y.add64 (c := 0) x64_58 (by decide) rfl rfl rfl) rfl ?_
              refine WL.y (Y.move rfl) rfl ?_
              refine WL.y (Y.extract rfl rfl) rfl ?_
              refine WL.y (Y.extract rfl rfl) rfl ?_
              obtain ⟨sum115, hsum115, h⟩ := lt1 h
              refine WL.yE (Y.assign rfl) (congrArg vu hsum115.symm) rfl ?_
              obtain ⟨carry116, hcarry116, h⟩ := lt1 h
              refine WL.yE (Y.assign rfl) (congrArg vu hcarry116.symm) rfl ?_
              refine WL.nil ?_
              refine At.then ?_
              refine WC.region ?_
              refine WL.y (Y.move rfl) rfl ?_
              refine WL.y (Y.move rfl) rfl ?_
              refine WL.y (Y.or_u rfl rfl) rfl ?_
              obtain ⟨over117, hover117, h⟩ := lt1 h
              refine WL.yE (Y.assign rfl) (congrArg vu hover117.symm) rfl ?_
              refine WL.nil ?_
              refine At.inBlock ?_
              refine At.then ?_
              refine WC.region ?_
              refine WL.y (Y.add_i rfl rfl) rfl ?_
              refine WL.y (Y.move rfl) rfl ?_
              refine WL.nil ?_
              exact At.round (sum115, over117, w64 (x93 + 1)) j99 (Nat.lt_succ_self _) ⟨next1 h hn101, rfl⟩ (.cons rfl (.cons rfl (.cons rfl (.cons rfl (.cons rfl (.cons rfl (.cons rfl .nil)))))))
            · refine WC.condF' rfl hc102 ?_
              refine WC.exit ?_
              refine At.thenX ?_
              refine At.loopX ?_
              exact At.hitB (σ := (UInt64 × UInt64)) (sum91, over92) ⟨brk1 h hn101, rfl⟩ (.cons rfl (.cons rfl (.cons rfl (.cons rfl .nil))))
          · rintro ⟨sum94, over95⟩ _ ⟨rfl, rfl⟩
            replace h := flowK_go hk98
            try dsimp only at h
            refine (show At _ _ _ [(4, vu sum94), (5, vu over95), (14, .agg cs30.toArray), (15, vi x50)] _ from ?_)
            refine At.inBlockHit ?_
            exact At.join (σ := (UInt64 × UInt64)) (sum94, over95) ⟨some1 h, rfl⟩ (.cons rfl (.cons rfl (.cons rfl (.cons rfl .nil))))
        · rintro ⟨sum87, over88⟩ _ ⟨rfl, rfl⟩
          replace h := hk90
          try dsimp only at h
          refine (show At _ _ _ [(4, vu sum87), (5, vu over88), (14, .agg cs30.toArray), (15, vi x50)] _ from ?_)
          refine At.inBlock ?_
          refine At.then ?_
          refine WC.region ?_
          refine WL.y (Y.add_i rfl rfl) rfl ?_
          refine WL.y (Y.move rfl) rfl ?_
          refine WL.nil ?_
          exact At.round (sum87, over88, w64 (x50 + 1), O75) j62 (Nat.lt_succ_self _) ⟨next1 h hn64, (Stp.trans (Stp.up hst53 rfl) (Stp.trans (Stp.up hst77 rfl) (Stp.up hst84 rfl)))⟩ (.cons rfl (.cons rfl (.cons rfl (.cons rfl .nil))))
      · refine WC.condF' rfl hc65 ?_
        refine WC.exit ?_
        refine At.thenX ?_
        refine At.loopX ?_
        exact At.hitB (σ := (UInt64 × UInt64 × Own)) (sum48, over49, O51) ⟨brk1 h hn64, (Stp.up hst53 rfl)⟩ (.cons rfl (.cons rfl .nil))
    · rintro ⟨sum54, over55, O56⟩ wd57 ⟨rfl, hst58⟩
      replace h := flowK_go hk61
      try dsimp only at h hst58
      refine (show At _ _ _ [(4, vu sum54), (5, vu over55)] _ from ?_)
      refine At.inBlockHit ?_
      exact At.join (σ := (UInt64 × UInt64 × Own)) (sum54, over55, O56) ⟨some1 h, (Stp.up hst58 rfl)⟩ (.cons rfl (.cons rfl .nil))
  · rintro ⟨sum41, over42, O43⟩ wd44 ⟨rfl, hst45⟩
    replace h := hk47
    try dsimp only at h hst45
    refine (show At _ _ _ [(4, vu sum41), (5, vu over42)] _ from ?_)
    refine At.then ?_
    refine WC.seq ?_
    refine WC.seq ?_
    refine WC.region ?_
    refine WL.y (Y.move rfl) rfl ?_
    refine WL.y (Y.neq_u (b := 0) rfl rfl) rfl ?_
    refine WL.nil ?_
    refine At.then ?_
    rcases cnd h with ⟨hc118, h⟩ | ⟨hc118, h⟩
    · refine WC.condT' rfl hc118 ?_
      refine WC.seq ?_
      refine WC.region ?_
      refine WL.y (Y.assign (v := vu 0) rfl) rfl ?_
      refine WL.y (Y.assign rfl) rfl ?_
      refine WL.nil ?_
      refine At.then ?_
      refine WC.ret ?_
      refine At.thenR ?_
      obtain ⟨rfl, rfl⟩ := tup2 h
      have hs119 : Stp [12] (Lg.O0 A) w O43 wd44 := (Stp.trans (Stp.up hst25 rfl) (Stp.trans (Stp.up hst39 rfl) (Stp.up hst45 rfl)))
      exact At.res (.inl rfl) rfl (.tmp rfl (.tmp rfl .nil)) ⟨rfl, (Stp.ext hs119 rfl rfl)⟩
    · refine WC.condF' rfl hc118 ?_
      refine WC.skip ?_
      refine At.then ?_
      refine WC.seq ?_
      refine WC.region ?_
      refine WL.y (Y.move rfl) rfl ?_
      refine WL.y (Y.assign rfl) rfl ?_
      refine WL.y (Y.assign rfl) rfl ?_
      refine WL.nil ?_
      refine At.then ?_
      refine WC.ret ?_
      obtain ⟨rfl, rfl⟩ := tup2 h
      have hs120 : Stp [12] (Lg.O0 A) w O43 wd44 := (Stp.trans (Stp.up hst25 rfl) (Stp.trans (Stp.up hst39 rfl) (Stp.up hst45 rfl)))
      exact At.res (.inl rfl) rfl (.tmp rfl (.tmp rfl .nil)) ⟨rfl, (Stp.ext hs120 rfl rfl)⟩

theorem c_hist_check {A : Nat → Prop} {v0_1 : Value} {a0 : api_Side} {w : World} (hs0_1 : Sl Rep.u w A v0_1 a0.Counts) {r0 : Int} (h : hist_check a0 = some r0) : Rets Try.prog 60 [.agg [vi a0.Offset, v0_1].toArray] w (fun v w' => v = vi r0 ∧ Ext w w') := by
  unfold hist_check at h
  refine Rets.enter Try.func60 rfl rfl ?_
  have hf11 : Sl Rep.u w (imm (Lg.O0 A)) v0_1 a0.Counts := (Sl.start hs0_1)
  refine (show WC _ _ _ _ [(0, .agg [vi a0.Offset, v0_1].toArray)] _ from ?_)
  refine WC.seq ?_
  refine WC.region ?_
  have hh15 := h
  obtain ⟨p12, m13, c14, rfl⟩ := hf11.shape
  have h := hh15
  refine WL.box (O := (Lg.O0 A)) 11 [vi a0.Offset, (.slice p12 m13 c14)] rfl rfl rfl ?_
  intro p17 O18 wd19 hst20 hb16
  refine WL.y (Y.assign rfl) rfl ?_
  refine WL.nil ?_
  refine At.then ?_
  refine WC.seq ?_
  refine WC.region ?_
  refine WL.y (Y.fieldAddr fo25_1 rfl) rfl ?_
  refine WL.y (Y.loadSc ty23 rfl rfl (hb16.cell 1 _ rfl)) rfl ?_
  have hf21 := hf11.mono (imm_st hst20 rfl rfl)
  refine WL.y (Y.len ty23 rfl hf21) rfl ?_
  obtain ⟨nv22, hnv22, h⟩ := lt1 h
  refine WL.yE (Y.assign rfl) (congrArg vi hnv22.symm) rfl ?_
  refine WL.nil ?_
  refine At.then ?_
  refine WC.seq ?_
  refine WC.block ?_
  refine WC.seq ?_
  refine WC.region ?_
  refine WL.y (Y.move rfl) rfl ?_
  refine WL.y (Y.gtr_i rfl rfl) rfl ?_
  obtain ⟨t23, ht23, h⟩ := lt1 h
  refine WL.yE (Y.assign rfl) (congrArg Value.bool ht23.symm) rfl ?_
  refine WL.nil ?_
  refine At.then ?_
  rcases cnd h with ⟨hc24, h⟩ | ⟨hc24, h⟩
  · refine WC.condT' rfl hc24 ?_
    refine WC.seq ?_
    refine WC.region ?_
    refine WL.y (Y.assign rfl) rfl ?_
    refine WL.nil ?_
    refine At.then ?_
    refine WC.ret ?_
    refine At.inBlockR ?_
    refine At.thenR ?_
    obtain rfl := some1 h
    have hs25 : Stp [] (Lg.O0 A) w O18 wd19 := (Stp.up hst20 rfl)
    exact At.res (.inl rfl) rfl (.tmp rfl .nil) ⟨rfl, (Stp.ext hs25 rfl rfl)⟩
  · refine WC.condF' rfl hc24 ?_
    refine WC.seq ?_
    refine WC.region ?_
    refine WL.y (Y.move rfl) rfl ?_
    refine WL.y (Y.eql_i rfl rfl) rfl ?_
    refine WL.y (Y.move rfl) rfl ?_
    refine WL.cut 4 (σ := Unit) (fun _ w' => wd19 = w') (fun _ => [(1, .pointer (some ⟨p17, 0, none⟩)), (3, vi nv22), (17, .bool ((decide (nv22 = 0)) && (!decide (a0.Offset = 0))))]) ?_ ?_
    · refine WL.part 13 rfl (fun hE26 => ?_) (fun hE26 => ?_)
      · refine WL.ung rfl rfl ?_
        refine WL.y (Y.fieldAddr fo25_0 rfl) rfl ?_
        refine WL.ung rfl rfl ?_
        refine WL.y (Y.loadSc ty3 rfl rfl (hb16.cell 0 _ rfl)) rfl ?_
        refine WL.ung rfl rfl ?_
        refine WL.y (Y.neq_i rfl rfl) rfl ?_
        refine WL.y (Y.pick (b := true) rfl rfl) rfl ?_
        refine WL.ren (v' := .bool ((decide (nv22 = 0)) && (!decide (a0.Offset = 0)))) 17 rfl (congrArg Value.bool (andT hE26)) ?_
        exact WL.nil (At.join () rfl (.cons rfl (.cons rfl (.cons rfl .nil))))
      · refine WL.gS rfl rfl rfl rfl ?_
        refine WL.gS rfl rfl rfl rfl ?_
        refine WL.gS rfl rfl rfl rfl ?_
        refine WL.y (Y.pick (b := false) rfl rfl) rfl ?_
        refine WL.ren (v' := .bool ((decide (nv22 = 0)) && (!decide (a0.Offset = 0)))) 17 rfl (congrArg Value.bool (andF hE26)) ?_
        exact WL.nil (At.join () rfl (.cons rfl (.cons rfl (.cons rfl .nil))))
    · rintro _ _ rfl
      refine (show WL _ _ _ _ _ [(1, .pointer (some ⟨p17, 0, none⟩)), (3, vi nv22), (17, .bool ((decide (nv22 = 0)) && (!decide (a0.Offset = 0))))] _ from ?_)
      obtain ⟨t27, ht27, h⟩ := lt1 h
      refine WL.yE (Y.assign rfl) (congrArg Value.bool ht27.symm) rfl ?_
      refine WL.nil ?_
      refine At.then ?_
      rcases cnd h with ⟨hc28, h⟩ | ⟨hc28, h⟩
      · refine WC.condT' rfl hc28 ?_
        refine WC.seq ?_
        refine WC.region ?_
        refine WL.y (Y.assign rfl) rfl ?_
        refine WL.nil ?_
        refine At.then ?_
        refine WC.ret ?_
        refine At.inBlockR ?_
        refine At.thenR ?_
        obtain rfl := some1 h
        have hs29 : Stp [] (Lg.O0 A) w O18 wd19 := (Stp.up hst20 rfl)
        exact At.res (.inl rfl) rfl (.tmp rfl .nil) ⟨rfl, (Stp.ext hs29 rfl rfl)⟩
      · refine WC.condF' rfl hc28 ?_
        refine WC.seq ?_
        refine WC.region ?_
        refine WL.y (Y.move rfl) rfl ?_
        refine WL.y (Y.eql_i rfl rfl) rfl ?_
        obtain ⟨t30, ht30, h⟩ := lt1 h
        refine WL.yE (Y.assign rfl) (congrArg Value.bool ht30.symm) rfl ?_
        refine WL.nil ?_
        refine At.then ?_
        rcases cnd h with ⟨hc31, h⟩ | ⟨hc31, h⟩
        · refine WC.condT' rfl hc31 ?_
          refine WC.seq ?_
          refine WC.region ?_
          refine WL.y (Y.assign rfl) rfl ?_
          refine WL.nil ?_
          refine At.then ?_
          refine WC.ret ?_
          refine At.inBlockR ?_
          refine At.thenR ?_
          obtain rfl := some1 h
          have hs32 : Stp [] (Lg.O0 A) w O18 wd19 := (Stp.up hst20 rfl)
          exact At.res (.inl rfl) rfl (.tmp rfl .nil) ⟨rfl, (Stp.ext hs32 rfl rfl)⟩
        · refine WC.condF' rfl hc31 ?_
          refine WC.seq ?_
          refine WC.region ?_
          refine WL.y (Y.fieldAddr fo25_1 rfl) rfl ?_
          refine WL.y (Y.loadSc ty23 rfl rfl (hb16.cell 1 _ rfl)) rfl ?_
          obtain ⟨e33, he33, h⟩ := bnd h
          obtain ⟨b34, off42, cap41, cs40, hv35, hi36, hl37, hc38, hok39, hA43⟩ := Sl.at2 hf21 he33
          obtain rfl := hok39
          replace hc38 : CellsAt _ _ _ [vu e33] := hc38
          have hca44 := CAt.imm hc38 hA43
          refine WL.y (Y.indexAddr ty23 ty22 rfl hv35 rfl hi36 hl37) rfl ?_
          refine WL.y (Y.loadSc ty22 rfl rfl hca44.at_) rfl ?_
          refine WL.y (Y.eql_u (b := 0) rfl rfl) rfl ?_
          refine WL.y (Y.move rfl) rfl ?_
          obtain ⟨p46, h, hk47⟩ := bnd h
          refine WL.cut 8 (σ := Bool) (fun x w' => x = p46 ∧ wd19 = w') (fun x => [(1, .pointer (some ⟨p17, 0, none⟩)), (3, vi nv22), (35, .bool x)]) ?_ ?_
          · rcases cnd h with ⟨hE48, h⟩ | ⟨hE48, h⟩
            · refine WL.ren 27 rfl (congrArg Value.bool hE48) ?_
              refine WL.gS rfl rfl rfl rfl ?_
              refine WL.gS rfl rfl rfl rfl ?_
              refine WL.gS rfl rfl rfl rfl ?_
              refine WL.gS rfl rfl rfl rfl ?_
              refine WL.gS rfl rfl rfl rfl ?_
              refine WL.gS rfl rfl rfl rfl ?_
              refine WL.gS rfl rfl rfl rfl ?_
              refine WL.y (Y.pick (b := true) rfl rfl) rfl ?_
              exact WL.nil (At.join (σ := Bool) true ⟨some1 h, rfl⟩ (.cons rfl (.cons rfl (.cons rfl .nil))))
            · refine WL.ren 27 rfl (congrArg Value.bool hE48) ?_
              refine WL.ung rfl rfl ?_
              refine WL.y (Y.fieldAddr fo25_1 rfl) rfl ?_
              refine WL.ung rfl rfl ?_
              refine WL.y (Y.loadSc ty23 rfl rfl (hb16.cell 1 _ rfl)) rfl ?_
              refine WL.ung rfl rfl ?_
              refine WL.y (Y.move rfl) rfl ?_
              refine WL.ung rfl rfl ?_
              refine WL.y (Y.sub_i rfl rfl) rfl ?_
              refine WL.ung rfl rfl ?_
              obtain ⟨e49, he49, h⟩ := bnd h
              obtain ⟨b50, off58, cap57, cs56, hv51, hi52, hl53, hc54, hok55, hA59⟩ := Sl.at2 hf21 he49
              obtain rfl := hok55
              replace hc54 : CellsAt _ _ _ [vu e49] := hc54
              have hca60 := CAt.imm hc54 hA59
              refine WL.y (Y.indexAddr ty23 ty22 rfl hv51 rfl hi52 hl53) rfl ?_
              refine WL.ung rfl rfl ?_
              refine WL.y (Y.loadSc ty22 rfl rfl hca60.at_) rfl ?_
              refine WL.ung rfl rfl ?_
              refine WL.y (Y.eql_u (b := 0) rfl rfl) rfl ?_
              refine WL.y (Y.pick (b := false) rfl rfl) rfl ?_
              exact WL.nil (At.join (σ := Bool) (decide (e49 = 0)) ⟨some1 h, rfl⟩ (.cons rfl (.cons rfl (.cons rfl .nil))))
          · rintro x45 _ ⟨rfl, rfl⟩
            replace h := hk47
            try dsimp only at h
            refine (show WL _ _ _ _ _ [(1, .pointer (some ⟨p17, 0, none⟩)), (3, vi nv22), (35, .bool x45)] _ from ?_)
            refine WL.y (Y.assign rfl) rfl ?_
            refine WL.nil ?_
            refine At.then ?_
            rcases cnd h with ⟨hc61, h⟩ | ⟨hc61, h⟩
            · refine WC.condT' rfl hc61 ?_
              refine WC.seq ?_
              refine WC.region ?_
              refine WL.y (Y.assign rfl) rfl ?_
              refine WL.nil ?_
              refine At.then ?_
              refine WC.ret ?_
              refine At.inBlockR ?_
              refine At.thenR ?_
              obtain rfl := some1 h
              have hs62 : Stp [] (Lg.O0 A) w O18 wd19 := (Stp.up hst20 rfl)
              exact At.res (.inl rfl) rfl (.tmp rfl .nil) ⟨rfl, (Stp.ext hs62 rfl rfl)⟩
            · refine WC.condF' rfl hc61 ?_
              refine WC.seq ?_
              refine WC.region ?_
              refine WL.y (Y.fieldAddr fo25_0 rfl) rfl ?_
              refine WL.y (Y.loadSc ty3 rfl rfl (hb16.cell 0 _ rfl)) rfl ?_
              refine WL.y (Y.lss_i rfl rfl) rfl ?_
              refine WL.y (Y.move rfl) rfl ?_
              refine WL.cut 7 (σ := Unit) (fun _ w' => wd19 = w') (fun _ => [(47, .bool ((decide (a0.Offset < (-1073741824))) || (decide (w64 (1073741824 - (w64 (nv22 - 1))) < a0.Offset))))]) ?_ ?_
              · refine WL.part 40 rfl (fun hE63 => ?_) (fun hE63 => ?_)
                · refine WL.gS rfl rfl rfl rfl ?_
                  refine WL.gS rfl rfl rfl rfl ?_
                  refine WL.gS rfl rfl rfl rfl ?_
                  refine WL.gS rfl rfl rfl rfl ?_
                  refine WL.gS rfl rfl rfl rfl ?_
                  refine WL.gS rfl rfl rfl rfl ?_
                  refine WL.y (Y.pick (b := true) rfl rfl) rfl ?_
                  refine WL.ren (v' := .bool ((decide (a0.Offset < (-1073741824))) || (decide (w64 (1073741824 - (w64 (nv22 - 1))) < a0.Offset)))) 47 rfl (congrArg Value.bool (orT hE63)) ?_
                  exact WL.nil (At.join () rfl (.cons rfl .nil))
                · refine WL.ung rfl rfl ?_
                  refine WL.y (Y.fieldAddr fo25_0 rfl) rfl ?_
                  refine WL.ung rfl rfl ?_
                  refine WL.y (Y.loadSc ty3 rfl rfl (hb16.cell 0 _ rfl)) rfl ?_
                  refine WL.ung rfl rfl ?_
                  refine WL.y (Y.move rfl) rfl ?_
                  refine WL.ung rfl rfl ?_
                  refine WL.y (Y.sub_i rfl rfl) rfl ?_
                  refine WL.ung rfl rfl ?_
                  refine WL.y (Y.sub_i rfl rfl) rfl ?_
                  refine WL.ung rfl rfl ?_
                  refine WL.y (Y.gtr_i rfl rfl) rfl ?_
                  refine WL.y (Y.pick (b := false) rfl rfl) rfl ?_
                  refine WL.ren (v' := .bool ((decide (a0.Offset < (-1073741824))) || (decide (w64 (1073741824 - (w64 (nv22 - 1))) < a0.Offset)))) 47 rfl (congrArg Value.bool (orF hE63)) ?_
                  exact WL.nil (At.join () rfl (.cons rfl .nil))
              · rintro _ _ rfl
                refine (show WL _ _ _ _ _ [(47, .bool ((decide (a0.Offset < (-1073741824))) || (decide (w64 (1073741824 - (w64 (nv22 - 1))) < a0.Offset))))] _ from ?_)
                obtain ⟨t64, ht64, h⟩ := lt1 h
                refine WL.yE (Y.assign rfl) (congrArg Value.bool ht64.symm) rfl ?_
                refine WL.nil ?_
                refine At.then ?_
                rcases cnd h with ⟨hc65, h⟩ | ⟨hc65, h⟩
                · refine WC.condT' rfl hc65 ?_
                  refine WC.seq ?_
                  refine WC.region ?_
                  refine WL.y (Y.assign rfl) rfl ?_
                  refine WL.nil ?_
                  refine At.then ?_
                  refine WC.ret ?_
                  refine At.inBlockR ?_
                  refine At.thenR ?_
                  obtain rfl := some1 h
                  have hs66 : Stp [] (Lg.O0 A) w O18 wd19 := (Stp.up hst20 rfl)
                  exact At.res (.inl rfl) rfl (.tmp rfl .nil) ⟨rfl, (Stp.ext hs66 rfl rfl)⟩
                · refine WC.condF' rfl hc65 ?_
                  refine WC.skip ?_
                  refine At.inBlock ?_
                  refine At.then ?_
                  refine WC.seq ?_
                  refine WC.region ?_
                  refine WL.y (Y.assign rfl) rfl ?_
                  refine WL.nil ?_
                  refine At.then ?_
                  refine WC.ret ?_
                  obtain rfl := some1 h
                  have hs67 : Stp [] (Lg.O0 A) w O18 wd19 := (Stp.up hst20 rfl)
                  exact At.res (.inl rfl) rfl (.tmp rfl .nil) ⟨rfl, (Stp.ext hs67 rfl rfl)⟩

theorem c_hist_Check {A : Nat → Prop} {v0_3 : Value} {v0_5 : Value} {a0 : api_Hist} {w : World} (hs0_3 : Sl Rep.u w A v0_3 a0.Pos.Counts) (hs0_5 : Sl Rep.u w A v0_5 a0.Neg.Counts) {r0 : Int} (h : hist_Check a0 = some r0) : Rets Try.prog 19 [.agg [vi a0.Scale, vu a0.Zero, vi a0.Pos.Offset, v0_3, vi a0.Neg.Offset, v0_5].toArray] w (fun v w' => v = vi r0 ∧ Ext w w') := by
  unfold hist_Check at h
  refine Rets.enter Try.func19 rfl rfl ?_
  have hf11 : Sl Rep.u w (imm (Lg.O0 A)) v0_3 a0.Pos.Counts := (Sl.start hs0_3)
  have hf12 : Sl Rep.u w (imm (Lg.O0 A)) v0_5 a0.Neg.Counts := (Sl.start hs0_5)
  refine (show WC _ _ _ _ [(0, .agg [vi a0.Scale, vu a0.Zero, vi a0.Pos.Offset, v0_3, vi a0.Neg.Offset, v0_5].toArray)] _ from ?_)
  refine WC.seq ?_
  refine WC.region ?_
  have hh16 := h
  obtain ⟨p13, m14, c15, rfl⟩ := hf11.shape
  have h := hh16
  have hh20 := h
  obtain ⟨p17, m18, c19, rfl⟩ := hf12.shape
  have h := hh20
  refine WL.box (O := (Lg.O0 A)) 11 [vi a0.Scale, vu a0.Zero, vi a0.Pos.Offset, (.slice p13 m14 c15), vi a0.Neg.Offset, (.slice p17 m18 c19)] rfl rfl rfl ?_
  intro p22 O23 wd24 hst25 hb21
  refine WL.y (Y.assign rfl) rfl ?_
  refine WL.nil ?_
  refine At.then ?_
  refine WC.seq ?_
  refine WC.seq ?_
  refine WC.region ?_
  refine WL.y (Y.fieldAddr fo27_0 rfl) rfl ?_
  refine WL.y (Y.loadSc ty3 rfl rfl (hb21.cell 0 _ rfl)) rfl ?_
  refine WL.y (Y.lss_i rfl rfl) rfl ?_
  refine WL.y (Y.move rfl) rfl ?_
  refine WL.cut 4 (σ := Unit) (fun _ w' => wd24 = w') (fun _ => [(1, .pointer (some ⟨p22, 0, none⟩)), (15, .bool ((decide (a0.Scale < (-10))) || (decide (20 < a0.Scale))))]) ?_ ?_
  · refine WL.part 11 rfl (fun hE26 => ?_) (fun hE26 => ?_)
    · refine WL.gS rfl rfl rfl rfl ?_
      refine WL.gS rfl rfl rfl rfl ?_
      refine WL.gS rfl rfl rfl rfl ?_
      refine WL.y (Y.pick (b := true) rfl rfl) rfl ?_
      refine WL.ren (v' := .bool ((decide (a0.Scale < (-10))) || (decide (20 < a0.Scale)))) 15 rfl (congrArg Value.bool (orT hE26)) ?_
      exact WL.nil (At.join () rfl (.cons rfl (.cons rfl .nil)))
    · refine WL.ung rfl rfl ?_
      refine WL.y (Y.fieldAddr fo27_0 rfl) rfl ?_
      refine WL.ung rfl rfl ?_
      refine WL.y (Y.loadSc ty3 rfl rfl (hb21.cell 0 _ rfl)) rfl ?_
      refine WL.ung rfl rfl ?_
      refine WL.y (Y.gtr_i rfl rfl) rfl ?_
      refine WL.y (Y.pick (b := false) rfl rfl) rfl ?_
      refine WL.ren (v' := .bool ((decide (a0.Scale < (-10))) || (decide (20 < a0.Scale)))) 15 rfl (congrArg Value.bool (orF hE26)) ?_
      exact WL.nil (At.join () rfl (.cons rfl (.cons rfl .nil)))
  · rintro _ _ rfl
    refine (show WL _ _ _ _ _ [(1, .pointer (some ⟨p22, 0, none⟩)), (15, .bool ((decide (a0.Scale < (-10))) || (decide (20 < a0.Scale))))] _ from ?_)
    refine WL.nil ?_
    refine At.then ?_
    rcases cnd h with ⟨hc27, h⟩ | ⟨hc27, h⟩
    · refine WC.condT' rfl hc27 ?_
      refine WC.seq ?_
      refine WC.region ?_
      refine WL.y (Y.assign rfl) rfl ?_
      refine WL.nil ?_
      refine At.then ?_
      refine WC.ret ?_
      refine At.thenR ?_
      obtain rfl := some1 h
      have hs28 : Stp [] (Lg.O0 A) w O23 wd24 := (Stp.up hst25 rfl)
      exact At.res (.inl rfl) rfl (.tmp rfl .nil) ⟨rfl, (Stp.ext hs28 rfl rfl)⟩
    · refine WC.condF' rfl hc27 ?_
      refine WC.skip ?_
      refine At.then ?_
      refine WC.seq ?_
      refine WC.seq ?_
      refine WC.region ?_
      refine WL.y (Y.loadAg ty27 rfl rfl (hb21.cells 0 [vi a0.Scale, vu a0.Zero, vi a0.Pos.Offset, (.slice p13 m14 c15), vi a0.Neg.Offset, (.slice p17 m18 c19)] rfl) rfl) rfl ?_
      have hf29 := hf11.mono (imm_st hst25 rfl rfl)
      have hf30 := hf12.mono (imm_st hst25 rfl rfl)
      obtain ⟨r31, hp32, h⟩ := bnd h
      refine WL.call (vals := [.agg [vi a0.Scale, vu a0.Zero, vi a0.Pos.Offset, (.slice p13 m14 c15), vi a0.Neg.Offset, (.slice p17 m18 c19)].toArray]) kok57 rfl rfl (c_hist_sides (A := imm O23) (a0 := a0) hf29 hf30 hp32) ?_
      rintro vr38 wd37 ⟨cs33, rfl, hm36, f34, f35⟩
      obtain ⟨O39, hold40, hnew41, hst42⟩ := adoptE O23 (fun k => 1) hm36
      have hf43 := Rows'.adoptI (O := O23) f34 (fun _ hk => hk) (fun _ _ => Nat.le_refl _) hold40 hnew41
      refine WL.y (Y.move rfl) rfl ?_
      refine WL.nil ?_
      refine At.then ?_
      obtain ⟨p47, h, hk48⟩ := flow1 h
      refine WC.join (σ := Own) (fun x w' => p47 = .go () ∧ Stp [12] O39 wd37 x w') (fun x => [(1, .pointer (some ⟨p22, 0, none⟩))]) ?_ ?_
      · refine WC.block ?_
        obtain ⟨p56, h, hk58⟩ := flow1 h
        obtain ⟨k57, h⟩ := loop_some h
        refine WC.joinB 0 (σ := Own) (fun x w' => p56 = .go () ∧ Stp [12] O39 wd37 x w') (fun x => [(1, .pointer (some ⟨p22, 0, none⟩))]) ?_ ?_
        · refine WC.loop (σ := (Int × Own)) (fun x k w' => loopN k (hist_Check_lp1 r31) x.1 = some p56 ∧ Stp [12] O39 wd37 x.2 w') (fun x => [(1, .pointer (some ⟨p22, 0, none⟩)), (17, .agg cs33.toArray), (18, vi x.1)]) (0, O39) k57 (.cons rfl (.cons rfl (.cons rfl .nil))) ⟨h, (Stp.refl _ _ _)⟩ ?_
          rintro ⟨x49, O50⟩ k57 wd51 ⟨h, hst52⟩
          obtain ⟨j59, q60, rfl, h, hn61⟩ := rnd1 h
          unfold hist_Check_lp1 at h
          try dsimp only at h hst52
          refine (show WC _ _ _ _ [(1, .pointer (some ⟨p22, 0, none⟩)), (17, .agg cs33.toArray), (18, vi x49)] _ from ?_)
          refine WC.seq ?_
          refine WC.region ?_
          refine WL.y (Y.lss_i rfl rfl) rfl ?_
          refine WL.nil ?_
          refine At.then ?_
          refine WC.seq ?_
          rcases cnd h with ⟨hc62, h⟩ | ⟨hc62, h⟩
          · refine WC.condT' rfl hc62 ?_
            refine WC.skip ?_
            refine At.then ?_
            refine WC.seq ?_
            refine WC.block ?_
            refine WC.seq ?_
            refine WC.region ?_
            have hf63 := Rows'.mono (imm_st hst52 rfl rfl) hf43
            obtain ⟨e64, he64, h⟩ := bnd h
            obtain ⟨cs65, hcs66, hok67⟩ := arrAt (R := rep_api_Side) (w := wd51) (A := imm O50) (cells := cs33) hf63 he64
            obtain ⟨_, _, rfl, rfl, ⟨v68, rfl, hf69⟩⟩ := hok67
            replace hcs66 : _ = [vi e64.Offset, v68] := hcs66
            refine WL.y (Y.indexArrAg ty75 ty25 rfl rfl hcs66 he64 f35) rfl ?_
            refine WL.alloc (O := O50) 12 [vi 0, .slice none 0 0] ty25 rfl rfl ?_
            intro p71 O72 wd73 hst74 hb70
            have hf75 := hf69.mono (imm_st hst74 rfl rfl)
            have hh79 := h
            obtain ⟨p76, m77, c78, rfl⟩ := hf75.shape
            have h := hh79
            refine WL.store (v := .agg [vi e64.Offset, (.slice p76 m77 c78)].toArray) (cells' := [vi e64.Offset, (.slice p76 m77 c78)]) ty25 rfl rfl hb70 rfl (Nat.le_of_ble_eq_true rfl) rfl rfl ?_
            intro wd80 hst81 hb82
            refine WL.nil ?_
            refine At.then ?_
            refine WC.seq ?_
            refine WC.region ?_
            refine WL.y (Y.loadAg ty25 rfl rfl (hb82.cells 0 [vi e64.Offset, (.slice p76 m77 c78)] rfl) rfl) rfl ?_
            have hf83 := hf75.mono (imm_st hst81 rfl rfl)
            obtain ⟨r84, hp85, h⟩ := bnd h
            refine WL.call (vals := [.agg [vi e64.Offset, (.slice p76 m77 c78)].toArray]) kok60 rfl rfl (c_hist_check (A := fun _ => True) (a0 := e64) (Sl.all hf83) hp85) ?_
            rintro vr88 wd87 ⟨rfl, hm86⟩
            obtain ⟨O89, hold90, hnew91, hst92⟩ := adoptE O72 (fun k => 1) hm86
            refine WL.y (Y.assign rfl) rfl ?_
            refine WL.nil ?_
            refine At.then ?_
            refine WC.seq ?_
            refine WC.region ?_
            refine WL.y (Y.move rfl) rfl ?_
            refine WL.y (Y.neq_i rfl rfl) rfl ?_
            refine WL.nil ?_
            refine At.then ?_
            rcases cnd h with ⟨hc93, h⟩ | ⟨hc93, h⟩
            · refine WC.condT' rfl hc93 ?_
              refine WC.seq ?_
              refine WC.region ?_
              refine WL.y (Y.move rfl) rfl ?_
              refine WL.y (Y.assign rfl) rfl ?_
              refine WL.nil ?_
              refine At.then ?_
              refine WC.ret ?_
              refine At.inBlockR ?_
              refine At.thenR ?_
              refine At.loopR ?_
              have h := outr1 h hn61 hk58
              refine At.joinBR ?_
              refine At.inBlockR ?_
              have h := outs1 h hk48
              refine At.joinR ?_
              refine At.thenR ?_
              obtain rfl := some1 h
              have hs94 : Stp [12] (Lg.O0 A) w O89 wd87 := (Stp.trans (Stp.up hst25 rfl) (Stp.trans (Stp.up hst42 rfl) (Stp.trans (Stp.up hst52 rfl) (Stp.trans (Stp.up hst74 rfl) (Stp.trans (Stp.up hst81 rfl) (Stp.up hst92 rfl))))))
              exact At.res (.inl rfl) rfl (.tmp rfl .nil) ⟨rfl, (Stp.ext hs94 rfl rfl)⟩
            · refine WC.condF' rfl hc93 ?_
              refine WC.skip ?_
              refine At.inBlock ?_
              refine At.then ?_
              refine WC.region ?_
              refine WL.y (Y.add_i rfl rfl) rfl ?_
              refine WL.y (Y.move rfl) rfl ?_
              refine WL.nil ?_
              exact At.round (w64 (x49 + 1), O89) j59 (Nat.lt_succ_self _) ⟨next1 h hn61, (Stp.trans (Stp.up hst52 rfl) (Stp.trans (Stp.up hst74 rfl) (Stp.trans (Stp.up hst81 rfl) (Stp.up hst92 rfl))))⟩ (.cons rfl (.cons rfl (.cons rfl .nil)))
          · refine WC.condF' rfl hc62 ?_
            refine WC.exit ?_
            refine At.thenX ?_
            refine At.loopX ?_
            exact At.hitB (σ := Own) O50 ⟨brk1 h hn61, (Stp.up hst52 rfl)⟩ (.cons rfl .nil)
        · rintro O53 wd54 ⟨rfl, hst55⟩
          replace h := flowK_go hk58
          refine (show At _ _ _ [(1, .pointer (some ⟨p22, 0, none⟩))] _ from ?_)
          refine At.inBlockHit ?_
          exact At.join (σ := Own) O53 ⟨go2 h, (Stp.up hst55 rfl)⟩ (.cons rfl .nil)
      · rintro O44 wd45 ⟨rfl, hst46⟩
        replace h := flowK_go hk48
        refine (show At _ _ _ [(1, .pointer (some ⟨p22, 0, none⟩))] _ from ?_)
        refine At.then ?_
        refine WC.seq ?_
        refine WC.seq ?_
        refine WC.region ?_
        have hf95 := hb21.st hst42 rfl
        have hf96 := hf95.st hst46 rfl
        refine WL.y (Y.loadAg ty27 rfl rfl (hf96.cells 0 [vi a0.Scale, vu a0.Zero, vi a0.Pos.Offset, (.slice p13 m14 c15), vi a0.Neg.Offset, (.slice p17 m18 c19)] rfl) rfl) rfl ?_
        have hf97 := hf29.mono (imm_st hst42 rfl rfl)
        have hf98 := hf97.mono (imm_st hst46 rfl rfl)
        have hf99 := hf30.mono (imm_st hst42 rfl rfl)
        have hf100 := hf99.mono (imm_st hst46 rfl rfl)
        obtain ⟨⟨r101, r102⟩, hp103, h⟩ := bnd h
        refine WL.call (vals := [.agg [vi a0.Scale, vu a0.Zero, vi a0.Pos.Offset, (.slice p13 m14 c15), vi a0.Neg.Offset, (.slice p17 m18 c19)].toArray]) kok17 rfl rfl (c_hist_Total (A := fun _ => True) (a0 := a0) (Sl.all hf98) (Sl.all hf100) hp103) ?_
        rintro vr106 wd105 ⟨rfl, hm104⟩
        obtain ⟨O107, hold108, hnew109, hst110⟩ := adoptE O44 (fun k => 1) hm104
        refine WL.y (Y.move rfl) rfl ?_
        refine WL.y (Y.extract rfl rfl) rfl ?_
        refine WL.y (Y.extract rfl rfl) rfl ?_
        refine WL.y (Y.assign rfl) rfl ?_
        refine WL.y (Y.assign rfl) rfl ?_
        refine WL.nil ?_
        refine At.then ?_
        refine WC.seq ?_
        refine WC.region ?_
        refine WL.y (Y.move rfl) rfl ?_
        refine WL.y (Y.not rfl) rfl ?_
        refine WL.nil ?_
        refine At.then ?_
        rcases cnd h with ⟨hc111, h⟩ | ⟨hc111, h⟩
        · refine WC.condT' rfl hc111 ?_
          refine WC.seq ?_
          refine WC.region ?_
          refine WL.y (Y.assign rfl) rfl ?_
          refine WL.nil ?_
          refine At.then ?_
          refine WC.ret ?_
          refine At.thenR ?_
          obtain rfl := some1 h
          have hs112 : Stp [12] (Lg.O0 A) w O107 wd105 := (Stp.trans (Stp.up hst25 rfl) (Stp.trans (Stp.up hst42 rfl) (Stp.trans (Stp.up hst46 rfl) (Stp.up hst110 rfl))))
          exact At.res (.inl rfl) rfl (.tmp rfl .nil) ⟨rfl, (Stp.ext hs112 rfl rfl)⟩
        · refine WC.condF' rfl hc111 ?_
          refine WC.skip ?_
          refine At.then ?_
          refine WC.seq ?_
          refine WC.region ?_
          refine WL.y (Y.assign rfl) rfl ?_
          refine WL.nil ?_
          refine At.then ?_
          refine WC.ret ?_
          obtain rfl := some1 h
          have hs113 : Stp [12] (Lg.O0 A) w O107 wd105 := (Stp.trans (Stp.up hst25 rfl) (Stp.trans (Stp.up hst42 rfl) (Stp.trans (Stp.up hst46 rfl) (Stp.up hst110 rfl))))
          exact At.res (.inl rfl) rfl (.tmp rfl .nil) ⟨rfl, (Stp.ext hs113 rfl rfl)⟩

theorem c_hist_span {A : Nat → Prop} {v0_1 : Value} {a0 : api_Side} {a1 : UInt64} {w : World} (hs0_1 : Sl Rep.u w A v0_1 a0.Counts) {r0 : Int} (h : hist_span a0 a1 = some r0) : Rets Try.prog 64 [.agg [vi a0.Offset, v0_1].toArray, vu a1] w (fun v w' => v = vi r0 ∧ Ext w w') := by
  unfold hist_span at h
  refine Rets.enter Try.func64 rfl rfl ?_
  have hf11 : Sl Rep.u w (imm (Lg.O0 A)) v0_1 a0.Counts := (Sl.start hs0_1)
  refine (show WC _ _ _ _ [(0, .agg [vi a0.Offset, v0_1].toArray), (1, vu a1)] _ from ?_)
  refine WC.seq ?_
  refine WC.region ?_
  have hh15 := h
  obtain ⟨p12, m13, c14, rfl⟩ := hf11.shape
  have h := hh15
  refine WL.box (O := (Lg.O0 A)) 11 [vi a0.Offset, (.slice p12 m13 c14)] rfl rfl rfl ?_
  intro p17 O18 wd19 hst20 hb16
  refine WL.y (Y.assign rfl) rfl ?_
  refine WL.nil ?_
  refine At.then ?_
  refine WC.seq ?_
  refine WC.region ?_
  refine WL.y (Y.fieldAddr fo25_1 rfl) rfl ?_
  refine WL.y (Y.loadSc ty23 rfl rfl (hb16.cell 1 _ rfl)) rfl ?_
  have hf21 := hf11.mono (imm_st hst20 rfl rfl)
  refine WL.y (Y.len ty23 rfl hf21) rfl ?_
  obtain ⟨nv22, hnv22, h⟩ := lt1 h
  refine WL.yE (Y.assign rfl) (congrArg vi hnv22.symm) rfl ?_
  refine WL.nil ?_
  refine At.then ?_
  refine WC.seq ?_
  refine WC.seq ?_
  refine WC.region ?_
  refine WL.y (Y.move rfl) rfl ?_
  refine WL.y (Y.eql_i rfl rfl) rfl ?_
  refine WL.nil ?_
  refine At.then ?_
  rcases cnd h with ⟨hc23, h⟩ | ⟨hc23, h⟩
  · refine WC.condT' rfl hc23 ?_
    refine WC.seq ?_
    refine WC.region ?_
    refine WL.y (Y.assign rfl) rfl ?_
    refine WL.nil ?_
    refine At.then ?_
    refine WC.ret ?_
    refine At.thenR ?_
    obtain rfl := some1 h
    have hs24 : Stp [] (Lg.O0 A) w O18 wd19 := (Stp.up hst20 rfl)
    exact At.res (.inl rfl) rfl (.tmp rfl .nil) ⟨rfl, (Stp.ext hs24 rfl rfl)⟩
  · refine WC.condF' rfl hc23 ?_
    refine WC.skip ?_
    refine At.then ?_
    refine WC.seq ?_
    refine WC.region ?_
    refine WL.y (Y.fieldAddr fo25_0 rfl) rfl ?_
    refine WL.y (Y.loadSc ty3 rfl rfl (hb16.cell 0 _ rfl)) rfl ?_
    refine WL.y (Y.move rfl) rfl ?_
    refine WL.y (Y.add_i rfl rfl) rfl ?_
    refine WL.y (Y.sub_i rfl rfl) rfl ?_
    refine WL.y (Y.move rfl) rfl ?_
    refine WL.y (Y.shr_iu rfl rfl) rfl ?_
    refine WL.y (Y.fieldAddr fo25_0 rfl) rfl ?_
    refine WL.y (Y.loadSc ty3 rfl rfl (hb16.cell 0 _ rfl)) rfl ?_
    refine WL.y (Y.move rfl) rfl ?_
    refine WL.y (Y.shr_iu rfl rfl) rfl ?_
    refine WL.y (Y.sub_i rfl rfl) rfl ?_
    refine WL.y (Y.add_i rfl rfl) rfl ?_
    obtain ⟨t25, ht25, h⟩ := lt1 h
    refine WL.yE (Y.assign rfl) (congrArg vi ht25.symm) rfl ?_
    refine WL.nil ?_
    refine At.then ?_
    refine WC.ret ?_
    obtain rfl := some1 h
    have hs26 : Stp [] (Lg.O0 A) w O18 wd19 := (Stp.up hst20 rfl)
    exact At.res (.inl rfl) rfl (.tmp rfl .nil) ⟨rfl, (Stp.ext hs26 rfl rfl)⟩

theorem c_hist_down {A : Nat → Prop} {v0_1 : Value} {a0 : api_Side} {a1 : UInt64} {w : World} (hs0_1 : Sl Rep.u w A v0_1 a0.Counts) {r0 : api_Side} (h : hist_down a0 a1 = some r0) : Rets Try.prog 62 [.agg [vi a0.Offset, v0_1].toArray, vu a1] w (fun v w' => ∃ (u0_1 : Value), v = .agg (List.toArray [vi r0.Offset, u0_1]) ∧ Ext w w' ∧ Sl Rep.u w' (fun k => w.heap.size ≤ k) u0_1 r0.Counts) := by
  unfold hist_down at h
  refine Rets.enter Try.func62 rfl rfl ?_
  have hf11 : Sl Rep.u w (imm (Lg.O0 A)) v0_1 a0.Counts := (Sl.start hs0_1)
  refine (show WC _ _ _ _ [(0, .agg [vi a0.Offset, v0_1].toArray), (1, vu a1)] _ from ?_)
  refine WC.seq ?_
  refine WC.region ?_
  have hh15 := h
  obtain ⟨p12, m13, c14, rfl⟩ := hf11.shape
  have h := hh15
  refine WL.box (O := (Lg.O0 A)) 11 [vi a0.Offset, (.slice p12 m13 c14)] rfl rfl rfl ?_
  intro p17 O18 wd19 hst20 hb16
  refine WL.alloc (O := O18) 12 [vi 0, .slice none 0 0] ty25 rfl rfl ?_
  intro p22 O23 wd24 hst25 hb21
  refine WL.nil ?_
  refine At.then ?_
  refine WC.seq ?_
  refine WC.seq ?_
  refine WC.region ?_
  refine WL.y (Y.fieldAddr fo25_1 rfl) rfl ?_
  have hf26 := hb16.st hst25 rfl
  refine WL.y (Y.loadSc ty23 rfl rfl (hf26.cell 1 _ rfl)) rfl ?_
  have hf27 := hf11.mono (imm_st hst20 rfl rfl)
  have hf28 := hf27.mono (imm_st hst25 rfl rfl)
  refine WL.y (Y.len ty23 rfl hf28) rfl ?_
  refine WL.y (Y.eql_i rfl rfl) rfl ?_
  refine WL.nil ?_
  refine At.then ?_
  rcases cnd h with ⟨hc29, h⟩ | ⟨hc29, h⟩
  · refine WC.condT' rfl hc29 ?_
    refine WC.seq ?_
    refine WC.region ?_
    refine WL.y (Y.build (vals := []) (cells := [vi 0, .slice none 0 0]) (Fits.evalp rfl) (by kernel_rfl)) rfl ?_
    refine WL.store (v := .agg [vi 0, .slice none 0 0].toArray) (cells' := [vi 0, .slice none 0 0]) ty25 rfl rfl hb21 rfl (Nat.le_of_ble_eq_true rfl) rfl rfl ?_
    intro wd30 hst31 hb32
    refine WL.nil ?_
    refine At.then ?_
    refine WC.ret ?_
    refine At.thenR ?_
    obtain rfl := some1 h
    have hs33 : Stp [12] (Lg.O0 A) w O23 wd30 := (Stp.trans (Stp.up hst20 rfl) (Stp.trans (Stp.up hst25 rfl) (Stp.up hst31 rfl)))
    exact At.res (.inl rfl) rfl (.cell rfl (hb32.runAg 0 [vi 0, .slice none 0 0] ty25 rfl rfl rfl) .nil) ⟨.slice none 0 0, rfl, (Stp.ext hs33 rfl rfl), (Or.inl ⟨rfl, rfl⟩)⟩
  · refine WC.condF' rfl hc29 ?_
    refine WC.skip ?_
    refine At.then ?_
    refine WC.seq ?_
    refine WC.drawH [13, 14, 15, 16, 17, 18, 1001, 1002] [0, 1, 2, 3, 4, 5, 6, 7, 8, 9] O23 11 fmix rfl (by kernel_rfl) ?_
    intro wd34 hst35
    refine WD.y 0 rfl (by kernel_rfl) (fun _ _ _ => Y.fieldAddr fo25_0 rfl) rfl ?_
    refine WD.y 1 rfl (by kernel_rfl) (fun wd40 O39 hst41 => have hf42 := hf26.st hst35 rfl; have hf43 := hf42.st hst41 rfl; Y.loadSc ty3 rfl rfl (hf43.cell 0 _ rfl)) rfl ?_
    refine WD.y 2 rfl (by kernel_rfl) (fun _ _ _ => Y.move rfl) rfl ?_
    refine WD.y 3 rfl (by kernel_rfl) (fun _ _ _ => Y.shr_iu rfl rfl) rfl ?_
    refine WD.y 4 rfl (by kernel_rfl) (fun wd51 O50 hst52 => have hf53 := hf26.st hst35 rfl; have hf54 := hf53.st hst52 rfl; Y.loadAg ty25 rfl rfl (hf54.cells 0 [vi a0.Offset, (.slice p12 m13 c14)] rfl) rfl) rfl ?_
    refine WD.y 5 rfl (by kernel_rfl) (fun _ _ _ => Y.move rfl) rfl ?_
    obtain ⟨p66, h, hk67⟩ := bnd h
    refine WD.join (σ := (List UInt64 × Own × Nat × Value)) (f' := 1) [9, 8, 7, 6, 5, 4, 3, 2, 1, 0] (fun x O' w' => x.1 = p66 ∧ Stp [13, 14, 15, 16, 17, 18, 1001, 1002] O23 wd34 x.2.1 w' ∧ Blk 1003 x.2.1 w' x.2.2.1 25 [vi 0, .slice none 0 0] ∧ OwnSl 1004 Rep.u 22 x.2.1 w' x.2.2.2 x.1 ∧ x.2.1 = O') (fun x => [(1, vu a1), (2, .pointer (some ⟨p17, 0, none⟩)), (4, .pointer (some ⟨p22, 0, none⟩)), (5, .pointer (some ⟨x.2.2.1, 0, none⟩)), (21, .agg [vi (shrI a0.Offset a1.toNat), x.2.2.2].toArray)]) (fun hJ68 => ?_) ?_
    · refine WD.heavy2 6 9 rfl rfl (by kernel_rfl) ?_ ?_
      · have hf69 := hf28.mono (imm_st hst35 rfl rfl)
        obtain ⟨r70, hp71, h⟩ := bnd h
        refine WL.call (vals := [.agg [vi a0.Offset, (.slice p12 m13 c14)].toArray, vu a1]) kok64 rfl rfl (c_hist_span (A := fun _ => True) (a0 := a0) (Sl.all hf69) hp71) ?_
        rintro vr74 wd73 ⟨rfl, hm72⟩
        obtain ⟨O75, hold76, hnew77, hst78⟩ := adoptE O23 (fun k => 1) hm72
        refine WL.nil ?_
        refine At.dq (Stp.up hst78 rfl) ?_
        obtain ⟨p87, h, hk88⟩ := bnd h
        refine WD.join (σ := (List UInt64 × Own × Nat × Value)) (f' := 1) [9, 8, 7, 6, 5, 4, 3, 2, 1, 0] (fun x O' w' => x.1 = p87 ∧ Stp [13, 14, 15, 16] O75 wd73 x.2.1 w' ∧ Blk 1001 x.2.1 w' x.2.2.1 25 [vi 0, .slice none 0 0] ∧ OwnSl 1002 Rep.u 22 x.2.1 w' x.2.2.2 x.1 ∧ x.2.1 = O') (fun x => [(1, vu a1), (2, .pointer (some ⟨p17, 0, none⟩)), (4, .pointer (some ⟨p22, 0, none⟩)), (5, .pointer (some ⟨x.2.2.1, 0, none⟩)), (21, .agg [vi (shrI a0.Offset a1.toNat), x.2.2.2].toArray)]) (fun hJ89 => ?_) ?_
        · refine WD.heavy2 7 9 rfl rfl (by kernel_rfl) ?_ ?_
          · obtain ⟨t90, ht90, h⟩ := bnd h
            refine WL.make (O := O75) (R := Rep.u) (zx := (0 : UInt64)) 13 (by decide) ty23 ty22 rfl (by decide) (by decide) rfl rfl (fun _ _ => rfl) ht90 rfl ?_
            intro v91 O93 wd94 hst95 ho92
            refine WL.nil ?_
            refine At.dq (Stp.up hst95 rfl) ?_
            have hh99 := h
            obtain ⟨p96, m97, c98, rfl⟩ := ho92.shape
            have h := hh99
            refine WD.y 8 rfl (by kernel_rfl) (fun _ _ _ => Y.build (vals := [(0, vi (shrI a0.Offset a1.toNat)), (1, (.slice p96 m97 c98))]) (cells := [vi (shrI a0.Offset a1.toNat), (.slice p96 m97 c98)]) (Fits.evalp rfl) (by kernel_rfl)) rfl ?_
            refine WD.heavy 9 rfl (by kernel_rfl) ?_
            refine WL.alloc (O := O93) 14 [vi 0, .slice none 0 0] ty25 rfl rfl ?_
            intro p104 O105 wd106 hst107 hb103
            refine WL.nil ?_
            refine At.dq (Stp.up hst107 rfl) ?_
            obtain ⟨O108, hst109, hb110⟩ := Blk.rlb 1001 rfl hb103
            have hf111 := ho92.st hst107 rfl rfl rfl
            have hf112 := hf111.st hst109 rfl rfl rfl
            obtain ⟨O113, hst114, ho115⟩ := OwnSl.rlb 1002 rfl hf112
            have hf116 := hb110.st hst114 rfl
            refine WD.own (Stp.trans (Stp.up hst109 rfl) (Stp.up hst114 rfl)) ?_
            refine WD.perm _ [9, 8, 7, 6, 5, 4, 3, 2, 1, 0] (by kernel_rfl) ?_
            exact hJ89 (t90, O113, p104, (.slice p96 m97 c98)) _ _ _ ⟨some1 h, (Stp.trans (Stp.up hst95 rfl) (Stp.trans (Stp.up hst107 rfl) (Stp.trans (Stp.up hst109 rfl) (Stp.up hst114 rfl)))), hf116, ho115, rfl⟩ (.cons rfl (.cons rfl (.cons rfl (.cons rfl (.cons rfl .nil)))))
          · try simp only [Option.bind_assoc, Option.bind_some] at h
            refine WL.alloc (O := O75) 15 [vi 0, .slice none 0 0] ty25 rfl rfl ?_
            intro p118 O119 wd120 hst121 hb117
            refine WL.nil ?_
            refine At.dq (Stp.up hst121 rfl) ?_
            refine WD.heavy 7 rfl (by kernel_rfl) ?_
            obtain ⟨t122, ht122, h⟩ := bnd h
            refine WL.make (O := O119) (R := Rep.u) (zx := (0 : UInt64)) 16 (by decide) ty23 ty22 rfl (by decide) (by decide) rfl rfl (fun _ _ => rfl) ht122 rfl ?_
            intro v123 O125 wd126 hst127 ho124
            refine WL.nil ?_
            refine At.dq (Stp.up hst127 rfl) ?_
            have hh131 := h
            obtain ⟨p128, m129, c130, rfl⟩ := ho124.shape
            have h := hh131
            refine WD.y 8 rfl (by kernel_rfl) (fun _ _ _ => Y.build (vals := [(0, vi (shrI a0.Offset a1.toNat)), (1, (.slice p128 m129 c130))]) (cells := [vi (shrI a0.Offset a1.toNat), (.slice p128 m129 c130)]) (Fits.evalp rfl) (by kernel_rfl)) rfl ?_
            have hf135 := hb117.st hst127 rfl
            obtain ⟨O136, hst137, hb138⟩ := Blk.rlb 1001 rfl hf135
            have hf139 := ho124.st hst137 rfl rfl rfl
            obtain ⟨O140, hst141, ho142⟩ := OwnSl.rlb 1002 rfl hf139
            have hf143 := hb138.st hst141 rfl
            refine WD.own (Stp.trans (Stp.up hst137 rfl) (Stp.up hst141 rfl)) ?_
            refine WD.perm _ [9, 8, 7, 6, 5, 4, 3, 2, 1, 0] (by kernel_rfl) ?_
            exact hJ89 (t122, O140, p118, (.slice p128 m129 c130)) _ _ _ ⟨some1 h, (Stp.trans (Stp.up hst121 rfl) (Stp.trans (Stp.up hst127 rfl) (Stp.trans (Stp.up hst137 rfl) (Stp.up hst141 rfl)))), hf143, ho142, rfl⟩ (.cons rfl (.cons rfl (.cons rfl (.cons rfl (.cons rfl .nil)))))
        · rintro ⟨x81, O84, b79, v82⟩ _ wd85 ⟨rfl, hst86, hb80, hf83, rfl⟩
          replace h := hk88
          try dsimp only at h hst86 hb80 hf83
          refine (show WD _ _ _ _ _ _ _ _ [(1, vu a1), (2, .pointer (some ⟨p17, 0, none⟩)), (4, .pointer (some ⟨p22, 0, none⟩)), (5, .pointer (some ⟨b79, 0, none⟩)), (21, .agg [vi (shrI a0.Offset a1.toNat), v82].toArray)] _ _ from ?_)
          obtain ⟨O144, hst145, hb146⟩ := Blk.rlb 1003 rfl hb80
          have hf147 := hf83.st hst145 rfl rfl rfl
          obtain ⟨O148, hst149, ho150⟩ := OwnSl.rlb 1004 rfl hf147
          have hf151 := hb146.st hst149 rfl
          refine WD.own (Stp.trans (Stp.up hst145 rfl) (Stp.up hst149 rfl)) ?_
          refine WD.perm _ [9, 8, 7, 6, 5, 4, 3, 2, 1, 0] (by kernel_rfl) ?_
          exact hJ68 (x81, O148, b79, v82) _ _ _ ⟨some1 h, (Stp.trans (Stp.up hst78 rfl) (Stp.trans (Stp.up hst86 rfl) (Stp.trans (Stp.up hst145 rfl) (Stp.up hst149 rfl)))), hf151, ho150, rfl⟩ (.cons rfl (.cons rfl (.cons rfl (.cons rfl (.cons rfl .nil)))))
      · try simp only [Option.bind_assoc, Option.bind_some] at h
        refine WL.alloc (O := O23) 17 [vi 0, .slice none 0 0] ty25 rfl rfl ?_
        intro p153 O154 wd155 hst156 hb152
        refine WL.nil ?_
        refine At.dq (Stp.up hst156 rfl) ?_
        refine WD.heavy 6 rfl (by kernel_rfl) ?_
        have hf157 := hf28.mono (imm_st hst35 rfl rfl)
        have hf158 := hf157.mono (imm_st hst156 rfl rfl)
        obtain ⟨r159, hp160, h⟩ := bnd h
        refine WL.call (vals := [.agg [vi a0.Offset, (.slice p12 m13 c14)].toArray, vu a1]) kok64 rfl rfl (c_hist_span (A := fun _ => True) (a0 := a0) (Sl.all hf158) hp160) ?_
        rintro vr163 wd162 ⟨rfl, hm161⟩
        obtain ⟨O164, hold165, hnew166, hst167⟩ := adoptE O154 (fun k => 1) hm161
        refine WL.nil ?_
        refine At.dq (Stp.up hst167 rfl) ?_
        refine WD.heavy 7 rfl (by kernel_rfl) ?_
        obtain ⟨t168, ht168, h⟩ := bnd h
        refine WL.make (O := O164) (R := Rep.u) (zx := (0 : UInt64)) 18 (by decide) ty23 ty22 rfl (by decide) (by decide) rfl rfl (fun _ _ => rfl) ht168 rfl ?_
        intro v169 O171 wd172 hst173 ho170
        refine WL.nil ?_
        refine At.dq (Stp.up hst173 rfl) ?_
        have hh177 := h
        obtain ⟨p174, m175, c176, rfl⟩ := ho170.shape
        have h := hh177
        refine WD.y 8 rfl (by kernel_rfl) (fun _ _ _ => Y.build (vals := [(0, vi (shrI a0.Offset a1.toNat)), (1, (.slice p174 m175 c176))]) (cells := [vi (shrI a0.Offset a1.toNat), (.slice p174 m175 c176)]) (Fits.evalp rfl) (by kernel_rfl)) rfl ?_
        have hf181 := hb152.st hst167 rfl
        have hf182 := hf181.st hst173 rfl
        obtain ⟨O183, hst184, hb185⟩ := Blk.rlb 1003 rfl hf182
        have hf186 := ho170.st hst184 rfl rfl rfl
        obtain ⟨O187, hst188, ho189⟩ := OwnSl.rlb 1004 rfl hf186
        have hf190 := hb185.st hst188 rfl
        refine WD.own (Stp.trans (Stp.up hst184 rfl) (Stp.up hst188 rfl)) ?_
        refine WD.perm _ [9, 8, 7, 6, 5, 4, 3, 2, 1, 0] (by kernel_rfl) ?_
        exact hJ68 (t168, O187, p153, (.slice p174 m175 c176)) _ _ _ ⟨some1 h, (Stp.trans (Stp.up hst156 rfl) (Stp.trans (Stp.up hst167 rfl) (Stp.trans (Stp.up hst173 rfl) (Stp.trans (Stp.up hst184 rfl) (Stp.up hst188 rfl))))), hf190, ho189, rfl⟩ (.cons rfl (.cons rfl (.cons rfl (.cons rfl (.cons rfl .nil)))))
    · rintro ⟨x60, O63, b58, v61⟩ _ wd64 ⟨rfl, hst65, hb59, hf62, rfl⟩
      replace h := hk67
      try dsimp only at h hst65 hb59 hf62
      refine (show WD _ _ _ _ _ _ _ _ [(1, vu a1), (2, .pointer (some ⟨p17, 0, none⟩)), (4, .pointer (some ⟨p22, 0, none⟩)), (5, .pointer (some ⟨b58, 0, none⟩)), (21, .agg [vi (shrI a0.Offset a1.toNat), v61].toArray)] _ _ from ?_)
      refine WD.phase [1003] [0, 1, 2, 3, 4, 5, 6, 7, 8, 9, 10] (by kernel_rfl) (by kernel_rfl) ?_
      refine WD.heavy 10 rfl (by kernel_rfl) ?_
      have hh194 := h
      obtain ⟨p191, m192, c193, rfl⟩ := hf62.shape
      have h := hh194
      refine WL.store (v := .agg [vi (shrI a0.Offset a1.toNat), (.slice p191 m192 c193)].toArray) (cells' := [vi (shrI a0.Offset a1.toNat), (.slice p191 m192 c193)]) ty25 rfl rfl hb59 rfl (Nat.le_of_ble_eq_true rfl) rfl rfl ?_
      intro wd195 hst196 hb197
      refine WL.nil ?_
      refine At.dq (Stp.up hst196 rfl) ?_
      refine WD.done_ (by kernel_rfl) ?_
      refine At.then ?_
      refine WC.seq ?_
      refine WC.seq ?_
      refine WC.region ?_
      refine WL.y (Y.fieldAddr fo25_1 rfl) rfl ?_
      have hf198 := hf26.st hst35 rfl
      have hf199 := hf198.st hst65 rfl
      have hf200 := hf199.st hst196 rfl
      refine WL.y (Y.loadSc ty23 rfl rfl (hf200.cell 1 _ rfl)) rfl ?_
      have hf201 := hf28.mono (imm_st hst35 rfl rfl)
      have hf202 := hf201.mono (imm_st hst65 rfl rfl)
      have hf203 := hf202.mono (imm_st hst196 rfl rfl)
      refine WL.y (Y.len ty23 rfl hf203) rfl ?_
      refine WL.y (Y.move rfl) rfl ?_
      refine WL.nil ?_
      refine At.then ?_
      refine WC.block ?_
      obtain ⟨p217, h, hk219⟩ := flow1 h
      obtain ⟨k218, h⟩ := loop_some h
      refine WC.joinB 0 (σ := (List UInt64 × Own)) (fun x w' => p217 = .go x.1 ∧ Stp [1004, 1005] O63 wd195 x.2 w' ∧ OwnSl 1006 Rep.u 22 x.2 w' (.slice p191 m192 c193) x.1) (fun x => [(4, .pointer (some ⟨p22, 0, none⟩)), (5, .pointer (some ⟨b58, 0, none⟩))]) ?_ ?_
      · have hf220 := hf62.st hst196 rfl rfl rfl
        obtain ⟨O221, hst222, ho223⟩ := OwnSl.rlb 1005 rfl hf220
        refine WC.loop (σ := (List UInt64 × Int × Own)) (fun x k w' => loopN k (hist_down_lp1 a0 a1) (x.1, x.2.1) = some p217 ∧ Stp [1004, 1005] O63 wd195 x.2.2 w' ∧ OwnSl 1005 Rep.u 22 x.2.2 w' (.slice p191 m192 c193) x.1) (fun x => [(1, vu a1), (2, .pointer (some ⟨p17, 0, none⟩)), (4, .pointer (some ⟨p22, 0, none⟩)), (5, .pointer (some ⟨b58, 0, none⟩)), (23, (.slice p12 m13 c14)), (24, vi (a0.Counts.length : Int)), (25, vi x.2.1)]) (x60, 0, O221) k218 (.cons rfl (.cons rfl (.cons rfl (.cons rfl (.cons rfl (.cons rfl (.cons rfl .nil))))))) ⟨h, (Stp.up hst222 rfl), ho223⟩ ?_
        rintro ⟨c204, x207, O208⟩ k218 wd209 ⟨h, hst210, hf206⟩
        obtain ⟨j224, q225, rfl, h, hn226⟩ := rnd1 h
        unfold hist_down_lp1 at h
        try dsimp only at h hst210 hf206
        refine (show WC _ _ _ _ [(1, vu a1), (2, .pointer (some ⟨p17, 0, none⟩)), (4, .pointer (some ⟨p22, 0, none⟩)), (5, .pointer (some ⟨b58, 0, none⟩)), (23, (.slice p12 m13 c14)), (24, vi (a0.Counts.length : Int)), (25, vi x207)] _ from ?_)
        refine WC.seq ?_
        refine WC.region ?_
        refine WL.y (Y.lss_i rfl rfl) rfl ?_
        refine WL.nil ?_
        refine At.then ?_
        refine WC.seq ?_
        rcases cnd h with ⟨hc227, h⟩ | ⟨hc227, h⟩
        · refine WC.condT' rfl hc227 ?_
          refine WC.skip ?_
          refine At.then ?_
          refine WC.seq ?_
          refine WC.block ?_
          refine WC.seq ?_
          refine WC.region ?_
          refine WL.y (Y.move rfl) rfl ?_
          obtain ⟨e228, he228, h⟩ := bnd h
          have hf237 := hf203.mono (imm_st hst210 rfl rfl)
          obtain ⟨b229, off238, cap236, cs235, hv230, hi231, hl232, hc233, hok234, hA239⟩ := Sl.at2 hf237 he228
          obtain rfl := hok234
          replace hc233 : CellsAt _ _ _ [vu e228] := hc233
          have hca240 := CAt.imm hc233 hA239
          refine WL.y (Y.indexAddr ty23 ty22 rfl hv230 rfl hi231 hl232) rfl ?_
          refine WL.y (Y.loadSc ty22 rfl rfl hca240.at_) rfl ?_
          refine WL.y (Y.assign rfl) rfl ?_
          refine WL.y (Y.assign rfl) rfl ?_
          refine WL.nil ?_
          refine At.then ?_
          refine WC.region ?_
          refine WL.y (Y.fieldAddr fo25_1 rfl) rfl ?_
          have hf241 := hb197.st hst210 rfl
          refine WL.y (Y.loadSc ty23 rfl rfl (hf241.cell 1 _ rfl)) rfl ?_
          refine WL.y (Y.fieldAddr fo25_0 rfl) rfl ?_
          have hf242 := hf200.st hst210 rfl
          refine WL.y (Y.loadSc ty3 rfl rfl (hf242.cell 0 _ rfl)) rfl ?_
          refine WL.y (Y.move rfl) rfl ?_
          refine WL.y (Y.add_i rfl rfl) rfl ?_
          refine WL.y (Y.move rfl) rfl ?_
          refine WL.y (Y.shr_iu rfl rfl) rfl ?_
          refine WL.y (Y.fieldAddr fo25_0 rfl) rfl ?_
          refine WL.y (Y.loadSc ty3 rfl rfl (hf241.cell 0 _ rfl)) rfl ?_
          refine WL.y (Y.sub_i rfl rfl) rfl ?_
          obtain ⟨e243, he243, h⟩ := bnd h
          obtain ⟨b244, cap251, cs250, hv245, hi246, hl247, hc248, hok249⟩ := OwnSl.at hf206 he243
          obtain rfl := hok249
          replace hc248 : CellsAt _ _ _ [vu e243] := hc248
          have hca252 := CAt.own hf206 hv245 hc248
          refine WL.y (Y.indexAddr ty23 ty22 rfl hv245 rfl hi246 hl247) rfl ?_
          refine WL.y (Y.loadSc ty22 rfl rfl hca252.at_) rfl ?_
          refine WL.y (Y.move rfl) rfl ?_
          refine WL.y (Y.add_u rfl rfl) rfl ?_
          obtain ⟨e253, he253, h⟩ := bnd h
          obtain ⟨b254, cap261, cs260, hv255, hi256, hl257, hc258, hok259⟩ := OwnSl.at hf206 he253
          obtain rfl := hok259
          replace hc258 : CellsAt _ _ _ [vu e253] := hc258
          have hca262 := CAt.own hf206 hv255 hc258
          refine WL.y (Y.indexAddr ty23 ty22 rfl hv255 rfl hi256 hl257) rfl ?_
          obtain ⟨t263, ht263, h⟩ := lt1 h
          refine WL.ren 44 rfl (congrArg vu ht263.symm) ?_
          obtain ⟨xs264, hxs264, h⟩ := bnd h
          refine WL.storeOwn (by decide) ty22 rfl rfl rfl hf206 hv255 hxs264 ?_
          intro wd265 hst266 ho267
          refine WL.nil ?_
          refine At.inBlock ?_
          refine At.then ?_
          refine WC.region ?_
          refine WL.y (Y.add_i rfl rfl) rfl ?_
          refine WL.y (Y.move rfl) rfl ?_
          refine WL.nil ?_
          exact At.round (xs264, w64 (x207 + 1), O208) j224 (Nat.lt_succ_self _) ⟨next1 h hn226, (Stp.trans (Stp.up hst210 rfl) (Stp.up hst266 rfl)), ho267⟩ (.cons rfl (.cons rfl (.cons rfl (.cons rfl (.cons rfl (.cons rfl (.cons rfl .nil)))))))
        · refine WC.condF' rfl hc227 ?_
          refine WC.exit ?_
          refine At.thenX ?_
          refine At.loopX ?_
          obtain ⟨O268, hst269, ho270⟩ := OwnSl.rlb 1006 rfl hf206
          exact At.hitB (σ := (List UInt64 × Own)) (c204, O268) ⟨brk1 h hn226, (Stp.trans (Stp.up hst210 rfl) (Stp.up hst269 rfl)), ho270⟩ (.cons rfl (.cons rfl .nil))
      · rintro ⟨c211, O214⟩ wd215 ⟨rfl, hst216, hf213⟩
        replace h := flowK_go hk219
        try dsimp only at h hst216 hf213
        refine (show At _ _ _ [(4, .pointer (some ⟨p22, 0, none⟩)), (5, .pointer (some ⟨b58, 0, none⟩))] _ from ?_)
        refine At.inBlockHit ?_
        refine At.then ?_
        refine WC.seq ?_
        refine WC.region ?_
        have hf271 := hb197.st hst216 rfl
        refine WL.y (Y.loadAg ty25 rfl rfl (hf271.cells 0 [vi (shrI a0.Offset a1.toNat), (.slice p191 m192 c193)] rfl) rfl) rfl ?_
        have hf272 := hb21.st hst35 rfl
        have hf273 := hf272.st hst65 rfl
        have hf274 := hf273.st hst196 rfl
        have hf275 := hf274.st hst216 rfl
        refine WL.store (v := .agg [vi (shrI a0.Offset a1.toNat), (.slice p191 m192 c193)].toArray) (cells' := [vi (shrI a0.Offset a1.toNat), (.slice p191 m192 c193)]) ty25 rfl rfl hf275 rfl (Nat.le_of_ble_eq_true rfl) rfl rfl ?_
        intro wd276 hst277 hb278
        refine WL.nil ?_
        refine At.then ?_
        refine WC.ret ?_
        obtain rfl := some1 h
        have hf279 := hf213.st hst277 rfl rfl rfl
        obtain ⟨O280, hst281, hf282⟩ := OwnSl.giveF rfl Flat.u hf279
        have hs283 : Stp [12, 13, 14, 15, 16, 17, 18, 1001, 1002, 1003, 1004, 1005, 1006] (Lg.O0 A) w O280 wd276 := (Stp.trans (Stp.up hst20 rfl) (Stp.trans (Stp.up hst25 rfl) (Stp.trans (Stp.up hst35 rfl) (Stp.trans (Stp.up hst65 rfl) (Stp.trans (Stp.up hst196 rfl) (Stp.trans (Stp.up hst216 rfl) (Stp.trans (Stp.up hst277 rfl) (Stp.up hst281 rfl))))))))
        have hf284 := hb278.st hst281 rfl
        exact At.res (.inl rfl) rfl (.cell rfl (hf284.runAg 0 [vi (shrI a0.Offset a1.toNat), (.slice p191 m192 c193)] ty25 rfl rfl rfl) .nil) ⟨(.slice p191 m192 c193), rfl, (Stp.ext hs283 rfl rfl), (Sl.outF hf282 hs283 low0)⟩

theorem c_hist_Down {A : Nat → Prop} {v0_3 : Value} {v0_5 : Value} {a0 : api_Hist} {a1 : Int} {w : World} (hs0_3 : Sl Rep.u w A v0_3 a0.Pos.Counts) (hs0_5 : Sl Rep.u w A v0_5 a0.Neg.Counts) {r0 : api_Hist} {r1 : Int} (h : hist_Down a0 a1 = some (r0, r1)) : Rets Try.prog 21 [.agg [vi a0.Scale, vu a0.Zero, vi a0.Pos.Offset, v0_3, vi a0.Neg.Offset, v0_5].toArray, vi a1] w (fun v w' => ∃ (u0_3 : Value) (u0_5 : Value), v = .tuple (List.toArray [.agg (List.toArray [vi r0.Scale, vu r0.Zero, vi r0.Pos.Offset, u0_3, vi r0.Neg.Offset, u0_5]), vi r1]) ∧ Ext w w' ∧ Sl Rep.u w' (fun k => w.heap.size ≤ k) u0_3 r0.Pos.Counts ∧ Sl Rep.u w' (fun k => w.heap.size ≤ k) u0_5 r0.Neg.Counts) := by
  unfold hist_Down at h
  refine Rets.enter Try.func21 rfl rfl ?_
  have hf11 : Sl Rep.u w (imm (Lg.O0 A)) v0_3 a0.Pos.Counts := (Sl.start hs0_3)
  have hf12 : Sl Rep.u w (imm (Lg.O0 A)) v0_5 a0.Neg.Counts := (Sl.start hs0_5)
  refine (show WC _ _ _ _ [(0, .agg [vi a0.Scale, vu a0.Zero, vi a0.Pos.Offset, v0_3, vi a0.Neg.Offset, v0_5].toArray), (1, vi a1)] _ from ?_)
  refine WC.seq ?_
  refine WC.region ?_
  have hh16 := h
  obtain ⟨p13, m14, c15, rfl⟩ := hf11.shape
  have h := hh16
  have hh20 := h
  obtain ⟨p17, m18, c19, rfl⟩ := hf12.shape
  have h := hh20
  refine WL.box (O := (Lg.O0 A)) 11 [vi a0.Scale, vu a0.Zero, vi a0.Pos.Offset, (.slice p13 m14 c15), vi a0.Neg.Offset, (.slice p17 m18 c19)] rfl rfl rfl ?_
  intro p22 O23 wd24 hst25 hb21
  refine WL.alloc (O := O23) 12 [vi 0, vu 0, vi 0, .slice none 0 0, vi 0, .slice none 0 0] ty27 rfl rfl ?_
  intro p27 O28 wd29 hst30 hb26
  refine WL.y (Y.assign rfl) rfl ?_
  refine WL.nil ?_
  refine At.then ?_
  refine WC.seq ?_
  refine WC.seq ?_
  refine WC.region ?_
  have hf31 := hb21.st hst30 rfl
  refine WL.y (Y.loadAg ty27 rfl rfl (hf31.cells 0 [vi a0.Scale, vu a0.Zero, vi a0.Pos.Offset, (.slice p13 m14 c15), vi a0.Neg.Offset, (.slice p17 m18 c19)] rfl) rfl) rfl ?_
  have hf32 := hf11.mono (imm_st hst25 rfl rfl)
  have hf33 := hf32.mono (imm_st hst30 rfl rfl)
  have hf34 := hf12.mono (imm_st hst25 rfl rfl)
  have hf35 := hf34.mono (imm_st hst30 rfl rfl)
  obtain ⟨r36, hp37, h⟩ := bnd h
  refine WL.call (vals := [.agg [vi a0.Scale, vu a0.Zero, vi a0.Pos.Offset, (.slice p13 m14 c15), vi a0.Neg.Offset, (.slice p17 m18 c19)].toArray]) kok19 rfl rfl (c_hist_Check (A := fun _ => True) (a0 := a0) (Sl.all hf33) (Sl.all hf35) hp37) ?_
  rintro vr40 wd39 ⟨rfl, hm38⟩
  obtain ⟨O41, hold42, hnew43, hst44⟩ := adoptE O28 (fun k => 1) hm38
  refine WL.y (Y.assign rfl) rfl ?_
  refine WL.nil ?_
  refine At.then ?_
  refine WC.seq ?_
  refine WC.region ?_
  refine WL.y (Y.move rfl) rfl ?_
  refine WL.y (Y.neq_i rfl rfl) rfl ?_
  refine WL.nil ?_
  refine At.then ?_
  rcases cnd h with ⟨hc45, h⟩ | ⟨hc45, h⟩
  · refine WC.condT' rfl hc45 ?_
    refine WC.seq ?_
    refine WC.region ?_
    refine WL.y (Y.build (vals := []) (cells := [vi 0, vu 0, vi 0, .slice none 0 0, vi 0, .slice none 0 0]) (Fits.evalp rfl) (by kernel_rfl)) rfl ?_
    refine WL.y (Y.move rfl) rfl ?_
    have hf46 := hb26.st hst44 rfl
    refine WL.store (v := .agg [vi 0, vu 0, vi 0, .slice none 0 0, vi 0, .slice none 0 0].toArray) (cells' := [vi 0, vu 0, vi 0, .slice none 0 0, vi 0, .slice none 0 0]) ty27 rfl rfl hf46 rfl (Nat.le_of_ble_eq_true rfl) rfl rfl ?_
    intro wd47 hst48 hb49
    refine WL.y (Y.assign rfl) rfl ?_
    refine WL.nil ?_
    refine At.then ?_
    refine WC.ret ?_
    refine At.thenR ?_
    obtain ⟨rfl, rfl⟩ := tup2 h
    have hs50 : Stp [12] (Lg.O0 A) w O41 wd47 := (Stp.trans (Stp.up hst25 rfl) (Stp.trans (Stp.up hst30 rfl) (Stp.trans (Stp.up hst44 rfl) (Stp.up hst48 rfl))))
    exact At.res (.inl rfl) rfl (.cell rfl (hb49.runAg 0 [vi 0, vu 0, vi 0, .slice none 0 0, vi 0, .slice none 0 0] ty27 rfl rfl rfl) (.tmp rfl .nil)) ⟨.slice none 0 0, .slice none 0 0, rfl, (Stp.ext hs50 rfl rfl), (Or.inl ⟨rfl, rfl⟩), (Or.inl ⟨rfl, rfl⟩)⟩
  · refine WC.condF' rfl hc45 ?_
    refine WC.skip ?_
    refine At.then ?_
    refine WC.seq ?_
    refine WC.seq ?_
    refine WC.region ?_
    refine WL.y (Y.move rfl) rfl ?_
    refine WL.y (Y.lss_i rfl rfl) rfl ?_
    refine WL.y (Y.move rfl) rfl ?_
    refine WL.cut 6 (σ := Unit) (fun _ w' => wd39 = w') (fun _ => [(1, vi a1), (2, .pointer (some ⟨p22, 0, none⟩)), (4, .pointer (some ⟨p27, 0, none⟩)), (21, .bool ((decide (a1 < 0)) || (decide (w64 (a0.Scale - (-10)) < a1))))]) ?_ ?_
    · refine WL.part 15 rfl (fun hE51 => ?_) (fun hE51 => ?_)
      · refine WL.gS rfl rfl rfl rfl ?_
        refine WL.gS rfl rfl rfl rfl ?_
        refine WL.gS rfl rfl rfl rfl ?_
        refine WL.gS rfl rfl rfl rfl ?_
        refine WL.gS rfl rfl rfl rfl ?_
        refine WL.y (Y.pick (b := true) rfl rfl) rfl ?_
        refine WL.ren (v' := .bool ((decide (a1 < 0)) || (decide (w64 (a0.Scale - (-10)) < a1)))) 21 rfl (congrArg Value.bool (orT hE51)) ?_
        exact WL.nil (At.join () rfl (.cons rfl (.cons rfl (.cons rfl (.cons rfl .nil)))))
      · refine WL.ung rfl rfl ?_
        refine WL.y (Y.move rfl) rfl ?_
        refine WL.ung rfl rfl ?_
        refine WL.y (Y.fieldAddr fo27_0 rfl) rfl ?_
        refine WL.ung rfl rfl ?_
        have hf52 := hf31.st hst44 rfl
        refine WL.y (Y.loadSc ty3 rfl rfl (hf52.cell 0 _ rfl)) rfl ?_
        refine WL.ung rfl rfl ?_
        refine WL.y (Y.sub_i rfl rfl) rfl ?_
        refine WL.ung rfl rfl ?_
        refine WL.y (Y.gtr_i rfl rfl) rfl ?_
        refine WL.y (Y.pick (b := false) rfl rfl) rfl ?_
        refine WL.ren (v' := .bool ((decide (a1 < 0)) || (decide (w64 (a0.Scale - (-10)) < a1)))) 21 rfl (congrArg Value.bool (orF hE51)) ?_
        exact WL.nil (At.join () rfl (.cons rfl (.cons rfl (.cons rfl (.cons rfl .nil)))))
    · rintro _ _ rfl
      refine (show WL _ _ _ _ _ [(1, vi a1), (2, .pointer (some ⟨p22, 0, none⟩)), (4, .pointer (some ⟨p27, 0, none⟩)), (21, .bool ((decide (a1 < 0)) || (decide (w64 (a0.Scale - (-10)) < a1))))] _ from ?_)
      refine WL.nil ?_
      refine At.then ?_
      rcases cnd h with ⟨hc53, h⟩ | ⟨hc53, h⟩
      · refine WC.condT' rfl hc53 ?_
        refine WC.seq ?_
        refine WC.region ?_
        refine WL.y (Y.build (vals := []) (cells := [vi 0, vu 0, vi 0, .slice none 0 0, vi 0, .slice none 0 0]) (Fits.evalp rfl) (by kernel_rfl)) rfl ?_
        have hf54 := hb26.st hst44 rfl
        refine WL.store (v := .agg [vi 0, vu 0, vi 0, .slice none 0 0, vi 0, .slice none 0 0].toArray) (cells' := [vi 0, vu 0, vi 0, .slice none 0 0, vi 0, .slice none 0 0]) ty27 rfl rfl hf54 rfl (Nat.le_of_ble_eq_true rfl) rfl rfl ?_
        intro wd55 hst56 hb57
        refine WL.y (Y.assign rfl) rfl ?_
        refine WL.nil ?_
        refine At.then ?_
        refine WC.ret ?_
        refine At.thenR ?_
        obtain ⟨rfl, rfl⟩ := tup2 h
        have hs58 : Stp [12] (Lg.O0 A) w O41 wd55 := (Stp.trans (Stp.up hst25 rfl) (Stp.trans (Stp.up hst30 rfl) (Stp.trans (Stp.up hst44 rfl) (Stp.up hst56 rfl))))
        exact At.res (.inl rfl) rfl (.cell rfl (hb57.runAg 0 [vi 0, vu 0, vi 0, .slice none 0 0, vi 0, .slice none 0 0] ty27 rfl rfl rfl) (.tmp rfl .nil)) ⟨.slice none 0 0, .slice none 0 0, rfl, (Stp.ext hs58 rfl rfl), (Or.inl ⟨rfl, rfl⟩), (Or.inl ⟨rfl, rfl⟩)⟩
      · refine WC.condF' rfl hc53 ?_
        refine WC.skip ?_
        refine At.then ?_
        refine WC.seq ?_
        refine WC.drawH [] [0, 1, 2, 3, 4, 5, 6, 7, 8, 9, 10, 11, 12, 13, 14, 15, 16] O41 19 fmix rfl (by kernel_rfl) ?_
        intro wd59 hst60
        refine WD.y 0 rfl (by kernel_rfl) (fun _ _ _ => Y.fieldAddr fo27_0 rfl) rfl ?_
        refine WD.y 1 rfl (by kernel_rfl) (fun wd65 O64 hst66 => have hf67 := hf31.st hst44 rfl; have hf68 := hf67.st hst60 rfl; have hf69 := hf68.st hst66 rfl; Y.loadSc ty3 rfl rfl (hf69.cell 0 _ rfl)) rfl ?_
        refine WD.y 2 rfl (by kernel_rfl) (fun _ _ _ => Y.move rfl) rfl ?_
        refine WD.y 3 rfl (by kernel_rfl) (fun _ _ _ => Y.sub_i rfl rfl) rfl ?_
        refine WD.y 4 rfl (by kernel_rfl) (fun _ _ _ => Y.fieldAddr fo27_1 rfl) rfl ?_
        refine WD.y 5 rfl (by kernel_rfl) (fun wd80 O79 hst81 => have hf82 := hf31.st hst44 rfl; have hf83 := hf82.st hst60 rfl; have hf84 := hf83.st hst81 rfl; Y.loadSc ty22 rfl rfl (hf84.cell 1 _ rfl)) rfl ?_
        refine WD.y 6 rfl (by kernel_rfl) (fun _ _ _ => Y.fieldAddr fo27_2 rfl) rfl ?_
        refine WD.y 7 rfl (by kernel_rfl) (fun wd89 O88 hst90 => have hf91 := hf31.st hst44 rfl; have hf92 := hf91.st hst60 rfl; have hf93 := hf92.st hst90 rfl; Y.loadAg ty25 rfl rfl (hf93.cells 2 [vi a0.Pos.Offset, (.slice p13 m14 c15)] rfl) rfl) rfl ?_
        refine WD.y 8 rfl (by kernel_rfl) (fun _ _ _ => Y.move rfl) rfl ?_
        refine WD.y 9 rfl (by kernel_rfl) (fun _ _ _ => Y.conv_iu ty3.u ty82.u rfl) rfl ?_
        refine WD.y 11 rfl (by kernel_rfl) (fun _ _ _ => Y.fieldAddr fo27_3 rfl) rfl ?_
        refine WD.y 12 rfl (by kernel_rfl) (fun wd104 O103 hst105 => have hf106 := hf31.st hst44 rfl; have hf107 := hf106.st hst60 rfl; have hf108 := hf107.st hst105 rfl; Y.loadAg ty25 rfl rfl (hf108.cells 4 [vi a0.Neg.Offset, (.slice p17 m18 c19)] rfl) rfl) rfl ?_
        refine WD.y 13 rfl (by kernel_rfl) (fun _ _ _ => Y.move rfl) rfl ?_
        refine WD.y 14 rfl (by kernel_rfl) (fun _ _ _ => Y.conv_iu ty3.u ty82.u rfl) rfl ?_
        refine WD.heavy 10 rfl (by kernel_rfl) ?_
        have hf115 := hf33.mono (imm_st hst44 rfl rfl)
        have hf116 := hf115.mono (imm_st hst60 rfl rfl)
        obtain ⟨r117, hp118, h⟩ := bnd h
        refine WL.call (vals := [.agg [vi a0.Pos.Offset, (.slice p13 m14 c15)].toArray, vu (toU64 a1)]) kok62 rfl rfl (c_hist_down (A := fun _ => True) (a0 := a0.Pos) (Sl.all hf116) hp118) ?_
        rintro vr123 wd122 ⟨u119, rfl, hm121, f120⟩
        obtain ⟨O124, hold125, hnew126, hst127⟩ := adoptE O41 (fun k => 1) hm121
        have hf128 : Sl Rep.u wd122 (frs O124) u119 r117.Counts := Sl.adoptF f120 (fun k hk => ⟨hk, rfl⟩) hnew126
        refine WL.nil ?_
        refine At.dq (Stp.up hst127 rfl) ?_
        refine WD.heavy 15 rfl (by kernel_rfl) ?_
        have hf129 := hf35.mono (imm_st hst44 rfl rfl)
        have hf130 := hf129.mono (imm_st hst60 rfl rfl)
        have hf131 := hf130.mono (imm_st hst127 rfl rfl)
        obtain ⟨r132, hp133, h⟩ := bnd h
        refine WL.call (vals := [.agg [vi a0.Neg.Offset, (.slice p17 m18 c19)].toArray, vu (toU64 a1)]) kok62 rfl rfl (c_hist_down (A := fun _ => True) (a0 := a0.Neg) (Sl.all hf131) hp133) ?_
        rintro vr138 wd137 ⟨u134, rfl, hm136, f135⟩
        obtain ⟨O139, hold140, hnew141, hst142⟩ := adoptE O124 (fun k => 1) hm136
        have hf143 : Sl Rep.u wd137 (frs O139) u134 r132.Counts := Sl.adoptF f135 (fun k hk => ⟨hk, rfl⟩) hnew141
        refine WL.nil ?_
        refine At.dq (Stp.up hst142 rfl) ?_
        have hf144 := hf128.mono (frs_st hst142 rfl)
        have hh148 := h
        obtain ⟨p145, m146, c147, rfl⟩ := hf144.shape
        have h := hh148
        have hh152 := h
        obtain ⟨p149, m150, c151, rfl⟩ := hf143.shape
        have h := hh152
        refine WD.y 16 rfl (by kernel_rfl) (fun _ _ _ => Y.build (vals := [(0, vi (w64 (a0.Scale - a1))), (1, vu a0.Zero), (2, .agg [vi r117.Offset, (.slice p145 m146 c147)].toArray), (3, .agg [vi r132.Offset, (.slice p149 m150 c151)].toArray)]) (cells := [vi (w64 (a0.Scale - a1)), vu a0.Zero, vi r117.Offset, (.slice p145 m146 c147), vi r132.Offset, (.slice p149 m150 c151)]) (Fits.evalp rfl) (by kernel_rfl)) rfl ?_
        refine WD.phase [12] [0, 1, 2, 3, 4, 5, 6, 7, 8, 9, 10, 11, 12, 13, 14, 15, 16, 17, 18] (by kernel_rfl) (by kernel_rfl) ?_
        refine WD.heavy 17 rfl (by kernel_rfl) ?_
        have hf156 := hb26.st hst44 rfl
        have hf157 := hf156.st hst60 rfl
        have hf158 := hf157.st hst127 rfl
        have hf159 := hf158.st hst142 rfl
        refine WL.store (v := .agg [vi (w64 (a0.Scale - a1)), vu a0.Zero, vi r117.Offset, (.slice p145 m146 c147), vi r132.Offset, (.slice p149 m150 c151)].toArray) (cells' := [vi (w64 (a0.Scale - a1)), vu a0.Zero, vi r117.Offset, (.slice p145 m146 c147), vi r132.Offset, (.slice p149 m150 c151)]) ty27 rfl rfl hf159 rfl (Nat.le_of_ble_eq_true rfl) rfl rfl ?_
        intro wd160 hst161 hb162
        refine WL.nil ?_
        refine At.dq (Stp.up hst161 rfl) ?_
        refine WD.y 18 rfl (by kernel_rfl) (fun _ _ _ => Y.assign rfl) rfl ?_
        refine WD.done_ (by kernel_rfl) ?_
        refine At.then ?_
        refine WC.ret ?_
        obtain ⟨rfl, rfl⟩ := tup2 h
        have hs166 : Stp [12] (Lg.O0 A) w O139 wd160 := (Stp.trans (Stp.up hst25 rfl) (Stp.trans (Stp.up hst30 rfl) (Stp.trans (Stp.up hst44 rfl) (Stp.trans (Stp.up hst60 rfl) (Stp.trans (Stp.up hst127 rfl) (Stp.trans (Stp.up hst142 rfl) (Stp.up hst161 rfl)))))))
        have hf167 := hf144.mono (frs_st hst161 rfl)
        have hf168 := hf143.mono (frs_st hst161 rfl)
        exact At.res (.inl rfl) rfl (.cell rfl (hb162.runAg 0 [vi (w64 (a0.Scale - a1)), vu a0.Zero, vi r117.Offset, (.slice p145 m146 c147), vi r132.Offset, (.slice p149 m150 c151)] ty27 rfl rfl rfl) (.tmp rfl .nil)) ⟨(.slice p145 m146 c147), (.slice p149 m150 c151), rfl, (Stp.ext hs166 rfl rfl), (Sl.outF hf167 hs166 low0), (Sl.outF hf168 hs166 low0)⟩

theorem c_hist_At {A : Nat → Prop} {v0_1 : Value} {a0 : api_Side} {a1 : Int} {w : World} (hs0_1 : Sl Rep.u w A v0_1 a0.Counts) {r0 : UInt64} (h : hist_At a0 a1 = some r0) : Rets Try.prog 23 [.agg [vi a0.Offset, v0_1].toArray, vi a1] w (fun v w' => v = vu r0 ∧ Ext w w') := by
  unfold hist_At at h
  refine Rets.enter Try.func23 rfl rfl ?_
  have hf11 : Sl Rep.u w (imm (Lg.O0 A)) v0_1 a0.Counts := (Sl.start hs0_1)
  refine (show WC _ _ _ _ [(0, .agg [vi a0.Offset, v0_1].toArray), (1, vi a1)] _ from ?_)
  refine WC.seq ?_
  refine WC.region ?_
  have hh15 := h
  obtain ⟨p12, m13, c14, rfl⟩ := hf11.shape
  have h := hh15
  refine WL.box (O := (Lg.O0 A)) 11 [vi a0.Offset, (.slice p12 m13 c14)] rfl rfl rfl ?_
  intro p17 O18 wd19 hst20 hb16
  refine WL.y (Y.assign (v := vu 0) rfl) rfl ?_
  refine WL.nil ?_
  refine At.then ?_
  refine WC.seq ?_
  refine WC.seq ?_
  refine WC.region ?_
  refine WL.y (Y.move rfl) rfl ?_
  refine WL.y (Y.fieldAddr fo25_0 rfl) rfl ?_
  refine WL.y (Y.loadSc ty3 rfl rfl (hb16.cell 0 _ rfl)) rfl ?_
  refine WL.y (Y.lss_i rfl rfl) rfl ?_
  refine WL.y (Y.move rfl) rfl ?_
  refine WL.cut 12 (σ := Unit) (fun _ w' => wd19 = w') (fun _ => [(1, vi a1), (2, .pointer (some ⟨p17, 0, none⟩)), (21, .bool ((decide (a1 < a0.Offset)) || (decide (toU64 (a0.Counts.length : Int) ≤ ((toU64 a1) - (toU64 a0.Offset))))))]) ?_ ?_
  · refine WL.part 9 rfl (fun hE21 => ?_) (fun hE21 => ?_)
    · refine WL.gS rfl rfl rfl rfl ?_
      refine WL.gS rfl rfl rfl rfl ?_
      refine WL.gS rfl rfl rfl rfl ?_
      refine WL.gS rfl rfl rfl rfl ?_
      refine WL.gS rfl rfl rfl rfl ?_
      refine WL.gS rfl rfl rfl rfl ?_
      refine WL.gS rfl rfl rfl rfl ?_
      refine WL.gS rfl rfl rfl rfl ?_
      refine WL.gS rfl rfl rfl rfl ?_
      refine WL.gS rfl rfl rfl rfl ?_
      refine WL.gS rfl rfl rfl rfl ?_
      refine WL.y (Y.pick (b := true) rfl rfl) rfl ?_
      refine WL.ren (v' := .bool ((decide (a1 < a0.Offset)) || (decide (toU64 (a0.Counts.length : Int) ≤ ((toU64 a1) - (toU64 a0.Offset)))))) 21 rfl (congrArg Value.bool (orT hE21)) ?_
      exact WL.nil (At.join () rfl (.cons rfl (.cons rfl (.cons rfl .nil))))
    · refine WL.ung rfl rfl ?_
      refine WL.y (Y.move rfl) rfl ?_
      refine WL.ung rfl rfl ?_
      refine WL.y (Y.conv_iu ty3.u ty22.u rfl) rfl ?_
      refine WL.ung rfl rfl ?_
      refine WL.y (Y.fieldAddr fo25_0 rfl) rfl ?_
      refine WL.ung rfl rfl ?_
      refine WL.y (Y.loadSc ty3 rfl rfl (hb16.cell 0 _ rfl)) rfl ?_
      refine WL.ung rfl rfl ?_
      refine WL.y (Y.conv_iu ty3.u ty22.u rfl) rfl ?_
      refine WL.ung rfl rfl ?_
      refine WL.y (Y.sub_u rfl rfl) rfl ?_
      refine WL.ung rfl rfl ?_
      refine WL.y (Y.fieldAddr fo25_1 rfl) rfl ?_
      refine WL.ung rfl rfl ?_
      refine WL.y (Y.loadSc ty23 rfl rfl (hb16.cell 1 _ rfl)) rfl ?_
      refine WL.ung rfl rfl ?_
      have hf22 := hf11.mono (imm_st hst20 rfl rfl)
      refine WL.y (Y.len ty23 rfl hf22) rfl ?_
      refine WL.ung rfl rfl ?_
      refine WL.y (Y.conv_iu ty3.u ty22.u rfl) rfl ?_
      refine WL.ung rfl rfl ?_
      refine WL.y (Y.geq_u rfl rfl) rfl ?_
      refine WL.y (Y.pick (b := false) rfl rfl) rfl ?_
      refine WL.ren (v' := .bool ((decide (a1 < a0.Offset)) || (decide (toU64 (a0.Counts.length : Int) ≤ ((toU64 a1) - (toU64 a0.Offset)))))) 21 rfl (congrArg Value.bool (orF hE21)) ?_
      exact WL.nil (At.join () rfl (.cons rfl (.cons rfl (.cons rfl .nil))))
  · rintro _ _ rfl
    refine (show WL _ _ _ _ _ [(1, vi a1), (2, .pointer (some ⟨p17, 0, none⟩)), (21, .bool ((decide (a1 < a0.Offset)) || (decide (toU64 (a0.Counts.length : Int) ≤ ((toU64 a1) - (toU64 a0.Offset))))))] _ from ?_)
    refine WL.nil ?_
    refine At.then ?_
    rcases cnd h with ⟨hc23, h⟩ | ⟨hc23, h⟩
    · refine WC.condT' rfl hc23 ?_
      refine WC.seq ?_
      refine WC.region ?_
      refine WL.y (Y.assign (v := vu 0) rfl) rfl ?_
      refine WL.nil ?_
      refine At.then ?_
      refine WC.ret ?_
      refine At.thenR ?_
      obtain rfl := some1 h
      have hs24 : Stp [] (Lg.O0 A) w O18 wd19 := (Stp.up hst20 rfl)
      exact At.res (.inl rfl) rfl (.tmp rfl .nil) ⟨rfl, (Stp.ext hs24 rfl rfl)⟩
    · refine WC.condF' rfl hc23 ?_
      refine WC.skip ?_
      refine At.then ?_
      refine WC.seq ?_
      refine WC.region ?_
      refine WL.y (Y.fieldAddr fo25_1 rfl) rfl ?_
      refine WL.y (Y.loadSc ty23 rfl rfl (hb16.cell 1 _ rfl)) rfl ?_
      refine WL.y (Y.move rfl) rfl ?_
      refine WL.y (Y.fieldAddr fo25_0 rfl) rfl ?_
      refine WL.y (Y.loadSc ty3 rfl rfl (hb16.cell 0 _ rfl)) rfl ?_
      refine WL.y (Y.sub_i rfl rfl) rfl ?_
      obtain ⟨e25, he25, h⟩ := bnd h
      have hf34 := hf11.mono (imm_st hst20 rfl rfl)
      obtain ⟨b26, off35, cap33, cs32, hv27, hi28, hl29, hc30, hok31, hA36⟩ := Sl.at2 hf34 he25
      obtain rfl := hok31
      replace hc30 : CellsAt _ _ _ [vu e25] := hc30
      have hca37 := CAt.imm hc30 hA36
      refine WL.y (Y.indexAddr ty23 ty22 rfl hv27 rfl hi28 hl29) rfl ?_
      refine WL.y (Y.loadSc ty22 rfl rfl hca37.at_) rfl ?_
      refine WL.y (Y.assign rfl) rfl ?_
      refine WL.nil ?_
      refine At.then ?_
      refine WC.ret ?_
      obtain rfl := some1 h
      have hs38 : Stp [] (Lg.O0 A) w O18 wd19 := (Stp.up hst20 rfl)
      exact At.res (.inl rfl) rfl (.tmp rfl .nil) ⟨rfl, (Stp.ext hs38 rfl rfl)⟩

theorem c_law08_awake {w : World} {r0 : Bool} (h : law08_awake = some r0) : Rets Try.prog 15 [] w (fun v w' => v = .bool r0 ∧ Ext w w') := by
  unfold law08_awake at h
  refine Rets.enter Try.func15 rfl rfl ?_
  refine (show WC _ _ _ _ [] _ from ?_)
  refine WC.seq ?_
  refine WC.region ?_
  refine WL.y (Y.assign rfl) rfl ?_
  refine WL.nil ?_
  refine At.then ?_
  refine WC.seq ?_
  refine WC.region ?_
  refine WL.buildSlice (O := (Lg.O0 (fun _ => False))) (R := Rep.u) (vals := [(0, vu 1), (1, vu 2), (2, vu 3)]) 11 [vu 1, vu 2, vu 3] (xs := [1, 2, 3]) (by decide) ty23 ty22 (by decide) (by decide) (Fits.evalp rfl) (by kernel_rfl) rfl ⟨[vu 1], [vu 2, vu 3], rfl, rfl, ⟨[vu 2], [vu 3], rfl, rfl, ⟨[vu 3], [], rfl, rfl, rfl⟩⟩⟩ rfl ?_
  intro v11 O13 wd14 hst15 ho12
  have hh19 := h
  obtain ⟨p16, m17, c18, rfl⟩ := ho12.shape
  have h := hh19
  refine WL.y (Y.build (vals := [(0, vi (-3)), (1, (.slice p16 m17 c18))]) (cells := [vi (-3), (.slice p16 m17 c18)]) (Fits.evalp rfl) (by kernel_rfl)) rfl ?_
  refine WL.y (Y.build (vals := [(0, vi 3), (2, .agg [vi (-3), (.slice p16 m17 c18)].toArray)]) (cells := [vi 3, vu 0, vi (-3), (.slice p16 m17 c18), vi 0, .slice none 0 0]) (Fits.evalp rfl) (by kernel_rfl)) rfl ?_
  refine WL.alloc (O := O13) 12 [vi 0, vu 0, vi 0, .slice none 0 0, vi 0, .slice none 0 0] ty27 rfl rfl ?_
  intro p21 O22 wd23 hst24 hb20
  refine WL.store (v := .agg [vi 3, vu 0, vi (-3), (.slice p16 m17 c18), vi 0, .slice none 0 0].toArray) (cells' := [vi 3, vu 0, vi (-3), (.slice p16 m17 c18), vi 0, .slice none 0 0]) ty27 rfl rfl hb20 rfl (Nat.le_of_ble_eq_true rfl) rfl rfl ?_
  intro wd25 hst26 hb27
  refine WL.nil ?_
  refine At.then ?_
  refine WC.seq ?_
  refine WC.region ?_
  refine WL.y (Y.loadAg ty27 rfl rfl (hb27.cells 0 [vi 3, vu 0, vi (-3), (.slice p16 m17 c18), vi 0, .slice none 0 0] rfl) rfl) rfl ?_
  have hf28 := ho12.st hst24 rfl rfl rfl
  have hf29 := hf28.st hst26 rfl rfl rfl
  obtain ⟨⟨r30, r31⟩, hp32, h⟩ := bnd h
  refine WL.call (vals := [.agg [vi 3, vu 0, vi (-3), (.slice p16 m17 c18), vi 0, .slice none 0 0].toArray, vi 1]) kok21 rfl rfl (c_hist_Down (A := fun _ => True) (a0 := (api_Hist.mk 3 0 (api_Side.mk (-3) [1, 2, 3]) (api_Side.mk 0 []))) (hf29.src.sl) (Or.inl ⟨rfl, rfl⟩) hp32) ?_
  rintro vr39 wd38 ⟨u33, u34, rfl, hm37, f35, f36⟩
  obtain ⟨O40, hold41, hnew42, hst43⟩ := adoptE O22 (fun k => 1) hm37
  have hf44 : Sl Rep.u wd38 (frs O40) u33 r30.Pos.Counts := Sl.adoptF f35 (fun k hk => ⟨hk, rfl⟩) hnew42
  have hf45 : Sl Rep.u wd38 (frs O40) u34 r30.Neg.Counts := Sl.adoptF f36 (fun k hk => ⟨hk, rfl⟩) hnew42
  refine WL.y (Y.move rfl) rfl ?_
  refine WL.y (Y.extract rfl rfl) rfl ?_
  refine WL.y (Y.extract rfl rfl) rfl ?_
  refine WL.alloc (O := O40) 13 [vi 0, vu 0, vi 0, .slice none 0 0, vi 0, .slice none 0 0] ty27 rfl rfl ?_
  intro p47 O48 wd49 hst50 hb46
  have hf51 := hf44.mono (frs_st hst50 rfl)
  have hh55 := h
  obtain ⟨p52, m53, c54, rfl⟩ := hf51.shape
  have h := hh55
  have hf56 := hf45.mono (frs_st hst50 rfl)
  have hh60 := h
  obtain ⟨p57, m58, c59, rfl⟩ := hf56.shape
  have h := hh60
  refine WL.store (v := .agg [vi r30.Scale, vu r30.Zero, vi r30.Pos.Offset, (.slice p52 m53 c54), vi r30.Neg.Offset, (.slice p57 m58 c59)].toArray) (cells' := [vi r30.Scale, vu r30.Zero, vi r30.Pos.Offset, (.slice p52 m53 c54), vi r30.Neg.Offset, (.slice p57 m58 c59)]) ty27 rfl rfl hb46 rfl (Nat.le_of_ble_eq_true rfl) rfl rfl ?_
  intro wd61 hst62 hb63
  refine WL.y (Y.assign rfl) rfl ?_
  refine WL.nil ?_
  refine At.then ?_
  refine WC.seq ?_
  refine WC.region ?_
  refine WL.y (Y.move rfl) rfl ?_
  refine WL.y (Y.eql_i rfl rfl) rfl ?_
  refine WL.y (Y.move rfl) rfl ?_
  refine WL.cut 4 (σ := Unit) (fun _ w' => wd61 = w') (fun _ => [(2, .pointer (some ⟨p47, 0, none⟩)), (18, .bool ((decide (r31 = 0)) && (decide (r30.Scale = 2))))]) ?_ ?_
  · refine WL.part 14 rfl (fun hE64 => ?_) (fun hE64 => ?_)
    · refine WL.ung rfl rfl ?_
      refine WL.y (Y.fieldAddr fo27_0 rfl) rfl ?_
      refine WL.ung rfl rfl ?_
      refine WL.y (Y.loadSc ty3 rfl rfl (hb63.cell 0 _ rfl)) rfl ?_
      refine WL.ung rfl rfl ?_
      refine WL.y (Y.eql_i rfl rfl) rfl ?_
      refine WL.y (Y.pick (b := true) rfl rfl) rfl ?_
      refine WL.ren (v' := .bool ((decide (r31 = 0)) && (decide (r30.Scale = 2)))) 18 rfl (congrArg Value.bool (andT hE64)) ?_
      exact WL.nil (At.join () rfl (.cons rfl (.cons rfl .nil)))
    · refine WL.gS rfl rfl rfl rfl ?_
      refine WL.gS rfl rfl rfl rfl ?_
      refine WL.gS rfl rfl rfl rfl ?_
      refine WL.y (Y.pick (b := false) rfl rfl) rfl ?_
      refine WL.ren (v' := .bool ((decide (r31 = 0)) && (decide (r30.Scale = 2)))) 18 rfl (congrArg Value.bool (andF hE64)) ?_
      exact WL.nil (At.join () rfl (.cons rfl (.cons rfl .nil)))
  · rintro _ _ rfl
    refine (show WL _ _ _ _ _ [(2, .pointer (some ⟨p47, 0, none⟩)), (18, .bool ((decide (r31 = 0)) && (decide (r30.Scale = 2))))] _ from ?_)
    refine WL.y (Y.move rfl) rfl ?_
    obtain ⟨p69, h, hk70⟩ := bnd h
    refine WL.cut 5 (σ := (Bool × Own)) (fun x w' => x.1 = p69 ∧ Stp [] O48 wd61 x.2 w') (fun x => [(2, .pointer (some ⟨p47, 0, none⟩)), (24, .bool x.1)]) ?_ ?_
    · rcases cnd h with ⟨hE71, h⟩ | ⟨hE71, h⟩
      · refine WL.ren 19 rfl (congrArg Value.bool hE71) ?_
        refine WL.ung rfl rfl ?_
        refine WL.y (Y.fieldAddr fo27_2 rfl) rfl ?_
        refine WL.ung rfl rfl ?_
        refine WL.y (Y.loadAg ty25 rfl rfl (hb63.cells 2 [vi r30.Pos.Offset, (.slice p52 m53 c54)] rfl) rfl) rfl ?_
        refine WL.ung rfl rfl ?_
        have hf72 := hf51.mono (frs_st hst62 rfl)
        obtain ⟨r73, hp74, h⟩ := bnd h
        refine WL.call (vals := [.agg [vi r30.Pos.Offset, (.slice p52 m53 c54)].toArray, vi (-2)]) kok23 rfl rfl (c_hist_At (A := fun _ => True) (a0 := r30.Pos) (Sl.all hf72) hp74) ?_
        rintro vr77 wd76 ⟨rfl, hm75⟩
        obtain ⟨O78, hold79, hnew80, hst81⟩ := adoptE O48 (fun k => 1) hm75
        refine WL.ung rfl rfl ?_
        refine WL.y (Y.eql_u (b := 1) rfl rfl) rfl ?_
        refine WL.y (Y.pick (b := true) rfl rfl) rfl ?_
        exact WL.nil (At.join (σ := (Bool × Own)) (decide (r73 = 1), O78) ⟨some1 h, (Stp.up hst81 rfl)⟩ (.cons rfl (.cons rfl .nil)))
      · refine WL.ren 19 rfl (congrArg Value.bool hE71) ?_
        refine WL.gS rfl rfl rfl rfl ?_
        refine WL.gS rfl rfl rfl rfl ?_
        refine WL.gS rfl rfl rfl rfl ?_
        refine WL.gS rfl rfl rfl rfl ?_
        refine WL.y (Y.pick (b := false) rfl rfl) rfl ?_
        exact WL.nil (At.join (σ := (Bool × Own)) (false, O48) ⟨some1 h, (Stp.refl _ _ _)⟩ (.cons rfl (.cons rfl .nil)))
    · rintro ⟨x65, O66⟩ wd67 ⟨rfl, hst68⟩
      replace h := hk70
      try dsimp only at h hst68
      refine (show WL _ _ _ _ _ [(2, .pointer (some ⟨p47, 0, none⟩)), (24, .bool x65)] _ from ?_)
      refine WL.y (Y.move rfl) rfl ?_
      obtain ⟨p86, h, hk87⟩ := bnd h
      refine WL.cut 5 (σ := (Bool × Own)) (fun x w' => x.1 = p86 ∧ Stp [] O66 wd67 x.2 w') (fun x => [(2, .pointer (some ⟨p47, 0, none⟩)), (30, .bool x.1)]) ?_ ?_
      · rcases cnd h with ⟨hE88, h⟩ | ⟨hE88, h⟩
        · refine WL.ren 25 rfl (congrArg Value.bool hE88) ?_
          refine WL.ung rfl rfl ?_
          refine WL.y (Y.fieldAddr fo27_2 rfl) rfl ?_
          refine WL.ung rfl rfl ?_
          have hf89 := hb63.st hst68 rfl
          refine WL.y (Y.loadAg ty25 rfl rfl (hf89.cells 2 [vi r30.Pos.Offset, (.slice p52 m53 c54)] rfl) rfl) rfl ?_
          refine WL.ung rfl rfl ?_
          have hf90 := hf51.mono (frs_st hst62 rfl)
          have hf91 := hf90.mono (frs_st hst68 rfl)
          obtain ⟨r92, hp93, h⟩ := bnd h
          refine WL.call (vals := [.agg [vi r30.Pos.Offset, (.slice p52 m53 c54)].toArray, vi (-1)]) kok23 rfl rfl (c_hist_At (A := fun _ => True) (a0 := r30.Pos) (Sl.all hf91) hp93) ?_
          rintro vr96 wd95 ⟨rfl, hm94⟩
          obtain ⟨O97, hold98, hnew99, hst100⟩ := adoptE O66 (fun k => 1) hm94
          refine WL.ung rfl rfl ?_
          refine WL.y (Y.eql_u (b := 5) rfl rfl) rfl ?_
          refine WL.y (Y.pick (b := true) rfl rfl) rfl ?_
          exact WL.nil (At.join (σ := (Bool × Own)) (decide (r92 = 5), O97) ⟨some1 h, (Stp.up hst100 rfl)⟩ (.cons rfl (.cons rfl .nil)))
        · refine WL.ren 25 rfl (congrArg Value.bool hE88) ?_
          refine WL.gS rfl rfl rfl rfl ?_
          refine WL.gS rfl rfl rfl rfl ?_
          refine WL.gS rfl rfl rfl rfl ?_
          refine WL.gS rfl rfl rfl rfl ?_
          refine WL.y (Y.pick (b := false) rfl rfl) rfl ?_
          exact WL.nil (At.join (σ := (Bool × Own)) (false, O66) ⟨some1 h, (Stp.refl _ _ _)⟩ (.cons rfl (.cons rfl .nil)))
      · rintro ⟨x82, O83⟩ wd84 ⟨rfl, hst85⟩
        replace h := hk87
        try dsimp only at h hst85
        refine (show WL _ _ _ _ _ [(2, .pointer (some ⟨p47, 0, none⟩)), (30, .bool x82)] _ from ?_)
        refine WL.y (Y.move rfl) rfl ?_
        refine WL.cut 6 (σ := Unit) (fun _ w' => wd84 = w') (fun _ => [(37, .bool (x82 && (decide ((r30.Pos.Counts.length : Int) = 2))))]) ?_ ?_
        · refine WL.part 31 rfl (fun hE101 => ?_) (fun hE101 => ?_)
          · refine WL.ung rfl rfl ?_
            refine WL.y (Y.fieldAddr fo27_2 rfl) rfl ?_
            refine WL.ung rfl rfl ?_
            refine WL.y (Y.fieldAddr fo25_1 rfl) rfl ?_
            refine WL.ung rfl rfl ?_
            have hf102 := hb63.st hst68 rfl
            have hf103 := hf102.st hst85 rfl
            refine WL.y (Y.loadSc ty23 rfl rfl (hf103.cell 3 _ rfl)) rfl ?_
            refine WL.ung rfl rfl ?_
            have hf104 := hf51.mono (frs_st hst62 rfl)
            have hf105 := hf104.mono (frs_st hst68 rfl)
            have hf106 := hf105.mono (frs_st hst85 rfl)
            refine WL.y (Y.len ty23 rfl hf106) rfl ?_
            refine WL.ung rfl rfl ?_
            refine WL.y (Y.eql_i rfl rfl) rfl ?_
            refine WL.y (Y.pick (b := true) rfl rfl) rfl ?_
            refine WL.ren (v' := .bool (x82 && (decide ((r30.Pos.Counts.length : Int) = 2)))) 37 rfl (congrArg Value.bool (andT hE101)) ?_
            exact WL.nil (At.join () rfl (.cons rfl .nil))
          · refine WL.gS rfl rfl rfl rfl ?_
            refine WL.gS rfl rfl rfl rfl ?_
            refine WL.gS rfl rfl rfl rfl ?_
            refine WL.gS rfl rfl rfl rfl ?_
            refine WL.gS rfl rfl rfl rfl ?_
            refine WL.y (Y.pick (b := false) rfl rfl) rfl ?_
            refine WL.ren (v' := .bool (x82 && (decide ((r30.Pos.Counts.length : Int) = 2)))) 37 rfl (congrArg Value.bool (andF hE101)) ?_
            exact WL.nil (At.join () rfl (.cons rfl .nil))
        · rintro _ _ rfl
          refine (show WL _ _ _ _ _ [(37, .bool (x82 && (decide ((r30.Pos.Counts.length : Int) = 2))))] _ from ?_)
          refine WL.y (Y.move rfl) rfl ?_
          obtain ⟨p111, h, hk112⟩ := bnd h
          refine WL.cut 6 (σ := (Bool × Own)) (fun x w' => x.1 = p111 ∧ Stp [] O83 wd84 x.2 w') (fun x => [(44, .bool x.1)]) ?_ ?_
          · rcases cnd h with ⟨hE113, h⟩ | ⟨hE113, h⟩
            · refine WL.ren 38 rfl (congrArg Value.bool hE113) ?_
              refine WL.ung rfl rfl ?_
              refine WL.buildSlice (O := O83) (R := Rep.u) (vals := [(0, vu 0), (1, vu 1)]) 14 [vu 0, vu 1] (xs := [0, 1]) (by decide) ty23 ty22 (by decide) (by decide) (Fits.evalp rfl) (by kernel_rfl) rfl ⟨[vu 0], [vu 1], rfl, rfl, ⟨[vu 1], [], rfl, rfl, rfl⟩⟩ rfl ?_
              intro v114 O116 wd117 hst118 ho115
              refine WL.ung rfl rfl ?_
              have hh122 := h
              obtain ⟨p119, m120, c121, rfl⟩ := ho115.shape
              have h := hh122
              refine WL.y (Y.build (vals := [(1, (.slice p119 m120 c121))]) (cells := [vi 0, (.slice p119 m120 c121)]) (Fits.evalp rfl) (by kernel_rfl)) rfl ?_
              refine WL.ung rfl rfl ?_
              refine WL.y (Y.build (vals := [(2, .agg [vi 0, (.slice p119 m120 c121)].toArray)]) (cells := [vi 0, vu 0, vi 0, (.slice p119 m120 c121), vi 0, .slice none 0 0]) (Fits.evalp rfl) (by kernel_rfl)) rfl ?_
              refine WL.ung rfl rfl ?_
              obtain ⟨r123, hp124, h⟩ := bnd h
              refine WL.call (vals := [.agg [vi 0, vu 0, vi 0, (.slice p119 m120 c121), vi 0, .slice none 0 0].toArray]) kok19 rfl rfl (c_hist_Check (A := fun _ => True) (a0 := (api_Hist.mk 0 0 (api_Side.mk 0 [0, 1]) (api_Side.mk 0 []))) (ho115.src.sl) (Or.inl ⟨rfl, rfl⟩) hp124) ?_
              rintro vr127 wd126 ⟨rfl, hm125⟩
              obtain ⟨O128, hold129, hnew130, hst131⟩ := adoptE O116 (fun k => 1) hm125
              refine WL.ung rfl rfl ?_
              refine WL.y (Y.eql_i rfl rfl) rfl ?_
              refine WL.y (Y.pick (b := true) rfl rfl) rfl ?_
              exact WL.nil (At.join (σ := (Bool × Own)) (decide (r123 = 3), O128) ⟨some1 h, (Stp.trans (Stp.up hst118 rfl) (Stp.up hst131 rfl))⟩ (.cons rfl .nil))
            · refine WL.ren 38 rfl (congrArg Value.bool hE113) ?_
              refine WL.gS rfl rfl rfl rfl ?_
              refine WL.gS rfl rfl rfl rfl ?_
              refine WL.gS rfl rfl rfl rfl ?_
              refine WL.gS rfl rfl rfl rfl ?_
              refine WL.gS rfl rfl rfl rfl ?_
              refine WL.y (Y.pick (b := false) rfl rfl) rfl ?_
              exact WL.nil (At.join (σ := (Bool × Own)) (false, O83) ⟨some1 h, (Stp.refl _ _ _)⟩ (.cons rfl .nil))
          · rintro ⟨x107, O108⟩ wd109 ⟨rfl, hst110⟩
            replace h := hk112
            try dsimp only at h hst110
            refine (show WL _ _ _ _ _ [(44, .bool x107)] _ from ?_)
            refine WL.y (Y.assign rfl) rfl ?_
            refine WL.nil ?_
            refine At.then ?_
            refine WC.ret ?_
            obtain rfl := some1 h
            have hs132 : Stp [12, 13] (Lg.O0 (fun _ => False)) w O108 wd109 := (Stp.trans (Stp.up hst15 rfl) (Stp.trans (Stp.up hst24 rfl) (Stp.trans (Stp.up hst26 rfl) (Stp.trans (Stp.up hst43 rfl) (Stp.trans (Stp.up hst50 rfl) (Stp.trans (Stp.up hst62 rfl) (Stp.trans (Stp.up hst68 rfl) (Stp.trans (Stp.up hst85 rfl) (Stp.up hst110 rfl)))))))))
            exact At.res (.inl rfl) rfl (.tmp rfl .nil) ⟨rfl, (Stp.ext hs132 rfl rfl)⟩

theorem c_ref08_Light {A : Nat → Prop} {v0_3 : Value} {v0_5 : Value} {a0 : api_Hist} {w : World} (hs0_3 : Sl Rep.u w A v0_3 a0.Pos.Counts) (hs0_5 : Sl Rep.u w A v0_5 a0.Neg.Counts) {r0 : Bool} (h : ref08_Light a0 = some r0) : Rets Try.prog 16 [.agg [vi a0.Scale, vu a0.Zero, vi a0.Pos.Offset, v0_3, vi a0.Neg.Offset, v0_5].toArray] w (fun v w' => v = .bool r0 ∧ Ext w w') := by
  unfold ref08_Light at h
  refine Rets.enter Try.func16 rfl rfl ?_
  have hf11 : Sl Rep.u w (imm (Lg.O0 A)) v0_3 a0.Pos.Counts := (Sl.start hs0_3)
  have hf12 : Sl Rep.u w (imm (Lg.O0 A)) v0_5 a0.Neg.Counts := (Sl.start hs0_5)
  refine (show WC _ _ _ _ [(0, .agg [vi a0.Scale, vu a0.Zero, vi a0.Pos.Offset, v0_3, vi a0.Neg.Offset, v0_5].toArray)] _ from ?_)
  refine WC.seq ?_
  refine WC.region ?_
  have hh16 := h
  obtain ⟨p13, m14, c15, rfl⟩ := hf11.shape
  have h := hh16
  have hh20 := h
  obtain ⟨p17, m18, c19, rfl⟩ := hf12.shape
  have h := hh20
  refine WL.box (O := (Lg.O0 A)) 11 [vi a0.Scale, vu a0.Zero, vi a0.Pos.Offset, (.slice p13 m14 c15), vi a0.Neg.Offset, (.slice p17 m18 c19)] rfl rfl rfl ?_
  intro p22 O23 wd24 hst25 hb21
  refine WL.y (Y.assign rfl) rfl ?_
  refine WL.nil ?_
  refine At.then ?_
  refine WC.seq ?_
  refine WC.region ?_
  refine WL.y (Y.fieldAddr fo27_2 rfl) rfl ?_
  refine WL.y (Y.fieldAddr fo25_1 rfl) rfl ?_
  refine WL.y (Y.loadSc ty23 rfl rfl (hb21.cell 3 _ rfl)) rfl ?_
  have hf26 := hf11.mono (imm_st hst25 rfl rfl)
  refine WL.y (Y.len ty23 rfl hf26) rfl ?_
  refine WL.y (Y.leq_i rfl rfl) rfl ?_
  refine WL.y (Y.move rfl) rfl ?_
  refine WL.cut 6 (σ := Unit) (fun _ w' => wd24 = w') (fun _ => [(14, .bool ((decide ((a0.Pos.Counts.length : Int) ≤ 300)) && (decide ((a0.Neg.Counts.length : Int) ≤ 300))))]) ?_ ?_
  · refine WL.part 8 rfl (fun hE27 => ?_) (fun hE27 => ?_)
    · refine WL.ung rfl rfl ?_
      refine WL.y (Y.fieldAddr fo27_3 rfl) rfl ?_
      refine WL.ung rfl rfl ?_
      refine WL.y (Y.fieldAddr fo25_1 rfl) rfl ?_
      refine WL.ung rfl rfl ?_
      refine WL.y (Y.loadSc ty23 rfl rfl (hb21.cell 5 _ rfl)) rfl ?_
      refine WL.ung rfl rfl ?_
      have hf28 := hf12.mono (imm_st hst25 rfl rfl)
      refine WL.y (Y.len ty23 rfl hf28) rfl ?_
      refine WL.ung rfl rfl ?_
      refine WL.y (Y.leq_i rfl rfl) rfl ?_
      refine WL.y (Y.pick (b := true) rfl rfl) rfl ?_
      refine WL.ren (v' := .bool ((decide ((a0.Pos.Counts.length : Int) ≤ 300)) && (decide ((a0.Neg.Counts.length : Int) ≤ 300)))) 14 rfl (congrArg Value.bool (andT hE27)) ?_
      exact WL.nil (At.join () rfl (.cons rfl .nil))
    · refine WL.gS rfl rfl rfl rfl ?_
      refine WL.gS rfl rfl rfl rfl ?_
      refine WL.gS rfl rfl rfl rfl ?_
      refine WL.gS rfl rfl rfl rfl ?_
      refine WL.gS rfl rfl rfl rfl ?_
      refine WL.y (Y.pick (b := false) rfl rfl) rfl ?_
      refine WL.ren (v' := .bool ((decide ((a0.Pos.Counts.length : Int) ≤ 300)) && (decide ((a0.Neg.Counts.length : Int) ≤ 300)))) 14 rfl (congrArg Value.bool (andF hE27)) ?_
      exact WL.nil (At.join () rfl (.cons rfl .nil))
  · rintro _ _ rfl
    refine (show WL _ _ _ _ _ [(14, .bool ((decide ((a0.Pos.Counts.length : Int) ≤ 300)) && (decide ((a0.Neg.Counts.length : Int) ≤ 300))))] _ from ?_)
    obtain ⟨t29, ht29, h⟩ := lt1 h
    refine WL.yE (Y.assign rfl) (congrArg Value.bool ht29.symm) rfl ?_
    refine WL.nil ?_
    refine At.then ?_
    refine WC.ret ?_
    obtain rfl := some1 h
    have hs30 : Stp [] (Lg.O0 A) w O23 wd24 := (Stp.up hst25 rfl)
    exact At.res (.inl rfl) rfl (.tmp rfl .nil) ⟨rfl, (Stp.ext hs30 rfl rfl)⟩

theorem c_ref08_SameSide {A : Nat → Prop} {v0_1 : Value} {a0 : api_Side} {v1_1 : Value} {a1 : api_Side} {w : World} (hs0_1 : Sl Rep.u w A v0_1 a0.Counts) (hs1_1 : Sl Rep.u w A v1_1 a1.Counts) {r0 : Bool} (h : ref08_SameSide a0 a1 = some r0) : Rets Try.prog 27 [.agg [vi a0.Offset, v0_1].toArray, .agg [vi a1.Offset, v1_1].toArray] w (fun v w' => v = .bool r0 ∧ Ext w w') := by
  unfold ref08_SameSide at h
  refine Rets.enter Try.func27 rfl rfl ?_
  have hf11 : Sl Rep.u w (imm (Lg.O0 A)) v0_1 a0.Counts := (Sl.start hs0_1)
  have hf12 : Sl Rep.u w (imm (Lg.O0 A)) v1_1 a1.Counts := (Sl.start hs1_1)
  refine (show WC _ _ _ _ [(0, .agg [vi a0.Offset, v0_1].toArray), (1, .agg [vi a1.Offset, v1_1].toArray)] _ from ?_)
  refine WC.seq ?_
  refine WC.region ?_
  have hh16 := h
  obtain ⟨p13, m14, c15, rfl⟩ := hf11.shape
  have h := hh16
  refine WL.box (O := (Lg.O0 A)) 11 [vi a0.Offset, (.slice p13 m14 c15)] rfl rfl rfl ?_
  intro p18 O19 wd20 hst21 hb17
  have hf22 := hf12.mono (imm_st hst21 rfl rfl)
  have hh26 := h
  obtain ⟨p23, m24, c25, rfl⟩ := hf22.shape
  have h := hh26
  refine WL.box (O := O19) 12 [vi a1.Offset, (.slice p23 m24 c25)] rfl rfl rfl ?_
  intro p28 O29 wd30 hst31 hb27
  refine WL.y (Y.assign rfl) rfl ?_
  refine WL.nil ?_
  refine At.then ?_
  refine WC.seq ?_
  refine WC.seq ?_
  refine WC.region ?_
  refine WL.y (Y.fieldAddr fo25_0 rfl) rfl ?_
  have hf32 := hb17.st hst31 rfl
  refine WL.y (Y.loadSc ty3 rfl rfl (hf32.cell 0 _ rfl)) rfl ?_
  refine WL.y (Y.fieldAddr fo25_0 rfl) rfl ?_
  refine WL.y (Y.loadSc ty3 rfl rfl (hb27.cell 0 _ rfl)) rfl ?_
  refine WL.y (Y.neq_i rfl rfl) rfl ?_
  refine WL.y (Y.move rfl) rfl ?_
  refine WL.cut 8 (σ := Unit) (fun _ w' => wd30 = w') (fun _ => [(2, .pointer (some ⟨p18, 0, none⟩)), (3, .pointer (some ⟨p28, 0, none⟩)), (19, .bool ((!decide (a0.Offset = a1.Offset)) || (!decide ((a0.Counts.length : Int) = (a1.Counts.length : Int)))))]) ?_ ?_
  · refine WL.part 11 rfl (fun hE33 => ?_) (fun hE33 => ?_)
    · refine WL.gS rfl rfl rfl rfl ?_
      refine WL.gS rfl rfl rfl rfl ?_
      refine WL.gS rfl rfl rfl rfl ?_
      refine WL.gS rfl rfl rfl rfl ?_
      refine WL.gS rfl rfl rfl rfl ?_
      refine WL.gS rfl rfl rfl rfl ?_
      refine WL.gS rfl rfl rfl rfl ?_
      refine WL.y (Y.pick (b := true) rfl rfl) rfl ?_
      refine WL.ren (v' := .bool ((!decide (a0.Offset = a1.Offset)) || (!decide ((a0.Counts.length : Int) = (a1.Counts.length : Int))))) 19 rfl (congrArg Value.bool (orT hE33)) ?_
      exact WL.nil (At.join () rfl (.cons rfl (.cons rfl (.cons rfl .nil))))
    · refine WL.ung rfl rfl ?_
      refine WL.y (Y.fieldAddr fo25_1 rfl) rfl ?_
      refine WL.ung rfl rfl ?_
      refine WL.y (Y.loadSc ty23 rfl rfl (hf32.cell 1 _ rfl)) rfl ?_
      refine WL.ung rfl rfl ?_
      have hf34 := hf11.mono (imm_st hst21 rfl rfl)
      have hf35 := hf34.mono (imm_st hst31 rfl rfl)
      refine WL.y (Y.len ty23 rfl hf35) rfl ?_
      refine WL.ung rfl rfl ?_
      refine WL.y (Y.fieldAddr fo25_1 rfl) rfl ?_
      refine WL.ung rfl rfl ?_
      refine WL.y (Y.loadSc ty23 rfl rfl (hb27.cell 1 _ rfl)) rfl ?_
      refine WL.ung rfl rfl ?_
      have hf36 := hf22.mono (imm_st hst31 rfl rfl)
      refine WL.y (Y.len ty23 rfl hf36) rfl ?_
      refine WL.ung rfl rfl ?_
      refine WL.y (Y.neq_i rfl rfl) rfl ?_
      refine WL.y (Y.pick (b := false) rfl rfl) rfl ?_
      refine WL.ren (v' := .bool ((!decide (a0.Offset = a1.Offset)) || (!decide ((a0.Counts.length : Int) = (a1.Counts.length : Int))))) 19 rfl (congrArg Value.bool (orF hE33)) ?_
      exact WL.nil (At.join () rfl (.cons rfl (.cons rfl (.cons rfl .nil))))
  · rintro _ _ rfl
    refine (show WL _ _ _ _ _ [(2, .pointer (some ⟨p18, 0, none⟩)), (3, .pointer (some ⟨p28, 0, none⟩)), (19, .bool ((!decide (a0.Offset = a1.Offset)) || (!decide ((a0.Counts.length : Int) = (a1.Counts.length : Int)))))] _ from ?_)
    refine WL.nil ?_
    refine At.then ?_
    rcases cnd h with ⟨hc37, h⟩ | ⟨hc37, h⟩
    · refine WC.condT' rfl hc37 ?_
      refine WC.seq ?_
      refine WC.region ?_
      refine WL.y (Y.assign rfl) rfl ?_
      refine WL.nil ?_
      refine At.then ?_
      refine WC.ret ?_
      refine At.thenR ?_
      obtain rfl := some1 h
      have hs38 : Stp [] (Lg.O0 A) w O29 wd30 := (Stp.trans (Stp.up hst21 rfl) (Stp.up hst31 rfl))
      exact At.res (.inl rfl) rfl (.tmp rfl .nil) ⟨rfl, (Stp.ext hs38 rfl rfl)⟩
    · refine WC.condF' rfl hc37 ?_
      refine WC.skip ?_
      refine At.then ?_
      refine WC.seq ?_
      refine WC.seq ?_
      refine WC.region ?_
      refine WL.y (Y.assign rfl) rfl ?_
      refine WL.nil ?_
      refine At.then ?_
      refine WC.block ?_
      obtain ⟨p46, h, hk48⟩ := flow1 h
      obtain ⟨k47, h⟩ := loop_some h
      refine WC.joinB 0 (σ := Own) (fun x w' => p46 = .go () ∧ Stp [] O29 wd30 x w') (fun x => []) ?_ ?_
      · refine WC.loop (σ := (Int × Own)) (fun x k w' => loopN k (ref08_SameSide_lp1 a0 a1) x.1 = some p46 ∧ Stp [] O29 wd30 x.2 w') (fun x => [(2, .pointer (some ⟨p18, 0, none⟩)), (3, .pointer (some ⟨p28, 0, none⟩)), (5, vi x.1)]) (0, O29) k47 (.cons rfl (.cons rfl (.cons rfl .nil))) ⟨h, (Stp.refl _ _ _)⟩ ?_
        rintro ⟨i39, O40⟩ k47 wd41 ⟨h, hst42⟩
        obtain ⟨j49, q50, rfl, h, hn51⟩ := rnd1 h
        unfold ref08_SameSide_lp1 at h
        try dsimp only at h hst42
        refine (show WC _ _ _ _ [(2, .pointer (some ⟨p18, 0, none⟩)), (3, .pointer (some ⟨p28, 0, none⟩)), (5, vi i39)] _ from ?_)
        refine WC.seq ?_
        refine WC.seq ?_
        refine WC.region ?_
        refine WL.y (Y.move rfl) rfl ?_
        refine WL.y (Y.fieldAddr fo25_1 rfl) rfl ?_
        have hf52 := hf32.st hst42 rfl
        refine WL.y (Y.loadSc ty23 rfl rfl (hf52.cell 1 _ rfl)) rfl ?_
        have hf53 := hf11.mono (imm_st hst21 rfl rfl)
        have hf54 := hf53.mono (imm_st hst31 rfl rfl)
        have hf55 := hf54.mono (imm_st hst42 rfl rfl)
        refine WL.y (Y.len ty23 rfl hf55) rfl ?_
        refine WL.y (Y.lss_i rfl rfl) rfl ?_
        refine WL.nil ?_
        refine At.then ?_
        rcases cnd h with ⟨hc56, h⟩ | ⟨hc56, h⟩
        · refine WC.condT' rfl hc56 ?_
          refine WC.skip ?_
          refine At.then ?_
          refine WC.seq ?_
          refine WC.block ?_
          refine WC.seq ?_
          refine WC.draw 10 O40 fmix (by kernel_rfl) ?_
          intro wd57 hst58
          refine WS.y (Y.fieldAddr fo25_1 rfl) rfl ?_
          have hf59 := hf52.st hst58 rfl
          refine WS.y (Y.loadSc ty23 rfl rfl (hf59.cell 1 _ rfl)) rfl ?_
          refine WS.y (Y.move rfl) rfl ?_
          obtain ⟨e60, he60, h⟩ := bnd h
          have hf69 := hf55.mono (imm_st hst58 rfl rfl)
          obtain ⟨b61, off70, cap68, cs67, hv62, hi63, hl64, hc65, hok66, hA71⟩ := Sl.at2 hf69 he60
          obtain rfl := hok66
          replace hc65 : CellsAt _ _ _ [vu e60] := hc65
          have hca72 := CAt.imm hc65 hA71
          refine WS.y (Y.indexAddr ty23 ty22 rfl hv62 rfl hi63 hl64) rfl ?_
          refine WS.y (Y.loadSc ty22 rfl rfl hca72.at_) rfl ?_
          refine WS.y (Y.fieldAddr fo25_1 rfl) rfl ?_
          have hf73 := hb27.st hst42 rfl
          have hf74 := hf73.st hst58 rfl
          refine WS.y (Y.loadSc ty23 rfl rfl (hf74.cell 1 _ rfl)) rfl ?_
          refine WS.y (Y.move rfl) rfl ?_
          obtain ⟨e75, he75, h⟩ := bnd h
          have hf84 := hf22.mono (imm_st hst31 rfl rfl)
          have hf85 := hf84.mono (imm_st hst42 rfl rfl)
          have hf86 := hf85.mono (imm_st hst58 rfl rfl)
          obtain ⟨b76, off87, cap83, cs82, hv77, hi78, hl79, hc80, hok81, hA88⟩ := Sl.at2 hf86 he75
          obtain rfl := hok81
          replace hc80 : CellsAt _ _ _ [vu e75] := hc80
          have hca89 := CAt.imm hc80 hA88
          refine WS.y (Y.indexAddr ty23 ty22 rfl hv77 rfl hi78 hl79) rfl ?_
          refine WS.y (Y.loadSc ty22 rfl rfl hca89.at_) rfl ?_
          refine WS.tail ?_
          refine WL.y (Y.neq_u rfl rfl) rfl ?_
          refine WL.nil ?_
          refine At.then ?_
          rcases cnd h with ⟨hc90, h⟩ | ⟨hc90, h⟩
          · refine WC.condT' rfl hc90 ?_
            refine WC.seq ?_
            refine WC.region ?_
            refine WL.y (Y.assign rfl) rfl ?_
            refine WL.nil ?_
            refine At.then ?_
            refine WC.ret ?_
            refine At.inBlockR ?_
            refine At.thenR ?_
            refine At.loopR ?_
            have h := outr1 h hn51 hk48
            refine At.joinBR ?_
            refine At.inBlockR ?_
            refine At.thenR ?_
            obtain rfl := some1 h
            have hs91 : Stp [] (Lg.O0 A) w O40 wd57 := (Stp.trans (Stp.up hst21 rfl) (Stp.trans (Stp.up hst31 rfl) (Stp.trans (Stp.up hst42 rfl) (Stp.up hst58 rfl))))
            exact At.res (.inl rfl) rfl (.tmp rfl .nil) ⟨rfl, (Stp.ext hs91 rfl rfl)⟩
          · refine WC.condF' rfl hc90 ?_
            refine WC.skip ?_
            refine At.inBlock ?_
            refine At.then ?_
            refine WC.region ?_
            refine WL.y (Y.move rfl) rfl ?_
            refine WL.y (Y.add_i rfl rfl) rfl ?_
            obtain ⟨i92, hi92, h⟩ := lt1 h
            refine WL.yE (Y.assign rfl) (congrArg vi hi92.symm) rfl ?_
            refine WL.nil ?_
            exact At.round (i92, O40) j49 (Nat.lt_succ_self _) ⟨next1 h hn51, (Stp.trans (Stp.up hst42 rfl) (Stp.up hst58 rfl))⟩ (.cons rfl (.cons rfl (.cons rfl .nil)))
        · refine WC.condF' rfl hc56 ?_
          refine WC.exit ?_
          refine At.thenX ?_
          refine At.loopX ?_
          exact At.hitB (σ := Own) O40 ⟨brk1 h hn51, (Stp.up hst42 rfl)⟩ .nil
      · rintro O43 wd44 ⟨rfl, hst45⟩
        replace h := flowK_go hk48
        refine (show At _ _ _ [] _ from ?_)
        refine At.inBlockHit ?_
        refine At.then ?_
        refine WC.seq ?_
        refine WC.region ?_
        refine WL.y (Y.assign rfl) rfl ?_
        refine WL.nil ?_
        refine At.then ?_
        refine WC.ret ?_
        obtain rfl := some1 h
        have hs93 : Stp [] (Lg.O0 A) w O43 wd44 := (Stp.trans (Stp.up hst21 rfl) (Stp.trans (Stp.up hst31 rfl) (Stp.up hst45 rfl)))
        exact At.res (.inl rfl) rfl (.tmp rfl .nil) ⟨rfl, (Stp.ext hs93 rfl rfl)⟩

theorem c_ref08_Same {A : Nat → Prop} {v0_3 : Value} {v0_5 : Value} {a0 : api_Hist} {v1_3 : Value} {v1_5 : Value} {a1 : api_Hist} {w : World} (hs0_3 : Sl Rep.u w A v0_3 a0.Pos.Counts) (hs0_5 : Sl Rep.u w A v0_5 a0.Neg.Counts) (hs1_3 : Sl Rep.u w A v1_3 a1.Pos.Counts) (hs1_5 : Sl Rep.u w A v1_5 a1.Neg.Counts) {r0 : Bool} (h : ref08_Same a0 a1 = some r0) : Rets Try.prog 22 [.agg [vi a0.Scale, vu a0.Zero, vi a0.Pos.Offset, v0_3, vi a0.Neg.Offset, v0_5].toArray, .agg [vi a1.Scale, vu a1.Zero, vi a1.Pos.Offset, v1_3, vi a1.Neg.Offset, v1_5].toArray] w (fun v w' => v = .bool r0 ∧ Ext w w') := by
  unfold ref08_Same at h
  refine Rets.enter Try.func22 rfl rfl ?_
  have hf11 : Sl Rep.u w (imm (Lg.O0 A)) v0_3 a0.Pos.Counts := (Sl.start hs0_3)
  have hf12 : Sl Rep.u w (imm (Lg.O0 A)) v0_5 a0.Neg.Counts := (Sl.start hs0_5)
  have hf13 : Sl Rep.u w (imm (Lg.O0 A)) v1_3 a1.Pos.Counts := (Sl.start hs1_3)
  have hf14 : Sl Rep.u w (imm (Lg.O0 A)) v1_5 a1.Neg.Counts := (Sl.start hs1_5)
  refine (show WC _ _ _ _ [(0, .agg [vi a0.Scale, vu a0.Zero, vi a0.Pos.Offset, v0_3, vi a0.Neg.Offset, v0_5].toArray), (1, .agg [vi a1.Scale, vu a1.Zero, vi a1.Pos.Offset, v1_3, vi a1.Neg.Offset, v1_5].toArray)] _ from ?_)
  refine WC.seq ?_
  refine WC.region ?_
  have hh18 := h
  obtain ⟨p15, m16, c17, rfl⟩ := hf11.shape
  have h := hh18
  have hh22 := h
  obtain ⟨p19, m20, c21, rfl⟩ := hf12.shape
  have h := hh22
  refine WL.box (O := (Lg.O0 A)) 11 [vi a0.Scale, vu a0.Zero, vi a0.Pos.Offset, (.slice p15 m16 c17), vi a0.Neg.Offset, (.slice p19 m20 c21)] rfl rfl rfl ?_
  intro p24 O25 wd26 hst27 hb23
  have hf28 := hf13.mono (imm_st hst27 rfl rfl)
  have hh32 := h
  obtain ⟨p29, m30, c31, rfl⟩ := hf28.shape
  have h := hh32
  have hf33 := hf14.mono (imm_st hst27 rfl rfl)
  have hh37 := h
  obtain ⟨p34, m35, c36, rfl⟩ := hf33.shape
  have h := hh37
  refine WL.box (O := O25) 12 [vi a1.Scale, vu a1.Zero, vi a1.Pos.Offset, (.slice p29 m30 c31), vi a1.Neg.Offset, (.slice p34 m35 c36)] rfl rfl rfl ?_
  intro p39 O40 wd41 hst42 hb38
  refine WL.y (Y.assign rfl) rfl ?_
  refine WL.nil ?_
  refine At.then ?_
  refine WC.seq ?_
  refine WC.region ?_
  refine WL.y (Y.fieldAddr fo27_0 rfl) rfl ?_
  have hf43 := hb23.st hst42 rfl
  refine WL.y (Y.loadSc ty3 rfl rfl (hf43.cell 0 _ rfl)) rfl ?_
  refine WL.y (Y.fieldAddr fo27_0 rfl) rfl ?_
  refine WL.y (Y.loadSc ty3 rfl rfl (hb38.cell 0 _ rfl)) rfl ?_
  refine WL.y (Y.eql_i rfl rfl) rfl ?_
  refine WL.y (Y.move rfl) rfl ?_
  refine WL.cut 6 (σ := Unit) (fun _ w' => wd41 = w') (fun _ => [(2, .pointer (some ⟨p24, 0, none⟩)), (3, .pointer (some ⟨p39, 0, none⟩)), (16, .bool ((decide (a0.Scale = a1.Scale)) && (decide (a0.Zero = a1.Zero))))]) ?_ ?_
  · refine WL.part 10 rfl (fun hE44 => ?_) (fun hE44 => ?_)
    · refine WL.ung rfl rfl ?_
      refine WL.y (Y.fieldAddr fo27_1 rfl) rfl ?_
      refine WL.ung rfl rfl ?_
      refine WL.y (Y.loadSc ty22 rfl rfl (hf43.cell 1 _ rfl)) rfl ?_
      refine WL.ung rfl rfl ?_
      refine WL.y (Y.fieldAddr fo27_1 rfl) rfl ?_
      refine WL.ung rfl rfl ?_
      refine WL.y (Y.loadSc ty22 rfl rfl (hb38.cell 1 _ rfl)) rfl ?_
      refine WL.ung rfl rfl ?_
      refine WL.y (Y.eql_u rfl rfl) rfl ?_
      refine WL.y (Y.pick (b := true) rfl rfl) rfl ?_
      refine WL.ren (v' := .bool ((decide (a0.Scale = a1.Scale)) && (decide (a0.Zero = a1.Zero)))) 16 rfl (congrArg Value.bool (andT hE44)) ?_
      exact WL.nil (At.join () rfl (.cons rfl (.cons rfl (.cons rfl .nil))))
    · refine WL.gS rfl rfl rfl rfl ?_
      refine WL.gS rfl rfl rfl rfl ?_
      refine WL.gS rfl rfl rfl rfl ?_
      refine WL.gS rfl rfl rfl rfl ?_
      refine WL.gS rfl rfl rfl rfl ?_
      refine WL.y (Y.pick (b := false) rfl rfl) rfl ?_
      refine WL.ren (v' := .bool ((decide (a0.Scale = a1.Scale)) && (decide (a0.Zero = a1.Zero)))) 16 rfl (congrArg Value.bool (andF hE44)) ?_
      exact WL.nil (At.join () rfl (.cons rfl (.cons rfl (.cons rfl .nil))))
  · rintro _ _ rfl
    refine (show WL _ _ _ _ _ [(2, .pointer (some ⟨p24, 0, none⟩)), (3, .pointer (some ⟨p39, 0, none⟩)), (16, .bool ((decide (a0.Scale = a1.Scale)) && (decide (a0.Zero = a1.Zero))))] _ from ?_)
    refine WL.y (Y.move rfl) rfl ?_
    obtain ⟨p49, h, hk50⟩ := bnd h
    refine WL.cut 6 (σ := (Bool × Own)) (fun x w' => x.1 = p49 ∧ Stp [] O40 wd41 x.2 w') (fun x => [(2, .pointer (some ⟨p24, 0, none⟩)), (3, .pointer (some ⟨p39, 0, none⟩)), (23, .bool x.1)]) ?_ ?_
    · rcases cnd h with ⟨hE51, h⟩ | ⟨hE51, h⟩
      · refine WL.ren 17 rfl (congrArg Value.bool hE51) ?_
        refine WL.ung rfl rfl ?_
        refine WL.y (Y.fieldAddr fo27_2 rfl) rfl ?_
        refine WL.ung rfl rfl ?_
        refine WL.y (Y.loadAg ty25 rfl rfl (hf43.cells 2 [vi a0.Pos.Offset, (.slice p15 m16 c17)] rfl) rfl) rfl ?_
        refine WL.ung rfl rfl ?_
        refine WL.y (Y.fieldAddr fo27_2 rfl) rfl ?_
        refine WL.ung rfl rfl ?_
        refine WL.y (Y.loadAg ty25 rfl rfl (hb38.cells 2 [vi a1.Pos.Offset, (.slice p29 m30 c31)] rfl) rfl) rfl ?_
        refine WL.ung rfl rfl ?_
        have hf52 := hf11.mono (imm_st hst27 rfl rfl)
        have hf53 := hf52.mono (imm_st hst42 rfl rfl)
        have hf54 := hf28.mono (imm_st hst42 rfl rfl)
        obtain ⟨r55, hp56, h⟩ := bnd h
        refine WL.call (vals := [.agg [vi a0.Pos.Offset, (.slice p15 m16 c17)].toArray, .agg [vi a1.Pos.Offset, (.slice p29 m30 c31)].toArray]) kok27 rfl rfl (c_ref08_SameSide (A := fun _ => True) (a0 := a0.Pos) (a1 := a1.Pos) (Sl.all hf53) (Sl.all hf54) hp56) ?_
        rintro vr59 wd58 ⟨rfl, hm57⟩
        obtain ⟨O60, hold61, hnew62, hst63⟩ := adoptE O40 (fun k => 1) hm57
        refine WL.y (Y.pick (b := true) rfl rfl) rfl ?_
        exact WL.nil (At.join (σ := (Bool × Own)) (r55, O60) ⟨some1 h, (Stp.up hst63 rfl)⟩ (.cons rfl (.cons rfl (.cons rfl .nil))))
      · refine WL.ren 17 rfl (congrArg Value.bool hE51) ?_
        refine WL.gS rfl rfl rfl rfl ?_
        refine WL.gS rfl rfl rfl rfl ?_
        refine WL.gS rfl rfl rfl rfl ?_
        refine WL.gS rfl rfl rfl rfl ?_
        refine WL.gS rfl rfl rfl rfl ?_
        refine WL.y (Y.pick (b := false) rfl rfl) rfl ?_
        exact WL.nil (At.join (σ := (Bool × Own)) (false, O40) ⟨some1 h, (Stp.refl _ _ _)⟩ (.cons rfl (.cons rfl (.cons rfl .nil))))
    · rintro ⟨x45, O46⟩ wd47 ⟨rfl, hst48⟩
      replace h := hk50
      try dsimp only at h hst48
      refine (show WL _ _ _ _ _ [(2, .pointer (some ⟨p24, 0, none⟩)), (3, .pointer (some ⟨p39, 0, none⟩)), (23, .bool x45)] _ from ?_)
      refine WL.y (Y.move rfl) rfl ?_
      obtain ⟨p68, h, hk69⟩ := bnd h
      refine WL.cut 6 (σ := (Bool × Own)) (fun x w' => x.1 = p68 ∧ Stp [] O46 wd47 x.2 w') (fun x => [(30, .bool x.1)]) ?_ ?_
      · rcases cnd h with ⟨hE70, h⟩ | ⟨hE70, h⟩
        · refine WL.ren 24 rfl (congrArg Value.bool hE70) ?_
          refine WL.ung rfl rfl ?_
          refine WL.y (Y.fieldAddr fo27_3 rfl) rfl ?_
          refine WL.ung rfl rfl ?_
          have hf71 := hf43.st hst48 rfl
          refine WL.y (Y.loadAg ty25 rfl rfl (hf71.cells 4 [vi a0.Neg.Offset, (.slice p19 m20 c21)] rfl) rfl) rfl ?_
          refine WL.ung rfl rfl ?_
          refine WL.y (Y.fieldAddr fo27_3 rfl) rfl ?_
          refine WL.ung rfl rfl ?_
          have hf72 := hb38.st hst48 rfl
          refine WL.y (Y.loadAg ty25 rfl rfl (hf72.cells 4 [vi a1.Neg.Offset, (.slice p34 m35 c36)] rfl) rfl) rfl ?_
          refine WL.ung rfl rfl ?_
          have hf73 := hf12.mono (imm_st hst27 rfl rfl)
          have hf74 := hf73.mono (imm_st hst42 rfl rfl)
          have hf75 := hf74.mono (imm_st hst48 rfl rfl)
          have hf76 := hf33.mono (imm_st hst42 rfl rfl)
          have hf77 := hf76.mono (imm_st hst48 rfl rfl)
          obtain ⟨r78, hp79, h⟩ := bnd h
          refine WL.call (vals := [.agg [vi a0.Neg.Offset, (.slice p19 m20 c21)].toArray, .agg [vi a1.Neg.Offset, (.slice p34 m35 c36)].toArray]) kok27 rfl rfl (c_ref08_SameSide (A := fun _ => True) (a0 := a0.Neg) (a1 := a1.Neg) (Sl.all hf75) (Sl.all hf77) hp79) ?_
          rintro vr82 wd81 ⟨rfl, hm80⟩
          obtain ⟨O83, hold84, hnew85, hst86⟩ := adoptE O46 (fun k => 1) hm80
          refine WL.y (Y.pick (b := true) rfl rfl) rfl ?_
          exact WL.nil (At.join (σ := (Bool × Own)) (r78, O83) ⟨some1 h, (Stp.up hst86 rfl)⟩ (.cons rfl .nil))
        · refine WL.ren 24 rfl (congrArg Value.bool hE70) ?_
          refine WL.gS rfl rfl rfl rfl ?_
          refine WL.gS rfl rfl rfl rfl ?_
          refine WL.gS rfl rfl rfl rfl ?_
          refine WL.gS rfl rfl rfl rfl ?_
          refine WL.gS rfl rfl rfl rfl ?_
          refine WL.y (Y.pick (b := false) rfl rfl) rfl ?_
          exact WL.nil (At.join (σ := (Bool × Own)) (false, O46) ⟨some1 h, (Stp.refl _ _ _)⟩ (.cons rfl .nil))
      · rintro ⟨x64, O65⟩ wd66 ⟨rfl, hst67⟩
        replace h := hk69
        try dsimp only at h hst67
        refine (show WL _ _ _ _ _ [(30, .bool x64)] _ from ?_)
        refine WL.y (Y.assign rfl) rfl ?_
        refine WL.nil ?_
        refine At.then ?_
        refine WC.ret ?_
        obtain rfl := some1 h
        have hs87 : Stp [] (Lg.O0 A) w O65 wd66 := (Stp.trans (Stp.up hst27 rfl) (Stp.trans (Stp.up hst42 rfl) (Stp.trans (Stp.up hst48 rfl) (Stp.up hst67 rfl))))
        exact At.res (.inl rfl) rfl (.tmp rfl .nil) ⟨rfl, (Stp.ext hs87 rfl rfl)⟩

theorem c_hist_Fit {A : Nat → Prop} {v0_3 : Value} {v0_5 : Value} {a0 : api_Hist} {a1 : Int} {w : World} (hs0_3 : Sl Rep.u w A v0_3 a0.Pos.Counts) (hs0_5 : Sl Rep.u w A v0_5 a0.Neg.Counts) {r0 : api_Hist} {r1 : Int} (h : hist_Fit a0 a1 = some (r0, r1)) : Rets Try.prog 25 [.agg [vi a0.Scale, vu a0.Zero, vi a0.Pos.Offset, v0_3, vi a0.Neg.Offset, v0_5].toArray, vi a1] w (fun v w' => ∃ (u0_3 : Value) (u0_5 : Value), v = .tuple (List.toArray [.agg (List.toArray [vi r0.Scale, vu r0.Zero, vi r0.Pos.Offset, u0_3, vi r0.Neg.Offset, u0_5]), vi r1]) ∧ Ext w w' ∧ Sl Rep.u w' (fun k => w.heap.size ≤ k) u0_3 r0.Pos.Counts ∧ Sl Rep.u w' (fun k => w.heap.size ≤ k) u0_5 r0.Neg.Counts) := by
  unfold hist_Fit at h
  refine Rets.enter Try.func25 rfl rfl ?_
  have hf11 : Sl Rep.u w (imm (Lg.O0 A)) v0_3 a0.Pos.Counts := (Sl.start hs0_3)
  have hf12 : Sl Rep.u w (imm (Lg.O0 A)) v0_5 a0.Neg.Counts := (Sl.start hs0_5)
  refine (show WC _ _ _ _ [(0, .agg [vi a0.Scale, vu a0.Zero, vi a0.Pos.Offset, v0_3, vi a0.Neg.Offset, v0_5].toArray), (1, vi a1)] _ from ?_)
  refine WC.seq ?_
  refine WC.region ?_
  have hh16 := h
  obtain ⟨p13, m14, c15, rfl⟩ := hf11.shape
  have h := hh16
  have hh20 := h
  obtain ⟨p17, m18, c19, rfl⟩ := hf12.shape
  have h := hh20
  refine WL.box (O := (Lg.O0 A)) 11 [vi a0.Scale, vu a0.Zero, vi a0.Pos.Offset, (.slice p13 m14 c15), vi a0.Neg.Offset, (.slice p17 m18 c19)] rfl rfl rfl ?_
  intro p22 O23 wd24 hst25 hb21
  refine WL.alloc (O := O23) 12 [vi 0, vu 0, vi 0, .slice none 0 0, vi 0, .slice none 0 0] ty27 rfl rfl ?_
  intro p27 O28 wd29 hst30 hb26
  refine WL.y (Y.assign rfl) rfl ?_
  refine WL.nil ?_
  refine At.then ?_
  refine WC.seq ?_
  refine WC.seq ?_
  refine WC.region ?_
  have hf31 := hb21.st hst30 rfl
  refine WL.y (Y.loadAg ty27 rfl rfl (hf31.cells 0 [vi a0.Scale, vu a0.Zero, vi a0.Pos.Offset, (.slice p13 m14 c15), vi a0.Neg.Offset, (.slice p17 m18 c19)] rfl) rfl) rfl ?_
  have hf32 := hf11.mono (imm_st hst25 rfl rfl)
  have hf33 := hf32.mono (imm_st hst30 rfl rfl)
  have hf34 := hf12.mono (imm_st hst25 rfl rfl)
  have hf35 := hf34.mono (imm_st hst30 rfl rfl)
  obtain ⟨r36, hp37, h⟩ := bnd h
  refine WL.call (vals := [.agg [vi a0.Scale, vu a0.Zero, vi a0.Pos.Offset, (.slice p13 m14 c15), vi a0.Neg.Offset, (.slice p17 m18 c19)].toArray]) kok19 rfl rfl (c_hist_Check (A := fun _ => True) (a0 := a0) (Sl.all hf33) (Sl.all hf35) hp37) ?_
  rintro vr40 wd39 ⟨rfl, hm38⟩
  obtain ⟨O41, hold42, hnew43, hst44⟩ := adoptE O28 (fun k => 1) hm38
  refine WL.y (Y.assign rfl) rfl ?_
  refine WL.nil ?_
  refine At.then ?_
  refine WC.seq ?_
  refine WC.region ?_
  refine WL.y (Y.move rfl) rfl ?_
  refine WL.y (Y.neq_i rfl rfl) rfl ?_
  refine WL.nil ?_
  refine At.then ?_
  rcases cnd h with ⟨hc45, h⟩ | ⟨hc45, h⟩
  · refine WC.condT' rfl hc45 ?_
    refine WC.seq ?_
    refine WC.region ?_
    refine WL.y (Y.build (vals := []) (cells := [vi 0, vu 0, vi 0, .slice none 0 0, vi 0, .slice none 0 0]) (Fits.evalp rfl) (by kernel_rfl)) rfl ?_
    refine WL.y (Y.move rfl) rfl ?_
    have hf46 := hb26.st hst44 rfl
    refine WL.store (v := .agg [vi 0, vu 0, vi 0, .slice none 0 0, vi 0, .slice none 0 0].toArray) (cells' := [vi 0, vu 0, vi 0, .slice none 0 0, vi 0, .slice none 0 0]) ty27 rfl rfl hf46 rfl (Nat.le_of_ble_eq_true rfl) rfl rfl ?_
    intro wd47 hst48 hb49
    refine WL.y (Y.assign rfl) rfl ?_
    refine WL.nil ?_
    refine At.then ?_
    refine WC.ret ?_
    refine At.thenR ?_
    obtain ⟨rfl, rfl⟩ := tup2 h
    have hs50 : Stp [12] (Lg.O0 A) w O41 wd47 := (Stp.trans (Stp.up hst25 rfl) (Stp.trans (Stp.up hst30 rfl) (Stp.trans (Stp.up hst44 rfl) (Stp.up hst48 rfl))))
    exact At.res (.inl rfl) rfl (.cell rfl (hb49.runAg 0 [vi 0, vu 0, vi 0, .slice none 0 0, vi 0, .slice none 0 0] ty27 rfl rfl rfl) (.tmp rfl .nil)) ⟨.slice none 0 0, .slice none 0 0, rfl, (Stp.ext hs50 rfl rfl), (Or.inl ⟨rfl, rfl⟩), (Or.inl ⟨rfl, rfl⟩)⟩
  · refine WC.condF' rfl hc45 ?_
    refine WC.skip ?_
    refine At.then ?_
    refine WC.seq ?_
    refine WC.seq ?_
    refine WC.region ?_
    refine WL.y (Y.assign rfl) rfl ?_
    refine WL.nil ?_
    refine At.then ?_
    refine WC.block ?_
    obtain ⟨p58, h, hk60⟩ := flow1 h
    obtain ⟨k59, h⟩ := loop_some h
    refine WC.joinB 0 (σ := Own) (fun x w' => p58 = .go () ∧ Stp [] O41 wd39 x w') (fun x => [(4, .pointer (some ⟨p27, 0, none⟩))]) ?_ ?_
    · refine WC.loop (σ := (Int × Own)) (fun x k w' => loopN k (hist_Fit_lp1 a0 a1) x.1 = some p58 ∧ Stp [] O41 wd39 x.2 w') (fun x => [(1, vi a1), (2, .pointer (some ⟨p22, 0, none⟩)), (4, .pointer (some ⟨p27, 0, none⟩)), (7, vi x.1)]) (0, O41) k59 (.cons rfl (.cons rfl (.cons rfl (.cons rfl .nil)))) ⟨h, (Stp.refl _ _ _)⟩ ?_
      rintro ⟨by51, O52⟩ k59 wd53 ⟨h, hst54⟩
      obtain ⟨j61, q62, rfl, h, hn63⟩ := rnd1 h
      unfold hist_Fit_lp1 at h
      try dsimp only at h hst54
      refine (show WC _ _ _ _ [(1, vi a1), (2, .pointer (some ⟨p22, 0, none⟩)), (4, .pointer (some ⟨p27, 0, none⟩)), (7, vi by51)] _ from ?_)
      refine WC.seq ?_
      refine WC.seq ?_
      refine WC.region ?_
      refine WL.y (Y.move rfl) rfl ?_
      refine WL.y (Y.fieldAddr fo27_0 rfl) rfl ?_
      have hf64 := hf31.st hst44 rfl
      have hf65 := hf64.st hst54 rfl
      refine WL.y (Y.loadSc ty3 rfl rfl (hf65.cell 0 _ rfl)) rfl ?_
      refine WL.y (Y.sub_i rfl rfl) rfl ?_
      refine WL.y (Y.leq_i rfl rfl) rfl ?_
      refine WL.nil ?_
      refine At.then ?_
      rcases cnd h with ⟨hc66, h⟩ | ⟨hc66, h⟩
      · refine WC.condT' rfl hc66 ?_
        refine WC.skip ?_
        refine At.then ?_
        refine WC.seq ?_
        refine WC.block ?_
        refine WC.seq ?_
        refine WC.drawH [] [0, 1, 2, 3, 4, 5, 6, 7, 8, 9, 10, 11, 12] O52 13 fmix rfl (by kernel_rfl) ?_
        intro wd67 hst68
        refine WD.y 0 rfl (by kernel_rfl) (fun _ _ _ => Y.fieldAddr fo27_2 rfl) rfl ?_
        refine WD.y 1 rfl (by kernel_rfl) (fun wd73 O72 hst74 => have hf75 := hf65.st hst68 rfl; have hf76 := hf75.st hst74 rfl; Y.loadAg ty25 rfl rfl (hf76.cells 2 [vi a0.Pos.Offset, (.slice p13 m14 c15)] rfl) rfl) rfl ?_
        refine WD.y 2 rfl (by kernel_rfl) (fun _ _ _ => Y.move rfl) rfl ?_
        refine WD.y 3 rfl (by kernel_rfl) (fun _ _ _ => Y.conv_iu ty3.u ty82.u rfl) rfl ?_
        refine WD.y 5 rfl (by kernel_rfl) (fun _ _ _ => Y.fieldAddr fo27_3 rfl) rfl ?_
        refine WD.y 6 rfl (by kernel_rfl) (fun wd87 O86 hst88 => have hf89 := hf65.st hst68 rfl; have hf90 := hf89.st hst88 rfl; Y.loadAg ty25 rfl rfl (hf90.cells 4 [vi a0.Neg.Offset, (.slice p17 m18 c19)] rfl) rfl) rfl ?_
        refine WD.y 7 rfl (by kernel_rfl) (fun _ _ _ => Y.move rfl) rfl ?_
        refine WD.y 8 rfl (by kernel_rfl) (fun _ _ _ => Y.conv_iu ty3.u ty82.u rfl) rfl ?_
        refine WD.y 11 rfl (by kernel_rfl) (fun _ _ _ => Y.move rfl) rfl ?_
        refine WD.heavy 4 rfl (by kernel_rfl) ?_
        have hf100 := hf33.mono (imm_st hst44 rfl rfl)
        have hf101 := hf100.mono (imm_st hst54 rfl rfl)
        have hf102 := hf101.mono (imm_st hst68 rfl rfl)
        obtain ⟨r103, hp104, h⟩ := bnd h
        refine WL.call (vals := [.agg [vi a0.Pos.Offset, (.slice p13 m14 c15)].toArray, vu (toU64 by51)]) kok64 rfl rfl (c_hist_span (A := fun _ => True) (a0 := a0.Pos) (Sl.all hf102) hp104) ?_
        rintro vr107 wd106 ⟨rfl, hm105⟩
        obtain ⟨O108, hold109, hnew110, hst111⟩ := adoptE O52 (fun k => 1) hm105
        refine WL.nil ?_
        refine At.dq (Stp.up hst111 rfl) ?_
        refine WD.heavy 9 rfl (by kernel_rfl) ?_
        have hf112 := hf35.mono (imm_st hst44 rfl rfl)
        have hf113 := hf112.mono (imm_st hst54 rfl rfl)
        have hf114 := hf113.mono (imm_st hst68 rfl rfl)
        have hf115 := hf114.mono (imm_st hst111 rfl rfl)
        obtain ⟨r116, hp117, h⟩ := bnd h
        refine WL.call (vals := [.agg [vi a0.Neg.Offset, (.slice p17 m18 c19)].toArray, vu (toU64 by51)]) kok64 rfl rfl (c_hist_span (A := fun _ => True) (a0 := a0.Neg) (Sl.all hf115) hp117) ?_
        rintro vr120 wd119 ⟨rfl, hm118⟩
        obtain ⟨O121, hold122, hnew123, hst124⟩ := adoptE O108 (fun k => 1) hm118
        refine WL.nil ?_
        refine At.dq (Stp.up hst124 rfl) ?_
        refine WD.y 10 rfl (by kernel_rfl) (fun _ _ _ => Y.max_i rfl rfl) rfl ?_
        refine WD.y 12 rfl (by kernel_rfl) (fun _ _ _ => Y.leq_i rfl rfl) rfl ?_
        refine WD.done_ (by kernel_rfl) ?_
        refine At.then ?_
        rcases cnd h with ⟨hc131, h⟩ | ⟨hc131, h⟩
        · refine WC.condT' rfl hc131 ?_
          refine WC.seq ?_
          refine WC.region ?_
          have hf132 := hf65.st hst68 rfl
          have hf133 := hf132.st hst111 rfl
          have hf134 := hf133.st hst124 rfl
          refine WL.y (Y.loadAg ty27 rfl rfl (hf134.cells 0 [vi a0.Scale, vu a0.Zero, vi a0.Pos.Offset, (.slice p13 m14 c15), vi a0.Neg.Offset, (.slice p17 m18 c19)] rfl) rfl) rfl ?_
          refine WL.y (Y.move rfl) rfl ?_
          have hf135 := hf102.mono (imm_st hst111 rfl rfl)
          have hf136 := hf135.mono (imm_st hst124 rfl rfl)
          have hf137 := hf115.mono (imm_st hst124 rfl rfl)
          obtain ⟨⟨r138, r139⟩, hp140, h⟩ := bnd h
          refine WL.call (vals := [.agg [vi a0.Scale, vu a0.Zero, vi a0.Pos.Offset, (.slice p13 m14 c15), vi a0.Neg.Offset, (.slice p17 m18 c19)].toArray, vi by51]) kok21 rfl rfl (c_hist_Down (A := fun _ => True) (a0 := a0) (Sl.all hf136) (Sl.all hf137) hp140) ?_
          rintro vr147 wd146 ⟨u141, u142, rfl, hm145, f143, f144⟩
          obtain ⟨O148, hold149, hnew150, hst151⟩ := adoptE O121 (fun k => 1) hm145
          have hf152 : Sl Rep.u wd146 (frs O148) u141 r138.Pos.Counts := Sl.adoptF f143 (fun k hk => ⟨hk, rfl⟩) hnew150
          have hf153 : Sl Rep.u wd146 (frs O148) u142 r138.Neg.Counts := Sl.adoptF f144 (fun k hk => ⟨hk, rfl⟩) hnew150
          refine WL.y (Y.extract rfl rfl) rfl ?_
          refine WL.y (Y.extract rfl rfl) rfl ?_
          have hh157 := h
          obtain ⟨p154, m155, c156, rfl⟩ := hf152.shape
          have h := hh157
          have hh161 := h
          obtain ⟨p158, m159, c160, rfl⟩ := hf153.shape
          have h := hh161
          have hf162 := hb26.st hst44 rfl
          have hf163 := hf162.st hst54 rfl
          have hf164 := hf163.st hst68 rfl
          have hf165 := hf164.st hst111 rfl
          have hf166 := hf165.st hst124 rfl
          have hf167 := hf166.st hst151 rfl
          refine WL.store (v := .agg [vi r138.Scale, vu r138.Zero, vi r138.Pos.Offset, (.slice p154 m155 c156), vi r138.Neg.Offset, (.slice p158 m159 c160)].toArray) (cells' := [vi r138.Scale, vu r138.Zero, vi r138.Pos.Offset, (.slice p154 m155 c156), vi r138.Neg.Offset, (.slice p158 m159 c160)]) ty27 rfl rfl hf167 rfl (Nat.le_of_ble_eq_true rfl) rfl rfl ?_
          intro wd168 hst169 hb170
          refine WL.y (Y.assign rfl) rfl ?_
          refine WL.nil ?_
          refine At.then ?_
          refine WC.ret ?_
          refine At.inBlockR ?_
          refine At.thenR ?_
          refine At.loopR ?_
          have h := outr1 h hn63 hk60
          refine At.joinBR ?_
          refine At.inBlockR ?_
          refine At.thenR ?_
          obtain ⟨rfl, rfl⟩ := tup2 h
          have hs171 : Stp [12] (Lg.O0 A) w O148 wd168 := (Stp.trans (Stp.up hst25 rfl) (Stp.trans (Stp.up hst30 rfl) (Stp.trans (Stp.up hst44 rfl) (Stp.trans (Stp.up hst54 rfl) (Stp.trans (Stp.up hst68 rfl) (Stp.trans (Stp.up hst111 rfl) (Stp.trans (Stp.up hst124 rfl) (Stp.trans (Stp.up hst151 rfl) (Stp.up hst169 rfl)))))))))
          have hf172 := hf152.mono (frs_st hst169 rfl)
          have hf173 := hf153.mono (frs_st hst169 rfl)
          exact At.res (.inl rfl) rfl (.cell rfl (hb170.runAg 0 [vi r138.Scale, vu r138.Zero, vi r138.Pos.Offset, (.slice p154 m155 c156), vi r138.Neg.Offset, (.slice p158 m159 c160)] ty27 rfl rfl rfl) (.tmp rfl .nil)) ⟨(.slice p154 m155 c156), (.slice p158 m159 c160), rfl, (Stp.ext hs171 rfl rfl), (Sl.outF hf172 hs171 low0), (Sl.outF hf173 hs171 low0)⟩
        · refine WC.condF' rfl hc131 ?_
          refine WC.skip ?_
          refine At.inBlock ?_
          refine At.then ?_
          refine WC.region ?_
          refine WL.y (Y.move rfl) rfl ?_
          refine WL.y (Y.add_i rfl rfl) rfl ?_
          obtain ⟨by174, hby174, h⟩ := lt1 h
          refine WL.yE (Y.assign rfl) (congrArg vi hby174.symm) rfl ?_
          refine WL.nil ?_
          exact At.round (by174, O121) j61 (Nat.lt_succ_self _) ⟨next1 h hn63, (Stp.trans (Stp.up hst54 rfl) (Stp.trans (Stp.up hst68 rfl) (Stp.trans (Stp.up hst111 rfl) (Stp.up hst124 rfl))))⟩ (.cons rfl (.cons rfl (.cons rfl (.cons rfl .nil))))
      · refine WC.condF' rfl hc66 ?_
        refine WC.exit ?_
        refine At.thenX ?_
        refine At.loopX ?_
        exact At.hitB (σ := Own) O52 ⟨brk1 h hn63, (Stp.up hst54 rfl)⟩ (.cons rfl .nil)
    · rintro O55 wd56 ⟨rfl, hst57⟩
      replace h := flowK_go hk60
      refine (show At _ _ _ [(4, .pointer (some ⟨p27, 0, none⟩))] _ from ?_)
      refine At.inBlockHit ?_
      refine At.then ?_
      refine WC.seq ?_
      refine WC.region ?_
      refine WL.y (Y.build (vals := []) (cells := [vi 0, vu 0, vi 0, .slice none 0 0, vi 0, .slice none 0 0]) (Fits.evalp rfl) (by kernel_rfl)) rfl ?_
      have hf175 := hb26.st hst44 rfl
      have hf176 := hf175.st hst57 rfl
      refine WL.store (v := .agg [vi 0, vu 0, vi 0, .slice none 0 0, vi 0, .slice none 0 0].toArray) (cells' := [vi 0, vu 0, vi 0, .slice none 0 0, vi 0, .slice none 0 0]) ty27 rfl rfl hf176 rfl (Nat.le_of_ble_eq_true rfl) rfl rfl ?_
      intro wd177 hst178 hb179
      refine WL.y (Y.assign rfl) rfl ?_
      refine WL.nil ?_
      refine At.then ?_
      refine WC.ret ?_
      obtain ⟨rfl, rfl⟩ := tup2 h
      have hs180 : Stp [12] (Lg.O0 A) w O55 wd177 := (Stp.trans (Stp.up hst25 rfl) (Stp.trans (Stp.up hst30 rfl) (Stp.trans (Stp.up hst44 rfl) (Stp.trans (Stp.up hst57 rfl) (Stp.up hst178 rfl)))))
      exact At.res (.inl rfl) rfl (.cell rfl (hb179.runAg 0 [vi 0, vu 0, vi 0, .slice none 0 0, vi 0, .slice none 0 0] ty27 rfl rfl rfl) (.tmp rfl .nil)) ⟨.slice none 0 0, .slice none 0 0, rfl, (Stp.ext hs180 rfl rfl), (Or.inl ⟨rfl, rfl⟩), (Or.inl ⟨rfl, rfl⟩)⟩

theorem c_law08_HistFits {A : Nat → Prop} {v0_3 : Value} {v0_5 : Value} {a0 : api_Hist} {a1 : Int} {w : World} (hs0_3 : Sl Rep.u w A v0_3 a0.Pos.Counts) (hs0_5 : Sl Rep.u w A v0_5 a0.Neg.Counts) {r0 : Bool} (h : law08_HistFits a0 a1 = some r0) : Rets Try.prog 6 [.agg [vi a0.Scale, vu a0.Zero, vi a0.Pos.Offset, v0_3, vi a0.Neg.Offset, v0_5].toArray, vi a1] w (fun v w' => v = .bool r0 ∧ Ext w w') := by
  unfold law08_HistFits at h
  refine Rets.enter Try.func6 rfl rfl ?_
  have hf11 : Sl Rep.u w (imm (Lg.O0 A)) v0_3 a0.Pos.Counts := (Sl.start hs0_3)
  have hf12 : Sl Rep.u w (imm (Lg.O0 A)) v0_5 a0.Neg.Counts := (Sl.start hs0_5)
  refine (show WC _ _ _ _ [(0, .agg [vi a0.Scale, vu a0.Zero, vi a0.Pos.Offset, v0_3, vi a0.Neg.Offset, v0_5].toArray), (1, vi a1)] _ from ?_)
  refine WC.seq ?_
  refine WC.region ?_
  have hh16 := h
  obtain ⟨p13, m14, c15, rfl⟩ := hf11.shape
  have h := hh16
  have hh20 := h
  obtain ⟨p17, m18, c19, rfl⟩ := hf12.shape
  have h := hh20
  refine WL.box (O := (Lg.O0 A)) 11 [vi a0.Scale, vu a0.Zero, vi a0.Pos.Offset, (.slice p13 m14 c15), vi a0.Neg.Offset, (.slice p17 m18 c19)] rfl rfl rfl ?_
  intro p22 O23 wd24 hst25 hb21
  refine WL.y (Y.assign rfl) rfl ?_
  refine WL.nil ?_
  refine At.then ?_
  refine WC.seq ?_
  refine WC.seq ?_
  refine WC.region ?_
  obtain ⟨r26, hp27, h⟩ := bnd h
  refine WL.call (vals := []) kok15 rfl rfl (c_law08_awake hp27) ?_
  rintro vr30 wd29 ⟨rfl, hm28⟩
  obtain ⟨O31, hold32, hnew33, hst34⟩ := adoptE O23 (fun k => 1) hm28
  refine WL.y (Y.not rfl) rfl ?_
  refine WL.nil ?_
  refine At.then ?_
  rcases cnd h with ⟨hc35, h⟩ | ⟨hc35, h⟩
  · refine WC.condT' rfl hc35 ?_
    refine WC.seq ?_
    refine WC.region ?_
    refine WL.y (Y.assign rfl) rfl ?_
    refine WL.nil ?_
    refine At.then ?_
    refine WC.ret ?_
    refine At.thenR ?_
    obtain rfl := some1 h
    have hs36 : Stp [] (Lg.O0 A) w O31 wd29 := (Stp.trans (Stp.up hst25 rfl) (Stp.up hst34 rfl))
    exact At.res (.inl rfl) rfl (.tmp rfl .nil) ⟨rfl, (Stp.ext hs36 rfl rfl)⟩
  · refine WC.condF' rfl hc35 ?_
    refine WC.skip ?_
    refine At.then ?_
    refine WC.seq ?_
    refine WC.seq ?_
    refine WC.region ?_
    have hf37 := hb21.st hst34 rfl
    refine WL.y (Y.loadAg ty27 rfl rfl (hf37.cells 0 [vi a0.Scale, vu a0.Zero, vi a0.Pos.Offset, (.slice p13 m14 c15), vi a0.Neg.Offset, (.slice p17 m18 c19)] rfl) rfl) rfl ?_
    have hf38 := hf11.mono (imm_st hst25 rfl rfl)
    have hf39 := hf38.mono (imm_st hst34 rfl rfl)
    have hf40 := hf12.mono (imm_st hst25 rfl rfl)
    have hf41 := hf40.mono (imm_st hst34 rfl rfl)
    obtain ⟨r42, hp43, h⟩ := bnd h
    refine WL.call (vals := [.agg [vi a0.Scale, vu a0.Zero, vi a0.Pos.Offset, (.slice p13 m14 c15), vi a0.Neg.Offset, (.slice p17 m18 c19)].toArray]) kok16 rfl rfl (c_ref08_Light (A := fun _ => True) (a0 := a0) (Sl.all hf39) (Sl.all hf41) hp43) ?_
    rintro vr46 wd45 ⟨rfl, hm44⟩
    obtain ⟨O47, hold48, hnew49, hst50⟩ := adoptE O31 (fun k => 1) hm44
    refine WL.y (Y.not rfl) rfl ?_
    refine WL.nil ?_
    refine At.then ?_
    rcases cnd h with ⟨hc51, h⟩ | ⟨hc51, h⟩
    · refine WC.condT' rfl hc51 ?_
      refine WC.seq ?_
      refine WC.region ?_
      refine WL.y (Y.assign rfl) rfl ?_
      refine WL.nil ?_
      refine At.then ?_
      refine WC.ret ?_
      refine At.thenR ?_
      obtain rfl := some1 h
      have hs52 : Stp [] (Lg.O0 A) w O47 wd45 := (Stp.trans (Stp.up hst25 rfl) (Stp.trans (Stp.up hst34 rfl) (Stp.up hst50 rfl)))
      exact At.res (.inl rfl) rfl (.tmp rfl .nil) ⟨rfl, (Stp.ext hs52 rfl rfl)⟩
    · refine WC.condF' rfl hc51 ?_
      refine WC.skip ?_
      refine At.then ?_
      refine WC.seq ?_
      refine WC.region ?_
      have hf53 := hf37.st hst50 rfl
      refine WL.y (Y.loadAg ty27 rfl rfl (hf53.cells 0 [vi a0.Scale, vu a0.Zero, vi a0.Pos.Offset, (.slice p13 m14 c15), vi a0.Neg.Offset, (.slice p17 m18 c19)] rfl) rfl) rfl ?_
      refine WL.y (Y.move rfl) rfl ?_
      have hf54 := hf39.mono (imm_st hst50 rfl rfl)
      have hf55 := hf41.mono (imm_st hst50 rfl rfl)
      obtain ⟨⟨r56, r57⟩, hp58, h⟩ := bnd h
      refine WL.call (vals := [.agg [vi a0.Scale, vu a0.Zero, vi a0.Pos.Offset, (.slice p13 m14 c15), vi a0.Neg.Offset, (.slice p17 m18 c19)].toArray, vi a1]) kok25 rfl rfl (c_hist_Fit (A := fun _ => True) (a0 := a0) (Sl.all hf54) (Sl.all hf55) hp58) ?_
      rintro vr65 wd64 ⟨u59, u60, rfl, hm63, f61, f62⟩
      obtain ⟨O66, hold67, hnew68, hst69⟩ := adoptE O47 (fun k => 1) hm63
      have hf70 : Sl Rep.u wd64 (frs O66) u59 r56.Pos.Counts := Sl.adoptF f61 (fun k hk => ⟨hk, rfl⟩) hnew68
      have hf71 : Sl Rep.u wd64 (frs O66) u60 r56.Neg.Counts := Sl.adoptF f62 (fun k hk => ⟨hk, rfl⟩) hnew68
      refine WL.y (Y.move rfl) rfl ?_
      refine WL.y (Y.extract rfl rfl) rfl ?_
      refine WL.y (Y.extract rfl rfl) rfl ?_
      refine WL.alloc (O := O66) 12 [vi 0, vu 0, vi 0, .slice none 0 0, vi 0, .slice none 0 0] ty27 rfl rfl ?_
      intro p73 O74 wd75 hst76 hb72
      have hf77 := hf70.mono (frs_st hst76 rfl)
      have hh81 := h
      obtain ⟨p78, m79, c80, rfl⟩ := hf77.shape
      have h := hh81
      have hf82 := hf71.mono (frs_st hst76 rfl)
      have hh86 := h
      obtain ⟨p83, m84, c85, rfl⟩ := hf82.shape
      have h := hh86
      refine WL.store (v := .agg [vi r56.Scale, vu r56.Zero, vi r56.Pos.Offset, (.slice p78 m79 c80), vi r56.Neg.Offset, (.slice p83 m84 c85)].toArray) (cells' := [vi r56.Scale, vu r56.Zero, vi r56.Pos.Offset, (.slice p78 m79 c80), vi r56.Neg.Offset, (.slice p83 m84 c85)]) ty27 rfl rfl hb72 rfl (Nat.le_of_ble_eq_true rfl) rfl rfl ?_
      intro wd87 hst88 hb89
      refine WL.y (Y.assign rfl) rfl ?_
      refine WL.nil ?_
      refine At.then ?_
      refine WC.seq ?_
      refine WC.seq ?_
      refine WC.region ?_
      refine WL.y (Y.move rfl) rfl ?_
      refine WL.y (Y.neq_i rfl rfl) rfl ?_
      refine WL.nil ?_
      refine At.then ?_
      rcases cnd h with ⟨hc90, h⟩ | ⟨hc90, h⟩
      · refine WC.condT' rfl hc90 ?_
        refine WC.seq ?_
        refine WC.region ?_
        refine WL.y (Y.loadAg ty27 rfl rfl (hb89.cells 0 [vi r56.Scale, vu r56.Zero, vi r56.Pos.Offset, (.slice p78 m79 c80), vi r56.Neg.Offset, (.slice p83 m84 c85)] rfl) rfl) rfl ?_
        refine WL.y (Y.build (vals := []) (cells := [vi 0, vu 0, vi 0, .slice none 0 0, vi 0, .slice none 0 0]) (Fits.evalp rfl) (by kernel_rfl)) rfl ?_
        have hf91 := hf77.mono (frs_st hst88 rfl)
        have hf92 := hf82.mono (frs_st hst88 rfl)
        obtain ⟨r93, hp94, h⟩ := bnd h
        refine WL.call (vals := [.agg [vi r56.Scale, vu r56.Zero, vi r56.Pos.Offset, (.slice p78 m79 c80), vi r56.Neg.Offset, (.slice p83 m84 c85)].toArray, .agg [vi 0, vu 0, vi 0, .slice none 0 0, vi 0, .slice none 0 0].toArray]) kok22 rfl rfl (c_ref08_Same (A := fun _ => True) (a0 := r56) (a1 := (api_Hist.mk 0 0 (api_Side.mk 0 []) (api_Side.mk 0 []))) (Sl.all hf91) (Sl.all hf92) (Or.inl ⟨rfl, rfl⟩) (Or.inl ⟨rfl, rfl⟩) hp94) ?_
        rintro vr97 wd96 ⟨rfl, hm95⟩
        obtain ⟨O98, hold99, hnew100, hst101⟩ := adoptE O74 (fun k => 1) hm95
        refine WL.y (Y.assign rfl) rfl ?_
        refine WL.nil ?_
        refine At.then ?_
        refine WC.ret ?_
        refine At.thenR ?_
        obtain rfl := some1 h
        have hs102 : Stp [12] (Lg.O0 A) w O98 wd96 := (Stp.trans (Stp.up hst25 rfl) (Stp.trans (Stp.up hst34 rfl) (Stp.trans (Stp.up hst50 rfl) (Stp.trans (Stp.up hst69 rfl) (Stp.trans (Stp.up hst76 rfl) (Stp.trans (Stp.up hst88 rfl) (Stp.up hst101 rfl)))))))
        exact At.res (.inl rfl) rfl (.tmp rfl .nil) ⟨rfl, (Stp.ext hs102 rfl rfl)⟩
      · refine WC.condF' rfl hc90 ?_
        refine WC.skip ?_
        refine At.then ?_
        refine WC.seq ?_
        refine WC.seq ?_
        refine WC.region ?_
        refine WL.y (Y.fieldAddr fo27_2 rfl) rfl ?_
        refine WL.y (Y.fieldAddr fo25_1 rfl) rfl ?_
        refine WL.y (Y.loadSc ty23 rfl rfl (hb89.cell 3 _ rfl)) rfl ?_
        have hf103 := hf77.mono (frs_st hst88 rfl)
        refine WL.y (Y.len ty23 rfl hf103) rfl ?_
        refine WL.y (Y.move rfl) rfl ?_
        refine WL.y (Y.gtr_i rfl rfl) rfl ?_
        refine WL.y (Y.move rfl) rfl ?_
        refine WL.cut 7 (σ := Unit) (fun _ w' => wd87 = w') (fun _ => [(1, vi a1), (2, .pointer (some ⟨p22, 0, none⟩)), (5, .pointer (some ⟨p73, 0, none⟩)), (38, .bool ((decide (a1 < (r56.Pos.Counts.length : Int))) || (decide (a1 < (r56.Neg.Counts.length : Int)))))]) ?_ ?_
        · refine WL.part 31 rfl (fun hE104 => ?_) (fun hE104 => ?_)
          · refine WL.gS rfl rfl rfl rfl ?_
            refine WL.gS rfl rfl rfl rfl ?_
            refine WL.gS rfl rfl rfl rfl ?_
            refine WL.gS rfl rfl rfl rfl ?_
            refine WL.gS rfl rfl rfl rfl ?_
            refine WL.gS rfl rfl rfl rfl ?_
            refine WL.y (Y.pick (b := true) rfl rfl) rfl ?_
            refine WL.ren (v' := .bool ((decide (a1 < (r56.Pos.Counts.length : Int))) || (decide (a1 < (r56.Neg.Counts.length : Int))))) 38 rfl (congrArg Value.bool (orT hE104)) ?_
            exact WL.nil (At.join () rfl (.cons rfl (.cons rfl (.cons rfl (.cons rfl .nil)))))
          · refine WL.ung rfl rfl ?_
            refine WL.y (Y.fieldAddr fo27_3 rfl) rfl ?_
            refine WL.ung rfl rfl ?_
            refine WL.y (Y.fieldAddr fo25_1 rfl) rfl ?_
            refine WL.ung rfl rfl ?_
            refine WL.y (Y.loadSc ty23 rfl rfl (hb89.cell 5 _ rfl)) rfl ?_
            refine WL.ung rfl rfl ?_
            have hf105 := hf82.mono (frs_st hst88 rfl)
            refine WL.y (Y.len ty23 rfl hf105) rfl ?_
            refine WL.ung rfl rfl ?_
            refine WL.y (Y.move rfl) rfl ?_
            refine WL.ung rfl rfl ?_
            refine WL.y (Y.gtr_i rfl rfl) rfl ?_
            refine WL.y (Y.pick (b := false) rfl rfl) rfl ?_
            refine WL.ren (v' := .bool ((decide (a1 < (r56.Pos.Counts.length : Int))) || (decide (a1 < (r56.Neg.Counts.length : Int))))) 38 rfl (congrArg Value.bool (orF hE104)) ?_
            exact WL.nil (At.join () rfl (.cons rfl (.cons rfl (.cons rfl (.cons rfl .nil)))))
        · rintro _ _ rfl
          refine (show WL _ _ _ _ _ [(1, vi a1), (2, .pointer (some ⟨p22, 0, none⟩)), (5, .pointer (some ⟨p73, 0, none⟩)), (38, .bool ((decide (a1 < (r56.Pos.Counts.length : Int))) || (decide (a1 < (r56.Neg.Counts.length : Int)))))] _ from ?_)
          refine WL.y (Y.move rfl) rfl ?_
          refine WL.cut 6 (σ := Unit) (fun _ w' => wd87 = w') (fun _ => [(1, vi a1), (2, .pointer (some ⟨p22, 0, none⟩)), (5, .pointer (some ⟨p73, 0, none⟩)), (45, .bool (((decide (a1 < (r56.Pos.Counts.length : Int))) || (decide (a1 < (r56.Neg.Counts.length : Int)))) || (decide (a0.Scale < r56.Scale))))]) ?_ ?_
          · refine WL.part 39 rfl (fun hE106 => ?_) (fun hE106 => ?_)
            · refine WL.gS rfl rfl rfl rfl ?_
              refine WL.gS rfl rfl rfl rfl ?_
              refine WL.gS rfl rfl rfl rfl ?_
              refine WL.gS rfl rfl rfl rfl ?_
              refine WL.gS rfl rfl rfl rfl ?_
              refine WL.y (Y.pick (b := true) rfl rfl) rfl ?_
              refine WL.ren (v' := .bool (((decide (a1 < (r56.Pos.Counts.length : Int))) || (decide (a1 < (r56.Neg.Counts.length : Int)))) || (decide (a0.Scale < r56.Scale)))) 45 rfl (congrArg Value.bool (orT hE106)) ?_
              exact WL.nil (At.join () rfl (.cons rfl (.cons rfl (.cons rfl (.cons rfl .nil)))))
            · refine WL.ung rfl rfl ?_
              refine WL.y (Y.fieldAddr fo27_0 rfl) rfl ?_
              refine WL.ung rfl rfl ?_
              refine WL.y (Y.loadSc ty3 rfl rfl (hb89.cell 0 _ rfl)) rfl ?_
              refine WL.ung rfl rfl ?_
              refine WL.y (Y.fieldAddr fo27_0 rfl) rfl ?_
              refine WL.ung rfl rfl ?_
              have hf107 := hf53.st hst69 rfl
              have hf108 := hf107.st hst76 rfl
              have hf109 := hf108.st hst88 rfl
              refine WL.y (Y.loadSc ty3 rfl rfl (hf109.cell 0 _ rfl)) rfl ?_
              refine WL.ung rfl rfl ?_
              refine WL.y (Y.gtr_i rfl rfl) rfl ?_
              refine WL.y (Y.pick (b := false) rfl rfl) rfl ?_
              refine WL.ren (v' := .bool (((decide (a1 < (r56.Pos.Counts.length : Int))) || (decide (a1 < (r56.Neg.Counts.length : Int)))) || (decide (a0.Scale < r56.Scale)))) 45 rfl (congrArg Value.bool (orF hE106)) ?_
              exact WL.nil (At.join () rfl (.cons rfl (.cons rfl (.cons rfl (.cons rfl .nil)))))
          · rintro _ _ rfl
            refine (show WL _ _ _ _ _ [(1, vi a1), (2, .pointer (some ⟨p22, 0, none⟩)), (5, .pointer (some ⟨p73, 0, none⟩)), (45, .bool (((decide (a1 < (r56.Pos.Counts.length : Int))) || (decide (a1 < (r56.Neg.Counts.length : Int)))) || (decide (a0.Scale < r56.Scale))))] _ from ?_)
            refine WL.nil ?_
            refine At.then ?_
            rcases cnd h with ⟨hc110, h⟩ | ⟨hc110, h⟩
            · refine WC.condT' rfl hc110 ?_
              refine WC.seq ?_
              refine WC.region ?_
              refine WL.y (Y.assign rfl) rfl ?_
              refine WL.nil ?_
              refine At.then ?_
              refine WC.ret ?_
              refine At.thenR ?_
              obtain rfl := some1 h
              have hs111 : Stp [12] (Lg.O0 A) w O74 wd87 := (Stp.trans (Stp.up hst25 rfl) (Stp.trans (Stp.up hst34 rfl) (Stp.trans (Stp.up hst50 rfl) (Stp.trans (Stp.up hst69 rfl) (Stp.trans (Stp.up hst76 rfl) (Stp.up hst88 rfl))))))
              exact At.res (.inl rfl) rfl (.tmp rfl .nil) ⟨rfl, (Stp.ext hs111 rfl rfl)⟩
            · refine WC.condF' rfl hc110 ?_
              refine WC.skip ?_
              refine At.then ?_
              refine WC.seq ?_
              refine WC.seq ?_
              refine WC.region ?_
              refine WL.y (Y.fieldAddr fo27_0 rfl) rfl ?_
              refine WL.y (Y.loadSc ty3 rfl rfl (hb89.cell 0 _ rfl)) rfl ?_
              refine WL.y (Y.fieldAddr fo27_0 rfl) rfl ?_
              have hf112 := hf53.st hst69 rfl
              have hf113 := hf112.st hst76 rfl
              have hf114 := hf113.st hst88 rfl
              refine WL.y (Y.loadSc ty3 rfl rfl (hf114.cell 0 _ rfl)) rfl ?_
              refine WL.y (Y.eql_i rfl rfl) rfl ?_
              refine WL.nil ?_
              refine At.then ?_
              rcases cnd h with ⟨hc115, h⟩ | ⟨hc115, h⟩
              · refine WC.condT' rfl hc115 ?_
                refine WC.seq ?_
                refine WC.region ?_
                refine WL.y (Y.loadAg ty27 rfl rfl (hb89.cells 0 [vi r56.Scale, vu r56.Zero, vi r56.Pos.Offset, (.slice p78 m79 c80), vi r56.Neg.Offset, (.slice p83 m84 c85)] rfl) rfl) rfl ?_
                refine WL.y (Y.loadAg ty27 rfl rfl (hf114.cells 0 [vi a0.Scale, vu a0.Zero, vi a0.Pos.Offset, (.slice p13 m14 c15), vi a0.Neg.Offset, (.slice p17 m18 c19)] rfl) rfl) rfl ?_
                have hf116 := hf82.mono (frs_st hst88 rfl)
                have hf117 := hf54.mono (imm_st hst69 rfl rfl)
                have hf118 := hf117.mono (imm_st hst76 rfl rfl)
                have hf119 := hf118.mono (imm_st hst88 rfl rfl)
                have hf120 := hf55.mono (imm_st hst69 rfl rfl)
                have hf121 := hf120.mono (imm_st hst76 rfl rfl)
                have hf122 := hf121.mono (imm_st hst88 rfl rfl)
                obtain ⟨r123, hp124, h⟩ := bnd h
                refine WL.call (vals := [.agg [vi r56.Scale, vu r56.Zero, vi r56.Pos.Offset, (.slice p78 m79 c80), vi r56.Neg.Offset, (.slice p83 m84 c85)].toArray, .agg [vi a0.Scale, vu a0.Zero, vi a0.Pos.Offset, (.slice p13 m14 c15), vi a0.Neg.Offset, (.slice p17 m18 c19)].toArray]) kok22 rfl rfl (c_ref08_Same (A := fun _ => True) (a0 := r56) (a1 := a0) (Sl.all hf103) (Sl.all hf116) (Sl.all hf119) (Sl.all hf122) hp124) ?_
                rintro vr127 wd126 ⟨rfl, hm125⟩
                obtain ⟨O128, hold129, hnew130, hst131⟩ := adoptE O74 (fun k => 1) hm125
                refine WL.y (Y.assign rfl) rfl ?_
                refine WL.nil ?_
                refine At.then ?_
                refine WC.ret ?_
                refine At.thenR ?_
                obtain rfl := some1 h
                have hs132 : Stp [12] (Lg.O0 A) w O128 wd126 := (Stp.trans (Stp.up hst25 rfl) (Stp.trans (Stp.up hst34 rfl) (Stp.trans (Stp.up hst50 rfl) (Stp.trans (Stp.up hst69 rfl) (Stp.trans (Stp.up hst76 rfl) (Stp.trans (Stp.up hst88 rfl) (Stp.up hst131 rfl)))))))
                exact At.res (.inl rfl) rfl (.tmp rfl .nil) ⟨rfl, (Stp.ext hs132 rfl rfl)⟩
              · refine WC.condF' rfl hc115 ?_
                refine WC.skip ?_
                refine At.then ?_
                refine WC.seq ?_
                refine WC.region ?_
                refine WL.y (Y.loadAg ty27 rfl rfl (hf114.cells 0 [vi a0.Scale, vu a0.Zero, vi a0.Pos.Offset, (.slice p13 m14 c15), vi a0.Neg.Offset, (.slice p17 m18 c19)] rfl) rfl) rfl ?_
                refine WL.y (Y.fieldAddr fo27_0 rfl) rfl ?_
                refine WL.y (Y.loadSc ty3 rfl rfl (hf114.cell 0 _ rfl)) rfl ?_
                refine WL.y (Y.fieldAddr fo27_0 rfl) rfl ?_
                refine WL.y (Y.loadSc ty3 rfl rfl (hb89.cell 0 _ rfl)) rfl ?_
                refine WL.y (Y.sub_i rfl rfl) rfl ?_
                refine WL.y (Y.sub_i rfl rfl) rfl ?_
                have hf133 := hf54.mono (imm_st hst69 rfl rfl)
                have hf134 := hf133.mono (imm_st hst76 rfl rfl)
                have hf135 := hf134.mono (imm_st hst88 rfl rfl)
                have hf136 := hf55.mono (imm_st hst69 rfl rfl)
                have hf137 := hf136.mono (imm_st hst76 rfl rfl)
                have hf138 := hf137.mono (imm_st hst88 rfl rfl)
                obtain ⟨⟨r139, r140⟩, hp141, h⟩ := bnd h
                refine WL.call (vals := [.agg [vi a0.Scale, vu a0.Zero, vi a0.Pos.Offset, (.slice p13 m14 c15), vi a0.Neg.Offset, (.slice p17 m18 c19)].toArray, vi (w64 ((w64 (a0.Scale - r56.Scale)) - 1))]) kok21 rfl rfl (c_hist_Down (A := fun _ => True) (a0 := a0) (Sl.all hf135) (Sl.all hf138) hp141) ?_
                rintro vr148 wd147 ⟨u142, u143, rfl, hm146, f144, f145⟩
                obtain ⟨O149, hold150, hnew151, hst152⟩ := adoptE O74 (fun k => 1) hm146
                have hf153 : Sl Rep.u wd147 (frs O149) u142 r139.Pos.Counts := Sl.adoptF f144 (fun k hk => ⟨hk, rfl⟩) hnew151
                have hf154 : Sl Rep.u wd147 (frs O149) u143 r139.Neg.Counts := Sl.adoptF f145 (fun k hk => ⟨hk, rfl⟩) hnew151
                refine WL.y (Y.move rfl) rfl ?_
                refine WL.y (Y.extract rfl rfl) rfl ?_
                refine WL.y (Y.extract rfl rfl) rfl ?_
                refine WL.alloc (O := O149) 13 [vi 0, vu 0, vi 0, .slice none 0 0, vi 0, .slice none 0 0] ty27 rfl rfl ?_
                intro p156 O157 wd158 hst159 hb155
                have hf160 := hf153.mono (frs_st hst159 rfl)
                have hh164 := h
                obtain ⟨p161, m162, c163, rfl⟩ := hf160.shape
                have h := hh164
                have hf165 := hf154.mono (frs_st hst159 rfl)
                have hh169 := h
                obtain ⟨p166, m167, c168, rfl⟩ := hf165.shape
                have h := hh169
                refine WL.store (v := .agg [vi r139.Scale, vu r139.Zero, vi r139.Pos.Offset, (.slice p161 m162 c163), vi r139.Neg.Offset, (.slice p166 m167 c168)].toArray) (cells' := [vi r139.Scale, vu r139.Zero, vi r139.Pos.Offset, (.slice p161 m162 c163), vi r139.Neg.Offset, (.slice p166 m167 c168)]) ty27 rfl rfl hb155 rfl (Nat.le_of_ble_eq_true rfl) rfl rfl ?_
                intro wd170 hst171 hb172
                refine WL.y (Y.assign rfl) rfl ?_
                refine WL.nil ?_
                refine At.then ?_
                refine WC.seq ?_
                refine WC.region ?_
                refine WL.y (Y.move rfl) rfl ?_
                refine WL.y (Y.eql_i rfl rfl) rfl ?_
                refine WL.y (Y.move rfl) rfl ?_
                refine WL.cut 15 (σ := Unit) (fun _ w' => wd170 = w') (fun _ => [(82, .bool ((decide (r140 = 0)) && ((decide (a1 < (r139.Pos.Counts.length : Int))) || (decide (a1 < (r139.Neg.Counts.length : Int))))))]) ?_ ?_
                · refine WL.part 67 rfl (fun hE173 => ?_) (fun hE173 => ?_)
                  · refine WL.ung rfl rfl ?_
                    refine WL.y (Y.fieldAddr fo27_2 rfl) rfl ?_
                    refine WL.ung rfl rfl ?_
                    refine WL.y (Y.fieldAddr fo25_1 rfl) rfl ?_
                    refine WL.ung rfl rfl ?_
                    refine WL.y (Y.loadSc ty23 rfl rfl (hb172.cell 3 _ rfl)) rfl ?_
                    refine WL.ung rfl rfl ?_
                    have hf174 := hf160.mono (frs_st hst171 rfl)
                    refine WL.y (Y.len ty23 rfl hf174) rfl ?_
                    refine WL.ung rfl rfl ?_
                    refine WL.y (Y.move rfl) rfl ?_
                    refine WL.ung rfl rfl ?_
                    refine WL.y (Y.gtr_i rfl rfl) rfl ?_
                    refine WL.ung rfl rfl ?_
                    refine WL.y (Y.move rfl) rfl ?_
                    refine WL.cut 7 (σ := Unit) (fun _ w' => wd170 = w') (fun _ => [(67, .bool true), (81, .bool ((decide (a1 < (r139.Pos.Counts.length : Int))) || (decide (a1 < (r139.Neg.Counts.length : Int)))))]) ?_ ?_
                    · refine WL.part 74 rfl (fun hE175 => ?_) (fun hE175 => ?_)
                      · refine WL.gS rfl rfl rfl rfl ?_
                        refine WL.gS rfl rfl rfl rfl ?_
                        refine WL.gS rfl rfl rfl rfl ?_
                        refine WL.gS rfl rfl rfl rfl ?_
                        refine WL.gS rfl rfl rfl rfl ?_
                        refine WL.gS rfl rfl rfl rfl ?_
                        refine WL.ung rfl rfl ?_
                        refine WL.y (Y.pick (b := true) rfl rfl) rfl ?_
                        refine WL.ren (v' := .bool ((decide (a1 < (r139.Pos.Counts.length : Int))) || (decide (a1 < (r139.Neg.Counts.length : Int))))) 81 rfl (congrArg Value.bool (orT hE175)) ?_
                        exact WL.nil (At.join () rfl (.cons rfl (.cons rfl .nil)))
                      · refine WL.ung rfl rfl ?_
                        refine WL.y (Y.fieldAddr fo27_3 rfl) rfl ?_
                        refine WL.ung rfl rfl ?_
                        refine WL.y (Y.fieldAddr fo25_1 rfl) rfl ?_
                        refine WL.ung rfl rfl ?_
                        refine WL.y (Y.loadSc ty23 rfl rfl (hb172.cell 5 _ rfl)) rfl ?_
                        refine WL.ung rfl rfl ?_
                        have hf176 := hf165.mono (frs_st hst171 rfl)
                        refine WL.y (Y.len ty23 rfl hf176) rfl ?_
                        refine WL.ung rfl rfl ?_
                        refine WL.y (Y.move rfl) rfl ?_
                        refine WL.ung rfl rfl ?_
                        refine WL.y (Y.gtr_i rfl rfl) rfl ?_
                        refine WL.ung rfl rfl ?_
                        refine WL.y (Y.pick (b := false) rfl rfl) rfl ?_
                        refine WL.ren (v' := .bool ((decide (a1 < (r139.Pos.Counts.length : Int))) || (decide (a1 < (r139.Neg.Counts.length : Int))))) 81 rfl (congrArg Value.bool (orF hE175)) ?_
                        exact WL.nil (At.join () rfl (.cons rfl (.cons rfl .nil)))
                    · rintro _ _ rfl
                      refine (show WL _ _ _ _ _ [(67, .bool true), (81, .bool ((decide (a1 < (r139.Pos.Counts.length : Int))) || (decide (a1 < (r139.Neg.Counts.length : Int)))))] _ from ?_)
                      refine WL.y (Y.pick (b := true) rfl rfl) rfl ?_
                      refine WL.ren (v' := .bool ((decide (r140 = 0)) && ((decide (a1 < (r139.Pos.Counts.length : Int))) || (decide (a1 < (r139.Neg.Counts.length : Int)))))) 82 rfl (congrArg Value.bool (andT hE173)) ?_
                      exact WL.nil (At.join () rfl (.cons rfl .nil))
                  · refine WL.gS rfl rfl rfl rfl ?_
                    refine WL.gS rfl rfl rfl rfl ?_
                    refine WL.gS rfl rfl rfl rfl ?_
                    refine WL.gS rfl rfl rfl rfl ?_
                    refine WL.gS rfl rfl rfl rfl ?_
                    refine WL.gS rfl rfl rfl rfl ?_
                    refine WL.gS rfl rfl rfl rfl ?_
                    refine WL.gS rfl rfl rfl rfl ?_
                    refine WL.gS rfl rfl rfl rfl ?_
                    refine WL.gS rfl rfl rfl rfl ?_
                    refine WL.gS rfl rfl rfl rfl ?_
                    refine WL.gS rfl rfl rfl rfl ?_
                    refine WL.gS rfl rfl rfl rfl ?_
                    refine WL.gS rfl rfl rfl rfl ?_
                    refine WL.y (Y.pick (b := false) rfl rfl) rfl ?_
                    refine WL.ren (v' := .bool ((decide (r140 = 0)) && ((decide (a1 < (r139.Pos.Counts.length : Int))) || (decide (a1 < (r139.Neg.Counts.length : Int)))))) 82 rfl (congrArg Value.bool (andF hE173)) ?_
                    exact WL.nil (At.join () rfl (.cons rfl .nil))
                · rintro _ _ rfl
                  refine (show WL _ _ _ _ _ [(82, .bool ((decide (r140 = 0)) && ((decide (a1 < (r139.Pos.Counts.length : Int))) || (decide (a1 < (r139.Neg.Counts.length : Int))))))] _ from ?_)
                  obtain ⟨t177, ht177, h⟩ := lt1 h
                  refine WL.yE (Y.assign rfl) (congrArg Value.bool ht177.symm) rfl ?_
                  refine WL.nil ?_
                  refine At.then ?_
                  refine WC.ret ?_
                  obtain rfl := some1 h
                  have hs178 : Stp [12, 13] (Lg.O0 A) w O157 wd170 := (Stp.trans (Stp.up hst25 rfl) (Stp.trans (Stp.up hst34 rfl) (Stp.trans (Stp.up hst50 rfl) (Stp.trans (Stp.up hst69 rfl) (Stp.trans (Stp.up hst76 rfl) (Stp.trans (Stp.up hst88 rfl) (Stp.trans (Stp.up hst152 rfl) (Stp.trans (Stp.up hst159 rfl) (Stp.up hst171 rfl)))))))))
                  exact At.res (.inl rfl) rfl (.tmp rfl .nil) ⟨rfl, (Stp.ext hs178 rfl rfl)⟩

end Go.Lg
