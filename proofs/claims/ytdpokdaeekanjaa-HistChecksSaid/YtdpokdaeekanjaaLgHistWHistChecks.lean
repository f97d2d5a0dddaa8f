/- The walks of HistChecks and of what it calls, printed by gen.py. -/
import Derived.Test.YtdpokdaeekanjaaLgHistP
import Derived.Test.YtdpokdaeekanjaaProg
set_option linter.unusedVariables false
namespace Go.Lg
open Go Go.Proofs
set_option maxRecDepth 100000
theorem fmix : Try.prog.follows .mixedOrders = true := by kernel_rfl
theorem ty3 : TyOk Try.prog 3 (.int .i64) 1 8 (.int .i64 0) := tyOk Try.underlying3 (by kernel_rfl)
theorem ty4 : TyOk Try.prog 4 .bool 1 1 (.bool false) := tyOk Try.underlying4 (by kernel_rfl)
theorem ty22 : TyOk Try.prog 22 (.int .u64) 1 8 (.int .u64 0) := tyOk Try.underlying22 (by kernel_rfl)
theorem ty23 : TyOk Try.prog 23 (.slice 22) 1 24 (.slice none 0 0) := tyOk Try.underlying23 (by kernel_rfl)
theorem ty25 : TyOk Try.prog 25 (.struct #[(Field.mk "Offset" 3 0 false "" "" 0), (Field.mk "Counts" 23 1 false "" "" 8)]) 2 32 (.agg #[(.int .i64 0), (.slice none 0 0)]) := tyOk Try.underlying25 (by kernel_rfl)
theorem ty27 : TyOk Try.prog 27 (.struct #[(Field.mk "Scale" 3 0 false "" "" 0), (Field.mk "Zero" 22 1 false "" "" 8), (Field.mk "Pos" 25 2 false "" "" 16), (Field.mk "Neg" 25 4 false "" "" 48)]) 6 80 (.agg #[(.int .i64 0), (.int .u64 0), (.int .i64 0), (.slice none 0 0), (.int .i64 0), (.slice none 0 0)]) := tyOk Try.underlying27 (by kernel_rfl)
theorem ty75 : TyOk Try.prog 75 (.array 2 25) 4 64 (.agg #[(.int .i64 0), (.slice none 0 0), (.int .i64 0), (.slice none 0 0)]) := tyOk Try.underlying75 (by kernel_rfl)
theorem ty82 : TyOk Try.prog 82 (.int .u64) 1 8 (.int .u64 0) := tyOk Try.underlying82 (by kernel_rfl)
theorem fo25_0 : FieldOk Try.prog 25 0 0 := fieldOk Try.underlying25 rfl rfl (by kernel_rfl)
theorem fo25_1 : FieldOk Try.prog 25 1 1 := fieldOk Try.underlying25 rfl rfl (by kernel_rfl)
theorem fo27_0 : FieldOk Try.prog 27 0 0 := fieldOk Try.underlying27 rfl rfl (by kernel_rfl)
theorem fo27_1 : FieldOk Try.prog 27 1 1 := fieldOk Try.underlying27 rfl rfl (by kernel_rfl)
theorem fo27_2 : FieldOk Try.prog 27 2 2 := fieldOk Try.underlying27 rfl rfl (by kernel_rfl)
theorem fo27_3 : FieldOk Try.prog 27 3 4 := fieldOk Try.underlying27 rfl rfl (by kernel_rfl)
theorem x64_58 : X64 Try.prog 58 := x64 Try.func58 (by kernel_rfl) rfl (by kernel_rfl) (by kernel_rfl)
theorem kok15 : CallOk Try.prog 15 := callOk Try.func15 (by kernel_rfl) rfl
theorem kok16 : CallOk Try.prog 16 := callOk Try.func16 (by kernel_rfl) rfl
theorem kok17 : CallOk Try.prog 17 := callOk Try.func17 (by kernel_rfl) rfl
theorem kok18 : CallOk Try.prog 18 := callOk Try.func18 (by kernel_rfl) rfl
theorem kok19 : CallOk Try.prog 19 := callOk Try.func19 (by kernel_rfl) rfl
theorem kok20 : CallOk Try.prog 20 := callOk Try.func20 (by kernel_rfl) rfl
theorem kok21 : CallOk Try.prog 21 := callOk Try.func21 (by kernel_rfl) rfl
theorem kok23 : CallOk Try.prog 23 := callOk Try.func23 (by kernel_rfl) rfl
theorem kok57 : CallOk Try.prog 57 := callOk Try.func57 (by kernel_rfl) rfl
theorem kok59 : CallOk Try.prog 59 := callOk Try.func59 (by kernel_rfl) rfl
theorem kok60 : CallOk Try.prog 60 := callOk Try.func60 (by kernel_rfl) rfl
theorem kok61 : CallOk Try.prog 61 := callOk Try.func61 (by kernel_rfl) rfl
theorem kok62 : CallOk Try.prog 62 := callOk Try.func62 (by kernel_rfl) rfl
theorem kok64 : CallOk Try.prog 64 := callOk Try.func64 (by kernel_rfl) rfl

theorem c_hist_sides {A : Nat → Prop} {v0_3 : Value} {v0_5 : Value} {a0 : api_Hist} {w : World} (hs0_3 : Sl Rep.u w A v0_3 a0.Pos.Counts) (hs0_5 : Sl Rep.u w A v0_5 a0.Neg.Counts) {r0 : List api_Side} (h : hist_sides a0 = some r0) : Rets Try.prog 57 [.agg [vi a0.Scale, vu a0.Zero, vi a0.Pos.Offset, v0_3, vi a0.Neg.Offset, v0_5].toArray] w (fun v w' => ∃ (cs0 : List Value), v = .agg (List.toArray cs0) ∧ Ext w w' ∧ Rows' rep_api_Side w' (fun k => A k ∨ w.heap.size ≤ k) cs0 r0 ∧ r0.length = 2) := by
  unfold hist_sides at h
  refine Rets.enter Try.func57 rfl rfl ?_
  have hf11 : Sl Rep.u w (imm (Lg.O0 A)) v0_3 a0.Pos.Counts := (Sl.start hs0_3)
  have hf12 : Sl Rep.u w (imm (Lg.O0 A)) v0_5 a0.Neg.Counts := (Sl.start hs0_5)
  refine (show WC _ _ _ _ [(0, .agg [vi a0.Scale, vu a0.Zero, vi a0.Pos.Offset, v0_3, vi a0.Neg.Offset, v0_5].toArray)] _ from ?_)
  refine WC.seq ?_
  refine WC.region ?_
  have hh16 := h
  obtain ⟨p13, m14, c15, rfl⟩ := hf11.shape
  have h := hh16
  have hh20 := h
  obtain ⟨p17, m18, c19, rfl⟩ := hf12.shape
  have h := hh20
  refine WL.box (O := (Lg.O0 A)) 11 [vi a0.Scale, vu a0.Zero, vi a0.Pos.Offset, (.slice p13 m14 c15), vi a0.Neg.Offset, (.slice p17 m18 c19)] rfl rfl rfl ?_
  intro p22 O23 wd24 hst25 hb21
  refine WL.alloc (O := O23) 12 [vi 0, .slice none 0 0, vi 0, .slice none 0 0] ty75 rfl rfl ?_
  intro p27 O28 wd29 hst30 hb26
  refine WL.nil ?_
  refine At.then ?_
  refine WC.seq ?_
  refine WC.region ?_
  refine WL.y (Y.fieldAddr fo27_2 rfl) rfl ?_
  have hf31 := hb21.st hst30 rfl
  refine WL.y (Y.loadAg ty25 rfl rfl (hf31.cells 2 [vi a0.Pos.Offset, (.slice p13 m14 c15)] rfl) rfl) rfl ?_
  refine WL.y (Y.fieldAddr fo27_3 rfl) rfl ?_
  refine WL.y (Y.loadAg ty25 rfl rfl (hf31.cells 4 [vi a0.Neg.Offset, (.slice p17 m18 c19)] rfl) rfl) rfl ?_
  refine WL.y (Y.build (vals := [(0, .agg [vi a0.Pos.Offset, (.slice p13 m14 c15)].toArray), (1, .agg [vi a0.Neg.Offset, (.slice p17 m18 c19)].toArray)]) (cells := [vi a0.Pos.Offset, (.slice p13 m14 c15), vi a0.Neg.Offset, (.slice p17 m18 c19)]) (Fits.evalp rfl) (by kernel_rfl)) rfl ?_
  refine WL.store (v := .agg [vi a0.Pos.Offset, (.slice p13 m14 c15), vi a0.Neg.Offset, (.slice p17 m18 c19)].toArray) (cells' := [vi a0.Pos.Offset, (.slice p13 m14 c15), vi a0.Neg.Offset, (.slice p17 m18 c19)]) ty75 rfl rfl hb26 rfl (Nat.le_of_ble_eq_true rfl) rfl rfl ?_
  intro wd32 hst33 hb34
  refine WL.nil ?_
  refine At.then ?_
  refine WC.ret ?_
  obtain rfl := some1 h
  have hs35 : Stp [12] (Lg.O0 A) w O28 wd32 := (Stp.trans (Stp.up hst25 rfl) (Stp.trans (Stp.up hst30 rfl) (Stp.up hst33 rfl)))
  have hf36 := hf11.mono (imm_st hst25 rfl rfl)
  have hf37 := hf36.mono (imm_st hst30 rfl rfl)
  have hf38 := hf37.mono (imm_st hst33 rfl rfl)
  have hf39 := hf12.mono (imm_st hst25 rfl rfl)
  have hf40 := hf39.mono (imm_st hst30 rfl rfl)
  have hf41 := hf40.mono (imm_st hst33 rfl rfl)
  exact At.res (.inl rfl) rfl (.cell rfl (hb34.runAg 0 [vi a0.Pos.Offset, (.slice p13 m14 c15), vi a0.Neg.Offset, (.slice p17 m18 c19)] ty75 rfl rfl rfl) .nil) ⟨[vi a0.Pos.Offset, (.slice p13 m14 c15), vi a0.Neg.Offset, (.slice p17 m18 c19)], rfl, (Stp.ext hs35 rfl rfl), (Rows'.outI (O' := O28) (R := rep_api_Side) ⟨[vi a0.Pos.Offset, (.slice p13 m14 c15)], [vi a0.Neg.Offset, (.slice p17 m18 c19)], rfl, ⟨[vi a0.Pos.Offset], [(.slice p13 m14 c15)], rfl, rfl, ⟨_, rfl, hf38⟩⟩, ⟨[vi a0.Neg.Offset, (.slice p17 m18 c19)], [], rfl, ⟨[vi a0.Neg.Offset], [(.slice p17 m18 c19)], rfl, rfl, ⟨_, rfl, hf41⟩⟩, rfl⟩⟩ hs35 low0 O0_A), rfl⟩

theorem c_hist_Total {A : Nat → Prop} {v0_3 : Value} {v0_5 : Value} {a0 : api_Hist} {w : World} (hs0_3 : Sl Rep.u w A v0_3 a0.Pos.Counts) (hs0_5 : Sl Rep.u w A v0_5 a0.Neg.Counts) {r0 : UInt64} {r1 : Bool} (h : hist_Total a0 = some (r0, r1)) : Rets Try.prog 17 [.agg [vi a0.Scale, vu a0.Zero, vi a0.Pos.Offset, v0_3, vi a0.Neg.Offset, v0_5].toArray] w (fun v w' => v = .tuple (List.toArray [vu r0, .bool r1]) ∧ Ext w w') := by
  unfold hist_Total at h
  refine Rets.enter Try.func17 rfl rfl ?_
  have hf11 : Sl Rep.u w (imm (Lg.O0 A)) v0_3 a0.Pos.Counts := (Sl.start hs0_3)
  have hf12 : Sl Rep.u w (imm (Lg.O0 A)) v0_5 a0.Neg.Counts := (Sl.start hs0_5)
  refine (show WC _ _ _ _ [(0, .agg [vi a0.Scale, vu a0.Zero, vi a0.Pos.Offset, v0_3, vi a0.Neg.Offset, v0_5].toArray)] _ from ?_)
  refine WC.seq ?_
  refine WC.region ?_
  have hh16 := h
  obtain ⟨p13, m14, c15, rfl⟩ := hf11.shape
  have h := hh16
  have hh20 := h
  obtain ⟨p17, m18, c19, rfl⟩ := hf12.shape
  have h := hh20
  refine WL.box (O := (Lg.O0 A)) 11 [vi a0.Scale, vu a0.Zero, vi a0.Pos.Offset, (.slice p13 m14 c15), vi a0.Neg.Offset, (.slice p17 m18 c19)] rfl rfl rfl ?_
  intro p22 O23 wd24 hst25 hb21
  refine WL.y (Y.assign (v := vu 0) rfl) rfl ?_
  refine WL.y (Y.assign rfl) rfl ?_
  refine WL.nil ?_
  refine At.then ?_
  refine WC.seq ?_
  refine WC.region ?_
  refine WL.y (Y.fieldAddr fo27_1 rfl) rfl ?_
  refine WL.y (Y.loadSc ty22 rfl rfl (hb21.cell 1 _ rfl)) rfl ?_
  refine WL.y (Y.assign rfl) rfl ?_
  refine WL.y (Y.assign (v := vu 0) rfl) rfl ?_
  refine WL.nil ?_
  refine At.then ?_
  refine WC.seq ?_
  refine WC.seq ?_
  refine WC.region ?_
  refine WL.y (Y.loadAg ty27 rfl rfl (hb21.cells 0 [vi a0.Scale, vu a0.Zero, vi a0.Pos.Offset, (.slice p13 m14 c15), vi a0.Neg.Offset, (.slice p17 m18 c19)] rfl) rfl) rfl ?_
  have hf26 := hf11.mono (imm_st hst25 rfl rfl)
  have hf27 := hf12.mono (imm_st hst25 rfl rfl)
  obtain ⟨r28, hp29, h⟩ := bnd h
  refine WL.call (vals := [.agg [vi a0.Scale, vu a0.Zero, vi a0.Pos.Offset, (.slice p13 m14 c15), vi a0.Neg.Offset, (.slice p17 m18 c19)].toArray]) kok57 rfl rfl (c_hist_sides (A := imm O23) (a0 := a0) hf26 hf27 hp29) ?_
  rintro vr35 wd34 ⟨cs30, rfl, hm33, f31, f32⟩
  obtain ⟨O36, hold37, hnew38, hst39⟩ := adoptE O23 (fun k => 1) hm33
  have hf40 := Rows'.adoptI (O := O23) f31 (fun _ hk => hk) (fun _ _ => Nat.le_refl _) hold37 hnew38
  refine WL.y (Y.move rfl) rfl ?_
  refine WL.nil ?_
  refine At.then ?_
  obtain ⟨p46, h, hk47⟩ := bnd h
  refine WC.join (σ := (UInt64 × UInt64 × Own)) (fun x w' => (x.1, x.2.1) = p46 ∧ Stp [12] O36 wd34 x.2.2 w') (fun x => [(4, vu x.1), (5, vu x.2.1)]) ?_ ?_
  · refine WC.block ?_
    obtain ⟨p59, h, hk61⟩ := flow1 h
    obtain ⟨k60, h⟩ := loop_some h
    refine WC.joinB 0 (σ := (UInt64 × UInt64 × Own)) (fun x w' => p59 = .go (x.1, x.2.1) ∧ Stp [12] O36 wd34 x.2.2 w') (fun x => [(4, vu x.1), (5, vu x.2.1)]) ?_ ?_
    · refine WC.loop (σ := (UInt64 × UInt64 × Int × Own)) (fun x k w' => loopN k (hist_Total_lp1 r28) (x.1, x.2.1, x.2.2.1) = some p59 ∧ Stp [12] O36 wd34 x.2.2.2 w') (fun x => [(4, vu x.1), (5, vu x.2.1), (14, .agg cs30.toArray), (15, vi x.2.2.1)]) (a0.Zero, 0, 0, O36) k60 (.cons rfl (.cons rfl (.cons rfl (.cons rfl .nil)))) ⟨h, (Stp.refl _ _ _)⟩ ?_
      rintro ⟨sum48, over49, x50, O51⟩ k60 wd52 ⟨h, hst53⟩
      obtain ⟨j62, q63, rfl, h, hn64⟩ := rnd1 h
      unfold hist_Total_lp1 at h
      try dsimp only at h hst53
      refine (show WC _ _ _ _ [(4, vu sum48), (5, vu over49), (14, .agg cs30.toArray), (15, vi x50)] _ from ?_)
      refine WC.seq ?_
      refine WC.region ?_
      refine WL.y (Y.lss_i rfl rfl) rfl ?_
      refine WL.nil ?_
      refine At.then ?_
      refine WC.seq ?_
      rcases cnd h with ⟨hc65, h⟩ | ⟨hc65, h⟩
      · refine WC.condT' rfl hc65 ?_
        refine WC.skip ?_
        refine At.then ?_
        refine WC.seq ?_
        refine WC.block ?_
        refine WC.seq ?_
        refine WC.region ?_
        have hf66 := Rows'.mono (imm_st hst53 rfl rfl) hf40
        obtain ⟨e67, he67, h⟩ := bnd h
        obtain ⟨cs68, hcs69, hok70⟩ := arrAt (R := rep_api_Side) (w := wd52) (A := imm O51) (cells := cs30) hf66 he67
        obtain ⟨_, _, rfl, rfl, ⟨v71, rfl, hf72⟩⟩ := hok70
        replace hcs69 : _ = [vi e67.Offset, v71] := hcs69
        refine WL.y (Y.indexArrAg ty75 ty25 rfl rfl hcs69 he67 f32) rfl ?_
        refine WL.alloc (O := O51) 12 [vi 0, .slice none 0 0] ty25 rfl rfl ?_
        intro p74 O75 wd76 hst77 hb73
        have hf78 := hf72.mono (imm_st hst77 rfl rfl)
        have hh82 := h
        obtain ⟨p79, m80, c81, rfl⟩ := hf78.shape
        have h := hh82
        refine WL.store (v := .agg [vi e67.Offset, (.slice p79 m80 c81)].toArray) (cells' := [vi e67.Offset, (.slice p79 m80 c81)]) ty25 rfl rfl hb73 rfl (Nat.le_of_ble_eq_true rfl) rfl rfl ?_
        intro wd83 hst84 hb85
        refine WL.nil ?_
        refine At.then ?_
        refine WC.seq ?_
        refine WC.region ?_
        refine WL.y (Y.fieldAddr fo25_1 rfl) rfl ?_
        refine WL.y (Y.loadSc ty23 rfl rfl (hb85.cell 1 _ rfl)) rfl ?_
        have hf86 := hf78.mono (imm_st hst84 rfl rfl)
        refine WL.y (Y.len ty23 rfl hf86) rfl ?_
        refine WL.y (Y.move rfl) rfl ?_
        refine WL.nil ?_
        refine At.then ?_
        obtain ⟨p89, h, hk90⟩ := bnd h
        refine WC.join (σ := (UInt64 × UInt64)) (fun x w' => (x.1, x.2) = p89 ∧ wd83 = w') (fun x => [(4, vu x.1), (5, vu x.2), (14, .agg cs30.toArray), (15, vi x50)]) ?_ ?_
        · refine WC.block ?_
          obtain ⟨p96, h, hk98⟩ := flow1 h
          obtain ⟨k97, h⟩ := loop_some h
          refine WC.joinB 2 (σ := (UInt64 × UInt64)) (fun x w' => p96 = .go (x.1, x.2) ∧ wd83 = w') (fun x => [(4, vu x.1), (5, vu x.2), (14, .agg cs30.toArray), (15, vi x50)]) ?_ ?_
          · refine WC.loop (σ := (UInt64 × UInt64 × Int)) (fun x k w' => loopN k (hist_Total_lp2 e67) (x.1, x.2.1, x.2.2) = some p96 ∧ wd83 = w') (fun x => [(4, vu x.1), (5, vu x.2.1), (14, .agg cs30.toArray), (15, vi x50), (19, (.slice p79 m80 c81)), (20, vi (e67.Counts.length : Int)), (21, vi x.2.2)]) (sum48, over49, 0) k97 (.cons rfl (.cons rfl (.cons rfl (.cons rfl (.cons rfl (.cons rfl (.cons rfl .nil))))))) ⟨h, rfl⟩ ?_
            rintro ⟨sum91, over92, x93⟩ k97 _ ⟨h, rfl⟩
            obtain ⟨j99, q100, rfl, h, hn101⟩ := rnd1 h
            unfold hist_Total_lp2 at h
            try dsimp only at h
            refine (show WC _ _ _ _ [(4, vu sum91), (5, vu over92), (14, .agg cs30.toArray), (15, vi x50), (19, (.slice p79 m80 c81)), (20, vi (e67.Counts.length : Int)), (21, vi x93)] _ from ?_)
            refine WC.seq ?_
            refine WC.region ?_
            refine WL.y (Y.lss_i rfl rfl) rfl ?_
            refine WL.nil ?_
            refine At.then ?_
            refine WC.seq ?_
            rcases cnd h with ⟨hc102, h⟩ | ⟨hc102, h⟩
            · refine WC.condT' rfl hc102 ?_
              refine WC.skip ?_
              refine At.then ?_
              refine WC.seq ?_
              refine WC.block ?_
              refine WC.seq ?_
              refine WC.region ?_
              obtain ⟨e103, he103, h⟩ := bnd h
              obtain ⟨b104, off112, cap111, cs110, hv105, hi106, hl107, hc108, hok109, hA113⟩ := Sl.at2 hf86 he103
              obtain rfl := hok109
              replace hc108 : CellsAt _ _ _ [vu e103] := hc108
              have hca114 := CAt.imm hc108 hA113
              refine WL.y (Y.indexAddr ty23 ty22 rfl hv105 rfl hi106 hl107) rfl ?_
              refine WL.y (Y.loadSc ty22 rfl rfl hca114.at_) rfl ?_
              refine WL.y (Y.assign rfl) rfl ?_
              refine WL.nil ?_
              refine At.then ?_
              refine WC.seq ?_
              refine WC.region ?_
              refine WL.y (Y.assign (v := vu 0) rfl) rfl ?_
              refine WL.nil ?_
              refine At.then ?_
              refine WC.seq ?_
              refine WC.region ?_
              refine WL.y (Y.move rfl) rfl ?_
              refine WL.y (Y.move rfl) rfl ?_
              refine WL.y (Y.add64 (c := 0) x64_58 (by decide) rfl rfl rfl) rfl ?_
              refine WL.y (Y.move rfl) rfl ?_
              refine WL.y (Y.extract rfl rfl) rfl ?_
              refine WL.y (Y.extract rfl rfl) rfl ?_
              obtain ⟨sum115, hsum115, h⟩ := lt1 h
              refine WL.yE (Y.assign rfl) (congrArg vu hsum115.symm) rfl ?_
              obtain ⟨carry116, hcarry116, h⟩ := lt1 h
              refine WL.yE (Y.assign rfl) (congrArg vu hcarry116.symm) rfl ?_
              refine WL.nil ?_
              refine At.then ?_
              refine WC.region ?_
              refine WL.y (Y.move rfl) rfl ?_
              refine WL.y (Y.move rfl) rfl ?_
              refine WL.y (Y.or_u rfl rfl) rfl ?_
              obtain ⟨over117, hover117, h⟩ := lt1 h
              refine WL.yE (Y.assign rfl) (congrArg vu hover117.symm) rfl ?_
              refine WL.nil ?_
              refine At.inBlock ?_
              refine At.then ?_
              refine WC.region ?_
              refine WL.y (Y.add_i rfl rfl) rfl ?_
              refine WL.y (Y.move rfl) rfl ?_
              refine WL.nil ?_
              exact At.round (sum115, over117, w64 (x93 + 1)) j99 (Nat.lt_succ_self _) ⟨next1 h hn101, rfl⟩ (.cons rfl (.cons rfl (.cons rfl (.cons rfl (.cons rfl (.cons rfl (.cons rfl .nil)))))))
            · refine WC.condF' rfl hc102 ?_
              refine WC.exit ?_
              refine At.thenX ?_
              refine At.loopX ?_
              exact At.hitB (σ := (UInt64 × UInt64)) (sum91, over92) ⟨brk1 h hn101, rfl⟩ (.cons rfl (.cons rfl (.cons rfl (.cons rfl .nil))))
          · rintro ⟨sum94, over95⟩ _ ⟨rfl, rfl⟩
            replace h := flowK_go hk98
            try dsimp only at h
            refine (show At _ _ _ [(4, vu sum94), (5, vu over95), (14, .agg cs30.toArray), (15, vi x50)] _ from ?_)
            refine At.inBlockHit ?_
            exact At.join (σ := (UInt64 × UInt64)) (sum94, over95) ⟨some1 h, rfl⟩ (.cons rfl (.cons rfl (.cons rfl (.cons rfl .nil))))
        · rintro ⟨sum87, over88⟩ _ ⟨rfl, rfl⟩
          replace h := hk90
          try dsimp only at h
          refine (show At _ _ _ [(4, vu sum87), (5, vu over88), (14, .agg cs30.toArray), (15, vi x50)] _ from ?_)
          refine At.inBlock ?_
          refine At.then ?_
          refine WC.region ?_
          refine WL.y (Y.add_i rfl rfl) rfl ?_
          refine WL.y (Y.move rfl) rfl ?_
          refine WL.nil ?_
          exact At.round (sum87, over88, w64 (x50 + 1), O75) j62 (Nat.lt_succ_self _) ⟨next1 h hn64, (Stp.trans (Stp.up hst53 rfl) (Stp.trans (Stp.up hst77 rfl) (Stp.up hst84 rfl)))⟩ (.cons rfl (.cons rfl (.cons rfl (.cons rfl .nil))))
      · refine WC.condF' rfl hc65 ?_
        refine WC.exit ?_
        refine At.thenX ?_
        refine At.loopX ?_
        exact At.hitB (σ := (UInt64 × UInt64 × Own)) (sum48, over49, O51) ⟨brk1 h hn64, (Stp.up hst53 rfl)⟩ (.cons rfl (.cons rfl .nil))
    · rintro ⟨sum54, over55, O56⟩ wd57 ⟨rfl, hst58⟩
      replace h := flowK_go hk61
      try dsimp only at h hst58
      refine (show At _ _ _ [(4, vu sum54), (5, vu over55)] _ from ?_)
      refine At.inBlockHit ?_
      exact At.join (σ := (UInt64 × UInt64 × Own)) (sum54, over55, O56) ⟨some1 h, (Stp.up hst58 rfl)⟩ (.cons rfl (.cons rfl .nil))
  · rintro ⟨sum41, over42, O43⟩ wd44 ⟨rfl, hst45⟩
    replace h := hk47
    try dsimp only at h hst45
    refine (show At _ _ _ [(4, vu sum41), (5, vu over42)] _ from ?_)
    refine At.then ?_
    refine WC.seq ?_
    refine WC.seq ?_
    refine WC.region ?_
    refine WL.y (Y.move rfl) rfl ?_
    refine WL.y (Y.neq_u (b := 0) rfl rfl) rfl ?_
    refine WL.nil ?_
    refine At.then ?_
    rcases cnd h with ⟨hc118, h⟩ | ⟨hc118, h⟩
    · refine WC.condT' rfl hc118 ?_
      refine WC.seq ?_
      refine WC.region ?_
      refine WL.y (Y.assign (v := vu 0) rfl) rfl ?_
      refine WL.y (Y.assign rfl) rfl ?_
      refine WL.nil ?_
      refine At.then ?_
      refine WC.ret ?_
      refine At.thenR ?_
      obtain ⟨rfl, rfl⟩ := tup2 h
      have hs119 : Stp [12] (Lg.O0 A) w O43 wd44 := (Stp.trans (Stp.up hst25 rfl) (Stp.trans (Stp.up hst39 rfl) (Stp.up hst45 rfl)))
      exact At.res (.inl rfl) rfl (.tmp rfl (.tmp rfl .nil)) ⟨rfl, (Stp.ext hs119 rfl rfl)⟩
    · refine WC.condF' rfl hc118 ?_
      refine WC.skip ?_
      refine At.then ?_
      refine WC.seq ?_
      refine WC.region ?_
      refine WL.y (Y.move rfl) rfl ?_
      refine WL.y (Y.assign rfl) rfl ?_
      refine WL.y (Y.assign rfl) rfl ?_
      refine WL.nil ?_
      refine At.then ?_
      refine WC.ret ?_
      obtain ⟨rfl, rfl⟩ := tup2 h
      have hs120 : Stp [12] (Lg.O0 A) w O43 wd44 := (Stp.trans (Stp.up hst25 rfl) (Stp.trans (Stp.up hst39 rfl) (Stp.up hst45 rfl)))
      exact At.res (.inl rfl) rfl (.tmp rfl (.tmp rfl .nil)) ⟨rfl, (Stp.ext hs120 rfl rfl)⟩

theorem c_hist_check {A : Nat → Prop} {v0_1 : Value} {a0 : api_Side} {w : World} (hs0_1 : Sl Rep.u w A v0_1 a0.Counts) {r0 : Int} (h : hist_check a0 = some r0) : Rets Try.prog 60 [.agg [vi a0.Offset, v0_1].toArray] w (fun v w' => v = vi r0 ∧ Ext w w') := by
  unfold hist_check at h
  refine Rets.enter Try.func60 rfl rfl ?_
  have hf11 : Sl Rep.u w (imm (Lg.O0 A)) v0_1 a0.Counts := (Sl.start hs0_1)
  refine (show WC _ _ _ _ [(0, .agg [vi a0.Offset, v0_1].toArray)] _ from ?_)
  refine WC.seq ?_
  refine WC.region ?_
  have hh15 := h
  obtain ⟨p12, m13, c14, rfl⟩ := hf11.shape
  have h := hh15
  refine WL.box (O := (Lg.O0 A)) 11 [vi a0.Offset, (.slice p12 m13 c14)] rfl rfl rfl ?_
  intro p17 O18 wd19 hst20 hb16
  refine WL.y (Y.assign rfl) rfl ?_
  refine WL.nil ?_
  refine At.then ?_
  refine WC.seq ?_
  refine WC.region ?_
  refine WL.y (Y.fieldAddr fo25_1 rfl) rfl ?_
  refine WL.y (Y.loadSc ty23 rfl rfl (hb16.cell 1 _ rfl)) rfl ?_
  have hf21 := hf11.mono (imm_st hst20 rfl rfl)
  refine WL.y (Y.len ty23 rfl hf21) rfl ?_
  obtain ⟨nv22, hnv22, h⟩ := lt1 h
  refine WL.yE (Y.assign rfl) (congrArg vi hnv22.symm) rfl ?_
  refine WL.nil ?_
  refine At.then ?_
  refine WC.seq ?_
  refine WC.block ?_
  refine WC.seq ?_
  refine WC.region ?_
  refine WL.y (Y.move rfl) rfl ?_
  refine WL.y (Y.gtr_i rfl rfl) rfl ?_
  obtain ⟨t23, ht23, h⟩ := lt1 h
  refine WL.yE (Y.assign rfl) (congrArg Value.bool ht23.symm) rfl ?_
  refine WL.nil ?_
  refine At.then ?_
  rcases cnd h with ⟨hc24, h⟩ | ⟨hc24, h⟩
  · refine WC.condT' rfl hc24 ?_
    refine WC.seq ?_
    refine WC.region ?_
    refine WL.y (Y.assign rfl) rfl ?_
    refine WL.nil ?_
    refine At.then ?_
    refine WC.ret ?_
    refine At.inBlockR ?_
    refine At.thenR ?_
    obtain rfl := some1 h
    have hs25 : Stp [] (Lg.O0 A) w O18 wd19 := (Stp.up hst20 rfl)
    exact At.res (.inl rfl) rfl (.tmp rfl .nil) ⟨rfl, (Stp.ext hs25 rfl rfl)⟩
  · refine WC.condF' rfl hc24 ?_
    refine WC.seq ?_
    refine WC.region ?_
    refine WL.y (Y.move rfl) rfl ?_
    refine WL.y (Y.eql_i rfl rfl) rfl ?_
    refine WL.y (Y.move rfl) rfl ?_
    refine WL.cut 4 (σ := Unit) (fun _ w' => wd19 = w') (fun _ => [(1, .pointer (some ⟨p17, 0, none⟩)), (3, vi nv22), (17, .bool ((decide (nv22 = 0)) && (!decide (a0.Offset = 0))))]) ?_ ?_
    · refine WL.part 13 rfl (fun hE26 => ?_) (fun hE26 => ?_)
      · refine WL.ung rfl rfl ?_
        refine WL.y (Y.fieldAddr fo25_0 rfl) rfl ?_
        refine WL.ung rfl rfl ?_
        refine WL.y (Y.loadSc ty3 rfl rfl (hb16.cell 0 _ rfl)) rfl ?_
        refine WL.ung rfl rfl ?_
        refine WL.y (Y.neq_i rfl rfl) rfl ?_
        refine WL.y (Y.pick (b := true) rfl rfl) rfl ?_
        refine WL.ren (v' := .bool ((decide (nv22 = 0)) && (!decide (a0.Offset = 0)))) 17 rfl (congrArg Value.bool (andT hE26)) ?_
        exact WL.nil (At.join () rfl (.cons rfl (.cons rfl (.cons rfl .nil))))
      · refine WL.gS rfl rfl rfl rfl ?_
        refine WL.gS rfl rfl rfl rfl ?_
        refine WL.gS rfl rfl rfl rfl ?_
        refine WL.y (Y.pick (b := false) rfl rfl) rfl ?_
        refine WL.ren (v' := .bool ((decide (nv22 = 0)) && (!decide (a0.Offset = 0)))) 17 rfl (congrArg Value.bool (andF hE26)) ?_
        exact WL.nil (At.join () rfl (.cons rfl (.cons rfl (.cons rfl .nil))))
    · rintro _ _ rfl
      refine (show WL _ _ _ _ _ [(1, .pointer (some ⟨p17, 0, none⟩)), (3, vi nv22), (17, .bool ((decide (nv22 = 0)) && (!decide (a0.Offset = 0))))] _ from ?_)
      obtain ⟨t27, ht27, h⟩ := lt1 h
      refine WL.yE (Y.assign rfl) (congrArg Value.bool ht27.symm) rfl ?_
      refine WL.nil ?_
      refine At.then ?_
      rcases cnd h with ⟨hc28, h⟩ | ⟨hc28, h⟩
      · refine WC.condT' rfl hc28 ?_
        refine WC.seq ?_
        refine WC.region ?_
        refine WL.y (Y.assign rfl) rfl ?_
        refine WL.nil ?_
        refine At.then ?_
        refine WC.ret ?_
        refine At.inBlockR ?_
        refine At.thenR ?_
        obtain rfl := some1 h
        have hs29 : Stp [] (Lg.O0 A) w O18 wd19 := (Stp.up hst20 rfl)
        exact At.res (.inl rfl) rfl (.tmp rfl .nil) ⟨rfl, (Stp.ext hs29 rfl rfl)⟩
      · refine WC.condF' rfl hc28 ?_
        refine WC.seq ?_
        refine WC.region ?_
        refine WL.y (Y.move rfl) rfl ?_
        refine WL.y (Y.eql_i rfl rfl) rfl ?_
        obtain ⟨t30, ht30, h⟩ := lt1 h
        refine WL.yE (Y.assign rfl) (congrArg Value.bool ht30.symm) rfl ?_
        refine WL.nil ?_
        refine At.then ?_
        rcases cnd h with ⟨hc31, h⟩ | ⟨hc31, h⟩
        · refine WC.condT' rfl hc31 ?_
          refine WC.seq ?_
          refine WC.region ?_
          refine WL.y (Y.assign rfl) rfl ?_
          refine WL.nil ?_
          refine At.then ?_
          refine WC.ret ?_
          refine At.inBlockR ?_
          refine At.thenR ?_
          obtain rfl := some1 h
          have hs32 : Stp [] (Lg.O0 A) w O18 wd19 := (Stp.up hst20 rfl)
          exact At.res (.inl rfl) rfl (.tmp rfl .nil) ⟨rfl, (Stp.ext hs32 rfl rfl)⟩
        · refine WC.condF' rfl hc31 ?_
          refine WC.seq ?_
          refine WC.region ?_
          refine WL.y (Y.fieldAddr fo25_1 rfl) rfl ?_
          refine WL.y (Y.loadSc ty23 rfl rfl (hb16.cell 1 _ rfl)) rfl ?_
          obtain ⟨e33, he33, h⟩ := bnd h
          obtain ⟨b34, off42, cap41, cs40, hv35, hi36, hl37, hc38, hok39, hA43⟩ := Sl.at2 hf21 he33
          obtain rfl := hok39
          replace hc38 : CellsAt _ _ _ [vu e33] := hc38
          have hca44 := CAt.imm hc38 hA43
          refine WL.y (Y.indexAddr ty23 ty22 rfl hv35 rfl hi36 hl37) rfl ?_
          refine WL.y (Y.loadSc ty22 rfl rfl hca44.at_) rfl ?_
          refine WL.y (Y.eql_u (b := 0) rfl rfl) rfl ?_
          refine WL.y (Y.move rfl) rfl ?_
          obtain ⟨p46, h, hk47⟩ := bnd h
          refine WL.cut 8 (σ := Bool) (fun x w' => x = p46 ∧ wd19 = w') (fun x => [(1, .pointer (some ⟨p17, 0, none⟩)), (3, vi nv22), (35, .bool x)]) ?_ ?_
          · rcases cnd h with ⟨hE48, h⟩ | ⟨hE48, h⟩
            · refine WL.ren 27 rfl (congrArg Value.bool hE48) ?_
              refine WL.gS rfl rfl rfl rfl ?_
              refine WL.gS rfl rfl rfl rfl ?_
              refine WL.gS rfl rfl rfl rfl ?_
              refine WL.gS rfl rfl rfl rfl ?_
              refine WL.gS rfl rfl rfl rfl ?_
              refine WL.gS rfl rfl rfl rfl ?_
              refine WL.gS rfl rfl rfl rfl ?_
              refine WL.y (Y.pick (b := true) rfl rfl) rfl ?_
              exact WL.nil (At.join (σ := Bool) true ⟨some1 h, rfl⟩ (.cons rfl (.cons rfl (.cons rfl .nil))))
            · refine WL.ren 27 rfl (congrArg Value.bool hE48) ?_
              refine WL.ung rfl rfl ?_
              refine WL.y (Y.fieldAddr fo25_1 rfl) rfl ?_
              refine WL.ung rfl rfl ?_
              refine WL.y (Y.loadSc ty23 rfl rfl (hb16.cell 1 _ rfl)) rfl ?_
              refine WL.ung rfl rfl ?_
              refine WL.y (Y.move rfl) rfl ?_
              refine WL.ung rfl rfl ?_
              refine WL.y (Y.sub_i rfl rfl) rfl ?_
              refine WL.ung rfl rfl ?_
              obtain ⟨e49, he49, h⟩ := bnd h
              obtain ⟨b50, off58, cap57, cs56, hv51, hi52, hl53, hc54, hok55, hA59⟩ := Sl.at2 hf21 he49
              obtain rfl := hok55
              replace hc54 : CellsAt _ _ _ [vu e49] := hc54
              have hca60 := CAt.imm hc54 hA59
              refine WL.y (Y.indexAddr ty23 ty22 rfl hv51 rfl hi52 hl53) rfl ?_
              refine WL.ung rfl rfl ?_
              refine WL.y (Y.loadSc ty22 rfl rfl hca60.at_) rfl ?_
              refine WL.ung rfl rfl ?_
              refine WL.y (Y.eql_u (b := 0) rfl rfl) rfl ?_
              refine WL.y (Y.pick (b := false) rfl rfl) rfl ?_
              exact WL.nil (At.join (σ := Bool) (decide (e49 = 0)) ⟨some1 h, rfl⟩ (.cons rfl (.cons rfl (.cons rfl .nil))))
          · rintro x45 _ ⟨rfl, rfl⟩
            replace h := hk47
            try dsimp only at h
            refine (show WL _ _ _ _ _ [(1, .pointer (some ⟨p17, 0, none⟩)), (3, vi nv22), (35, .bool x45)] _ from ?_)
            refine WL.y (Y.assign rfl) rfl ?_
            refine WL.nil ?_
            refine At.then ?_
            rcases cnd h with ⟨hc61, h⟩ | ⟨hc61, h⟩
            · refine WC.condT' rfl hc61 ?_
              refine WC.seq ?_
              refine WC.region ?_
              refine WL.y (Y.assign rfl) rfl ?_
              refine WL.nil ?_
              refine At.then ?_
              refine WC.ret ?_
              refine At.inBlockR ?_
              refine At.thenR ?_
              obtain rfl := some1 h
              have hs62 : Stp [] (Lg.O0 A) w O18 wd19 := (Stp.up hst20 rfl)
              exact At.res (.inl rfl) rfl (.tmp rfl .nil) ⟨rfl, (Stp.ext hs62 rfl rfl)⟩
            · refine WC.condF' rfl hc61 ?_
              refine WC.seq ?_
              refine WC.region ?_
              refine WL.y (Y.fieldAddr fo25_0 rfl) rfl ?_
              refine WL.y (Y.loadSc ty3 rfl rfl (hb16.cell 0 _ rfl)) rfl ?_
              refine WL.y (Y.lss_i rfl rfl) rfl ?_
              refine WL.y (Y.move rfl) rfl ?_
              refine WL.cut 7 (σ := Unit) (fun _ w' => wd19 = w') (fun _ => [(47, .bool ((decide (a0.Offset < (-1073741824))) || (decide (w64 (1073741824 - (w64 (nv22 - 1))) < a0.Offset))))]) ?_ ?_
              · refine WL.part 40 rfl (fun hE63 => ?_) (fun hE63 => ?_)
                · refine WL.gS rfl rfl rfl rfl ?_
                  refine WL.gS rfl rfl rfl rfl ?_
                  refine WL.gS rfl rfl rfl rfl ?_
                  refine WL.gS rfl rfl rfl rfl ?_
                  refine WL.gS rfl rfl rfl rfl ?_
                  refine WL.gS rfl rfl rfl rfl ?_
                  refine WL.y (Y.pick (b := true) rfl rfl) rfl ?_
                  refine WL.ren (v' := .bool ((decide (a0.Offset < (-1073741824))) || (decide (w64 (1073741824 - (w64 (nv22 - 1))) < a0.Offset)))) 47 rfl (congrArg Value.bool (orT hE63)) ?_
                  exact WL.nil (At.join () rfl (.cons rfl .nil))
                · refine WL.ung rfl rfl ?_
                  refine WL.y (Y.fieldAddr fo25_0 rfl) rfl ?_
                  refine WL.ung rfl rfl ?_
                  refine WL.y (Y.loadSc ty3 rfl rfl (hb16.cell 0 _ rfl)) rfl ?_
                  refine WL.ung rfl rfl ?_
                  refine WL.y (Y.move rfl) rfl ?_
                  refine WL.ung rfl rfl ?_
                  refine WL.y (Y.sub_i rfl rfl) rfl ?_
                  refine WL.ung rfl rfl ?_
                  refine WL.y (Y.sub_i rfl rfl) rfl ?_
                  refine WL.ung rfl rfl ?_
                  refine WL.y (Y.gtr_i rfl rfl) rfl ?_
                  refine WL.y (Y.pick (b := false) rfl rfl) rfl ?_
                  refine WL.ren (v' := .bool ((decide (a0.Offset < (-1073741824))) || (decide (w64 (1073741824 - (w64 (nv22 - 1))) < a0.Offset)))) 47 rfl (congrArg Value.bool (orF hE63)) ?_
                  exact WL.nil (At.join () rfl (.cons rfl .nil))
              · rintro _ _ rfl
                refine (show WL _ _ _ _ _ [(47, .bool ((decide (a0.Offset < (-1073741824))) || (decide (w64 (1073741824 - (w64 (nv22 - 1))) < a0.Offset))))] _ from ?_)
                obtain ⟨t64, ht64, h⟩ := lt1 h
                refine WL.yE (Y.assign rfl) (congrArg Value.bool ht64.symm) rfl ?_
                refine WL.nil ?_
                refine At.then ?_
                rcases cnd h with ⟨hc65, h⟩ | ⟨hc65, h⟩
                · refine WC.condT' rfl hc65 ?_
                  refine WC.seq ?_
                  refine WC.region ?_
                  refine WL.y (Y.assign rfl) rfl ?_
                  refine WL.nil ?_
                  refine At.then ?_
                  refine WC.ret ?_
                  refine At.inBlockR ?_
                  refine At.thenR ?_
                  obtain rfl := some1 h
                  have hs66 : Stp [] (Lg.O0 A) w O18 wd19 := (Stp.up hst20 rfl)
                  exact At.res (.inl rfl) rfl (.tmp rfl .nil) ⟨rfl, (Stp.ext hs66 rfl rfl)⟩
                · refine WC.condF' rfl hc65 ?_
                  refine WC.skip ?_
                  refine At.inBlock ?_
                  refine At.then ?_
                  refine WC.seq ?_
                  refine WC.region ?_
                  refine WL.y (Y.assign rfl) rfl ?_
                  refine WL.nil ?_
                  refine At.then ?_
                  refine WC.ret ?_
                  obtain rfl := some1 h
                  have hs67 : Stp [] (Lg.O0 A) w O18 wd19 := (Stp.up hst20 rfl)
                  exact At.res (.inl rfl) rfl (.tmp rfl .nil) ⟨rfl, (Stp.ext hs67 rfl rfl)⟩

theorem c_hist_Check {A : Nat → Prop} {v0_3 : Value} {v0_5 : Value} {a0 : api_Hist} {w : World} (hs0_3 : Sl Rep.u w A v0_3 a0.Pos.Counts) (hs0_5 : Sl Rep.u w A v0_5 a0.Neg.Counts) {r0 : Int} (h : hist_Check a0 = some r0) : Rets Try.prog 19 [.agg [vi a0.Scale, vu a0.Zero, vi a0.Pos.Offset, v0_3, vi a0.Neg.Offset, v0_5].toArray] w (fun v w' => v = vi r0 ∧ Ext w w') := by
  unfold hist_Check at h
  refine Rets.enter Try.func19 rfl rfl ?_
  have hf11 : Sl Rep.u w (imm (Lg.O0 A)) v0_3 a0.Pos.Counts := (Sl.start hs0_3)
  have hf12 : Sl Rep.u w (imm (Lg.O0 A)) v0_5 a0.Neg.Counts := (Sl.start hs0_5)
  refine (show WC _ _ _ _ [(0, .agg [vi a0.Scale, vu a0.Zero, vi a0.Pos.Offset, v0_3, vi a0.Neg.Offset, v0_5].toArray)] _ from ?_)
  refine WC.seq ?_
  refine WC.region ?_
  have hh16 := h
  obtain ⟨p13, m14, c15, rfl⟩ := hf11.shape
  have h := hh16
  have hh20 := h
  obtain ⟨p17, m18, c19, rfl⟩ := hf12.shape
  have h := hh20
  refine WL.box (O := (Lg.O0 A)) 11 [vi a0.Scale, vu a0.Zero, vi a0.Pos.Offset, (.slice p13 m14 c15), vi a0.Neg.Offset, (.slice p17 m18 c19)] rfl rfl rfl ?_
  intro p22 O23 wd24 hst25 hb21
  refine WL.y (Y.assign rfl) rfl ?_
  refine WL.nil ?_
  refine At.then ?_
  refine WC.seq ?_
  refine WC.seq ?_
  refine WC.region ?_
  refine WL.y (Y.fieldAddr fo27_0 rfl) rfl ?_
  refine WL.y (Y.loadSc ty3 rfl rfl (hb21.cell 0 _ rfl)) rfl ?_
  refine WL.y (Y.lss_i rfl rfl) rfl ?_
  refine WL.y (Y.move rfl) rfl ?_
  refine WL.cut 4 (σ := Unit) (fun _ w' => wd24 = w') (fun _ => [(1, .pointer (some ⟨p22, 0, none⟩)), (15, .bool ((decide (a0.Scale < (-10))) || (decide (20 < a0.Scale))))]) ?_ ?_
  · refine WL.part 11 rfl (fun hE26 => ?_) (fun hE26 => ?_)
    · refine WL.gS rfl rfl rfl rfl ?_
      refine WL.gS rfl rfl rfl rfl ?_
      refine WL.gS rfl rfl rfl rfl ?_
      refine WL.y (Y.pick (b := true) rfl rfl) rfl ?_
      refine WL.ren (v' := .bool ((decide (a0.Scale < (-10))) || (decide (20 < a0.Scale)))) 15 rfl (congrArg Value.bool (orT hE26)) ?_
      exact WL.nil (At.join () rfl (.cons rfl (.cons rfl .nil)))
    · refine WL.ung rfl rfl ?_
      refine WL.y (Y.fieldAddr fo27_0 rfl) rfl ?_
      refine WL.ung rfl rfl ?_
      refine WL.y (Y.loadSc ty3 rfl rfl (hb21.cell 0 _ rfl)) rfl ?_
      refine WL.ung rfl rfl ?_
      refine WL.y (Y.gtr_i rfl rfl) rfl ?_
      refine WL.y (Y.pick (b := false) rfl rfl) rfl ?_
      refine WL.ren (v' := .bool ((decide (a0.Scale < (-10))) || (decide (20 < a0.Scale)))) 15 rfl (congrArg Value.bool (orF hE26)) ?_
      exact WL.nil (At.join () rfl (.cons rfl (.cons rfl .nil)))
  · rintro _ _ rfl
    refine (show WL _ _ _ _ _ [(1, .pointer (some ⟨p22, 0, none⟩)), (15, .bool ((decide (a0.Scale < (-10))) || (decide (20 < a0.Scale))))] _ from ?_)
    refine WL.nil ?_
    refine At.then ?_
    rcases cnd h with ⟨hc27, h⟩ | ⟨hc27, h⟩
    · refine WC.condT' rfl hc27 ?_
      refine WC.seq ?_
      refine WC.region ?_
      refine WL.y (Y.assign rfl) rfl ?_
      refine WL.nil ?_
      refine At.then ?_
      refine WC.ret ?_
      refine At.thenR ?_
      obtain rfl := some1 h
      have hs28 : Stp [] (Lg.O0 A) w O23 wd24 := (Stp.up hst25 rfl)
      exact At.res (.inl rfl) rfl (.tmp rfl .nil) ⟨rfl, (Stp.ext hs28 rfl rfl)⟩
    · refine WC.condF' rfl hc27 ?_
      refine WC.skip ?_
      refine At.then ?_
      refine WC.seq ?_
      refine WC.seq ?_
      refine WC.region ?_
      refine WL.y (Y.loadAg ty27 rfl rfl (hb21.cells 0 [vi a0.Scale, vu a0.Zero, vi a0.Pos.Offset, (.slice p13 m14 c15), vi a0.Neg.Offset, (.slice p17 m18 c19)] rfl) rfl) rfl ?_
      have hf29 := hf11.mono (imm_st hst25 rfl rfl)
      have hf30 := hf12.mono (imm_st hst25 rfl rfl)
      obtain ⟨r31, hp32, h⟩ := bnd h
      refine WL.call (vals := [.agg [vi a0.Scale, vu a0.Zero, vi a0.Pos.Offset, (.slice p13 m14 c15), vi a0.Neg.Offset, (.slice p17 m18 c19)].toArray]) kok57 rfl rfl (c_hist_sides (A := imm O23) (a0 := a0) hf29 hf30 hp32) ?_
      rintro vr38 wd37 ⟨cs33, rfl, hm36, f34, f35⟩
      obtain ⟨O39, hold40, hnew41, hst42⟩ := adoptE O23 (fun k => 1) hm36
      have hf43 := Rows'.adoptI (O := O23) f34 (fun _ hk => hk) (fun _ _ => Nat.le_refl _) hold40 hnew41
      refine WL.y (Y.move rfl) rfl ?_
      refine WL.nil ?_
      refine At.then ?_
      obtain ⟨p47, h, hk48⟩ := flow1 h
      refine WC.join (σ := Own) (fun x w' => p47 = .go () ∧ Stp [12] O39 wd37 x w') (fun x => [(1, .pointer (some ⟨p22, 0, none⟩))]) ?_ ?_
      · refine WC.block ?_
        obtain ⟨p56, h, hk58⟩ := flow1 h
        obtain ⟨k57, h⟩ := loop_some h
        refine WC.joinB 0 (σ := Own) (fun x w' => p56 = .go () ∧ Stp [12] O39 wd37 x w') (fun x => [(1, .pointer (some ⟨p22, 0, none⟩))]) ?_ ?_
        · refine WC.loop (σ := (Int × Own)) (fun x k w' => loopN k (hist_Check_lp1 r31) x.1 = some p56 ∧ Stp [12] O39 wd37 x.2 w') (fun x => [(1, .pointer (some ⟨p22, 0, none⟩)), (17, .agg cs33.toArray), (18, vi x.1)]) (0, O39) k57 (.cons rfl (.cons rfl (.cons rfl .nil))) ⟨h, (Stp.refl _ _ _)⟩ ?_
          rintro ⟨x49, O50⟩ k57 wd51 ⟨h, hst52⟩
          obtain ⟨j59, q60, rfl, h, hn61⟩ := rnd1 h
          unfold hist_Check_lp1 at h
          try dsimp only at h hst52
          refine (show WC _ _ _ _ [(1, .pointer (some ⟨p22, 0, none⟩)), (17, .agg cs33.toArray), (18, vi x49)] _ from ?_)
          refine WC.seq ?_
          refine WC.region ?_
          refine WL.y (Y.lss_i rfl rfl) rfl ?_
          refine WL.nil ?_
          refine At.then ?_
          refine WC.seq ?_
          rcases cnd h with ⟨hc62, h⟩ | ⟨hc62, h⟩
          · refine WC.condT' rfl hc62 ?_
            refine WC.skip ?_
            refine At.then ?_
            refine WC.seq ?_
            refine WC.block ?_
            refine WC.seq ?_
            refine WC.region ?_
            have hf63 := Rows'.mono (imm_st hst52 rfl rfl) hf43
            obtain ⟨e64, he64, h⟩ := bnd h
            obtain ⟨cs65, hcs66, hok67⟩ := arrAt (R := rep_api_Side) (w := wd51) (A := imm O50) (cells := cs33) hf63 he64
            obtain ⟨_, _, rfl, rfl, ⟨v68, rfl, hf69⟩⟩ := hok67
            replace hcs66 : _ = [vi e64.Offset, v68] := hcs66
            refine WL.y (Y.indexArrAg ty75 ty25 rfl rfl hcs66 he64 f35) rfl ?_
            refine WL.alloc (O := O50) 12 [vi 0, .slice none 0 0] ty25 rfl rfl ?_
            intro p71 O72 wd73 hst74 hb70
            have hf75 := hf69.mono (imm_st hst74 rfl rfl)
            have hh79 := h
            obtain ⟨p76, m77, c78, rfl⟩ := hf75.shape
            have h := hh79
            refine WL.store (v := .agg [vi e64.Offset, (.slice p76 m77 c78)].toArray) (cells' := [vi e64.Offset, (.slice p76 m77 c78)]) ty25 rfl rfl hb70 rfl (Nat.le_of_ble_eq_true rfl) rfl rfl ?_
            intro wd80 hst81 hb82
            refine WL.nil ?_
            refine At.then ?_
            refine WC.seq ?_
            refine WC.region ?_
            refine WL.y (Y.loadAg ty25 rfl rfl (hb82.cells 0 [vi e64.Offset, (.slice p76 m77 c78)] rfl) rfl) rfl ?_
            have hf83 := hf75.mono (imm_st hst81 rfl rfl)
            obtain ⟨r84, hp85, h⟩ := bnd h
            refine WL.call (vals := [.agg [vi e64.Offset, (.slice p76 m77 c78)].toArray]) kok60 rfl rfl (c_hist_check (A := fun _ => True) (a0 := e64) (Sl.all hf83) hp85) ?_
            rintro vr88 wd87 ⟨rfl, hm86⟩
            obtain ⟨O89, hold90, hnew91, hst92⟩ := adoptE O72 (fun k => 1) hm86
            refine WL.y (Y.assign rfl) rfl ?_
            refine WL.nil ?_
            refine At.then ?_
            refine WC.seq ?_
            refine WC.region ?_
            refine WL.y (Y.move rfl) rfl ?_
            refine WL.y (Y.neq_i rfl rfl) rfl ?_
            refine WL.nil ?_
            refine At.then ?_
            rcases cnd h with ⟨hc93, h⟩ | ⟨hc93, h⟩
            · refine WC.condT' rfl hc93 ?_
              refine WC.seq ?_
              refine WC.region ?_
              refine WL.y (Y.move rfl) rfl ?_
              refine WL.y (Y.assign rfl) rfl ?_
              refine WL.nil ?_
              refine At.then ?_
              refine WC.ret ?_
              refine At.inBlockR ?_
              refine At.thenR ?_
              refine At.loopR ?_
              have h := outr1 h hn61 hk58
              refine At.joinBR ?_
              refine At.inBlockR ?_
              have h := outs1 h hk48
              refine At.joinR ?_
              refine At.thenR ?_
              obtain rfl := some1 h
              have hs94 : Stp [12] (Lg.O0 A) w O89 wd87 := (Stp.trans (Stp.up hst25 rfl) (Stp.trans (Stp.up hst42 rfl) (Stp.trans (Stp.up hst52 rfl) (Stp.trans (Stp.up hst74 rfl) (Stp.trans (Stp.up hst81 rfl) (Stp.up hst92 rfl))))))
              exact At.res (.inl rfl) rfl (.tmp rfl .nil) ⟨rfl, (Stp.ext hs94 rfl rfl)⟩
            · refine WC.condF' rfl hc93 ?_
              refine WC.skip ?_
              refine At.inBlock ?_
              refine At.then ?_
              refine WC.region ?_
              refine WL.y (Y.add_i rfl rfl) rfl ?_
              refine WL.y (Y.move rfl) rfl ?_
              refine WL.nil ?_
              exact At.round (w64 (x49 + 1), O89) j59 (Nat.lt_succ_self _) ⟨next1 h hn61, (Stp.trans (Stp.up hst52 rfl) (Stp.trans (Stp.up hst74 rfl) (Stp.trans (Stp.up hst81 rfl) (Stp.up hst92 rfl))))⟩ (.cons rfl (.cons rfl (.cons rfl .nil)))
          · refine WC.condF' rfl hc62 ?_
            refine WC.exit ?_
            refine At.thenX ?_
            refine At.loopX ?_
            exact At.hitB (σ := Own) O50 ⟨brk1 h hn61, (Stp.up hst52 rfl)⟩ (.cons rfl .nil)
        · rintro O53 wd54 ⟨rfl, hst55⟩
          replace h := flowK_go hk58
          refine (show At _ _ _ [(1, .pointer (some ⟨p22, 0, none⟩))] _ from ?_)
          refine At.inBlockHit ?_
          exact At.join (σ := Own) O53 ⟨go2 h, (Stp.up hst55 rfl)⟩ (.cons rfl .nil)
      · rintro O44 wd45 ⟨rfl, hst46⟩
        replace h := flowK_go hk48
        refine (show At _ _ _ [(1, .pointer (some ⟨p22, 0, none⟩))] _ from ?_)
        refine At.then ?_
        refine WC.seq ?_
        refine WC.seq ?_
        refine WC.region ?_
        have hf95 := hb21.st hst42 rfl
        have hf96 := hf95.st hst46 rfl
        refine WL.y (Y.loadAg ty27 rfl rfl (hf96.cells 0 [vi a0.Scale, vu a0.Zero, vi a0.Pos.Offset, (.slice p13 m14 c15), vi a0.Neg.Offset, (.slice p17 m18 c19)] rfl) rfl) rfl ?_
        have hf97 := hf29.mono (imm_st hst42 rfl rfl)
        have hf98 := hf97.mono (imm_st hst46 rfl rfl)
        have hf99 := hf30.mono (imm_st hst42 rfl rfl)
        have hf100 := hf99.mono (imm_st hst46 rfl rfl)
        obtain ⟨⟨r101, r102⟩, hp103, h⟩ := bnd h
        refine WL.call (vals := [.agg [vi a0.Scale, vu a0.Zero, vi a0.Pos.Offset, (.slice p13 m14 c15), vi a0.Neg.Offset, (.slice p17 m18 c19)].toArray]) kok17 rfl rfl (c_hist_Total (A := fun _ => True) (a0 := a0) (Sl.all hf98) (Sl.all hf100) hp103) ?_
        rintro vr106 wd105 ⟨rfl, hm104⟩
        obtain ⟨O107, hold108, hnew109, hst110⟩ := adoptE O44 (fun k => 1) hm104
        refine WL.y (Y.move rfl) rfl ?_
        refine WL.y (Y.extract rfl rfl) rfl ?_
        refine WL.y (Y.extract rfl rfl) rfl ?_
        refine WL.y (Y.assign rfl) rfl ?_
        refine WL.y (Y.assign rfl) rfl ?_
        refine WL.nil ?_
        refine At.then ?_
        refine WC.seq ?_
        refine WC.region ?_
        refine WL.y (Y.move rfl) rfl ?_
        refine WL.y (Y.not rfl) rfl ?_
        refine WL.nil ?_
        refine At.then ?_
        rcases cnd h with ⟨hc111, h⟩ | ⟨hc111, h⟩
        · refine WC.condT' rfl hc111 ?_
          refine WC.seq ?_
          refine WC.region ?_
          refine WL.y (Y.assign rfl) rfl ?_
          refine WL.nil ?_
          refine At.then ?_
          refine WC.ret ?_
          refine At.thenR ?_
          obtain rfl := some1 h
          have hs112 : Stp [12] (Lg.O0 A) w O107 wd105 := (Stp.trans (Stp.up hst25 rfl) (Stp.trans (Stp.up hst42 rfl) (Stp.trans (Stp.up hst46 rfl) (Stp.up hst110 rfl))))
          exact At.res (.inl rfl) rfl (.tmp rfl .nil) ⟨rfl, (Stp.ext hs112 rfl rfl)⟩
        · refine WC.condF' rfl hc111 ?_
          refine WC.skip ?_
          refine At.then ?_
          refine WC.seq ?_
          refine WC.region ?_
          refine WL.y (Y.assign rfl) rfl ?_
          refine WL.nil ?_
          refine At.then ?_
          refine WC.ret ?_
          obtain rfl := some1 h
          have hs113 : Stp [12] (Lg.O0 A) w O107 wd105 := (Stp.trans (Stp.up hst25 rfl) (Stp.trans (Stp.up hst42 rfl) (Stp.trans (Stp.up hst46 rfl) (Stp.up hst110 rfl))))
          exact At.res (.inl rfl) rfl (.tmp rfl .nil) ⟨rfl, (Stp.ext hs113 rfl rfl)⟩

theorem c_hist_span {A : Nat → Prop} {v0_1 : Value} {a0 : api_Side} {a1 : UInt64} {w : World} (hs0_1 : Sl Rep.u w A v0_1 a0.Counts) {r0 : Int} (h : hist_span a0 a1 = some r0) : Rets Try.prog 64 [.agg [vi a0.Offset, v0_1].toArray, vu a1] w (fun v w' => v = vi r0 ∧ Ext w w') := by
  unfold hist_span at h
  refine Rets.enter Try.func64 rfl rfl ?_
  have hf11 : Sl Rep.u w (imm (Lg.O0 A)) v0_1 a0.Counts := (Sl.start hs0_1)
  refine (show WC _ _ _ _ [(0, .agg [vi a0.Offset, v0_1].toArray), (1, vu a1)] _ from ?_)
  refine WC.seq ?_
  refine WC.region ?_
  have hh15 := h
  obtain ⟨p12, m13, c14, rfl⟩ := hf11.shape
  have h := hh15
  refine WL.box (O := (Lg.O0 A)) 11 [vi a0.Offset, (.slice p12 m13 c14)] rfl rfl rfl ?_
  intro p17 O18 wd19 hst20 hb16
  refine WL.y (Y.assign rfl) rfl ?_
  refine WL.nil ?_
  refine At.then ?_
  refine WC.seq ?_
  refine WC.region ?_
  refine WL.y (Y.fieldAddr fo25_1 rfl) rfl ?_
  refine WL.y (Y.loadSc ty23 rfl rfl (hb16.cell 1 _ rfl)) rfl ?_
  have hf21 := hf11.mono (imm_st hst20 rfl rfl)
  refine WL.y (Y.len ty23 rfl hf21) rfl ?_
  obtain ⟨nv22, hnv22, h⟩ := lt1 h
  refine WL.yE (Y.assign rfl) (congrArg vi hnv22.symm) rfl ?_
  refine WL.nil ?_
  refine At.then ?_
  refine WC.seq ?_
  refine WC.seq ?_
  refine WC.region ?_
  refine WL.y (Y.move rfl) rfl ?_
  refine WL.y (Y.eql_i rfl rfl) rfl ?_
  refine WL.nil ?_
  refine At.then ?_
  rcases cnd h with ⟨hc23, h⟩ | ⟨hc23, h⟩
  · refine WC.condT' rfl hc23 ?_
    refine WC.seq ?_
    refine WC.region ?_
    refine WL.y (Y.assign rfl) rfl ?_
    refine WL.nil ?_
    refine At.then ?_
    refine WC.ret ?_
    refine At.thenR ?_
    obtain rfl := some1 h
    have hs24 : Stp [] (Lg.O0 A) w O18 wd19 := (Stp.up hst20 rfl)
    exact At.res (.inl rfl) rfl (.tmp rfl .nil) ⟨rfl, (Stp.ext hs24 rfl rfl)⟩
  · refine WC.condF' rfl hc23 ?_
    refine WC.skip ?_
    refine At.then ?_
    refine WC.seq ?_
    refine WC.region ?_
    refine WL.y (Y.fieldAddr fo25_0 rfl) rfl ?_
    refine WL.y (Y.loadSc ty3 rfl rfl (hb16.cell 0 _ rfl)) rfl ?_
    refine WL.y (Y.move rfl) rfl ?_
    refine WL.y (Y.add_i rfl rfl) rfl ?_
    refine WL.y (Y.sub_i rfl rfl) rfl ?_
    refine WL.y (Y.move rfl) rfl ?_
    refine WL.y (Y.shr_iu rfl rfl) rfl ?_
    refine WL.y (Y.fieldAddr fo25_0 rfl) rfl ?_
    refine WL.y (Y.loadSc ty3 rfl rfl (hb16.cell 0 _ rfl)) rfl ?_
    refine WL.y (Y.move rfl) rfl ?_
    refine WL.y (Y.shr_iu rfl rfl) rfl ?_
    refine WL.y (Y.sub_i rfl rfl) rfl ?_
    refine WL.y (Y.add_i rfl rfl) rfl ?_
    obtain ⟨t25, ht25, h⟩ := lt1 h
    refine WL.yE (Y.assign rfl) (congrArg vi ht25.symm) rfl ?_
    refine WL.nil ?_
    refine At.then ?_
    refine WC.ret ?_
    obtain rfl := some1 h
    have hs26 : Stp [] (Lg.O0 A) w O18 wd19 := (Stp.up hst20 rfl)
    exact At.res (.inl rfl) rfl (.tmp rfl .nil) ⟨rfl, (Stp.ext hs26 rfl rfl)⟩

theorem c_hist_down {A : Nat → Prop} {v0_1 : Value} {a0 : api_Side} {a1 : UInt64} {w : World} (hs0_1 : Sl Rep.u w A v0_1 a0.Counts) {r0 : api_Side} (h : hist_down a0 a1 = some r0) : Rets Try.prog 62 [.agg [vi a0.Offset, v0_1].toArray, vu a1] w (fun v w' => ∃ (u0_1 : Value), v = .agg (List.toArray [vi r0.Offset, u0_1]) ∧ Ext w w' ∧ Sl Rep.u w' (fun k => w.heap.size ≤ k) u0_1 r0.Counts) := by
  unfold hist_down at h
  refine Rets.enter Try.func62 rfl rfl ?_
  have hf11 : Sl Rep.u w (imm (Lg.O0 A)) v0_1 a0.Counts := (Sl.start hs0_1)
  refine (show WC _ _ _ _ [(0, .agg [vi a0.Offset, v0_1].toArray), (1, vu a1)] _ from ?_)
  refine WC.seq ?_
  refine WC.region ?_
  have hh15 := h
  obtain ⟨p12, m13, c14, rfl⟩ := hf11.shape
  have h := hh15
  refine WL.box (O := (Lg.O0 A)) 11 [vi a0.Offset, (.slice p12 m13 c14)] rfl rfl rfl ?_
  intro p17 O18 wd19 hst20 hb16
  refine WL.alloc (O := O18) 12 [vi 0, .slice none 0 0] ty25 rfl rfl ?_
  intro p22 O23 wd24 hst25 hb21
  refine WL.nil ?_
  refine At.then ?_
  refine WC.seq ?_
  refine WC.seq ?_
  refine WC.region ?_
  refine WL.y (Y.fieldAddr fo25_1 rfl) rfl ?_
  have hf26 := hb16.st hst25 rfl
  refine WL.y (Y.loadSc ty23 rfl rfl (hf26.cell 1 _ rfl)) rfl ?_
  have hf27 := hf11.mono (imm_st hst20 rfl rfl)
  have hf28 := hf27.mono (imm_st hst25 rfl rfl)
  refine WL.y (Y.len ty23 rfl hf28) rfl ?_
  refine WL.y (Y.eql_i rfl rfl) rfl ?_
  refine WL.nil ?_
  refine At.then ?_
  rcases cnd h with ⟨hc29, h⟩ | ⟨hc29, h⟩
  · refine WC.condT' rfl hc29 ?_
    refine WC.seq ?_
    refine WC.region ?_
    refine WL.y (Y.build (vals := []) (cells := [vi 0, .slice none 0 0]) (Fits.evalp rfl) (by kernel_rfl)) rfl ?_
    refine WL.store (v := .agg [vi 0, .slice none 0 0].toArray) (cells' := [vi 0, .slice none 0 0]) ty25 rfl rfl hb21 rfl (Nat.le_of_ble_eq_true rfl) rfl rfl ?_
    intro wd30 hst31 hb32
    refine WL.nil ?_
    refine At.then ?_
    refine WC.ret ?_
    refine At.thenR ?_
    obtain rfl := some1 h
    have hs33 : Stp [12] (Lg.O0 A) w O23 wd30 := (Stp.trans (Stp.up hst20 rfl) (Stp.trans (Stp.up hst25 rfl) (Stp.up hst31 rfl)))
    exact At.res (.inl rfl) rfl (.cell rfl (hb32.runAg 0 [vi 0, .slice none 0 0] ty25 rfl rfl rfl) .nil) ⟨.slice none 0 0, rfl, (Stp.ext hs33 rfl rfl), (Or.inl ⟨rfl, rfl⟩)⟩
  · refine WC.condF' rfl hc29 ?_
    refine WC.skip ?_
    refine At.then ?_
    refine WC.seq ?_
    refine WC.drawH [13, 14, 15, 16, 17, 18, 1001, 1002] [0, 1, 2, 3, 4, 5, 6, 7, 8, 9] O23 11 fmix rfl (by kernel_rfl) ?_
    intro wd34 hst35
    refine WD.y 0 rfl (by kernel_rfl) (fun _ _ _ => Y.fieldAddr fo25_0 rfl) rfl ?_
    refine WD.y 1 rfl (by kernel_rfl) (fun wd40 O39 hst41 => have hf42 := hf26.st hst35 rfl; have hf43 := hf42.st hst41 rfl; Y.loadSc ty3 rfl rfl (hf43.cell 0 _ rfl)) rfl ?_
    refine WD.y 2 rfl (by kernel_rfl) (fun _ _ _ => Y.move rfl) rfl ?_
    refine WD.y 3 rfl (by kernel_rfl) (fun _ _ _ => Y.shr_iu rfl rfl) rfl ?_
    refine WD.y 4 rfl (by kernel_rfl) (fun wd51 O50 hst52 => have hf53 := hf26.st hst35 rfl; have hf54 := hf53.st hst52 rfl; Y.loadAg ty25 rfl rfl (hf54.cells 0 [vi a0.Offset, (.slice p12 m13 c14)] rfl) rfl) rfl ?_
    refine WD.y 5 rfl (by kernel_rfl) (fun _ _ _ => Y.move rfl) rfl ?_
    obtain ⟨p66, h, hk67⟩ := bnd h
    refine WD.join (σ := (List UInt64 × Own × Nat × Value)) (f' := 1) [9, 8, 7, 6, 5, 4, 3, 2, 1, 0] (fun x O' w' => x.1 = p66 ∧ Stp [13, 14, 15, 16, 17, 18, 1001, 1002] O23 wd34 x.2.1 w' ∧ Blk 1003 x.2.1 w' x.2.2.1 25 [vi 0, .slice none 0 0] ∧ OwnSl 1004 Rep.u 22 x.2.1 w' x.2.2.2 x.1 ∧ x.2.1 = O') (fun x => [(1, vu a1), (2, .pointer (some ⟨p17, 0, none⟩)), (4, .pointer (some ⟨p22, 0, none⟩)), (5, .pointer (some ⟨x.2.2.1, 0, none⟩)), (21, .agg [vi (shrI a0.Offset a1.toNat), x.2.2.2].toArray)]) (fun hJ68 => ?_) ?_
    · refine WD.heavy2 6 9 rfl rfl (by kernel_rfl) ?_ ?_
      · have hf69 := hf28.mono (imm_st hst35 rfl rfl)
        obtain ⟨r70, hp71, h⟩ := bnd h
        refine WL.call (vals := [.agg [vi a0.Offset, (.slice p12 m13 c14)].toArray, vu a1]) kok64 rfl rfl (c_hist_span (A := fun _ => True) (a0 := a0) (Sl.all hf69) hp71) ?_
        rintro vr74 wd73 ⟨rfl, hm72⟩
        obtain ⟨O75, hold76, hnew77, hst78⟩ := adoptE O23 (fun k => 1) hm72
        refine WL.nil ?_
        refine At.dq (Stp.up hst78 rfl) ?_
        obtain ⟨p87, h, hk88⟩ := bnd h
        refine WD.join (σ := (List UInt64 × Own × Nat × Value)) (f' := 1) [9, 8, 7, 6, 5, 4, 3, 2, 1, 0] (fun x O' w' => x.1 = p87 ∧ Stp [13, 14, 15, 16] O75 wd73 x.2.1 w' ∧ Blk 1001 x.2.1 w' x.2.2.1 25 [vi 0, .slice none 0 0] ∧ OwnSl 1002 Rep.u 22 x.2.1 w' x.2.2.2 x.1 ∧ x.2.1 = O') (fun x => [(1, vu a1), (2, .pointer (some ⟨p17, 0, none⟩)), (4, .pointer (some ⟨p22, 0, none⟩)), (5, .pointer (some ⟨x.2.2.1, 0, none⟩)), (21, .agg [vi (shrI a0.Offset a1.toNat), x.2.2.2].toArray)]) (fun hJ89 => ?_) ?_
        · refine WD.heavy2 7 9 rfl rfl (by kernel_rfl) ?_ ?_
          · obtain ⟨t90, ht90, h⟩ := bnd h
            refine WL.make (O := O75) (R := Rep.u) (zx := (0 : UInt64)) 13 (by decide) ty23 ty22 rfl (by decide) (by decide) rfl rfl (fun _ _ => rfl) ht90 rfl ?_
            intro v91 O93 wd94 hst95 ho92
            refine WL.nil ?_
            refine At.dq (Stp.up hst95 rfl) ?_
            have hh99 := h
            obtain ⟨p96, m97, c98, rfl⟩ := ho92.shape
            have h := hh99
            refine WD.y 8 rfl (by kernel_rfl) (fun _ _ _ => Y.build (vals := [(0, vi (shrI a0.Offset a1.toNat)), (1, (.slice p96 m97 c98))]) (cells := [vi (shrI a0.Offset a1.toNat), (.slice p96 m97 c98)]) (Fits.evalp rfl) (by kernel_rfl)) rfl ?_
            refine WD.heavy 9 rfl (by kernel_rfl) ?_
            refine WL.alloc (O := O93) 14 [vi 0, .slice none 0 0] ty25 rfl rfl ?_
            intro p104 O105 wd106 hst107 hb103
            refine WL.nil ?_
            refine At.dq (Stp.up hst107 rfl) ?_
            obtain ⟨O108, hst109, hb110⟩ := Blk.rlb 1001 rfl hb103
            have hf111 := ho92.st hst107 rfl rfl rfl
            have hf112 := hf111.st hst109 rfl rfl rfl
            obtain ⟨O113, hst114, ho115⟩ := OwnSl.rlb 1002 rfl hf112
            have hf116 := hb110.st hst114 rfl
            refine WD.own (Stp.trans (Stp.up hst109 rfl) (Stp.up hst114 rfl)) ?_
            refine WD.perm _ [9, 8, 7, 6, 5, 4, 3, 2, 1, 0] (by kernel_rfl) ?_
            exact hJ89 (t90, O113, p104, (.slice p96 m97 c98)) _ _ _ ⟨some1 h, (Stp.trans (Stp.up hst95 rfl) (Stp.trans (Stp.up hst107 rfl) (Stp.trans (Stp.up hst109 rfl) (Stp.up hst114 rfl)))), hf116, ho115, rfl⟩ (.cons rfl (.cons rfl (.cons rfl (.cons rfl (.cons rfl .nil)))))
          · try simp only [Option.bind_assoc, Option.bind_some] at h
            refine WL.alloc (O := O75) 15 [vi 0, .slice none 0 0] ty25 rfl rfl ?_
            intro p118 O119 wd120 hst121 hb117
            refine WL.nil ?_
            refine At.dq (Stp.up hst121 rfl) ?_
            refine WD.heavy 7 rfl (by kernel_rfl) ?_
            obtain ⟨t122, ht122, h⟩ := bnd h
            refine WL.make (O := O119) (R := Rep.u) (zx := (0 : UInt64)) 16 (by decide) ty23 ty22 rfl (by decide) (by decide) rfl rfl (fun _ _ => rfl) ht122 rfl ?_
            intro v123 O125 wd126 hst127 ho124
            refine WL.nil ?_
            refine At.dq (Stp.up hst127 rfl) ?_
            have hh131 := h
            obtain ⟨p128, m129, c130, rfl⟩ := ho124.shape
            have h := hh131
            refine WD.y 8 rfl (by kernel_rfl) (fun _ _ _ => Y.build (vals := [(0, vi (shrI a0.Offset a1.toNat)), (1, (.slice p128 m129 c130))]) (cells := [vi (shrI a0.Offset a1.toNat), (.slice p128 m129 c130)]) (Fits.evalp rfl) (by kernel_rfl)) rfl ?_
            have hf135 := hb117.st hst127 rfl
            obtain ⟨O136, hst137, hb138⟩ := Blk.rlb 1001 rfl hf135
            have hf139 := ho124.st hst137 rfl rfl rfl
            obtain ⟨O140, hst141, ho142⟩ := OwnSl.rlb 1002 rfl hf139
            have hf143 := hb138.st hst141 rfl
            refine WD.own (Stp.trans (Stp.up hst137 rfl) (Stp.up hst141 rfl)) ?_
            refine WD.perm _ [9, 8, 7, 6, 5, 4, 3, 2, 1, 0] (by kernel_rfl) ?_
            exact hJ89 (t122, O140, p118, (.slice p128 m129 c130)) _ _ _ ⟨some1 h, (Stp.trans (Stp.up hst121 rfl) (Stp.trans (Stp.up hst127 rfl) (Stp.trans (Stp.up hst137 rfl) (Stp.up hst141 rfl)))), hf143, ho142, rfl⟩ (.cons rfl (.cons rfl (.cons rfl (.cons rfl (.cons rfl .nil)))))
        · rintro ⟨x81, O84, b79, v82⟩ _ wd85 ⟨rfl, hst86, hb80, hf83, rfl⟩
          replace h := hk88
          try dsimp only at h hst86 hb80 hf83
          refine (show WD _ _ _ _ _ _ _ _ [(1, vu a1), (2, .pointer (some ⟨p17, 0, none⟩)), (4, .pointer (some ⟨p22, 0, none⟩)), (5, .pointer (some ⟨b79, 0, none⟩)), (21, .agg [vi (shrI a0.Offset a1.toNat), v82].toArray)] _ _ from ?_)
          obtain ⟨O144, hst145, hb146⟩ := Blk.rlb 1003 rfl hb80
          have hf147 := hf83.st hst145 rfl rfl rfl
          obtain ⟨O148, hst149, ho150⟩ := OwnSl.rlb 1004 rfl hf147
          have hf151 := hb146.st hst149 rfl
          refine WD.own (Stp.trans (Stp.up hst145 rfl) (Stp.up hst149 rfl)) ?_
          refine WD.perm _ [9, 8, 7, 6, 5, 4, 3, 2, 1, 0] (by kernel_rfl) ?_
          exact hJ68 (x81, O148, b79, v82) _ _ _ ⟨some1 h, (Stp.trans (Stp.up hst78 rfl) (Stp.trans (Stp.up hst86 rfl) (Stp.trans (Stp.up hst145 rfl) (Stp.up hst149 rfl)))), hf151, ho150, rfl⟩ (.cons rfl (.cons rfl (.cons rfl (.cons rfl (.cons rfl .nil)))))
      · try simp only [Option.bind_assoc, Option.bind_some] at h
        refine WL.alloc (O := O23) 17 [vi 0, .slice none 0 0] ty25 rfl rfl ?_
        intro p153 O154 wd155 hst156 hb152
        refine WL.nil ?_
        refine At.dq (Stp.up hst156 rfl) ?_
        refine WD.heavy 6 rfl (by kernel_rfl) ?_
        have hf157 := hf28.mono (imm_st hst35 rfl rfl)
        have hf158 := hf157.mono (imm_st hst156 rfl rfl)
        obtain ⟨r159, hp160, h⟩ := bnd h
        refine WL.call (vals := [.agg [vi a0.Offset, (.slice p12 m13 c14)].toArray, vu a1]) kok64 rfl rfl (c_hist_span (A := fun _ => True) (a0 := a0) (Sl.all hf158) hp160) ?_
        rintro vr163 wd162 ⟨rfl, hm161⟩
        obtain ⟨O164, hold165, hnew166, hst167⟩ := adoptE O154 (fun k => 1) hm161
        refine WL.nil ?_
        refine At.dq (Stp.up hst167 rfl) ?_
        refine WD.heavy 7 rfl (by kernel_rfl) ?_
        obtain ⟨t168, ht168, h⟩ := bnd h
        refine WL.make (O := O164) (R := Rep.u) (zx := (0 : UInt64)) 18 (by decide) ty23 ty22 rfl (by decide) (by decide) rfl rfl (fun _ _ => rfl) ht168 rfl ?_
        intro v169 O171 wd172 hst173 ho170
        refine WL.nil ?_
        refine At.dq (Stp.up hst173 rfl) ?_
        have hh177 := h
        obtain ⟨p174, m175, c176, rfl⟩ := ho170.shape
        have h := hh177
        refine WD.y 8 rfl (by kernel_rfl) (fun _ _ _ => Y.build (vals := [(0, vi (shrI a0.Offset a1.toNat)), (1, (.slice p174 m175 c176))]) (cells := [vi (shrI a0.Offset a1.toNat), (.slice p174 m175 c176)]) (Fits.evalp rfl) (by kernel_rfl)) rfl ?_
        have hf181 := hb152.st hst167 rfl
        have hf182 := hf181.st hst173 rfl
        obtain ⟨O183, hst184, hb185⟩ := Blk.rlb 1003 rfl hf182
        have hf186 := ho170.st hst184 rfl rfl rfl
        obtain ⟨O187, hst188, ho189⟩ := OwnSl.rlb 1004 rfl hf186
        have hf190 := hb185.st hst188 rfl
        refine WD.own (Stp.trans (Stp.up hst184 rfl) (Stp.up hst188 rfl)) ?_
        refine WD.perm _ [9, 8, 7, 6, 5, 4, 3, 2, 1, 0] (by kernel_rfl) ?_
        exact hJ68 (t168, O187, p153, (.slice p174 m175 c176)) _ _ _ ⟨some1 h, (Stp.trans (Stp.up hst156 rfl) (Stp.trans (Stp.up hst167 rfl) (Stp.trans (Stp.up hst173 rfl) (Stp.trans (Stp.up hst184 rfl) (Stp.up hst188 rfl))))), hf190, ho189, rfl⟩ (.cons rfl (.cons rfl (.cons rfl (.cons rfl (.cons rfl .nil)))))
    · rintro ⟨x60, O63, b58, v61⟩ _ wd64 ⟨rfl, hst65, hb59, hf62, rfl⟩
      replace h := hk67
      try dsimp only at h hst65 hb59 hf62
      refine (show WD _ _ _ _ _ _ _ _ [(1, vu a1), (2, .pointer (some ⟨p17, 0, none⟩)), (4, .pointer (some ⟨p22, 0, none⟩)), (5, .pointer (some ⟨b58, 0, none⟩)), (21, .agg [vi (shrI a0.Offset a1.toNat), v61].toArray)] _ _ from ?_)
      refine WD.phase [1003] [0, 1, 2, 3, 4, 5, 6, 7, 8, 9, 10] (by kernel_rfl) (by kernel_rfl) ?_
      refine WD.heavy 10 rfl (by kernel_rfl) ?_
      have hh194 := h
      obtain ⟨p191, m192, c193, rfl⟩ := hf62.shape
      have h := hh194
      refine WL.store (v := .agg [vi (shrI a0.Offset a1.toNat), (.slice p191 m192 c193)].toArray) (cells' := [vi (shrI a0.Offset a1.toNat), (.slice p191 m192 c193)]) ty25 rfl rfl hb59 rfl (Nat.le_of_ble_eq_true rfl) rfl rfl ?_
      intro wd195 hst196 hb197
      refine WL.nil ?_
      refine At.dq (Stp.up hst196 rfl) ?_
      refine WD.done_ (by kernel_rfl) ?_
      refine At.then ?_
      refine WC.seq ?_
      refine WC.seq ?_
      refine WC.region ?_
      refine WL.y (Y.fieldAddr fo25_1 rfl) rfl ?_
      have hf198 := hf26.st hst35 rfl
      have hf199 := hf198.st hst65 rfl
      have hf200 := hf199.st hst196 rfl
      refine WL.y (Y.loadSc ty23 rfl rfl (hf200.cell 1 _ rfl)) rfl ?_
      have hf201 := hf28.mono (imm_st hst35 rfl rfl)
      have hf202 := hf201.mono (imm_st hst65 rfl rfl)
      have hf203 := hf202.mono (imm_st hst196 rfl rfl)
      refine WL.y (Y.len ty23 rfl hf203) rfl ?_
      refine WL.y (Y.move rfl) rfl ?_
      refine WL.nil ?_
      refine At.then ?_
      refine WC.block ?_
      obtain ⟨p217, h, hk219⟩ := flow1 h
      obtain ⟨k218, h⟩ := loop_some h
      refine WC.joinB 0 (σ := (List UInt64 × Own)) (fun x w' => p217 = .go x.1 ∧ Stp [1004, 1005] O63 wd195 x.2 w' ∧ OwnSl 1006 Rep.u 22 x.2 w' (.slice p191 m192 c193) x.1) (fun x => [(4, .pointer (some ⟨p22, 0, none⟩)), (5, .pointer (some ⟨b58, 0, none⟩))]) ?_ ?_
      · have hf220 := hf62.st hst196 rfl rfl rfl
        obtain ⟨O221, hst222, ho223⟩ := OwnSl.rlb 1005 rfl hf220
        refine WC.loop (σ := (List UInt64 × Int × Own)) (fun x k w' => loopN k (hist_down_lp1 a0 a1) (x.1, x.2.1) = some p217 ∧ Stp [1004, 1005] O63 wd195 x.2.2 w' ∧ OwnSl 1005 Rep.u 22 x.2.2 w' (.slice p191 m192 c193) x.1) (fun x => [(1, vu a1), (2, .pointer (some ⟨p17, 0, none⟩)), (4, .pointer (some ⟨p22, 0, none⟩)), (5, .pointer (some ⟨b58, 0, none⟩)), (23, (.slice p12 m13 c14)), (24, vi (a0.Counts.length : Int)), (25, vi x.2.1)]) (x60, 0, O221) k218 (.cons rfl (.cons rfl (.cons rfl (.cons rfl (.cons rfl (.cons rfl (.cons rfl .nil))))))) ⟨h, (Stp.up hst222 rfl), ho223⟩ ?_
        rintro ⟨c204, x207, O208⟩ k218 wd209 ⟨h, hst210, hf206⟩
        obtain ⟨j224, q225, rfl, h, hn226⟩ := rnd1 h
        unfold hist_down_lp1 at h
        try dsimp only at h hst210 hf206
        refine (show WC _ _ _ _ [(1, vu a1), (2, .pointer (some ⟨p17, 0, none⟩)), (4, .pointer (some ⟨p22, 0, none⟩)), (5, .pointer (some ⟨b58, 0, none⟩)), (23, (.slice p12 m13 c14)), (24, vi (a0.Counts.length : Int)), (25, vi x207)] _ from ?_)
        refine WC.seq ?_
        refine WC.region ?_
        refine WL.y (Y.lss_i rfl rfl) rfl ?_
        refine WL.nil ?_
        refine At.then ?_
        refine WC.seq ?_
        rcases cnd h with ⟨hc227, h⟩ | ⟨hc227, h⟩
        · refine WC.condT' rfl hc227 ?_
          refine WC.skip ?_
          refine At.then ?_
          refine WC.seq ?_
          refine WC.block ?_
          refine WC.seq ?_
          refine WC.region ?_
          refine WL.y (Y.move rfl) rfl ?_
          obtain ⟨e228, he228, h⟩ := bnd h
          have hf237 := hf203.mono (imm_st hst210 rfl rfl)
          obtain ⟨b229, off238, cap236, cs235, hv230, hi231, hl232, hc233, hok234, hA239⟩ := Sl.at2 hf237 he228
          obtain rfl := hok234
          replace hc233 : CellsAt _ _ _ [vu e228] := hc233
          have hca240 := CAt.imm hc233 hA239
          refine WL.y (Y.indexAddr ty23 ty22 rfl hv230 rfl hi231 hl232) rfl ?_
          refine WL.y (Y.loadSc ty22 rfl rfl hca240.at_) rfl ?_
          refine WL.y (Y.assign rfl) rfl ?_
          refine WL.y (Y.assign rfl) rfl ?_
          refine WL.nil ?_
          refine At.then ?_
          refine WC.region ?_
          refine WL.y (Y.fieldAddr fo25_1 rfl) rfl ?_
          have hf241 := hb197.st hst210 rfl
          refine WL.y (Y.loadSc ty23 rfl rfl (hf241.cell 1 _ rfl)) rfl ?_
          refine WL.y (Y.fieldAddr fo25_0 rfl) rfl ?_
          have hf242 := hf200.st hst210 rfl
          refine WL.y (Y.loadSc ty3 rfl rfl (hf242.cell 0 _ rfl)) rfl ?_
          refine WL.y (Y.move rfl) rfl ?_
          refine WL.y (Y.add_i rfl rfl) rfl ?_
          refine WL.y (Y.move rfl) rfl ?_
          refine WL.y (Y.shr_iu rfl rfl) rfl ?_
          refine WL.y (Y.fieldAddr fo25_0 rfl) rfl ?_
          refine WL.y (Y.loadSc ty3 rfl rfl (hf241.cell 0 _ rfl)) rfl ?_
          refine WL.y (Y.sub_i rfl rfl) rfl ?_
          obtain ⟨e243, he243, h⟩ := bnd h
          obtain ⟨b244, cap251, cs250, hv245, hi246, hl247, hc248, hok249⟩ := OwnSl.at hf206 he243
          obtain rfl := hok249
          replace hc248 : CellsAt _ _ _ [vu e243] := hc248
          have hca252 := CAt.own hf206 hv245 hc248
          refine WL.y (Y.indexAddr ty23 ty22 rfl hv245 rfl hi246 hl247) rfl ?_
          refine WL.y (Y.loadSc ty22 rfl rfl hca252.at_) rfl ?_
          refine WL.y (Y.move rfl) rfl ?_
          refine WL.y (Y.add_u rfl rfl) rfl ?_
          obtain ⟨e253, he253, h⟩ := bnd h
          obtain ⟨b254, cap261, cs260, hv255, hi256, hl257, hc258, hok259⟩ := OwnSl.at hf206 he253
          obtain rfl := hok259
          replace hc258 : CellsAt _ _ _ [vu e253] := hc258
          have hca262 := CAt.own hf206 hv255 hc258
          refine WL.y (Y.indexAddr ty23 ty22 rfl hv255 rfl hi256 hl257) rfl ?_
          obtain ⟨t263, ht263, h⟩ := lt1 h
          refine WL.ren 44 rfl (congrArg vu ht263.symm) ?_
          obtain ⟨xs264, hxs264, h⟩ := bnd h
          refine WL.storeOwn (by decide) ty22 rfl rfl rfl hf206 hv255 hxs264 ?_
          intro wd265 hst266 ho267
          refine WL.nil ?_
          refine At.inBlock ?_
          refine At.then ?_
          refine WC.region ?_
          refine WL.y (Y.add_i rfl rfl) rfl ?_
          refine WL.y (Y.move rfl) rfl ?_
          refine WL.nil ?_
          exact At.round (xs264, w64 (x207 + 1), O208) j224 (Nat.lt_succ_self _) ⟨next1 h hn226, (Stp.trans (Stp.up hst210 rfl) (Stp.up hst266 rfl)), ho267⟩ (.cons rfl (.cons rfl (.cons rfl (.cons rfl (.cons rfl (.cons rfl (.cons rfl .nil)))))))
        · refine WC.condF' rfl hc227 ?_
          refine WC.exit ?_
          refine At.thenX ?_
          refine At.loopX ?_
          obtain ⟨O268, hst269, ho270⟩ := OwnSl.rlb 1006 rfl hf206
          exact At.hitB (σ := (List UInt64 × Own)) (c204, O268) ⟨brk1 h hn226, (Stp.trans (Stp.up hst210 rfl) (Stp.up hst269 rfl)), ho270⟩ (.cons rfl (.cons rfl .nil))
      · rintro ⟨c211, O214⟩ wd215 ⟨rfl, hst216, hf213⟩
        replace h := flowK_go hk219
        try dsimp only at h hst216 hf213
        refine (show At _ _ _ [(4, .pointer (some ⟨p22, 0, none⟩)), (5, .pointer (some ⟨b58, 0, none⟩))] _ from ?_)
        refine At.inBlockHit ?_
        refine At.then ?_
        refine WC.seq ?_
        refine WC.region ?_
        have hf271 := hb197.st hst216 rfl
        refine WL.y (Y.loadAg ty25 rfl rfl (hf271.cells 0 [vi (shrI a0.Offset a1.toNat), (.slice p191 m192 c193)] rfl) rfl) rfl ?_
        have hf272 := hb21.st hst35 rfl
        have hf273 := hf272.st hst65 rfl
        have hf274 := hf273.st hst196 rfl
        have hf275 := hf274.st hst216 rfl
        refine WL.store (v := .agg [vi (shrI a0.Offset a1.toNat), (.slice p191 m192 c193)].toArray) (cells' := [vi (shrI a0.Offset a1.toNat), (.slice p191 m192 c193)]) ty25 rfl rfl hf275 rfl (Nat.le_of_ble_eq_true rfl) rfl rfl ?_
        intro wd276 hst277 hb278
        refine WL.nil ?_
        refine At.then ?_
        refine WC.ret ?_
        obtain rfl := some1 h
        have hf279 := hf213.st hst277 rfl rfl rfl
        obtain ⟨O280, hst281, hf282⟩ := OwnSl.giveF rfl Flat.u hf279
        have hs283 : Stp [12, 13, 14, 15, 16, 17, 18, 1001, 1002, 1003, 1004, 1005, 1006] (Lg.O0 A) w O280 wd276 := (Stp.trans (Stp.up hst20 rfl) (Stp.trans (Stp.up hst25 rfl) (Stp.trans (Stp.up hst35 rfl) (Stp.trans (Stp.up hst65 rfl) (Stp.trans (Stp.up hst196 rfl) (Stp.trans (Stp.up hst216 rfl) (Stp.trans (Stp.up hst277 rfl) (Stp.up hst281 rfl))))))))
        have hf284 := hb278.st hst281 rfl
        exact At.res (.inl rfl) rfl (.cell rfl (hf284.runAg 0 [vi (shrI a0.Offset a1.toNat), (.slice p191 m192 c193)] ty25 rfl rfl rfl) .nil) ⟨(.slice p191 m192 c193), rfl, (Stp.ext hs283 rfl rfl), (Sl.outF hf282 hs283 low0)⟩

theorem c_hist_Down {A : Nat → Prop} {v0_3 : Value} {v0_5 : Value} {a0 : api_Hist} {a1 : Int} {w : World} (hs0_3 : Sl Rep.u w A v0_3 a0.Pos.Counts) (hs0_5 : Sl Rep.u w A v0_5 a0.Neg.Counts) {r0 : api_Hist} {r1 : Int} (h : hist_Down a0 a1 = some (r0, r1)) : Rets Try.prog 21 [.agg [vi a0.Scale, vu a0.Zero, vi a0.Pos.Offset, v0_3, vi a0.Neg.Offset, v0_5].toArray, vi a1] w (fun v w' => ∃ (u0_3 : Value) (u0_5 : Value), v = .tuple (List.toArray [.agg (List.toArray [vi r0.Scale, vu r0.Zero, vi r0.Pos.Offset, u0_3, vi r0.Neg.Offset, u0_5]), vi r1]) ∧ Ext w w' ∧ Sl Rep.u w' (fun k => w.heap.size ≤ k) u0_3 r0.Pos.Counts ∧ Sl Rep.u w' (fun k => w.heap.size ≤ k) u0_5 r0.Neg.Counts) := by
  unfold hist_Down at h
  refine Rets.enter Try.func21 rfl rfl ?_
  have hf11 : Sl Rep.u w (imm (Lg.O0 A)) v0_3 a0.Pos.Counts := (Sl.start hs0_3)
  have hf12 : Sl Rep.u w (imm (Lg.O0 A)) v0_5 a0.Neg.Counts := (Sl.start hs0_5)
  refine (show WC _ _ _ _ [(0, .agg [vi a0.Scale, vu a0.Zero, vi a0.Pos.Offset, v0_3, vi a0.Neg.Offset, v0_5].toArray), (1, vi a1)] _ from ?_)
  refine WC.seq ?_
  refine WC.region ?_
  have hh16 := h
  obtain ⟨p13, m14, c15, rfl⟩ := hf11.shape
  have h := hh16
  have hh20 := h
  obtain ⟨p17, m18, c19, rfl⟩ := hf12.shape
  have h := hh20
  refine WL.box (O := (Lg.O0 A)) 11 [vi a0.Scale, vu a0.Zero, vi a0.Pos.Offset, (.slice p13 m14 c15), vi a0.Neg.Offset, (.slice p17 m18 c19)] rfl rfl rfl ?_
  intro p22 O23 wd24 hst25 hb21
  refine WL.alloc (O := O23) 12 [vi 0, vu 0, vi 0, .slice none 0 0, vi 0, .slice none 0 0] ty27 rfl rfl ?_
  intro p27 O28 wd29 hst30 hb26
  refine WL.y (Y.assign rfl) rfl ?_
  refine WL.nil ?_
  refine At.then ?_
  refine WC.seq ?_
  refine WC.seq ?_
  refine WC.region ?_
  have hf31 := hb21.st hst30 rfl
  refine WL.y (Y.loadAg ty27 rfl rfl (hf31.cells 0 [vi a0.Scale, vu a0.Zero, vi a0.Pos.Offset, (.slice p13 m14 c15), vi a0.Neg.Offset, (.slice p17 m18 c19)] rfl) rfl) rfl ?_
  have hf32 := hf11.mono (imm_st hst25 rfl rfl)
  have hf33 := hf32.mono (imm_st hst30 rfl rfl)
  have hf34 := hf12.mono (imm_st hst25 rfl rfl)
  have hf35 := hf34.mono (imm_st hst30 rfl rfl)
  obtain ⟨r36, hp37, h⟩ := bnd h
  refine WL.call (vals := [.agg [vi a0.Scale, vu a0.Zero, vi a0.Pos.Offset, (.slice p13 m14 c15), vi a0.Neg.Offset, (.slice p17 m18 c19)].toArray]) kok19 rfl rfl (c_hist_Check (A := fun _ => True) (a0 := a0) (Sl.all hf33) (Sl.all hf35) hp37) ?_
  rintro vr40 wd39 ⟨rfl, hm38⟩
  obtain ⟨O41, hold42, hnew43, hst44⟩ := adoptE O28 (fun k => 1) hm38
  refine WL.y (Y.assign rfl) rfl ?_
  refine WL.nil ?_
  refine At.then ?_
  refine WC.seq ?_
  refine WC.region ?_
  refine WL.y (Y.move rfl) rfl ?_
  refine WL.y (Y.neq_i rfl rfl) rfl ?_
  refine WL.nil ?_
  refine At.then ?_
  rcases cnd h with ⟨hc45, h⟩ | ⟨hc45, h⟩
  · refine WC.condT' rfl hc45 ?_
    refine WC.seq ?_
    refine WC.region ?_
    refine WL.y (Y.build (vals := []) (cells := [vi 0, vu 0, vi 0, .slice none 0 0, vi 0, .slice none 0 0]) (Fits.evalp rfl) (by kernel_rfl)) rfl ?_
    refine WL.y (Y.move rfl) rfl ?_
    have hf46 := hb26.st hst44 rfl
    refine WL.store (v := .agg [vi 0, vu 0, vi 0, .slice none 0 0, vi 0, .slice none 0 0].toArray) (cells' := [vi 0, vu 0, vi 0, .slice none 0 0, vi 0, .slice none 0 0]) ty27 rfl rfl hf46 rfl (Nat.le_of_ble_eq_true rfl) rfl rfl ?_
    intro wd47 hst48 hb49
    refine WL.y (Y.assign rfl) rfl ?_
    refine WL.nil ?_
    refine At.then ?_
    refine WC.ret ?_
    refine At.thenR ?_
    obtain ⟨rfl, rfl⟩ := tup2 h
    have hs50 : Stp [12] (Lg.O0 A) w O41 wd47 := (Stp.trans (Stp.up hst25 rfl) (Stp.trans (Stp.up hst30 rfl) (Stp.trans (Stp.up hst44 rfl) (Stp.up hst48 rfl))))
    exact At.res (.inl rfl) rfl (.cell rfl (hb49.runAg 0 [vi 0, vu 0, vi 0, .slice none 0 0, vi 0, .slice none 0 0] ty27 rfl rfl rfl) (.tmp rfl .nil)) ⟨.slice none 0 0, .slice none 0 0, rfl, (Stp.ext hs50 rfl rfl), (Or.inl ⟨rfl, rfl⟩), (Or.inl ⟨rfl, rfl⟩)⟩
  · refine WC.condF' rfl hc45 ?_
    refine WC.skip ?_
    refine At.then ?_
    refine WC.seq ?_
    refine WC.seq ?_
    refine WC.region ?_
    refine WL.y (Y.move rfl) rfl ?_
    refine WL.y (Y.lss_i rfl rfl) rfl ?_
    refine WL.y (Y.move rfl) rfl ?_
    refine WL.cut 6 (σ := Unit) (fun _ w' => wd39 = w') (fun _ => [(1, vi a1), (2, .pointer (some ⟨p22, 0, none⟩)), (4, .pointer (some ⟨p27, 0, none⟩)), (21, .bool ((decide (a1 < 0)) || (decide (w64 (a0.Scale - (-10)) < a1))))]) ?_ ?_
    · refine WL.part 15 rfl (fun hE51 => ?_) (fun hE51 => ?_)
      · refine WL.gS rfl rfl rfl rfl ?_
        refine WL.gS rfl rfl rfl rfl ?_
        refine WL.gS rfl rfl rfl rfl ?_
        refine WL.gS rfl rfl rfl rfl ?_
        refine WL.gS rfl rfl rfl rfl ?_
        refine WL.y (Y.pick (b := true) rfl rfl) rfl ?_
        refine WL.ren (v' := .bool ((decide (a1 < 0)) || (decide (w64 (a0.Scale - (-10)) < a1)))) 21 rfl (congrArg Value.bool (orT hE51)) ?_
        exact WL.nil (At.join () rfl (.cons rfl (.cons rfl (.cons rfl (.cons rfl .nil)))))
      · refine WL.ung rfl rfl ?_
        refine WL.y (Y.move rfl) rfl ?_
        refine WL.ung rfl rfl ?_
        refine WL.y (Y.fieldAddr fo27_0 rfl) rfl ?_
        refine WL.ung rfl rfl ?_
        have hf52 := hf31.st hst44 rfl
        refine WL.y (Y.loadSc ty3 rfl rfl (hf52.cell 0 _ rfl)) rfl ?_
        refine WL.ung rfl rfl ?_
        refine WL.y (Y.sub_i rfl rfl) rfl ?_
        refine WL.ung rfl rfl ?_
        refine WL.y (Y.gtr_i rfl rfl) rfl ?_
        refine WL.y (Y.pick (b := false) rfl rfl) rfl ?_
        refine WL.ren (v' := .bool ((decide (a1 < 0)) || (decide (w64 (a0.Scale - (-10)) < a1)))) 21 rfl (congrArg Value.bool (orF hE51)) ?_
        exact WL.nil (At.join () rfl (.cons rfl (.cons rfl (.cons rfl (.cons rfl .nil)))))
    · rintro _ _ rfl
      refine (show WL _ _ _ _ _ [(1, vi a1), (2, .pointer (some ⟨p22, 0, none⟩)), (4, .pointer (some ⟨p27, 0, none⟩)), (21, .bool ((decide (a1 < 0)) || (decide (w64 (a0.Scale - (-10)) < a1))))] _ from ?_)
      refine WL.nil ?_
      refine At.then ?_
      rcases cnd h with ⟨hc53, h⟩ | ⟨hc53, h⟩
      · refine WC.condT' rfl hc53 ?_
        refine WC.seq ?_
        refine WC.region ?_
        refine WL.y (Y.build (vals := []) (cells := [vi 0, vu 0, vi 0, .slice none 0 0, vi 0, .slice none 0 0]) (Fits.evalp rfl) (by kernel_rfl)) rfl ?_
        have hf54 := hb26.st hst44 rfl
        refine WL.store (v := .agg [vi 0, vu 0, vi 0, .slice none 0 0, vi 0, .slice none 0 0].toArray) (cells' := [vi 0, vu 0, vi 0, .slice none 0 0, vi 0, .slice none 0 0]) ty27 rfl rfl hf54 rfl (Nat.le_of_ble_eq_true rfl) rfl rfl ?_
        intro wd55 hst56 hb57
        refine WL.y (Y.assign rfl) rfl ?_
        refine WL.nil ?_
        refine At.then ?_
        refine WC.ret ?_
        refine At.thenR ?_
        obtain ⟨rfl, rfl⟩ := tup2 h
        have hs58 : Stp [12] (Lg.O0 A) w O41 wd55 := (Stp.trans (Stp.up hst25 rfl) (Stp.trans (Stp.up hst30 rfl) (Stp.trans (Stp.up hst44 rfl) (Stp.up hst56 rfl))))
        exact At.res (.inl rfl) rfl (.cell rfl (hb57.runAg 0 [vi 0, vu 0, vi 0, .slice none 0 0, vi 0, .slice none 0 0] ty27 rfl rfl rfl) (.tmp rfl .nil)) ⟨.slice none 0 0, .slice none 0 0, rfl, (Stp.ext hs58 rfl rfl), (Or.inl ⟨rfl, rfl⟩), (Or.inl ⟨rfl, rfl⟩)⟩
      · refine WC.condF' rfl hc53 ?_
        refine WC.skip ?_
        refine At.then ?_
        refine WC.seq ?_
        refine WC.drawH [] [0, 1, 2, 3, 4, 5, 6, 7, 8, 9, 10, 11, 12, 13, 14, 15, 16] O41 19 fmix rfl (by kernel_rfl) ?_
        intro wd59 hst60
        refine WD.y 0 rfl (by kernel_rfl) (fun _ _ _ => Y.fieldAddr fo27_0 rfl) rfl ?_
        refine WD.y 1 rfl (by kernel_rfl) (fun wd65 O64 hst66 => have hf67 := hf31.st hst44 rfl; have hf68 := hf67.st hst60 rfl; have hf69 := hf68.st hst66 rfl; Y.loadSc ty3 rfl rfl (hf69.cell 0 _ rfl)) rfl ?_
        refine WD.y 2 rfl (by kernel_rfl) (fun _ _ _ => Y.move rfl) rfl ?_
        refine WD.y 3 rfl (by kernel_rfl) (fun _ _ _ => Y.sub_i rfl rfl) rfl ?_
        refine WD.y 4 rfl (by kernel_rfl) (fun _ _ _ => Y.fieldAddr fo27_1 rfl) rfl ?_
        refine WD.y 5 rfl (by kernel_rfl) (fun wd80 O79 hst81 => have hf82 := hf31.st hst44 rfl; have hf83 := hf82.st hst60 rfl; have hf84 := hf83.st hst81 rfl; Y.loadSc ty22 rfl rfl (hf84.cell 1 _ rfl)) rfl ?_
        refine WD.y 6 rfl (by kernel_rfl) (fun _ _ _ => Y.fieldAddr fo27_2 rfl) rfl ?_
        refine WD.y 7 rfl (by kernel_rfl) (fun wd89 O88 hst90 => have hf91 := hf31.st hst44 rfl; have hf92 := hf91.st hst60 rfl; have hf93 := hf92.st hst90 rfl; Y.loadAg ty25 rfl rfl (hf93.cells 2 [vi a0.Pos.Offset, (.slice p13 m14 c15)] rfl) rfl) rfl ?_
        refine WD.y 8 rfl (by kernel_rfl) (fun _ _ _ => Y.move rfl) rfl ?_
        refine WD.y 9 rfl (by kernel_rfl) (fun _ _ _ => Y.conv_iu ty3.u ty82.u rfl) rfl ?_
        refine WD.y 11 rfl (by kernel_rfl) (fun _ _ _ => Y.fieldAddr fo27_3 rfl) rfl ?_
        refine WD.y 12 rfl (by kernel_rfl) (fun wd104 O103 hst105 => have hf106 := hf31.st hst44 rfl; have hf107 := hf106.st hst60 rfl; have hf108 := hf107.st hst105 rfl; Y.loadAg ty25 rfl rfl (hf108.cells 4 [vi a0.Neg.Offset, (.slice p17 m18 c19)] rfl) rfl) rfl ?_
        refine WD.y 13 rfl (by kernel_rfl) (fun _ _ _ => Y.move rfl) rfl ?_
        refine WD.y 14 rfl (by kernel_rfl) (fun _ _ _ => Y.conv_iu ty3.u ty82.u rfl) rfl ?_
        refine WD.heavy 10 rfl (by kernel_rfl) ?_
        have hf115 := hf33.mono (imm_st hst44 rfl rfl)
        have hf116 := hf115.mono (imm_st hst60 rfl rfl)
        obtain ⟨r117, hp118, h⟩ := bnd h
        refine WL.call (vals := [.agg [vi a0.Pos.Offset, (.slice p13 m14 c15)].toArray, vu (toU64 a1)]) kok62 rfl rfl (c_hist_down (A := fun _ => True) (a0 := a0.Pos) (Sl.all hf116) hp118) ?_
        rintro vr123 wd122 ⟨u119, rfl, hm121, f120⟩
        obtain ⟨O124, hold125, hnew126, hst127⟩ := adoptE O41 (fun k => 1) hm121
        have hf128 : Sl Rep.u wd122 (frs O124) u119 r117.Counts := Sl.adoptF f120 (fun k hk => ⟨hk, rfl⟩) hnew126
        refine WL.nil ?_
        refine At.dq (Stp.up hst127 rfl) ?_
        refine WD.heavy 15 rfl (by kernel_rfl) ?_
        have hf129 := hf35.mono (imm_st hst44 rfl rfl)
        have hf130 := hf129.mono (imm_st hst60 rfl rfl)
        have hf131 := hf130.mono (imm_st hst127 rfl rfl)
        obtain ⟨r132, hp133, h⟩ := bnd h
        refine WL.call (vals := [.agg [vi a0.Neg.Offset, (.slice p17 m18 c19)].toArray, vu (toU64 a1)]) kok62 rfl rfl (c_hist_down (A := fun _ => True) (a0 := a0.Neg) (Sl.all hf131) hp133) ?_
        rintro vr138 wd137 ⟨u134, rfl, hm136, f135⟩
        obtain ⟨O139, hold140, hnew141, hst142⟩ := adoptE O124 (fun k => 1) hm136
        have hf143 : Sl Rep.u wd137 (frs O139) u134 r132.Counts := Sl.adoptF f135 (fun k hk => ⟨hk, rfl⟩) hnew141
        refine WL.nil ?_
        refine At.dq (Stp.up hst142 rfl) ?_
        have hf144 := hf128.mono (frs_st hst142 rfl)
        have hh148 := h
        obtain ⟨p145, m146, c147, rfl⟩ := hf144.shape
        have h := hh148
        have hh152 := h
        obtain ⟨p149, m150, c151, rfl⟩ := hf143.shape
        have h := hh152
        refine WD.y 16 rfl (by kernel_rfl) (fun _ _ _ => Y.build (vals := [(0, vi (w64 (a0.Scale - a1))), (1, vu a0.Zero), (2, .agg [vi r117.Offset, (.slice p145 m146 c147)].toArray), (3, .agg [vi r132.Offset, (.slice p149 m150 c151)].toArray)]) (cells := [vi (w64 (a0.Scale - a1)), vu a0.Zero, vi r117.Offset, (.slice p145 m146 c147), vi r132.Offset, (.slice p149 m150 c151)]) (Fits.evalp rfl) (by kernel_rfl)) rfl ?_
        refine WD.phase [12] [0, 1, 2, 3, 4, 5, 6, 7, 8, 9, 10, 11, 12, 13, 14, 15, 16, 17, 18] (by kernel_rfl) (by kernel_rfl) ?_
        refine WD.heavy 17 rfl (by kernel_rfl) ?_
        have hf156 := hb26.st hst44 rfl
        have hf157 := hf156.st hst60 rfl
        have hf158 := hf157.st hst127 rfl
        have hf159 := hf158.st hst142 rfl
        refine WL.store (v := .agg [vi (w64 (a0.Scale - a1)), vu a0.Zero, vi r117.Offset, (.slice p145 m146 c147), vi r132.Offset, (.slice p149 m150 c151)].toArray) (cells' := [vi (w64 (a0.Scale - a1)), vu a0.Zero, vi r117.Offset, (.slice p145 m146 c147), vi r132.Offset, (.slice p149 m150 c151)]) ty27 rfl rfl hf159 rfl (Nat.le_of_ble_eq_true rfl) rfl rfl ?_
        intro wd160 hst161 hb162
        refine WL.nil ?_
        refine At.dq (Stp.up hst161 rfl) ?_
        refine WD.y 18 rfl (by kernel_rfl) (fun _ _ _ => Y.assign rfl) rfl ?_
        refine WD.done_ (by kernel_rfl) ?_
        refine At.then ?_
        refine WC.ret ?_
        obtain ⟨rfl, rfl⟩ := tup2 h
        have hs166 : Stp [12] (Lg.O0 A) w O139 wd160 := (Stp.trans (Stp.up hst25 rfl) (Stp.trans (Stp.up hst30 rfl) (Stp.trans (Stp.up hst44 rfl) (Stp.trans (Stp.up hst60 rfl) (Stp.trans (Stp.up hst127 rfl) (Stp.trans (Stp.up hst142 rfl) (Stp.up hst161 rfl)))))))
        have hf167 := hf144.mono (frs_st hst161 rfl)
        have hf168 := hf143.mono (frs_st hst161 rfl)
        exact At.res (.inl rfl) rfl (.cell rfl (hb162.runAg 0 [vi (w64 (a0.Scale - a1)), vu a0.Zero, vi r117.Offset, (.slice p145 m146 c147), vi r132.Offset, (.slice p149 m150 c151)] ty27 rfl rfl rfl) (.tmp rfl .nil)) ⟨(.slice p145 m146 c147), (.slice p149 m150 c151), rfl, (Stp.ext hs166 rfl rfl), (Sl.outF hf167 hs166 low0), (Sl.outF hf168 hs166 low0)⟩

theorem c_hist_At {A : Nat → Prop} {v0_1 : Value} {a0 : api_Side} {a1 : Int} {w : World} (hs0_1 : Sl Rep.u w A v0_1 a0.Counts) {r0 : UInt64} (h : hist_At a0 a1 = some r0) : Rets Try.prog 23 [.agg [vi a0.Offset, v0_1].toArray, vi a1] w (fun v w' => v = vu r0 ∧ Ext w w') := by
  unfold hist_At at h
  refine Rets.enter Try.func23 rfl rfl ?_
  have hf11 : Sl Rep.u w (imm (Lg.O0 A)) v0_1 a0.Counts := (Sl.start hs0_1)
  refine (show WC _ _ _ _ [(0, .agg [vi a0.Offset, v0_1].toArray), (1, vi a1)] _ from ?_)
  refine WC.seq ?_
  refine WC.region ?_
  have hh15 := h
  obtain ⟨p12, m13, c14, rfl⟩ := hf11.shape
  have h := hh15
  refine WL.box (O := (Lg.O0 A)) 11 [vi a0.Offset, (.slice p12 m13 c14)] rfl rfl rfl ?_
  intro p17 O18 wd19 hst20 hb16
  refine WL.y (Y.assign (v := vu 0) rfl) rfl ?_
  refine WL.nil ?_
  refine At.then ?_
  refine WC.seq ?_
  refine WC.seq ?_
  refine WC.region ?_
  refine WL.y (Y.move rfl) rfl ?_
  refine WL.y (Y.fieldAddr fo25_0 rfl) rfl ?_
  refine WL.y (Y.loadSc ty3 rfl rfl (hb16.cell 0 _ rfl)) rfl ?_
  refine WL.y (Y.lss_i rfl rfl) rfl ?_
  refine WL.y (Y.move rfl) rfl ?_
  refine WL.cut 12 (σ := Unit) (fun _ w' => wd19 = w') (fun _ => [(1, vi a1), (2, .pointer (some ⟨p17, 0, none⟩)), (21, .bool ((decide (a1 < a0.Offset)) || (decide (toU64 (a0.Counts.length : Int) ≤ ((toU64 a1) - (toU64 a0.Offset))))))]) ?_ ?_
  · refine WL.part 9 rfl (fun hE21 => ?_) (fun hE21 => ?_)
    · refine WL.gS rfl rfl rfl rfl ?_
      refine WL.gS rfl rfl rfl rfl ?_
      refine WL.gS rfl rfl rfl rfl ?_
      refine WL.gS rfl rfl rfl rfl ?_
      refine WL.gS rfl rfl rfl rfl ?_
      refine WL.gS rfl rfl rfl rfl ?_
      refine WL.gS rfl rfl rfl rfl ?_
      refine WL.gS rfl rfl rfl rfl ?_
      refine WL.gS rfl rfl rfl rfl ?_
      refine WL.gS rfl rfl rfl rfl ?_
      refine WL.gS rfl rfl rfl rfl ?_
      refine WL.y (Y.pick (b := true) rfl rfl) rfl ?_
      refine WL.ren (v' := .bool ((decide (a1 < a0.Offset)) || (decide (toU64 (a0.Counts.length : Int) ≤ ((toU64 a1) - (toU64 a0.Offset)))))) 21 rfl (congrArg Value.bool (orT hE21)) ?_
      exact WL.nil (At.join () rfl (.cons rfl (.cons rfl (.cons rfl .nil))))
    · refine WL.ung rfl rfl ?_
      refine WL.y (Y.move rfl) rfl ?_
      refine WL.ung rfl rfl ?_
      refine WL.y (Y.conv_iu ty3.u ty22.u rfl) rfl ?_
      refine WL.ung rfl rfl ?_
      refine WL.y (Y.fieldAddr fo25_0 rfl) rfl ?_
      refine WL.ung rfl rfl ?_
      refine WL.y (Y.loadSc ty3 rfl rfl (hb16.cell 0 _ rfl)) rfl ?_
      refine WL.ung rfl rfl ?_
      refine WL.y (Y.conv_iu ty3.u ty22.u rfl) rfl ?_
      refine WL.ung rfl rfl ?_
      refine WL.y (Y.sub_u rfl rfl) rfl ?_
      refine WL.ung rfl rfl ?_
      refine WL.y (Y.fieldAddr fo25_1 rfl) rfl ?_
      refine WL.ung rfl rfl ?_
      refine WL.y (Y.loadSc ty23 rfl rfl (hb16.cell 1 _ rfl)) rfl ?_
      refine WL.ung rfl rfl ?_
      have hf22 := hf11.mono (imm_st hst20 rfl rfl)
      refine WL.y (Y.len ty23 rfl hf22) rfl ?_
      refine WL.ung rfl rfl ?_
      refine WL.y (Y.conv_iu ty3.u ty22.u rfl) rfl ?_
      refine WL.ung rfl rfl ?_
      refine WL.y (Y.geq_u rfl rfl) rfl ?_
      refine WL.y (Y.pick (b := false) rfl rfl) rfl ?_
      refine WL.ren (v' := .bool ((decide (a1 < a0.Offset)) || (decide (toU64 (a0.Counts.length : Int) ≤ ((toU64 a1) - (toU64 a0.Offset)))))) 21 rfl (congrArg Value.bool (orF hE21)) ?_
      exact WL.nil (At.join () rfl (.cons rfl (.cons rfl (.cons rfl .nil))))
  · rintro _ _ rfl
    refine (show WL _ _ _ _ _ [(1, vi a1), (2, .pointer (some ⟨p17, 0, none⟩)), (21, .bool ((decide (a1 < a0.Offset)) || (decide (toU64 (a0.Counts.length : Int) ≤ ((toU64 a1) - (toU64 a0.Offset))))))] _ from ?_)
    refine WL.nil ?_
    refine At.then ?_
    rcases cnd h with ⟨hc23, h⟩ | ⟨hc23, h⟩
    · refine WC.condT' rfl hc23 ?_
      refine WC.seq ?_
      refine WC.region ?_
      refine WL.y (Y.assign (v := vu 0) rfl) rfl ?_
      refine WL.nil ?_
      refine At.then ?_
      refine WC.ret ?_
      refine At.thenR ?_
      obtain rfl := some1 h
      have hs24 : Stp [] (Lg.O0 A) w O18 wd19 := (Stp.up hst20 rfl)
      exact At.res (.inl rfl) rfl (.tmp rfl .nil) ⟨rfl, (Stp.ext hs24 rfl rfl)⟩
    · refine WC.condF' rfl hc23 ?_
      refine WC.skip ?_
      refine At.then ?_
      refine WC.seq ?_
      refine WC.region ?_
      refine WL.y (Y.fieldAddr fo25_1 rfl) rfl ?_
      refine WL.y (Y.loadSc ty23 rfl rfl (hb16.cell 1 _ rfl)) rfl ?_
      refine WL.y (Y.move rfl) rfl ?_
      refine WL.y (Y.fieldAddr fo25_0 rfl) rfl ?_
      refine WL.y (Y.loadSc ty3 rfl rfl (hb16.cell 0 _ rfl)) rfl ?_
      refine WL.y (Y.sub_i rfl rfl) rfl ?_
      obtain ⟨e25, he25, h⟩ := bnd h
      have hf34 := hf11.mono (imm_st hst20 rfl rfl)
      obtain ⟨b26, off35, cap33, cs32, hv27, hi28, hl29, hc30, hok31, hA36⟩ := Sl.at2 hf34 he25
      obtain rfl := hok31
      replace hc30 : CellsAt _ _ _ [vu e25] := hc30
      have hca37 := CAt.imm hc30 hA36
      refine WL.y (Y.indexAddr ty23 ty22 rfl hv27 rfl hi28 hl29) rfl ?_
      refine WL.y (Y.loadSc ty22 rfl rfl hca37.at_) rfl ?_
      refine WL.y (Y.assign rfl) rfl ?_
      refine WL.nil ?_
      refine At.then ?_
      refine WC.ret ?_
      obtain rfl := some1 h
      have hs38 : Stp [] (Lg.O0 A) w O18 wd19 := (Stp.up hst20 rfl)
      exact At.res (.inl rfl) rfl (.tmp rfl .nil) ⟨rfl, (Stp.ext hs38 rfl rfl)⟩

theorem c_law08_awake {w : World} {r0 : Bool} (h : law08_awake = some r0) : Rets Try.prog 15 [] w (fun v w' => v = .bool r0 ∧ Ext w w') := by
  unfold law08_awake at h
  refine Rets.enter Try.func15 rfl rfl ?_
  refine (show WC _ _ _ _ [] _ from ?_)
  refine WC.seq ?_
  refine WC.region ?_
  refine WL.y (Y.assign rfl) rfl ?_
  refine WL.nil ?_
  refine At.then ?_
  refine WC.seq ?_
  refine WC.region ?_
  refine WL.buildSlice (O := (Lg.O0 (fun _ => False))) (R := Rep.u) (vals := [(0, vu 1), (1, vu 2), (2, vu 3)]) 11 [vu 1, vu 2, vu 3] (xs := [1, 2, 3]) (by decide) ty23 ty22 (by decide) (by decide) (Fits.evalp rfl) (by kernel_rfl) rfl ⟨[vu 1], [vu 2, vu 3], rfl, rfl, ⟨[vu 2], [vu 3], rfl, rfl, ⟨[vu 3], [], rfl, rfl, rfl⟩⟩⟩ rfl ?_
  intro v11 O13 wd14 hst15 ho12
  have hh19 := h
  obtain ⟨p16, m17, c18, rfl⟩ := ho12.shape
  have h := hh19
  refine WL.y (Y.build (vals := [(0, vi (-3)), (1, (.slice p16 m17 c18))]) (cells := [vi (-3), (.slice p16 m17 c18)]) (Fits.evalp rfl) (by kernel_rfl)) rfl ?_
  refine WL.y (Y.build (vals := [(0, vi 3), (2, .agg [vi (-3), (.slice p16 m17 c18)].toArray)]) (cells := [vi 3, vu 0, vi (-3), (.slice p16 m17 c18), vi 0, .slice none 0 0]) (Fits.evalp rfl) (by kernel_rfl)) rfl ?_
  refine WL.alloc (O := O13) 12 [vi 0, vu 0, vi 0, .slice none 0 0, vi 0, .slice none 0 0] ty27 rfl rfl ?_
  intro p21 O22 wd23 hst24 hb20
  refine WL.store (v := .agg [vi 3, vu 0, vi (-3), (.slice p16 m17 c18), vi 0, .slice none 0 0].toArray) (cells' := [vi 3, vu 0, vi (-3), (.slice p16 m17 c18), vi 0, .slice none 0 0]) ty27 rfl rfl hb20 rfl (Nat.le_of_ble_eq_true rfl) rfl rfl ?_
  intro wd25 hst26 hb27
  refine WL.nil ?_
  refine At.then ?_
  refine WC.seq ?_
  refine WC.region ?_
  refine WL.y (Y.loadAg ty27 rfl rfl (hb27.cells 0 [vi 3, vu 0, vi (-3), (.slice p16 m17 c18), vi 0, .slice none 0 0] rfl) rfl) rfl ?_
  have hf28 := ho12.st hst24 rfl rfl rfl
  have hf29 := hf28.st hst26 rfl rfl rfl
  obtain ⟨⟨r30, r31⟩, hp32, h⟩ := bnd h
  refine WL.call (vals := [.agg [vi 3, vu 0, vi (-3), (.slice p16 m17 c18), vi 0, .slice none 0 0].toArray, vi 1]) kok21 rfl rfl (c_hist_Down (A := fun _ => True) (a0 := (api_Hist.mk 3 0 (api_Side.mk (-3) [1, 2, 3]) (api_Side.mk 0 []))) (hf29.src.sl) (Or.inl ⟨rfl, rfl⟩) hp32) ?_
  rintro vr39 wd38 ⟨u33, u34, rfl, hm37, f35, f36⟩
  obtain ⟨O40, hold41, hnew42, hst43⟩ := adoptE O22 (fun k => 1) hm37
  have hf44 : Sl Rep.u wd38 (frs O40) u33 r30.Pos.Counts := Sl.adoptF f35 (fun k hk => ⟨hk, rfl⟩) hnew42
  have hf45 : Sl Rep.u wd38 (frs O40) u34 r30.Neg.Counts := Sl.adoptF f36 (fun k hk => ⟨hk, rfl⟩) hnew42
  refine WL.y (Y.move rfl) rfl ?_
  refine WL.y (Y.extract rfl rfl) rfl ?_
  refine WL.y (Y.extract rfl rfl) rfl ?_
  refine WL.alloc (O := O40) 13 [vi 0, vu 0, vi 0, .slice none 0 0, vi 0, .slice none 0 0] ty27 rfl rfl ?_
  intro p47 O48 wd49 hst50 hb46
  have hf51 := hf44.mono (frs_st hst50 rfl)
  have hh55 := h
  obtain ⟨p52, m53, c54, rfl⟩ := hf51.shape
  have h := hh55
  have hf56 := hf45.mono (frs_st hst50 rfl)
  have hh60 := h
  obtain ⟨p57, m58, c59, rfl⟩ := hf56.shape
  have h := hh60
  refine WL.store (v := .agg [vi r30.Scale, vu r30.Zero, vi r30.Pos.Offset, (.slice p52 m53 c54), vi r30.Neg.Offset, (.slice p57 m58 c59)].toArray) (cells' := [vi r30.Scale, vu r30.Zero, vi r30.Pos.Offset, (.slice p52 m53 c54), vi r30.Neg.Offset, (.slice p57 m58 c59)]) ty27 rfl rfl hb46 rfl (Nat.le_of_ble_eq_true rfl) rfl rfl ?_
  intro wd61 hst62 hb63
  refine WL.y (Y.assign rfl) rfl ?_
  refine WL.nil ?_
  refine At.then ?_
  refine WC.seq ?_
  refine WC.region ?_
  refine WL.y (Y.move rfl) rfl ?_
  refine WL.y (Y.eql_i rfl rfl) rfl ?_
  refine WL.y (Y.move rfl) rfl ?_
  refine WL.cut 4 (σ := Unit) (fun _ w' => wd61 = w') (fun _ => [(2, .pointer (some ⟨p47, 0, none⟩)), (18, .bool ((decide (r31 = 0)) && (decide (r30.Scale = 2))))]) ?_ ?_
  · refine WL.part 14 rfl (fun hE64 => ?_) (fun hE64 => ?_)
    · refine WL.ung rfl rfl ?_
      refine WL.y (Y.fieldAddr fo27_0 rfl) rfl ?_
      refine WL.ung rfl rfl ?_
      refine WL.y (Y.loadSc ty3 rfl rfl (hb63.cell 0 _ rfl)) rfl ?_
      refine WL.ung rfl rfl ?_
      refine WL.y (Y.eql_i rfl rfl) rfl ?_
      refine WL.y (Y.pick (b := true) rfl rfl) rfl ?_
      refine WL.ren (v' := .bool ((decide (r31 = 0)) && (decide (r30.Scale = 2)))) 18 rfl (congrArg Value.bool (andT hE64)) ?_
      exact WL.nil (At.join () rfl (.cons rfl (.cons rfl .nil)))
    · refine WL.gS rfl rfl rfl rfl ?_
      refine WL.gS rfl rfl rfl rfl ?_
      refine WL.gS rfl rfl rfl rfl ?_
      refine WL.y (Y.pick (b := false) rfl rfl) rfl ?_
      refine WL.ren (v' := .bool ((decide (r31 = 0)) && (decide (r30.Scale = 2)))) 18 rfl (congrArg Value.bool (andF hE64)) ?_
      exact WL.nil (At.join () rfl (.cons rfl (.cons rfl .nil)))
  · rintro _ _ rfl
    refine (show WL _ _ _ _ _ [(2, .pointer (some ⟨p47, 0, none⟩)), (18, .bool ((decide (r31 = 0)) && (decide (r30.Scale = 2))))] _ from ?_)
    refine WL.y (Y.move rfl) rfl ?_
    obtain ⟨p69, h, hk70⟩ := bnd h
    refine WL.cut 5 (σ := (Bool × Own)) (fun x w' => x.1 = p69 ∧ Stp [] O48 wd61 x.2 w') (fun x => [(2, .pointer (some ⟨p47, 0, none⟩)), (24, .bool x.1)]) ?_ ?_
    · rcases cnd h with ⟨hE71, h⟩ | ⟨hE71, h⟩
      · refine WL.ren 19 rfl (congrArg Value.bool hE71) ?_
        refine WL.ung rfl rfl ?_
        refine WL.y (Y.fieldAddr fo27_2 rfl) rfl ?_
        refine WL.ung rfl rfl ?_
        refine WL.y (Y.loadAg ty25 rfl rfl (hb63.cells 2 [vi r30.Pos.Offset, (.slice p52 m53 c54)] rfl) rfl) rfl ?_
        refine WL.ung rfl rfl ?_
        have hf72 := hf51.mono (frs_st hst62 rfl)
        obtain ⟨r73, hp74, h⟩ := bnd h
        refine WL.call (vals := [.agg [vi r30.Pos.Offset, (.slice p52 m53 c54)].toArray, vi (-2)]) kok23 rfl rfl (c_hist_At (A := fun _ => True) (a0 := r30.Pos) (Sl.all hf72) hp74) ?_
        rintro vr77 wd76 ⟨rfl, hm75⟩
        obtain ⟨O78, hold79, hnew80, hst81⟩ := adoptE O48 (fun k => 1) hm75
        refine WL.ung rfl rfl ?_
        refine WL.y (Y.eql_u (b := 1) rfl rfl) rfl ?_
        refine WL.y (Y.pick (b := true) rfl rfl) rfl ?_
        exact WL.nil (At.join (σ := (Bool × Own)) (decide (r73 = 1), O78) ⟨some1 h, (Stp.up hst81 rfl)⟩ (.cons rfl (.cons rfl .nil)))
      · refine WL.ren 19 rfl (congrArg Value.bool hE71) ?_
        refine WL.gS rfl rfl rfl rfl ?_
        refine WL.gS rfl rfl rfl rfl ?_
        refine WL.gS rfl rfl rfl rfl ?_
        refine WL.gS rfl rfl rfl rfl ?_
        refine WL.y (Y.pick (b := false) rfl rfl) rfl ?_
        exact WL.nil (At.join (σ := (Bool × Own)) (false, O48) ⟨some1 h, (Stp.refl _ _ _)⟩ (.cons rfl (.cons rfl .nil)))
    · rintro ⟨x65, O66⟩ wd67 ⟨rfl, hst68⟩
      replace h := hk70
      try dsimp only at h hst68
      refine (show WL _ _ _ _ _ [(2, .pointer (some ⟨p47, 0, none⟩)), (24, .bool x65)] _ from ?_)
      refine WL.y (Y.move rfl) rfl ?_
      obtain ⟨p86, h, hk87⟩ := bnd h
      refine WL.cut 5 (σ := (Bool × Own)) (fun x w' => x.1 = p86 ∧ Stp [] O66 wd67 x.2 w') (fun x => [(2, .pointer (some ⟨p47, 0, none⟩)), (30, .bool x.1)]) ?_ ?_
      · rcases cnd h with ⟨hE88, h⟩ | ⟨hE88, h⟩
        · refine WL.ren 25 rfl (congrArg Value.bool hE88) ?_
          refine WL.ung rfl rfl ?_
          refine WL.y (Y.fieldAddr fo27_2 rfl) rfl ?_
          refine WL.ung rfl rfl ?_
          have hf89 := hb63.st hst68 rfl
          refine WL.y (Y.loadAg ty25 rfl rfl (hf89.cells 2 [vi r30.Pos.Offset, (.slice p52 m53 c54)] rfl) rfl) rfl ?_
          refine WL.ung rfl rfl ?_
          have hf90 := hf51.mono (frs_st hst62 rfl)
          have hf91 := hf90.mono (frs_st hst68 rfl)
          obtain ⟨r92, hp93, h⟩ := bnd h
          refine WL.call (vals := [.agg [vi r30.Pos.Offset, (.slice p52 m53 c54)].toArray, vi (-1)]) kok23 rfl rfl (c_hist_At (A := fun _ => True) (a0 := r30.Pos) (Sl.all hf91) hp93) ?_
          rintro vr96 wd95 ⟨rfl, hm94⟩
          obtain ⟨O97, hold98, hnew99, hst100⟩ := adoptE O66 (fun k => 1) hm94
          refine WL.ung rfl rfl ?_
          refine WL.y (Y.eql_u (b := 5) rfl rfl) rfl ?_
          refine WL.y (Y.pick (b := true) rfl rfl) rfl ?_
          exact WL.nil (At.join (σ := (Bool × Own)) (decide (r92 = 5), O97) ⟨some1 h, (Stp.up hst100 rfl)⟩ (.cons rfl (.cons rfl .nil)))
        · refine WL.ren 25 rfl (congrArg Value.bool hE88) ?_
          refine WL.gS rfl rfl rfl rfl ?_
          refine WL.gS rfl rfl rfl rfl ?_
          refine WL.gS rfl rfl rfl rfl ?_
          refine WL.gS rfl rfl rfl rfl ?_
          refine WL.y (Y.pick (b := false) rfl rfl) rfl ?_
          exact WL.nil (At.join (σ := (Bool × Own)) (false, O66) ⟨some1 h, (Stp.refl _ _ _)⟩ (.cons rfl (.cons rfl .nil)))
      · rintro ⟨x82, O83⟩ wd84 ⟨rfl, hst85⟩
        replace h := hk87
        try dsimp only at h hst85
        refine (show WL _ _ _ _ _ [(2, .pointer (some ⟨p47, 0, none⟩)), (30, .bool x82)] _ from ?_)
        refine WL.y (Y.move rfl) rfl ?_
        refine WL.cut 6 (σ := Unit) (fun _ w' => wd84 = w') (fun _ => [(37, .bool (x82 && (decide ((r30.Pos.Counts.length : Int) = 2))))]) ?_ ?_
        · refine WL.part 31 rfl (fun hE101 => ?_) (fun hE101 => ?_)
          · refine WL.ung rfl rfl ?_
            refine WL.y (Y.fieldAddr fo27_2 rfl) rfl ?_
            refine WL.ung rfl rfl ?_
            refine WL.y (Y.fieldAddr fo25_1 rfl) rfl ?_
            refine WL.ung rfl rfl ?_
            have hf102 := hb63.st hst68 rfl
            have hf103 := hf102.st hst85 rfl
            refine WL.y (Y.loadSc ty23 rfl rfl (hf103.cell 3 _ rfl)) rfl ?_
            refine WL.ung rfl rfl ?_
            have hf104 := hf51.mono (frs_st hst62 rfl)
            have hf105 := hf104.mono (frs_st hst68 rfl)
            have hf106 := hf105.mono (frs_st hst85 rfl)
            refine WL.y (Y.len ty23 rfl hf106) rfl ?_
            refine WL.ung rfl rfl ?_
            refine WL.y (Y.eql_i rfl rfl) rfl ?_
            refine WL.y (Y.pick (b := true) rfl rfl) rfl ?_
            refine WL.ren (v' := .bool (x82 && (decide ((r30.Pos.Counts.length : Int) = 2)))) 37 rfl (congrArg Value.bool (andT hE101)) ?_
            exact WL.nil (At.join () rfl (.cons rfl .nil))
          · refine WL.gS rfl rfl rfl rfl ?_
            refine WL.gS rfl rfl rfl rfl ?_
            refine WL.gS rfl rfl rfl rfl ?_
            refine WL.gS rfl rfl rfl rfl ?_
            refine WL.gS rfl rfl rfl rfl ?_
            refine WL.y (Y.pick (b := false) rfl rfl) rfl ?_
            refine WL.ren (v' := .bool (x82 && (decide ((r30.Pos.Counts.length : Int) = 2)))) 37 rfl (congrArg Value.bool (andF hE101)) ?_
            exact WL.nil (At.join () rfl (.cons rfl .nil))
        · rintro _ _ rfl
          refine (show WL _ _ _ _ _ [(37, .bool (x82 && (decide ((r30.Pos.Counts.length : Int) = 2))))] _ from ?_)
          refine WL.y (Y.move rfl) rfl ?_
          obtain ⟨p111, h, hk112⟩ := bnd h
          refine WL.cut 6 (σ := (Bool × Own)) (fun x w' => x.1 = p111 ∧ Stp [] O83 wd84 x.2 w') (fun x => [(44, .bool x.1)]) ?_ ?_
          · rcases cnd h with ⟨hE113, h⟩ | ⟨hE113, h⟩
            · refine WL.ren 38 rfl (congrArg Value.bool hE113) ?_
              refine WL.ung rfl rfl ?_
              refine WL.buildSlice (O := O83) (R := Rep.u) (vals := [(0, vu 0), (1, vu 1)]) 14 [vu 0, vu 1] (xs := [0, 1]) (by decide) ty23 ty22 (by decide) (by decide) (Fits.evalp rfl) (by kernel_rfl) rfl ⟨[vu 0], [vu 1], rfl, rfl, ⟨[vu 1], [], rfl, rfl, rfl⟩⟩ rfl ?_
              intro v114 O116 wd117 hst118 ho115
              refine WL.ung rfl rfl ?_
              have hh122 := h
              obtain ⟨p119, m120, c121, rfl⟩ := ho115.shape
              have h := hh122
              refine WL.y (Y.build (vals := [(1, (.slice p119 m120 c121))]) (cells := [vi 0, (.slice p119 m120 c121)]) (Fits.evalp rfl) (by kernel_rfl)) rfl ?_
              refine WL.ung rfl rfl ?_
              refine WL.y (Y.build (vals := [(2, .agg [vi 0, (.slice p119 m120 c121)].toArray)]) (cells := [vi 0, vu 0, vi 0, (.slice p119 m120 c121), vi 0, .slice none 0 0]) (Fits.evalp rfl) (by kernel_rfl)) rfl ?_
              refine WL.ung rfl rfl ?_
              obtain ⟨r123, hp124, h⟩ := bnd h
              refine WL.call (vals := [.agg [vi 0, vu 0, vi 0, (.slice p119 m120 c121), vi 0, .slice none 0 0].toArray]) kok19 rfl rfl (c_hist_Check (A := fun _ => True) (a0 := (api_Hist.mk 0 0 (api_Side.mk 0 [0, 1]) (api_Side.mk 0 []))) (ho115.src.sl) (Or.inl ⟨rfl, rfl⟩) hp124) ?_
              rintro vr127 wd126 ⟨rfl, hm125⟩
              obtain ⟨O128, hold129, hnew130, hst131⟩ := adoptE O116 (fun k => 1) hm125
              refine WL.ung rfl rfl ?_
              refine WL.y (Y.eql_i rfl rfl) rfl ?_
              refine WL.y (Y.pick (b := true) rfl rfl) rfl ?_
              exact WL.nil (At.join (σ := (Bool × Own)) (decide (r123 = 3), O128) ⟨some1 h, (Stp.trans (Stp.up hst118 rfl) (Stp.up hst131 rfl))⟩ (.cons rfl .nil))
            · refine WL.ren 38 rfl (congrArg Value.bool hE113) ?_
              refine WL.gS rfl rfl rfl rfl ?_
              refine WL.gS rfl rfl rfl rfl ?_
              refine WL.gS rfl rfl rfl rfl ?_
              refine WL.gS rfl rfl rfl rfl ?_
              refine WL.gS rfl rfl rfl rfl ?_
              refine WL.y (Y.pick (b := false) rfl rfl) rfl ?_
              exact WL.nil (At.join (σ := (Bool × Own)) (false, O83) ⟨some1 h, (Stp.refl _ _ _)⟩ (.cons rfl .nil))
          · rintro ⟨x107, O108⟩ wd109 ⟨rfl, hst110⟩
            replace h := hk112
            try dsimp only at h hst110
            refine (show WL _ _ _ _ _ [(44, .bool x107)] _ from ?_)
            refine WL.y (Y.assign rfl) rfl ?_
            refine WL.nil ?_
            refine At.then ?_
            refine WC.ret ?_
            obtain rfl := some1 h
            have hs132 : Stp [12, 13] (Lg.O0 (fun _ => False)) w O108 wd109 := (Stp.trans (Stp.up hst15 rfl) (Stp.trans (Stp.up hst24 rfl) (Stp.trans (Stp.up hst26 rfl) (Stp.trans (Stp.up hst43 rfl) (Stp.trans (Stp.up hst50 rfl) (Stp.trans (Stp.up hst62 rfl) (Stp.trans (Stp.up hst68 rfl) (Stp.trans (Stp.up hst85 rfl) (Stp.up hst110 rfl)))))))))
            exact At.res (.inl rfl) rfl (.tmp rfl .nil) ⟨rfl, (Stp.ext hs132 rfl rfl)⟩

theorem c_ref08_Light {A : Nat → Prop} {v0_3 : Value} {v0_5 : Value} {a0 : api_Hist} {w : World} (hs0_3 : Sl Rep.u w A v0_3 a0.Pos.Counts) (hs0_5 : Sl Rep.u w A v0_5 a0.Neg.Counts) {r0 : Bool} (h : ref08_Light a0 = some r0) : Rets Try.prog 16 [.agg [vi a0.Scale, vu a0.Zero, vi a0.Pos.Offset, v0_3, vi a0.Neg.Offset, v0_5].toArray] w (fun v w' => v = .bool r0 ∧ Ext w w') := by
  unfold ref08_Light at h
  refine Rets.enter Try.func16 rfl rfl ?_
  have hf11 : Sl Rep.u w (imm (Lg.O0 A)) v0_3 a0.Pos.Counts := (Sl.start hs0_3)
  have hf12 : Sl Rep.u w (imm (Lg.O0 A)) v0_5 a0.Neg.Counts := (Sl.start hs0_5)
  refine (show WC _ _ _ _ [(0, .agg [vi a0.Scale, vu a0.Zero, vi a0.Pos.Offset, v0_3, vi a0.Neg.Offset, v0_5].toArray)] _ from ?_)
  refine WC.seq ?_
  refine WC.region ?_
  have hh16 := h
  obtain ⟨p13, m14, c15, rfl⟩ := hf11.shape
  have h := hh16
  have hh20 := h
  obtain ⟨p17, m18, c19, rfl⟩ := hf12.shape
  have h := hh20
  refine WL.box (O := (Lg.O0 A)) 11 [vi a0.Scale, vu a0.Zero, vi a0.Pos.Offset, (.slice p13 m14 c15), vi a0.Neg.Offset, (.slice p17 m18 c19)] rfl rfl rfl ?_
  intro p22 O23 wd24 hst25 hb21
  refine WL.y (Y.assign rfl) rfl ?_
  refine WL.nil ?_
  refine At.then ?_
  refine WC.seq ?_
  refine WC.region ?_
  refine WL.y (Y.fieldAddr fo27_2 rfl) rfl ?_
  refine WL.y (Y.fieldAddr fo25_1 rfl) rfl ?_
  refine WL.y (Y.loadSc ty23 rfl rfl (hb21.cell 3 _ rfl)) rfl ?_
  have hf26 := hf11.mono (imm_st hst25 rfl rfl)
  refine WL.y (Y.len ty23 rfl hf26) rfl ?_
  refine WL.y (Y.leq_i rfl rfl) rfl ?_
  refine WL.y (Y.move rfl) rfl ?_
  refine WL.cut 6 (σ := Unit) (fun _ w' => wd24 = w') (fun _ => [(14, .bool ((decide ((a0.Pos.Counts.length : Int) ≤ 300)) && (decide ((a0.Neg.Counts.length : Int) ≤ 300))))]) ?_ ?_
  · refine WL.part 8 rfl (fun hE27 => ?_) (fun hE27 => ?_)
    · refine WL.ung rfl rfl ?_
      refine WL.y (Y.fieldAddr fo27_3 rfl) rfl ?_
      refine WL.ung rfl rfl ?_
      refine WL.y (Y.fieldAddr fo25_1 rfl) rfl ?_
      refine WL.ung rfl rfl ?_
      refine WL.y (Y.loadSc ty23 rfl rfl (hb21.cell 5 _ rfl)) rfl ?_
      refine WL.ung rfl rfl ?_
      have hf28 := hf12.mono (imm_st hst25 rfl rfl)
      refine WL.y (Y.len ty23 rfl hf28) rfl ?_
      refine WL.ung rfl rfl ?_
      refine WL.y (Y.leq_i rfl rfl) rfl ?_
      refine WL.y (Y.pick (b := true) rfl rfl) rfl ?_
      refine WL.ren (v' := .bool ((decide ((a0.Pos.Counts.length : Int) ≤ 300)) && (decide ((a0.Neg.Counts.length : Int) ≤ 300)))) 14 rfl (congrArg Value.bool (andT hE27)) ?_
      exact WL.nil (At.join () rfl (.cons rfl .nil))
    · refine WL.gS rfl rfl rfl rfl ?_
      refine WL.gS rfl rfl rfl rfl ?_
      refine WL.gS rfl rfl rfl rfl ?_
      refine WL.gS rfl rfl rfl rfl ?_
      refine WL.gS rfl rfl rfl rfl ?_
      refine WL.y (Y.pick (b := false) rfl rfl) rfl ?_
      refine WL.ren (v' := .bool ((decide ((a0.Pos.Counts.length : Int) ≤ 300)) && (decide ((a0.Neg.Counts.length : Int) ≤ 300)))) 14 rfl (congrArg Value.bool (andF hE27)) ?_
      exact WL.nil (At.join () rfl (.cons rfl .nil))
  · rintro _ _ rfl
    refine (show WL _ _ _ _ _ [(14, .bool ((decide ((a0.Pos.Counts.length : Int) ≤ 300)) && (decide ((a0.Neg.Counts.length : Int) ≤ 300))))] _ from ?_)
    obtain ⟨t29, ht29, h⟩ := lt1 h
    refine WL.yE (Y.assign rfl) (congrArg Value.bool ht29.symm) rfl ?_
    refine WL.nil ?_
    refine At.then ?_
    refine WC.ret ?_
    obtain rfl := some1 h
    have hs30 : Stp [] (Lg.O0 A) w O23 wd24 := (Stp.up hst25 rfl)
    exact At.res (.inl rfl) rfl (.tmp rfl .nil) ⟨rfl, (Stp.ext hs30 rfl rfl)⟩

theorem c_ref08_sum {A : Nat → Prop} {a0 : UInt64} {a1 : List UInt64} {v1 : Value} {w : World} (hs1 : Sl Rep.u w A v1 a1) {r0 : UInt64} {r1 : Bool} (h : ref08_sum a0 a1 = some (r0, r1)) : Rets Try.prog 59 [vu a0, v1] w (fun v w' => v = .tuple (List.toArray [vu r0, .bool r1]) ∧ Ext w w') := by
  unfold ref08_sum at h
  refine Rets.enter Try.func59 rfl rfl ?_
  have hf11 : Sl Rep.u w (imm (Lg.O0 A)) v1 a1 := (Sl.start hs1)
  refine (show WC _ _ _ _ [(0, vu a0), (1, v1)] _ from ?_)
  refine WC.seq ?_
  refine WC.region ?_
  refine WL.y (Y.assign (v := vu 0) rfl) rfl ?_
  refine WL.y (Y.assign rfl) rfl ?_
  refine WL.nil ?_
  refine At.then ?_
  refine WC.seq ?_
  refine WC.seq ?_
  refine WC.region ?_
  refine WL.y (Y.assign rfl) rfl ?_
  refine WL.nil ?_
  refine At.then ?_
  refine WC.block ?_
  obtain ⟨p15, h, hk17⟩ := flow1 h
  obtain ⟨k16, h⟩ := loop_some h
  refine WC.joinB 0 (σ := UInt64) (fun x w' => p15 = .go x ∧ w = w') (fun x => [(0, vu x)]) ?_ ?_
  · refine WC.loop (σ := (UInt64 × Int)) (fun x k w' => loopN k (ref08_sum_lp1 a1) (x.1, x.2) = some p15 ∧ w = w') (fun x => [(0, vu x.1), (1, v1), (6, vi x.2)]) (a0, 0) k16 (.cons rfl (.cons rfl (.cons rfl .nil))) ⟨h, rfl⟩ ?_
    rintro ⟨a12, i13⟩ k16 _ ⟨h, rfl⟩
    obtain ⟨j18, q19, rfl, h, hn20⟩ := rnd1 h
    unfold ref08_sum_lp1 at h
    try dsimp only at h
    refine (show WC _ _ _ _ [(0, vu a12), (1, v1), (6, vi i13)] _ from ?_)
    refine WC.seq ?_
    refine WC.seq ?_
    refine WC.region ?_
    refine WL.y (Y.move rfl) rfl ?_
    refine WL.y (Y.move rfl) rfl ?_
    refine WL.y (Y.len ty23 rfl hf11) rfl ?_
    refine WL.y (Y.lss_i rfl rfl) rfl ?_
    refine WL.nil ?_
    refine At.then ?_
    rcases cnd h with ⟨hc21, h⟩ | ⟨hc21, h⟩
    · refine WC.condT' rfl hc21 ?_
      refine WC.skip ?_
      refine At.then ?_
      refine WC.seq ?_
      refine WC.block ?_
      refine WC.seq ?_
      refine WC.seq ?_
      refine WC.region ?_
      refine WL.y (Y.move rfl) rfl ?_
      refine WL.y (Y.move rfl) rfl ?_
      obtain ⟨e22, he22, h⟩ := bnd h
      obtain ⟨b23, off31, cap30, cs29, hv24, hi25, hl26, hc27, hok28, hA32⟩ := Sl.at2 hf11 he22
      obtain rfl := hok28
      replace hc27 : CellsAt _ _ _ [vu e22] := hc27
      have hca33 := CAt.imm hc27 hA32
      refine WL.y (Y.indexAddr ty23 ty22 rfl hv24 rfl hi25 hl26) rfl ?_
      refine WL.y (Y.loadSc ty22 rfl rfl hca33.at_) rfl ?_
      refine WL.y (Y.move rfl) rfl ?_
      refine WL.y (Y.sub_u (a := 18446744073709551615) rfl rfl) rfl ?_
      refine WL.y (Y.gtr_u rfl rfl) rfl ?_
      refine WL.nil ?_
      refine At.then ?_
      rcases cnd h with ⟨hc34, h⟩ | ⟨hc34, h⟩
      · refine WC.condT' rfl hc34 ?_
        refine WC.seq ?_
        refine WC.region ?_
        refine WL.y (Y.assign (v := vu 0) rfl) rfl ?_
        refine WL.y (Y.assign rfl) rfl ?_
        refine WL.nil ?_
        refine At.then ?_
        refine WC.ret ?_
        refine At.thenR ?_
        refine At.inBlockR ?_
        refine At.thenR ?_
        refine At.loopR ?_
        have h := outr1 h hn20 hk17
        refine At.joinBR ?_
        refine At.inBlockR ?_
        refine At.thenR ?_
        obtain ⟨rfl, rfl⟩ := tup2 h
        have hs35 : Stp [] (Lg.O0 A) w (Lg.O0 A) w := (Stp.refl _ _ _)
        exact At.res (.inl rfl) rfl (.tmp rfl (.tmp rfl .nil)) ⟨rfl, (Stp.ext hs35 rfl rfl)⟩
      · refine WC.condF' rfl hc34 ?_
        refine WC.skip ?_
        refine At.then ?_
        refine WC.region ?_
        refine WL.y (Y.move rfl) rfl ?_
        refine WL.y (Y.move rfl) rfl ?_
        refine WL.y (Y.move rfl) rfl ?_
        obtain ⟨e36, he36, h⟩ := bnd h
        obtain ⟨b37, off45, cap44, cs43, hv38, hi39, hl40, hc41, hok42, hA46⟩ := Sl.at2 hf11 he36
        obtain rfl := hok42
        replace hc41 : CellsAt _ _ _ [vu e36] := hc41
        have hca47 := CAt.imm hc41 hA46
        refine WL.y (Y.indexAddr ty23 ty22 rfl hv38 rfl hi39 hl40) rfl ?_
        refine WL.y (Y.loadSc ty22 rfl rfl hca47.at_) rfl ?_
        refine WL.y (Y.add_u rfl rfl) rfl ?_
        obtain ⟨a48, ha48, h⟩ := lt1 h
        refine WL.yE (Y.assign rfl) (congrArg vu ha48.symm) rfl ?_
        refine WL.nil ?_
        refine At.inBlock ?_
        refine At.then ?_
        refine WC.region ?_
        refine WL.y (Y.move rfl) rfl ?_
        refine WL.y (Y.add_i rfl rfl) rfl ?_
        obtain ⟨i49, hi49, h⟩ := lt1 h
        refine WL.yE (Y.assign rfl) (congrArg vi hi49.symm) rfl ?_
        refine WL.nil ?_
        exact At.round (a48, i49) j18 (Nat.lt_succ_self _) ⟨next1 h hn20, rfl⟩ (.cons rfl (.cons rfl (.cons rfl .nil)))
    · refine WC.condF' rfl hc21 ?_
      refine WC.exit ?_
      refine At.thenX ?_
      refine At.loopX ?_
      exact At.hitB (σ := UInt64) a12 ⟨brk1 h hn20, rfl⟩ (.cons rfl .nil)
  · rintro a14 _ ⟨rfl, rfl⟩
    replace h := flowK_go hk17
    try dsimp only at h
    refine (show At _ _ _ [(0, vu a14)] _ from ?_)
    refine At.inBlockHit ?_
    refine At.then ?_
    refine WC.seq ?_
    refine WC.region ?_
    refine WL.y (Y.move rfl) rfl ?_
    refine WL.y (Y.assign rfl) rfl ?_
    refine WL.y (Y.assign rfl) rfl ?_
    refine WL.nil ?_
    refine At.then ?_
    refine WC.ret ?_
    obtain ⟨rfl, rfl⟩ := tup2 h
    have hs50 : Stp [] (Lg.O0 A) w (Lg.O0 A) w := (Stp.refl _ _ _)
    exact At.res (.inl rfl) rfl (.tmp rfl (.tmp rfl .nil)) ⟨rfl, (Stp.ext hs50 rfl rfl)⟩

theorem c_ref08_Total {A : Nat → Prop} {v0_3 : Value} {v0_5 : Value} {a0 : api_Hist} {w : World} (hs0_3 : Sl Rep.u w A v0_3 a0.Pos.Counts) (hs0_5 : Sl Rep.u w A v0_5 a0.Neg.Counts) {r0 : UInt64} {r1 : Bool} (h : ref08_Total a0 = some (r0, r1)) : Rets Try.prog 18 [.agg [vi a0.Scale, vu a0.Zero, vi a0.Pos.Offset, v0_3, vi a0.Neg.Offset, v0_5].toArray] w (fun v w' => v = .tuple (List.toArray [vu r0, .bool r1]) ∧ Ext w w') := by
  unfold ref08_Total at h
  refine Rets.enter Try.func18 rfl rfl ?_
  have hf11 : Sl Rep.u w (imm (Lg.O0 A)) v0_3 a0.Pos.Counts := (Sl.start hs0_3)
  have hf12 : Sl Rep.u w (imm (Lg.O0 A)) v0_5 a0.Neg.Counts := (Sl.start hs0_5)
  refine (show WC _ _ _ _ [(0, .agg [vi a0.Scale, vu a0.Zero, vi a0.Pos.Offset, v0_3, vi a0.Neg.Offset, v0_5].toArray)] _ from ?_)
  refine WC.seq ?_
  refine WC.region ?_
  have hh16 := h
  obtain ⟨p13, m14, c15, rfl⟩ := hf11.shape
  have h := hh16
  have hh20 := h
  obtain ⟨p17, m18, c19, rfl⟩ := hf12.shape
  have h := hh20
  refine WL.box (O := (Lg.O0 A)) 11 [vi a0.Scale, vu a0.Zero, vi a0.Pos.Offset, (.slice p13 m14 c15), vi a0.Neg.Offset, (.slice p17 m18 c19)] rfl rfl rfl ?_
  intro p22 O23 wd24 hst25 hb21
  refine WL.y (Y.assign (v := vu 0) rfl) rfl ?_
  refine WL.y (Y.assign rfl) rfl ?_
  refine WL.nil ?_
  refine At.then ?_
  refine WC.seq ?_
  refine WC.region ?_
  refine WL.y (Y.fieldAddr fo27_1 rfl) rfl ?_
  refine WL.y (Y.loadSc ty22 rfl rfl (hb21.cell 1 _ rfl)) rfl ?_
  refine WL.y (Y.fieldAddr fo27_2 rfl) rfl ?_
  refine WL.y (Y.fieldAddr fo25_1 rfl) rfl ?_
  refine WL.y (Y.loadSc ty23 rfl rfl (hb21.cell 3 _ rfl)) rfl ?_
  have hf26 := hf11.mono (imm_st hst25 rfl rfl)
  obtain ⟨⟨r27, r28⟩, hp29, h⟩ := bnd h
  refine WL.call (vals := [vu a0.Zero, (.slice p13 m14 c15)]) kok59 rfl rfl (c_ref08_sum (A := fun _ => True) (Sl.all hf26) hp29) ?_
  rintro vr32 wd31 ⟨rfl, hm30⟩
  obtain ⟨O33, hold34, hnew35, hst36⟩ := adoptE O23 (fun k => 1) hm30
  refine WL.y (Y.move rfl) rfl ?_
  refine WL.y (Y.extract rfl rfl) rfl ?_
  refine WL.y (Y.extract rfl rfl) rfl ?_
  refine WL.y (Y.assign rfl) rfl ?_
  refine WL.y (Y.assign rfl) rfl ?_
  refine WL.nil ?_
  refine At.then ?_
  refine WC.seq ?_
  refine WC.seq ?_
  refine WC.region ?_
  refine WL.y (Y.move rfl) rfl ?_
  refine WL.y (Y.not rfl) rfl ?_
  refine WL.nil ?_
  refine At.then ?_
  rcases cnd h with ⟨hc37, h⟩ | ⟨hc37, h⟩
  · refine WC.condT' rfl hc37 ?_
    refine WC.seq ?_
    refine WC.region ?_
    refine WL.y (Y.assign (v := vu 0) rfl) rfl ?_
    refine WL.y (Y.assign rfl) rfl ?_
    refine WL.nil ?_
    refine At.then ?_
    refine WC.ret ?_
    refine At.thenR ?_
    obtain ⟨rfl, rfl⟩ := tup2 h
    have hs38 : Stp [] (Lg.O0 A) w O33 wd31 := (Stp.trans (Stp.up hst25 rfl) (Stp.up hst36 rfl))
    exact At.res (.inl rfl) rfl (.tmp rfl (.tmp rfl .nil)) ⟨rfl, (Stp.ext hs38 rfl rfl)⟩
  · refine WC.condF' rfl hc37 ?_
    refine WC.skip ?_
    refine At.then ?_
    refine WC.seq ?_
    refine WC.region ?_
    refine WL.y (Y.move rfl) rfl ?_
    refine WL.y (Y.fieldAddr fo27_3 rfl) rfl ?_
    refine WL.y (Y.fieldAddr fo25_1 rfl) rfl ?_
    have hf39 := hb21.st hst36 rfl
    refine WL.y (Y.loadSc ty23 rfl rfl (hf39.cell 5 _ rfl)) rfl ?_
    have hf40 := hf12.mono (imm_st hst25 rfl rfl)
    have hf41 := hf40.mono (imm_st hst36 rfl rfl)
    obtain ⟨⟨r42, r43⟩, hp44, h⟩ := bnd h
    refine WL.call (vals := [vu r27, (.slice p17 m18 c19)]) kok59 rfl rfl (c_ref08_sum (A := fun _ => True) (Sl.all hf41) hp44) ?_
    rintro vr47 wd46 ⟨rfl, hm45⟩
    obtain ⟨O48, hold49, hnew50, hst51⟩ := adoptE O33 (fun k => 1) hm45
    refine WL.y (Y.extract rfl rfl) rfl ?_
    refine WL.y (Y.extract rfl rfl) rfl ?_
    refine WL.y (Y.assign rfl) rfl ?_
    refine WL.y (Y.assign rfl) rfl ?_
    refine WL.nil ?_
    refine At.then ?_
    refine WC.ret ?_
    obtain ⟨rfl, rfl⟩ := tup2 h
    have hs52 : Stp [] (Lg.O0 A) w O48 wd46 := (Stp.trans (Stp.up hst25 rfl) (Stp.trans (Stp.up hst36 rfl) (Stp.up hst51 rfl)))
    exact At.res (.inl rfl) rfl (.tmp rfl (.tmp rfl .nil)) ⟨rfl, (Stp.ext hs52 rfl rfl)⟩

theorem c_ref08_side {A : Nat → Prop} {v0_1 : Value} {a0 : api_Side} {w : World} (hs0_1 : Sl Rep.u w A v0_1 a0.Counts) {r0 : Int} (h : ref08_side a0 = some r0) : Rets Try.prog 61 [.agg [vi a0.Offset, v0_1].toArray] w (fun v w' => v = vi r0 ∧ Ext w w') := by
  unfold ref08_side at h
  refine Rets.enter Try.func61 rfl rfl ?_
  have hf11 : Sl Rep.u w (imm (Lg.O0 A)) v0_1 a0.Counts := (Sl.start hs0_1)
  refine (show WC _ _ _ _ [(0, .agg [vi a0.Offset, v0_1].toArray)] _ from ?_)
  refine WC.seq ?_
  refine WC.region ?_
  have hh15 := h
  obtain ⟨p12, m13, c14, rfl⟩ := hf11.shape
  have h := hh15
  refine WL.box (O := (Lg.O0 A)) 11 [vi a0.Offset, (.slice p12 m13 c14)] rfl rfl rfl ?_
  intro p17 O18 wd19 hst20 hb16
  refine WL.y (Y.assign rfl) rfl ?_
  refine WL.nil ?_
  refine At.then ?_
  refine WC.seq ?_
  refine WC.region ?_
  refine WL.y (Y.fieldAddr fo25_1 rfl) rfl ?_
  refine WL.y (Y.loadSc ty23 rfl rfl (hb16.cell 1 _ rfl)) rfl ?_
  have hf21 := hf11.mono (imm_st hst20 rfl rfl)
  refine WL.y (Y.len ty23 rfl hf21) rfl ?_
  obtain ⟨nv22, hnv22, h⟩ := lt1 h
  refine WL.yE (Y.assign rfl) (congrArg vi hnv22.symm) rfl ?_
  refine WL.nil ?_
  refine At.then ?_
  refine WC.seq ?_
  refine WC.seq ?_
  refine WC.region ?_
  refine WL.y (Y.move rfl) rfl ?_
  refine WL.y (Y.gtr_i rfl rfl) rfl ?_
  refine WL.nil ?_
  refine At.then ?_
  rcases cnd h with ⟨hc23, h⟩ | ⟨hc23, h⟩
  · refine WC.condT' rfl hc23 ?_
    refine WC.seq ?_
    refine WC.region ?_
    refine WL.y (Y.assign rfl) rfl ?_
    refine WL.nil ?_
    refine At.then ?_
    refine WC.ret ?_
    refine At.thenR ?_
    obtain rfl := some1 h
    have hs24 : Stp [] (Lg.O0 A) w O18 wd19 := (Stp.up hst20 rfl)
    exact At.res (.inl rfl) rfl (.tmp rfl .nil) ⟨rfl, (Stp.ext hs24 rfl rfl)⟩
  · refine WC.condF' rfl hc23 ?_
    refine WC.skip ?_
    refine At.then ?_
    refine WC.seq ?_
    refine WC.seq ?_
    refine WC.region ?_
    refine WL.y (Y.move rfl) rfl ?_
    refine WL.y (Y.eql_i rfl rfl) rfl ?_
    refine WL.nil ?_
    refine At.then ?_
    rcases cnd h with ⟨hc25, h⟩ | ⟨hc25, h⟩
    · refine WC.condT' rfl hc25 ?_
      refine WC.seq ?_
      refine WC.seq ?_
      refine WC.region ?_
      refine WL.y (Y.fieldAddr fo25_0 rfl) rfl ?_
      refine WL.y (Y.loadSc ty3 rfl rfl (hb16.cell 0 _ rfl)) rfl ?_
      refine WL.y (Y.neq_i rfl rfl) rfl ?_
      refine WL.nil ?_
      refine At.then ?_
      rcases cnd h with ⟨hc26, h⟩ | ⟨hc26, h⟩
      · refine WC.condT' rfl hc26 ?_
        refine WC.seq ?_
        refine WC.region ?_
        refine WL.y (Y.assign rfl) rfl ?_
        refine WL.nil ?_
        refine At.then ?_
        refine WC.ret ?_
        refine At.thenR ?_
        refine At.thenR ?_
        obtain rfl := some1 h
        have hs27 : Stp [] (Lg.O0 A) w O18 wd19 := (Stp.up hst20 rfl)
        exact At.res (.inl rfl) rfl (.tmp rfl .nil) ⟨rfl, (Stp.ext hs27 rfl rfl)⟩
      · refine WC.condF' rfl hc26 ?_
        refine WC.skip ?_
        refine At.then ?_
        refine WC.seq ?_
        refine WC.region ?_
        refine WL.y (Y.assign rfl) rfl ?_
        refine WL.nil ?_
        refine At.then ?_
        refine WC.ret ?_
        refine At.thenR ?_
        obtain rfl := some1 h
        have hs28 : Stp [] (Lg.O0 A) w O18 wd19 := (Stp.up hst20 rfl)
        exact At.res (.inl rfl) rfl (.tmp rfl .nil) ⟨rfl, (Stp.ext hs28 rfl rfl)⟩
    · refine WC.condF' rfl hc25 ?_
      refine WC.skip ?_
      refine At.then ?_
      refine WC.seq ?_
      refine WC.seq ?_
      refine WC.region ?_
      refine WL.y (Y.fieldAddr fo25_1 rfl) rfl ?_
      refine WL.y (Y.loadSc ty23 rfl rfl (hb16.cell 1 _ rfl)) rfl ?_
      obtain ⟨e29, he29, h⟩ := bnd h
      obtain ⟨b30, off38, cap37, cs36, hv31, hi32, hl33, hc34, hok35, hA39⟩ := Sl.at2 hf21 he29
      obtain rfl := hok35
      replace hc34 : CellsAt _ _ _ [vu e29] := hc34
      have hca40 := CAt.imm hc34 hA39
      refine WL.y (Y.indexAddr ty23 ty22 rfl hv31 rfl hi32 hl33) rfl ?_
      refine WL.y (Y.loadSc ty22 rfl rfl hca40.at_) rfl ?_
      refine WL.y (Y.eql_u (b := 0) rfl rfl) rfl ?_
      refine WL.y (Y.move rfl) rfl ?_
      obtain ⟨p42, h, hk43⟩ := bnd h
      refine WL.cut 8 (σ := Bool) (fun x w' => x = p42 ∧ wd19 = w') (fun x => [(1, .pointer (some ⟨p17, 0, none⟩)), (3, vi nv22), (27, .bool x)]) ?_ ?_
      · rcases cnd h with ⟨hE44, h⟩ | ⟨hE44, h⟩
        · refine WL.ren 19 rfl (congrArg Value.bool hE44) ?_
          refine WL.gS rfl rfl rfl rfl ?_
          refine WL.gS rfl rfl rfl rfl ?_
          refine WL.gS rfl rfl rfl rfl ?_
          refine WL.gS rfl rfl rfl rfl ?_
          refine WL.gS rfl rfl rfl rfl ?_
          refine WL.gS rfl rfl rfl rfl ?_
          refine WL.gS rfl rfl rfl rfl ?_
          refine WL.y (Y.pick (b := true) rfl rfl) rfl ?_
          exact WL.nil (At.join (σ := Bool) true ⟨some1 h, rfl⟩ (.cons rfl (.cons rfl (.cons rfl .nil))))
        · refine WL.ren 19 rfl (congrArg Value.bool hE44) ?_
          refine WL.ung rfl rfl ?_
          refine WL.y (Y.fieldAddr fo25_1 rfl) rfl ?_
          refine WL.ung rfl rfl ?_
          refine WL.y (Y.loadSc ty23 rfl rfl (hb16.cell 1 _ rfl)) rfl ?_
          refine WL.ung rfl rfl ?_
          refine WL.y (Y.move rfl) rfl ?_
          refine WL.ung rfl rfl ?_
          refine WL.y (Y.sub_i rfl rfl) rfl ?_
          refine WL.ung rfl rfl ?_
          obtain ⟨e45, he45, h⟩ := bnd h
          obtain ⟨b46, off54, cap53, cs52, hv47, hi48, hl49, hc50, hok51, hA55⟩ := Sl.at2 hf21 he45
          obtain rfl := hok51
          replace hc50 : CellsAt _ _ _ [vu e45] := hc50
          have hca56 := CAt.imm hc50 hA55
          refine WL.y (Y.indexAddr ty23 ty22 rfl hv47 rfl hi48 hl49) rfl ?_
          refine WL.ung rfl rfl ?_
          refine WL.y (Y.loadSc ty22 rfl rfl hca56.at_) rfl ?_
          refine WL.ung rfl rfl ?_
          refine WL.y (Y.eql_u (b := 0) rfl rfl) rfl ?_
          refine WL.y (Y.pick (b := false) rfl rfl) rfl ?_
          exact WL.nil (At.join (σ := Bool) (decide (e45 = 0)) ⟨some1 h, rfl⟩ (.cons rfl (.cons rfl (.cons rfl .nil))))
      · rintro x41 _ ⟨rfl, rfl⟩
        replace h := hk43
        try dsimp only at h
        refine (show WL _ _ _ _ _ [(1, .pointer (some ⟨p17, 0, none⟩)), (3, vi nv22), (27, .bool x41)] _ from ?_)
        refine WL.nil ?_
        refine At.then ?_
        rcases cnd h with ⟨hc57, h⟩ | ⟨hc57, h⟩
        · refine WC.condT' rfl hc57 ?_
          refine WC.seq ?_
          refine WC.region ?_
          refine WL.y (Y.assign rfl) rfl ?_
          refine WL.nil ?_
          refine At.then ?_
          refine WC.ret ?_
          refine At.thenR ?_
          obtain rfl := some1 h
          have hs58 : Stp [] (Lg.O0 A) w O18 wd19 := (Stp.up hst20 rfl)
          exact At.res (.inl rfl) rfl (.tmp rfl .nil) ⟨rfl, (Stp.ext hs58 rfl rfl)⟩
        · refine WC.condF' rfl hc57 ?_
          refine WC.skip ?_
          refine At.then ?_
          refine WC.seq ?_
          refine WC.seq ?_
          refine WC.region ?_
          refine WL.y (Y.fieldAddr fo25_0 rfl) rfl ?_
          refine WL.y (Y.loadSc ty3 rfl rfl (hb16.cell 0 _ rfl)) rfl ?_
          refine WL.y (Y.lss_i rfl rfl) rfl ?_
          refine WL.y (Y.move rfl) rfl ?_
          refine WL.cut 4 (σ := Unit) (fun _ w' => wd19 = w') (fun _ => [(1, .pointer (some ⟨p17, 0, none⟩)), (3, vi nv22), (35, .bool ((decide (a0.Offset < (-1073741824))) || (decide (1073741824 < a0.Offset))))]) ?_ ?_
          · refine WL.part 31 rfl (fun hE59 => ?_) (fun hE59 => ?_)
            · refine WL.gS rfl rfl rfl rfl ?_
              refine WL.gS rfl rfl rfl rfl ?_
              refine WL.gS rfl rfl rfl rfl ?_
              refine WL.y (Y.pick (b := true) rfl rfl) rfl ?_
              refine WL.ren (v' := .bool ((decide (a0.Offset < (-1073741824))) || (decide (1073741824 < a0.Offset)))) 35 rfl (congrArg Value.bool (orT hE59)) ?_
              exact WL.nil (At.join () rfl (.cons rfl (.cons rfl (.cons rfl .nil))))
            · refine WL.ung rfl rfl ?_
              refine WL.y (Y.fieldAddr fo25_0 rfl) rfl ?_
              refine WL.ung rfl rfl ?_
              refine WL.y (Y.loadSc ty3 rfl rfl (hb16.cell 0 _ rfl)) rfl ?_
              refine WL.ung rfl rfl ?_
              refine WL.y (Y.gtr_i rfl rfl) rfl ?_
              refine WL.y (Y.pick (b := false) rfl rfl) rfl ?_
              refine WL.ren (v' := .bool ((decide (a0.Offset < (-1073741824))) || (decide (1073741824 < a0.Offset)))) 35 rfl (congrArg Value.bool (orF hE59)) ?_
              exact WL.nil (At.join () rfl (.cons rfl (.cons rfl (.cons rfl .nil))))
          · rintro _ _ rfl
            refine (show WL _ _ _ _ _ [(1, .pointer (some ⟨p17, 0, none⟩)), (3, vi nv22), (35, .bool ((decide (a0.Offset < (-1073741824))) || (decide (1073741824 < a0.Offset))))] _ from ?_)
            refine WL.y (Y.move rfl) rfl ?_
            refine WL.cut 7 (σ := Unit) (fun _ w' => wd19 = w') (fun _ => [(43, .bool (((decide (a0.Offset < (-1073741824))) || (decide (1073741824 < a0.Offset))) || (decide (1073741824 < w64 ((w64 (a0.Offset + nv22)) - 1)))))]) ?_ ?_
            · refine WL.part 36 rfl (fun hE60 => ?_) (fun hE60 => ?_)
              · refine WL.gS rfl rfl rfl rfl ?_
                refine WL.gS rfl rfl rfl rfl ?_
                refine WL.gS rfl rfl rfl rfl ?_
                refine WL.gS rfl rfl rfl rfl ?_
                refine WL.gS rfl rfl rfl rfl ?_
                refine WL.gS rfl rfl rfl rfl ?_
                refine WL.y (Y.pick (b := true) rfl rfl) rfl ?_
                refine WL.ren (v' := .bool (((decide (a0.Offset < (-1073741824))) || (decide (1073741824 < a0.Offset))) || (decide (1073741824 < w64 ((w64 (a0.Offset + nv22)) - 1))))) 43 rfl (congrArg Value.bool (orT hE60)) ?_
                exact WL.nil (At.join () rfl (.cons rfl .nil))
              · refine WL.ung rfl rfl ?_
                refine WL.y (Y.fieldAddr fo25_0 rfl) rfl ?_
                refine WL.ung rfl rfl ?_
                refine WL.y (Y.loadSc ty3 rfl rfl (hb16.cell 0 _ rfl)) rfl ?_
                refine WL.ung rfl rfl ?_
                refine WL.y (Y.move rfl) rfl ?_
                refine WL.ung rfl rfl ?_
                refine WL.y (Y.add_i rfl rfl) rfl ?_
                refine WL.ung rfl rfl ?_
                refine WL.y (Y.sub_i rfl rfl) rfl ?_
                refine WL.ung rfl rfl ?_
                refine WL.y (Y.gtr_i rfl rfl) rfl ?_
                refine WL.y (Y.pick (b := false) rfl rfl) rfl ?_
                refine WL.ren (v' := .bool (((decide (a0.Offset < (-1073741824))) || (decide (1073741824 < a0.Offset))) || (decide (1073741824 < w64 ((w64 (a0.Offset + nv22)) - 1))))) 43 rfl (congrArg Value.bool (orF hE60)) ?_
                exact WL.nil (At.join () rfl (.cons rfl .nil))
            · rintro _ _ rfl
              refine (show WL _ _ _ _ _ [(43, .bool (((decide (a0.Offset < (-1073741824))) || (decide (1073741824 < a0.Offset))) || (decide (1073741824 < w64 ((w64 (a0.Offset + nv22)) - 1)))))] _ from ?_)
              refine WL.nil ?_
              refine At.then ?_
              rcases cnd h with ⟨hc61, h⟩ | ⟨hc61, h⟩
              · refine WC.condT' rfl hc61 ?_
                refine WC.seq ?_
                refine WC.region ?_
                refine WL.y (Y.assign rfl) rfl ?_
                refine WL.nil ?_
                refine At.then ?_
                refine WC.ret ?_
                refine At.thenR ?_
                obtain rfl := some1 h
                have hs62 : Stp [] (Lg.O0 A) w O18 wd19 := (Stp.up hst20 rfl)
                exact At.res (.inl rfl) rfl (.tmp rfl .nil) ⟨rfl, (Stp.ext hs62 rfl rfl)⟩
              · refine WC.condF' rfl hc61 ?_
                refine WC.skip ?_
                refine At.then ?_
                refine WC.seq ?_
                refine WC.region ?_
                refine WL.y (Y.assign rfl) rfl ?_
                refine WL.nil ?_
                refine At.then ?_
                refine WC.ret ?_
                obtain rfl := some1 h
                have hs63 : Stp [] (Lg.O0 A) w O18 wd19 := (Stp.up hst20 rfl)
                exact At.res (.inl rfl) rfl (.tmp rfl .nil) ⟨rfl, (Stp.ext hs63 rfl rfl)⟩

theorem c_ref08_Check {A : Nat → Prop} {v0_3 : Value} {v0_5 : Value} {a0 : api_Hist} {w : World} (hs0_3 : Sl Rep.u w A v0_3 a0.Pos.Counts) (hs0_5 : Sl Rep.u w A v0_5 a0.Neg.Counts) {r0 : Int} (h : ref08_Check a0 = some r0) : Rets Try.prog 20 [.agg [vi a0.Scale, vu a0.Zero, vi a0.Pos.Offset, v0_3, vi a0.Neg.Offset, v0_5].toArray] w (fun v w' => v = vi r0 ∧ Ext w w') := by
  unfold ref08_Check at h
  refine Rets.enter Try.func20 rfl rfl ?_
  have hf11 : Sl Rep.u w (imm (Lg.O0 A)) v0_3 a0.Pos.Counts := (Sl.start hs0_3)
  have hf12 : Sl Rep.u w (imm (Lg.O0 A)) v0_5 a0.Neg.Counts := (Sl.start hs0_5)
  refine (show WC _ _ _ _ [(0, .agg [vi a0.Scale, vu a0.Zero, vi a0.Pos.Offset, v0_3, vi a0.Neg.Offset, v0_5].toArray)] _ from ?_)
  refine WC.seq ?_
  refine WC.region ?_
  have hh16 := h
  obtain ⟨p13, m14, c15, rfl⟩ := hf11.shape
  have h := hh16
  have hh20 := h
  obtain ⟨p17, m18, c19, rfl⟩ := hf12.shape
  have h := hh20
  refine WL.box (O := (Lg.O0 A)) 11 [vi a0.Scale, vu a0.Zero, vi a0.Pos.Offset, (.slice p13 m14 c15), vi a0.Neg.Offset, (.slice p17 m18 c19)] rfl rfl rfl ?_
  intro p22 O23 wd24 hst25 hb21
  refine WL.y (Y.assign rfl) rfl ?_
  refine WL.nil ?_
  refine At.then ?_
  refine WC.seq ?_
  refine WC.seq ?_
  refine WC.region ?_
  refine WL.y (Y.fieldAddr fo27_0 rfl) rfl ?_
  refine WL.y (Y.loadSc ty3 rfl rfl (hb21.cell 0 _ rfl)) rfl ?_
  refine WL.y (Y.lss_i rfl rfl) rfl ?_
  refine WL.y (Y.move rfl) rfl ?_
  refine WL.cut 4 (σ := Unit) (fun _ w' => wd24 = w') (fun _ => [(1, .pointer (some ⟨p22, 0, none⟩)), (14, .bool ((decide (a0.Scale < (-10))) || (decide (20 < a0.Scale))))]) ?_ ?_
  · refine WL.part 10 rfl (fun hE26 => ?_) (fun hE26 => ?_)
    · refine WL.gS rfl rfl rfl rfl ?_
      refine WL.gS rfl rfl rfl rfl ?_
      refine WL.gS rfl rfl rfl rfl ?_
      refine WL.y (Y.pick (b := true) rfl rfl) rfl ?_
      refine WL.ren (v' := .bool ((decide (a0.Scale < (-10))) || (decide (20 < a0.Scale)))) 14 rfl (congrArg Value.bool (orT hE26)) ?_
      exact WL.nil (At.join () rfl (.cons rfl (.cons rfl .nil)))
    · refine WL.ung rfl rfl ?_
      refine WL.y (Y.fieldAddr fo27_0 rfl) rfl ?_
      refine WL.ung rfl rfl ?_
      refine WL.y (Y.loadSc ty3 rfl rfl (hb21.cell 0 _ rfl)) rfl ?_
      refine WL.ung rfl rfl ?_
      refine WL.y (Y.gtr_i rfl rfl) rfl ?_
      refine WL.y (Y.pick (b := false) rfl rfl) rfl ?_
      refine WL.ren (v' := .bool ((decide (a0.Scale < (-10))) || (decide (20 < a0.Scale)))) 14 rfl (congrArg Value.bool (orF hE26)) ?_
      exact WL.nil (At.join () rfl (.cons rfl (.cons rfl .nil)))
  · rintro _ _ rfl
    refine (show WL _ _ _ _ _ [(1, .pointer (some ⟨p22, 0, none⟩)), (14, .bool ((decide (a0.Scale < (-10))) || (decide (20 < a0.Scale))))] _ from ?_)
    refine WL.nil ?_
    refine At.then ?_
    rcases cnd h with ⟨hc27, h⟩ | ⟨hc27, h⟩
    · refine WC.condT' rfl hc27 ?_
      refine WC.seq ?_
      refine WC.region ?_
      refine WL.y (Y.assign rfl) rfl ?_
      refine WL.nil ?_
      refine At.then ?_
      refine WC.ret ?_
      refine At.thenR ?_
      obtain rfl := some1 h
      have hs28 : Stp [] (Lg.O0 A) w O23 wd24 := (Stp.up hst25 rfl)
      exact At.res (.inl rfl) rfl (.tmp rfl .nil) ⟨rfl, (Stp.ext hs28 rfl rfl)⟩
    · refine WC.condF' rfl hc27 ?_
      refine WC.skip ?_
      refine At.then ?_
      refine WC.seq ?_
      refine WC.seq ?_
      refine WC.region ?_
      refine WL.y (Y.fieldAddr fo27_2 rfl) rfl ?_
      refine WL.y (Y.loadAg ty25 rfl rfl (hb21.cells 2 [vi a0.Pos.Offset, (.slice p13 m14 c15)] rfl) rfl) rfl ?_
      have hf29 := hf11.mono (imm_st hst25 rfl rfl)
      obtain ⟨r30, hp31, h⟩ := bnd h
      refine WL.call (vals := [.agg [vi a0.Pos.Offset, (.slice p13 m14 c15)].toArray]) kok61 rfl rfl (c_ref08_side (A := fun _ => True) (a0 := a0.Pos) (Sl.all hf29) hp31) ?_
      rintro vr34 wd33 ⟨rfl, hm32⟩
      obtain ⟨O35, hold36, hnew37, hst38⟩ := adoptE O23 (fun k => 1) hm32
      refine WL.y (Y.assign rfl) rfl ?_
      refine WL.nil ?_
      refine At.then ?_
      refine WC.seq ?_
      refine WC.region ?_
      refine WL.y (Y.move rfl) rfl ?_
      refine WL.y (Y.neq_i rfl rfl) rfl ?_
      refine WL.nil ?_
      refine At.then ?_
      rcases cnd h with ⟨hc39, h⟩ | ⟨hc39, h⟩
      · refine WC.condT' rfl hc39 ?_
        refine WC.seq ?_
        refine WC.region ?_
        refine WL.y (Y.move rfl) rfl ?_
        refine WL.y (Y.assign rfl) rfl ?_
        refine WL.nil ?_
        refine At.then ?_
        refine WC.ret ?_
        refine At.thenR ?_
        obtain rfl := some1 h
        have hs40 : Stp [] (Lg.O0 A) w O35 wd33 := (Stp.trans (Stp.up hst25 rfl) (Stp.up hst38 rfl))
        exact At.res (.inl rfl) rfl (.tmp rfl .nil) ⟨rfl, (Stp.ext hs40 rfl rfl)⟩
      · refine WC.condF' rfl hc39 ?_
        refine WC.skip ?_
        refine At.then ?_
        refine WC.seq ?_
        refine WC.seq ?_
        refine WC.region ?_
        refine WL.y (Y.fieldAddr fo27_3 rfl) rfl ?_
        have hf41 := hb21.st hst38 rfl
        refine WL.y (Y.loadAg ty25 rfl rfl (hf41.cells 4 [vi a0.Neg.Offset, (.slice p17 m18 c19)] rfl) rfl) rfl ?_
        have hf42 := hf12.mono (imm_st hst25 rfl rfl)
        have hf43 := hf42.mono (imm_st hst38 rfl rfl)
        obtain ⟨r44, hp45, h⟩ := bnd h
        refine WL.call (vals := [.agg [vi a0.Neg.Offset, (.slice p17 m18 c19)].toArray]) kok61 rfl rfl (c_ref08_side (A := fun _ => True) (a0 := a0.Neg) (Sl.all hf43) hp45) ?_
        rintro vr48 wd47 ⟨rfl, hm46⟩
        obtain ⟨O49, hold50, hnew51, hst52⟩ := adoptE O35 (fun k => 1) hm46
        refine WL.y (Y.assign rfl) rfl ?_
        refine WL.nil ?_
        refine At.then ?_
        refine WC.seq ?_
        refine WC.region ?_
        refine WL.y (Y.move rfl) rfl ?_
        refine WL.y (Y.neq_i rfl rfl) rfl ?_
        refine WL.nil ?_
        refine At.then ?_
        rcases cnd h with ⟨hc53, h⟩ | ⟨hc53, h⟩
        · refine WC.condT' rfl hc53 ?_
          refine WC.seq ?_
          refine WC.region ?_
          refine WL.y (Y.move rfl) rfl ?_
          refine WL.y (Y.assign rfl) rfl ?_
          refine WL.nil ?_
          refine At.then ?_
          refine WC.ret ?_
          refine At.thenR ?_
          obtain rfl := some1 h
          have hs54 : Stp [] (Lg.O0 A) w O49 wd47 := (Stp.trans (Stp.up hst25 rfl) (Stp.trans (Stp.up hst38 rfl) (Stp.up hst52 rfl)))
          exact At.res (.inl rfl) rfl (.tmp rfl .nil) ⟨rfl, (Stp.ext hs54 rfl rfl)⟩
        · refine WC.condF' rfl hc53 ?_
          refine WC.skip ?_
          refine At.then ?_
          refine WC.seq ?_
          refine WC.seq ?_
          refine WC.region ?_
          have hf55 := hf41.st hst52 rfl
          refine WL.y (Y.loadAg ty27 rfl rfl (hf55.cells 0 [vi a0.Scale, vu a0.Zero, vi a0.Pos.Offset, (.slice p13 m14 c15), vi a0.Neg.Offset, (.slice p17 m18 c19)] rfl) rfl) rfl ?_
          have hf56 := hf29.mono (imm_st hst38 rfl rfl)
          have hf57 := hf56.mono (imm_st hst52 rfl rfl)
          have hf58 := hf43.mono (imm_st hst52 rfl rfl)
          obtain ⟨⟨r59, r60⟩, hp61, h⟩ := bnd h
          refine WL.call (vals := [.agg [vi a0.Scale, vu a0.Zero, vi a0.Pos.Offset, (.slice p13 m14 c15), vi a0.Neg.Offset, (.slice p17 m18 c19)].toArray]) kok18 rfl rfl (c_ref08_Total (A := fun _ => True) (a0 := a0) (Sl.all hf57) (Sl.all hf58) hp61) ?_
          rintro vr64 wd63 ⟨rfl, hm62⟩
          obtain ⟨O65, hold66, hnew67, hst68⟩ := adoptE O49 (fun k => 1) hm62
          refine WL.y (Y.move rfl) rfl ?_
          refine WL.y (Y.extract rfl rfl) rfl ?_
          refine WL.y (Y.extract rfl rfl) rfl ?_
          refine WL.y (Y.assign rfl) rfl ?_
          refine WL.y (Y.assign rfl) rfl ?_
          refine WL.nil ?_
          refine At.then ?_
          refine WC.seq ?_
          refine WC.region ?_
          refine WL.y (Y.move rfl) rfl ?_
          refine WL.y (Y.not rfl) rfl ?_
          refine WL.nil ?_
          refine At.then ?_
          rcases cnd h with ⟨hc69, h⟩ | ⟨hc69, h⟩
          · refine WC.condT' rfl hc69 ?_
            refine WC.seq ?_
            refine WC.region ?_
            refine WL.y (Y.assign rfl) rfl ?_
            refine WL.nil ?_
            refine At.then ?_
            refine WC.ret ?_
            refine At.thenR ?_
            obtain rfl := some1 h
            have hs70 : Stp [] (Lg.O0 A) w O65 wd63 := (Stp.trans (Stp.up hst25 rfl) (Stp.trans (Stp.up hst38 rfl) (Stp.trans (Stp.up hst52 rfl) (Stp.up hst68 rfl))))
            exact At.res (.inl rfl) rfl (.tmp rfl .nil) ⟨rfl, (Stp.ext hs70 rfl rfl)⟩
          · refine WC.condF' rfl hc69 ?_
            refine WC.skip ?_
            refine At.then ?_
            refine WC.seq ?_
            refine WC.region ?_
            refine WL.y (Y.assign rfl) rfl ?_
            refine WL.nil ?_
            refine At.then ?_
            refine WC.ret ?_
            obtain rfl := some1 h
            have hs71 : Stp [] (Lg.O0 A) w O65 wd63 := (Stp.trans (Stp.up hst25 rfl) (Stp.trans (Stp.up hst38 rfl) (Stp.trans (Stp.up hst52 rfl) (Stp.up hst68 rfl))))
            exact At.res (.inl rfl) rfl (.tmp rfl .nil) ⟨rfl, (Stp.ext hs71 rfl rfl)⟩

theorem c_law08_HistChecks {A : Nat → Prop} {v0_3 : Value} {v0_5 : Value} {a0 : api_Hist} {w : World} (hs0_3 : Sl Rep.u w A v0_3 a0.Pos.Counts) (hs0_5 : Sl Rep.u w A v0_5 a0.Neg.Counts) {r0 : Bool} (h : law08_HistChecks a0 = some r0) : Rets Try.prog 3 [.agg [vi a0.Scale, vu a0.Zero, vi a0.Pos.Offset, v0_3, vi a0.Neg.Offset, v0_5].toArray] w (fun v w' => v = .bool r0 ∧ Ext w w') := by
  unfold law08_HistChecks at h
  refine Rets.enter Try.func3 rfl rfl ?_
  have hf11 : Sl Rep.u w (imm (Lg.O0 A)) v0_3 a0.Pos.Counts := (Sl.start hs0_3)
  have hf12 : Sl Rep.u w (imm (Lg.O0 A)) v0_5 a0.Neg.Counts := (Sl.start hs0_5)
  refine (show WC _ _ _ _ [(0, .agg [vi a0.Scale, vu a0.Zero, vi a0.Pos.Offset, v0_3, vi a0.Neg.Offset, v0_5].toArray)] _ from ?_)
  refine WC.seq ?_
  refine WC.region ?_
  have hh16 := h
  obtain ⟨p13, m14, c15, rfl⟩ := hf11.shape
  have h := hh16
  have hh20 := h
  obtain ⟨p17, m18, c19, rfl⟩ := hf12.shape
  have h := hh20
  refine WL.box (O := (Lg.O0 A)) 11 [vi a0.Scale, vu a0.Zero, vi a0.Pos.Offset, (.slice p13 m14 c15), vi a0.Neg.Offset, (.slice p17 m18 c19)] rfl rfl rfl ?_
  intro p22 O23 wd24 hst25 hb21
  refine WL.y (Y.assign rfl) rfl ?_
  refine WL.nil ?_
  refine At.then ?_
  refine WC.seq ?_
  refine WC.seq ?_
  refine WC.region ?_
  obtain ⟨r26, hp27, h⟩ := bnd h
  refine WL.call (vals := []) kok15 rfl rfl (c_law08_awake hp27) ?_
  rintro vr30 wd29 ⟨rfl, hm28⟩
  obtain ⟨O31, hold32, hnew33, hst34⟩ := adoptE O23 (fun k => 1) hm28
  refine WL.y (Y.not rfl) rfl ?_
  refine WL.nil ?_
  refine At.then ?_
  rcases cnd h with ⟨hc35, h⟩ | ⟨hc35, h⟩
  · refine WC.condT' rfl hc35 ?_
    refine WC.seq ?_
    refine WC.region ?_
    refine WL.y (Y.assign rfl) rfl ?_
    refine WL.nil ?_
    refine At.then ?_
    refine WC.ret ?_
    refine At.thenR ?_
    obtain rfl := some1 h
    have hs36 : Stp [] (Lg.O0 A) w O31 wd29 := (Stp.trans (Stp.up hst25 rfl) (Stp.up hst34 rfl))
    exact At.res (.inl rfl) rfl (.tmp rfl .nil) ⟨rfl, (Stp.ext hs36 rfl rfl)⟩
  · refine WC.condF' rfl hc35 ?_
    refine WC.skip ?_
    refine At.then ?_
    refine WC.seq ?_
    refine WC.seq ?_
    refine WC.region ?_
    have hf37 := hb21.st hst34 rfl
    refine WL.y (Y.loadAg ty27 rfl rfl (hf37.cells 0 [vi a0.Scale, vu a0.Zero, vi a0.Pos.Offset, (.slice p13 m14 c15), vi a0.Neg.Offset, (.slice p17 m18 c19)] rfl) rfl) rfl ?_
    have hf38 := hf11.mono (imm_st hst25 rfl rfl)
    have hf39 := hf38.mono (imm_st hst34 rfl rfl)
    have hf40 := hf12.mono (imm_st hst25 rfl rfl)
    have hf41 := hf40.mono (imm_st hst34 rfl rfl)
    obtain ⟨r42, hp43, h⟩ := bnd h
    refine WL.call (vals := [.agg [vi a0.Scale, vu a0.Zero, vi a0.Pos.Offset, (.slice p13 m14 c15), vi a0.Neg.Offset, (.slice p17 m18 c19)].toArray]) kok16 rfl rfl (c_ref08_Light (A := fun _ => True) (a0 := a0) (Sl.all hf39) (Sl.all hf41) hp43) ?_
    rintro vr46 wd45 ⟨rfl, hm44⟩
    obtain ⟨O47, hold48, hnew49, hst50⟩ := adoptE O31 (fun k => 1) hm44
    refine WL.y (Y.not rfl) rfl ?_
    refine WL.nil ?_
    refine At.then ?_
    rcases cnd h with ⟨hc51, h⟩ | ⟨hc51, h⟩
    · refine WC.condT' rfl hc51 ?_
      refine WC.seq ?_
      refine WC.region ?_
      refine WL.y (Y.assign rfl) rfl ?_
      refine WL.nil ?_
      refine At.then ?_
      refine WC.ret ?_
      refine At.thenR ?_
      obtain rfl := some1 h
      have hs52 : Stp [] (Lg.O0 A) w O47 wd45 := (Stp.trans (Stp.up hst25 rfl) (Stp.trans (Stp.up hst34 rfl) (Stp.up hst50 rfl)))
      exact At.res (.inl rfl) rfl (.tmp rfl .nil) ⟨rfl, (Stp.ext hs52 rfl rfl)⟩
    · refine WC.condF' rfl hc51 ?_
      refine WC.skip ?_
      refine At.then ?_
      refine WC.seq ?_
      refine WC.region ?_
      have hf53 := hf37.st hst50 rfl
      refine WL.y (Y.loadAg ty27 rfl rfl (hf53.cells 0 [vi a0.Scale, vu a0.Zero, vi a0.Pos.Offset, (.slice p13 m14 c15), vi a0.Neg.Offset, (.slice p17 m18 c19)] rfl) rfl) rfl ?_
      have hf54 := hf39.mono (imm_st hst50 rfl rfl)
      have hf55 := hf41.mono (imm_st hst50 rfl rfl)
      obtain ⟨⟨r56, r57⟩, hp58, h⟩ := bnd h
      refine WL.call (vals := [.agg [vi a0.Scale, vu a0.Zero, vi a0.Pos.Offset, (.slice p13 m14 c15), vi a0.Neg.Offset, (.slice p17 m18 c19)].toArray]) kok17 rfl rfl (c_hist_Total (A := fun _ => True) (a0 := a0) (Sl.all hf54) (Sl.all hf55) hp58) ?_
      rintro vr61 wd60 ⟨rfl, hm59⟩
      obtain ⟨O62, hold63, hnew64, hst65⟩ := adoptE O47 (fun k => 1) hm59
      refine WL.y (Y.move rfl) rfl ?_
      refine WL.y (Y.extract rfl rfl) rfl ?_
      refine WL.y (Y.extract rfl rfl) rfl ?_
      refine WL.y (Y.assign rfl) rfl ?_
      refine WL.y (Y.assign rfl) rfl ?_
      refine WL.nil ?_
      refine At.then ?_
      refine WC.seq ?_
      refine WC.region ?_
      have hf66 := hf53.st hst65 rfl
      refine WL.y (Y.loadAg ty27 rfl rfl (hf66.cells 0 [vi a0.Scale, vu a0.Zero, vi a0.Pos.Offset, (.slice p13 m14 c15), vi a0.Neg.Offset, (.slice p17 m18 c19)] rfl) rfl) rfl ?_
      have hf67 := hf54.mono (imm_st hst65 rfl rfl)
      have hf68 := hf55.mono (imm_st hst65 rfl rfl)
      obtain ⟨⟨r69, r70⟩, hp71, h⟩ := bnd h
      refine WL.call (vals := [.agg [vi a0.Scale, vu a0.Zero, vi a0.Pos.Offset, (.slice p13 m14 c15), vi a0.Neg.Offset, (.slice p17 m18 c19)].toArray]) kok18 rfl rfl (c_ref08_Total (A := fun _ => True) (a0 := a0) (Sl.all hf67) (Sl.all hf68) hp71) ?_
      rintro vr74 wd73 ⟨rfl, hm72⟩
      obtain ⟨O75, hold76, hnew77, hst78⟩ := adoptE O62 (fun k => 1) hm72
      refine WL.y (Y.move rfl) rfl ?_
      refine WL.y (Y.extract rfl rfl) rfl ?_
      refine WL.y (Y.extract rfl rfl) rfl ?_
      refine WL.y (Y.assign rfl) rfl ?_
      refine WL.y (Y.assign rfl) rfl ?_
      refine WL.nil ?_
      refine At.then ?_
      refine WC.seq ?_
      refine WC.drawH [] [0, 1, 2, 3, 4, 5, 6, 7, 8, 9, 10, 11, 12, 13, 14, 15] O75 16 fmix rfl (by kernel_rfl) ?_
      intro wd79 hst80
      refine WD.y 0 rfl (by kernel_rfl) (fun wd82 O81 hst83 => have hf84 := hf66.st hst78 rfl; have hf85 := hf84.st hst80 rfl; have hf86 := hf85.st hst83 rfl; Y.loadAg ty27 rfl rfl (hf86.cells 0 [vi a0.Scale, vu a0.Zero, vi a0.Pos.Offset, (.slice p13 m14 c15), vi a0.Neg.Offset, (.slice p17 m18 c19)] rfl) rfl) rfl ?_
      refine WD.y 2 rfl (by kernel_rfl) (fun wd88 O87 hst89 => have hf90 := hf66.st hst78 rfl; have hf91 := hf90.st hst80 rfl; have hf92 := hf91.st hst89 rfl; Y.loadAg ty27 rfl rfl (hf92.cells 0 [vi a0.Scale, vu a0.Zero, vi a0.Pos.Offset, (.slice p13 m14 c15), vi a0.Neg.Offset, (.slice p17 m18 c19)] rfl) rfl) rfl ?_
      refine WD.heavy 1 rfl (by kernel_rfl) ?_
      have hf93 := hf67.mono (imm_st hst78 rfl rfl)
      have hf94 := hf93.mono (imm_st hst80 rfl rfl)
      have hf95 := hf68.mono (imm_st hst78 rfl rfl)
      have hf96 := hf95.mono (imm_st hst80 rfl rfl)
      obtain ⟨r97, hp98, h⟩ := bnd h
      refine WL.call (vals := [.agg [vi a0.Scale, vu a0.Zero, vi a0.Pos.Offset, (.slice p13 m14 c15), vi a0.Neg.Offset, (.slice p17 m18 c19)].toArray]) kok19 rfl rfl (c_hist_Check (A := fun _ => True) (a0 := a0) (Sl.all hf94) (Sl.all hf96) hp98) ?_
      rintro vr101 wd100 ⟨rfl, hm99⟩
      obtain ⟨O102, hold103, hnew104, hst105⟩ := adoptE O75 (fun k => 1) hm99
      refine WL.nil ?_
      refine At.dq (Stp.up hst105 rfl) ?_
      refine WD.heavy 3 rfl (by kernel_rfl) ?_
      have hf106 := hf94.mono (imm_st hst105 rfl rfl)
      have hf107 := hf96.mono (imm_st hst105 rfl rfl)
      obtain ⟨r108, hp109, h⟩ := bnd h
      refine WL.call (vals := [.agg [vi a0.Scale, vu a0.Zero, vi a0.Pos.Offset, (.slice p13 m14 c15), vi a0.Neg.Offset, (.slice p17 m18 c19)].toArray]) kok20 rfl rfl (c_ref08_Check (A := fun _ => True) (a0 := a0) (Sl.all hf106) (Sl.all hf107) hp109) ?_
      rintro vr112 wd111 ⟨rfl, hm110⟩
      obtain ⟨O113, hold114, hnew115, hst116⟩ := adoptE O102 (fun k => 1) hm110
      refine WL.nil ?_
      refine At.dq (Stp.up hst116 rfl) ?_
      refine WD.y 4 rfl (by kernel_rfl) (fun _ _ _ => Y.eql_i rfl rfl) rfl ?_
      refine WD.y 5 rfl (by kernel_rfl) (fun _ _ _ => Y.move rfl) rfl ?_
      refine WD.join (σ := Unit) (f' := 6) [9, 8, 7, 6, 5, 4, 3, 1, 2, 0] (fun _ O' w' => O113 = O' ∧ wd111 = w') (fun _ => [(2, .bool false), (4, .bool r57), (6, .bool r70), (31, .bool ((decide (r97 = r108)) && (decide (r56 = r69))))]) (fun hJ123 => ?_) ?_
      · refine WD.part 27 rfl (fun hE124 => ?_) (fun hE124 => ?_)
        · refine WD.gT 6 rfl (by kernel_rfl) rfl rfl (fun _ _ _ => Y.move rfl) rfl ?_
          refine WD.gT 7 rfl (by kernel_rfl) rfl rfl (fun _ _ _ => Y.move rfl) rfl ?_
          refine WD.gT 8 rfl (by kernel_rfl) rfl rfl (fun _ _ _ => Y.eql_u rfl rfl) rfl ?_
          refine WD.y 9 rfl (by kernel_rfl) (fun _ _ _ => Y.pick (b := true) rfl rfl) rfl ?_
          refine WD.ren (v' := .bool ((decide (r97 = r108)) && (decide (r56 = r69)))) 31 rfl (congrArg Value.bool (andT hE124)) ?_
          exact hJ123 () _ _ _ ⟨rfl, rfl⟩ (.cons rfl (.cons rfl (.cons rfl (.cons rfl .nil))))
        · refine WD.gS 6 rfl (by kernel_rfl) rfl rfl rfl rfl ?_
          refine WD.gS 7 rfl (by kernel_rfl) rfl rfl rfl rfl ?_
          refine WD.gS 8 rfl (by kernel_rfl) rfl rfl rfl rfl ?_
          refine WD.y 9 rfl (by kernel_rfl) (fun _ _ _ => Y.pick (b := false) rfl rfl) rfl ?_
          refine WD.ren (v' := .bool ((decide (r97 = r108)) && (decide (r56 = r69)))) 31 rfl (congrArg Value.bool (andF hE124)) ?_
          exact hJ123 () _ _ _ ⟨rfl, rfl⟩ (.cons rfl (.cons rfl (.cons rfl (.cons rfl .nil))))
      · rintro _ _ _ ⟨rfl, rfl⟩
        refine (show WD _ _ _ _ _ _ _ _ [(2, .bool false), (4, .bool r57), (6, .bool r70), (31, .bool ((decide (r97 = r108)) && (decide (r56 = r69))))] _ _ from ?_)
        refine WD.y 10 rfl (by kernel_rfl) (fun _ _ _ => Y.move rfl) rfl ?_
        refine WD.join (σ := Unit) (f' := 1) [14, 13, 12, 11, 10, 9, 8, 7, 6, 5, 4, 3, 1, 2, 0] (fun _ O' w' => O113 = O' ∧ wd111 = w') (fun _ => [(2, .bool false), (36, .bool (((decide (r97 = r108)) && (decide (r56 = r69))) && (decide (r57 = r70))))]) (fun hJ143 => ?_) ?_
        · refine WD.part 32 rfl (fun hE144 => ?_) (fun hE144 => ?_)
          · refine WD.gT 11 rfl (by kernel_rfl) rfl rfl (fun _ _ _ => Y.move rfl) rfl ?_
            refine WD.gT 12 rfl (by kernel_rfl) rfl rfl (fun _ _ _ => Y.move rfl) rfl ?_
            refine WD.gT 13 rfl (by kernel_rfl) rfl rfl (fun _ _ _ => Y.eqlB rfl rfl ty4.u) rfl ?_
            refine WD.y 14 rfl (by kernel_rfl) (fun _ _ _ => Y.pick (b := true) rfl rfl) rfl ?_
            refine WD.ren (v' := .bool (((decide (r97 = r108)) && (decide (r56 = r69))) && (decide (r57 = r70)))) 36 rfl (congrArg Value.bool (andT hE144)) ?_
            exact hJ143 () _ _ _ ⟨rfl, rfl⟩ (.cons rfl (.cons rfl .nil))
          · refine WD.gS 11 rfl (by kernel_rfl) rfl rfl rfl rfl ?_
            refine WD.gS 12 rfl (by kernel_rfl) rfl rfl rfl rfl ?_
            refine WD.gS 13 rfl (by kernel_rfl) rfl rfl rfl rfl ?_
            refine WD.y 14 rfl (by kernel_rfl) (fun _ _ _ => Y.pick (b := false) rfl rfl) rfl ?_
            refine WD.ren (v' := .bool (((decide (r97 = r108)) && (decide (r56 = r69))) && (decide (r57 = r70)))) 36 rfl (congrArg Value.bool (andF hE144)) ?_
            exact hJ143 () _ _ _ ⟨rfl, rfl⟩ (.cons rfl (.cons rfl .nil))
        · rintro _ _ _ ⟨rfl, rfl⟩
          refine (show WD _ _ _ _ _ _ _ _ [(2, .bool false), (36, .bool (((decide (r97 = r108)) && (decide (r56 = r69))) && (decide (r57 = r70))))] _ _ from ?_)
          obtain ⟨t160, ht160, h⟩ := lt1 h
          refine WD.yE 15 rfl (by kernel_rfl) (fun _ _ _ => Y.assign rfl) (congrArg Value.bool ht160.symm) rfl ?_
          refine WD.done_ (by kernel_rfl) ?_
          refine At.then ?_
          refine WC.ret ?_
          obtain rfl := some1 h
          have hs164 : Stp [] (Lg.O0 A) w O113 wd111 := (Stp.trans (Stp.up hst25 rfl) (Stp.trans (Stp.up hst34 rfl) (Stp.trans (Stp.up hst50 rfl) (Stp.trans (Stp.up hst65 rfl) (Stp.trans (Stp.up hst78 rfl) (Stp.trans (Stp.up hst80 rfl) (Stp.trans (Stp.up hst105 rfl) (Stp.up hst116 rfl))))))))
          exact At.res (.inl rfl) rfl (.tmp rfl .nil) ⟨rfl, (Stp.ext hs164 rfl rfl)⟩

end Go.Lg
